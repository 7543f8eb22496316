/- Part 7 of the proof of LawParseDeep: RegE, RegN, ExactB, ExactC. Condition: as each theorem says; none at the end. -/
import Derived.Deep.CutBlock
import Derived.Deep.DeepCutAuto
import Derived.Test.YtdilmfakkppgpaaGreatDoorPkParseDeep01
import Derived.Test.YtdilmfakkppgpaaGreatDoorPkParseDeep02
import Derived.Test.YtdilmfakkppgpaaGreatDoorPkParseDeep04
import Derived.Test.YtdilmfakkppgpaaGreatDoorPkParseDeep06
namespace Go.Proofs.YtdilmfakkppgpaaGreatDoor
open Go.RowKit
section
variable {P : Program} {r : Nat} {Done : World → Prop} {V : Value → World → Prop} {w : World}
end
theorem NumBox.turn {w w' : World} {b g : Nat} {v0 v1 v2 : Value} (h : NumBox w g v0 v1 v2) (ht : Turn (· = b) w w') (hg : g < w.heap.size) (hne : g ≠ b) : NumBox w' g v0 v1 v2 :=
  ⟨(ht.cell (p := ⟨g, 0, none⟩) hg hne).trans h.c0, (ht.cell (p := ⟨g, 1, none⟩) hg hne).trans h.c1, (ht.cell (p := ⟨g, 2, none⟩) hg hne).trans h.c2, (ht.frozen (p := ⟨g, 0, none⟩) hg hne).trans h.f0, (ht.frozen (p := ⟨g, 1, none⟩) hg hne).trans h.f1, (ht.frozen (p := ⟨g, 2, none⟩) hg hne).trans h.f2⟩
theorem detV_last {l : List Oper} {cs : List Value} {L : Nat → Option (Value → World → Prop)} (n : Nat) {φ : World → Prop} (hL : L n = some fun _ w => φ w) (hl : (l.zipIdx.all fun p => p.1.dst.isSome || decide (p.2 = n)) = true) :
    ∀ (i : Nat) o, l[i]? = some o → o.dst = none → ∀ v w, detV cs L i v w → detV cs L i undef w := by
  intro i o hi hd v w hv
  have hm : (o, i) ∈ l.zipIdx := by
    rw [List.mem_zipIdx_iff_getElem?]
    simpa using hi
  have h1 := List.all_eq_true.1 hl _ hm
  simp only [hd, Option.isSome_none, Bool.false_or, decide_eq_true_eq] at h1
  subst h1
  exact (detV_some hL).2 ((detV_some hL).1 hv)
theorem flatE_undef {P : Program} {ops : Array Oper} {E : World → World → Prop} {o : Oper} {a : Act} {w : World} {V : Value → World → Prop} {j : Nat} {b : Bool} {t : Tmp} (hg : o.guard = some (j, b)) (ht : (ops[j]?).bind (·.dst) = some t) (he : a.eval (.tmp t) = undef) (h : V undef w) :
    if Region.wanted o (yielded ops a.tmps) then FlatUponE P E V w ((execOp a.eval o).run P w) else V undef w := by
  have hy : yielded ops a.tmps j = none := by
    unfold yielded
    rw [ht, Option.bind_some]
    have he' : a.tmps.getD t undef = undef := he
    rw [Array.getD_eq_getD_getElem?] at he'
    cases hx : a.tmps[t]? with
    | none => rfl
    | some v => rw [hx] at he'; have h2 : v = undef := he'; rw [h2]; rfl
  have hw : Region.wanted o (yielded ops a.tmps) = false := by
    unfold Region.wanted
    rw [hg]
    show (yielded ops a.tmps j == some b) = false
    rw [hy]; cases b <;> rfl
  rw [hw]; exact h
def BelE (w w' : World) : Prop := Below w.heap.size w w'
section
variable {P : Program} {V : Value → World → Prop} {w : World}
theorem belE_run {u : Value} {res : Result Next} (hr : res = .ok (.value u) w) (h : V u w) : FlatUponE P BelE V w res := by
  rw [hr]; exact ⟨Below.refl _ _, h⟩
theorem belE_call {f : FuncId} {args : Array Value} {res : Result Next} (hr : res = .ok (.enter f args) w)
    (h : Calls P f args w fun e w'' => ∃ v, e = .returned v ∧ Below w.heap.size w w'' ∧ V v w'') : FlatUponE P BelE V w res := by
  rw [hr]; exact h
end
theorem detV_all {l : List Oper} {V : Nat → Value → World → Prop} (hl : (l.all fun o => o.dst.isSome) = true) : ∀ (i : Nat) o, l[i]? = some o → o.dst = none → ∀ v w, V i v w → V i undef w := by
  intro i o hi hd v w _
  have h1 := List.all_eq_true.1 hl o (List.mem_of_getElem? hi)
  rw [hd] at h1; cases h1
theorem detV_growG {E : World → World → Prop} {cs : List Value} {L : Nat → Option (Value → World → Prop)} (h : ∀ i φ, L i = some φ → ∀ v w w', φ v w → E w w' → φ v w') (i : Nat) (v : Value) (w w' : World) (hv : detV cs L i v w) (hb : E w w') : detV cs L i v w' := by
  unfold detV at *
  cases hl : L i with
  | none => rw [hl] at hv; exact hv
  | some φ => rw [hl] at hv; exact h i φ hl v w w' hv hb
theorem below_drew0 (w : World) : Below w.heap.size w w.drew := ⟨rfl, rfl, rfl, Nat.le_refl _, fun _ _ => rfl⟩
end Go.Proofs.YtdilmfakkppgpaaGreatDoor
namespace Go.Proofs.YtdilmfakkppgpaaGreatDoor
open Go.RowKit WordsM
def RBox (r : Nat) (w : World) : Prop := (∃ b e a n c, NumBox w r (.bool b) (.int .i64 e) (.slice a n c)) ∧ r < w.heap.size
theorem RBox.below {r : Nat} {w w' : World} (h : RBox r w) (hb : Below w.heap.size w w') : RBox r w' := by
  obtain ⟨⟨b, e, a, n, c, hN⟩, hr⟩ := h
  exact ⟨⟨b, e, a, n, c, hN.step hb hr⟩, Nat.lt_of_lt_of_le hr hb.size⟩
theorem NumBox.drew {w : World} {b : Nat} {v0 v1 v2 : Value} (h : NumBox w b v0 v1 v2) : NumBox w.drew b v0 v1 v2 := ⟨h.c0, h.c1, h.c2, h.f0, h.f1, h.f2⟩
theorem RBox.drew {r : Nat} {w : World} (h : RBox r w) : RBox r w.drew := by
  obtain ⟨⟨b, e, a, n, c, hN⟩, hr⟩ := h
  exact ⟨⟨b, e, a, n, c, hN.drew⟩, hr⟩
theorem WordsIn.drew {w : World} {a : Option Addr} {n c : Nat} {L : List Nat} (h : WordsIn w a n c L) : WordsIn w.drew a n c L := ⟨h.len, h.cap, h.most, h.low, h.rd⟩
def NumE (r : Nat) (Done : World → Prop) (w w' : World) : Prop := Turn (· = r) w w' ∧ (Done w → Done w') ∧ (∀ a n c L, WordsIn w a n c L → WordsIn w' a n c L) ∧ (RBox r w → RBox r w')
theorem NumE.refl (r : Nat) (Done : World → Prop) (w : World) : NumE r Done w w := ⟨Turn.refl _ w, id, fun _ _ _ _ h => h, id⟩
def DoneN (r : Nat) (u0 u1 : Value) (L : List Nat) (w : World) : Prop := ∃ a n c, NumBox w r u0 u1 (.slice a n c) ∧ r < w.heap.size ∧ WordsIn w a n c L
theorem DoneN.below {r : Nat} {u0 u1 : Value} {L : List Nat} {w w' : World} (h : DoneN r u0 u1 L w) (hb : Below w.heap.size w w') : DoneN r u0 u1 L w' := by
  obtain ⟨a, n, c, h1, h2, h3⟩ := h
  exact ⟨a, n, c, h1.step hb h2, Nat.lt_of_lt_of_le h2 hb.size, h3.step hb⟩
def SlV (L : List Nat) (v : Value) (w : World) : Prop := ∃ a n c, v = .slice a n c ∧ WordsIn w a n c L
def AgV (u0 u1 : Value) (L : List Nat) (v : Value) (w : World) : Prop := ∃ a n c, v = .agg #[u0, u1, .slice a n c] ∧ WordsIn w a n c L
section
variable {P : Program} {r : Nat} {u0 u1 : Value} {L : List Nat} {V : Value → World → Prop} {w : World}
theorem numE_run {Done : World → Prop} {u : Value} {res : Result Next} (hr : res = .ok (.value u) w) (h : V u w) : FlatUponE P (NumE r Done) V w res := by
  rw [hr]; exact ⟨NumE.refl _ _ _, h⟩
theorem numE_call {f : FuncId} {args : Array Value} {res : Result Next} (hr : res = .ok (.enter f args) w)
    (h : Calls P f args w fun e w'' => ∃ v, e = .returned v ∧ Below w.heap.size w w'' ∧ V v w'') : FlatUponE P (NumE r (DoneN r u0 u1 L)) V w res := by
  rw [hr]
  refine h.mono ?_
  rintro e w'' ⟨v, rfl, hb, hv⟩
  exact ⟨v, rfl, ⟨Turn.of_below hb _, fun h => h.below hb, fun _ _ _ _ h => h.step hb, fun h => h.below hb⟩, hv⟩
theorem numE_store {b : Bool} {e : Int} {a : Option Addr} {n c : Nat} {res : Result Next} (hB : RBox r w) (hw : WordsIn w a n c L) (h0 : u0 = .bool b) (h1 : u1 = .int .i64 e)
    (hr : res = .ok .skip (((w.setCell ⟨r, 0, none⟩ u0).setCell ⟨r, 1, none⟩ u1).setCell ⟨r, 2, none⟩ (.slice a n c)))
    (hV : ∀ w', DoneN r u0 u1 L w' → V undef w') : FlatUponE P (NumE r (DoneN r u0 u1 L)) V w res := by
  rw [hr]
  obtain ⟨⟨b', e', a', n', c', hN⟩, hlt⟩ := hB
  have ht : Turn (· = r) w (((w.setCell ⟨r, 0, none⟩ u0).setCell ⟨r, 1, none⟩ u1).setCell ⟨r, 2, none⟩ (.slice a n c)) := ((Turn.setCell (· = r) w (p := ⟨r, 0, none⟩) rfl _).trans0 (Turn.setCell (· = r) _ (p := ⟨r, 1, none⟩) rfl _)).trans0 (Turn.setCell (· = r) _ (p := ⟨r, 2, none⟩) rfl _)
  have hNs := hN.store u0 u1 (.slice a n c)
  have hws : ∀ a2 n2 c2 L2, WordsIn w a2 n2 c2 L2 → WordsIn (((w.setCell ⟨r, 0, none⟩ u0).setCell ⟨r, 1, none⟩ u1).setCell ⟨r, 2, none⟩ (.slice a n c)) a2 n2 c2 L2 := fun a2 n2 c2 L2 h =>
    ⟨h.len, h.cap, h.most, h.low, (h.rd.store3 hN (fun _ => by simp [nv]) (fun _ => by simp [nv]) (fun _ => by simp [nv]) u0 u1 (.slice a n c)).more (box_size _ _ _ _ _)⟩
  have hd : DoneN r u0 u1 L (((w.setCell ⟨r, 0, none⟩ u0).setCell ⟨r, 1, none⟩ u1).setCell ⟨r, 2, none⟩ (.slice a n c)) := ⟨a, n, c, hNs, Nat.lt_of_lt_of_le hlt ht.size, hws _ _ _ _ hw⟩
  exact ⟨⟨ht, fun _ => hd, hws, fun _ => ⟨⟨b, e, a, n, c, by rw [← h0, ← h1]; exact hNs⟩, Nat.lt_of_lt_of_le hlt ht.size⟩⟩, hV _ hd⟩
end
def numL (i j k r : Nat) (u0 u1 : Value) (L : List Nat) (x : Nat) : Option (Value → World → Prop) :=
  if x = i then some (SlV L) else if x = j then some (AgV u0 u1 L) else if x = k then some (fun _ w => DoneN r u0 u1 L w) else none
theorem numL_grow {i j k r : Nat} {u0 u1 : Value} {L : List Nat} : ∀ x φ, numL i j k r u0 u1 L x = some φ → ∀ v w w', φ v w → NumE r (DoneN r u0 u1 L) w w' → φ v w' := by
  intro x φ h v w w' hv he
  unfold numL at h
  split at h
  · injection h with h; subst h
    obtain ⟨a, n, c, rfl, hw⟩ := hv
    exact ⟨a, n, c, rfl, he.2.2.1 _ _ _ _ hw⟩
  · split at h
    · injection h with h; subst h
      obtain ⟨a, n, c, rfl, hw⟩ := hv
      exact ⟨a, n, c, rfl, he.2.2.1 _ _ _ _ hw⟩
    · split at h
      · injection h with h; subst h
        exact he.2.1 hv
      · cases h
def NumC (r : Nat) (w0 w : World) : Prop := Turn (· = r) w0 w ∧ RBox r w ∧ ∀ a n c L, WordsIn w0 a n c L → WordsIn w a n c L
theorem NumC.start {r : Nat} {w : World} {v0 : Bool} {v1 : Int} {a : Option Addr} {n c : Nat} (h : NumBox w r (.bool v0) (.int .i64 v1) (.slice a n c)) (hr : r < w.heap.size) : NumC r w w.drew := ⟨(Turn.refl _ w).drew, RBox.drew ⟨⟨_, _, _, _, _, h⟩, hr⟩, fun _ _ _ _ h => h.drew⟩
theorem NumC.next {r : Nat} {Done : World → Prop} {w0 w w' : World} (h : NumC r w0 w) (h' : NumE r Done w w') : NumC r w0 w' := ⟨h.1.trans h'.1 (fun _ _ e => e), h'.2.2.2 h.2.1, fun a n c L hw => h'.2.2.1 _ _ _ _ (h.2.2 a n c L hw)⟩
theorem detV_growN {r : Nat} {Done : World → Prop} {cs : List Value} {L : Nat → Option (Value → World → Prop)} (h : ∀ i φ, L i = some φ → ∀ v w w', φ v w → NumE r Done w w' → φ v w') (i : Nat) (v : Value) (w w' : World) (hv : detV cs L i v w) (hb : NumE r Done w w') : detV cs L i v w' := by
  unfold detV at *
  cases hl : L i with
  | none => rw [hl] at hv; exact hv
  | some φ => rw [hl] at hv; exact h i φ hl v w w' hv hb
end Go.Proofs.YtdilmfakkppgpaaGreatDoor
namespace Go.Proofs.YtdilmfakkppgpaaGreatDoor
open Go.RowKit WordsM
set_option maxRecDepth 100000 in
set_option maxHeartbeats 4000000 in
theorem exactmul_any (nx : Bool) (ex : Int) (ax : Option Addr) (lx cx : Nat) (ls : List Nat) (ny : Bool) (ey : Int) (ay : Option Addr) (ly cy : Nat) (ks : List Nat) (w : World) (h1 : WordsIn w ax lx cx ls) (h2 : WordsIn w ay ly cy ks) (hn : lx ≤ 20000) (hm : ly ≤ 20000) (he1 : -1000000 ≤ ex) (he2 : ex ≤ 1000000) (hf1 : -1000000 ≤ ey) (hf2 : ey ≤ 1000000) :
    Calls Tryz.prog 54 #[.agg #[.bool nx, .int .i64 ex, .slice ax lx cx], .agg #[.bool ny, .int .i64 ey, .slice ay ly cy]] w fun r w' => ∃ a n c, r = .returned (.agg #[.bool (nx != ny), .int .i64 (ex + ey), .slice a n c]) ∧ WordsIn w' a n c (dig (2 ^ 64) (val (2 ^ 64) ls * val (2 ^ 64) ks)) ∧ Below w.heap.size w w' := by
  have hs1 : (w.alloc (.cells #[.bool nx, .int .i64 ex, .slice ax lx cx] 41)).heap.size = w.heap.size + 1 := World.size_alloc _ _
  have hs2 : ((w.alloc (.cells #[.bool nx, .int .i64 ex, .slice ax lx cx] 41)).alloc (.cells #[.bool ny, .int .i64 ey, .slice ay ly cy] 41)).heap.size = w.heap.size + 2 := by rw [World.size_alloc, hs1]
  have hs3 : (((w.alloc (.cells #[.bool nx, .int .i64 ex, .slice ax lx cx] 41)).alloc (.cells #[.bool ny, .int .i64 ey, .slice ay ly cy] 41)).alloc (.cells #[.bool false, .int .i64 0, .slice none 0 0] 41)).heap.size = w.heap.size + 3 := by rw [World.size_alloc, hs2]
  have hb1 : Below w.heap.size w (w.alloc (.cells #[.bool nx, .int .i64 ex, .slice ax lx cx] 41)) := (Below.refl _ _).alloc (Nat.le_refl _) _
  have hb2 : Below (w.alloc (.cells #[.bool nx, .int .i64 ex, .slice ax lx cx] 41)).heap.size (w.alloc (.cells #[.bool nx, .int .i64 ex, .slice ax lx cx] 41)) ((w.alloc (.cells #[.bool nx, .int .i64 ex, .slice ax lx cx] 41)).alloc (.cells #[.bool ny, .int .i64 ey, .slice ay ly cy] 41)) := (Below.refl _ _).alloc (Nat.le_refl _) _
  have hb3 : Below ((w.alloc (.cells #[.bool nx, .int .i64 ex, .slice ax lx cx] 41)).alloc (.cells #[.bool ny, .int .i64 ey, .slice ay ly cy] 41)).heap.size ((w.alloc (.cells #[.bool nx, .int .i64 ex, .slice ax lx cx] 41)).alloc (.cells #[.bool ny, .int .i64 ey, .slice ay ly cy] 41)) (((w.alloc (.cells #[.bool nx, .int .i64 ex, .slice ax lx cx] 41)).alloc (.cells #[.bool ny, .int .i64 ey, .slice ay ly cy] 41)).alloc (.cells #[.bool false, .int .i64 0, .slice none 0 0] 41)) := (Below.refl _ _).alloc (Nat.le_refl _) _
  have hX : NumBox (((w.alloc (.cells #[.bool nx, .int .i64 ex, .slice ax lx cx] 41)).alloc (.cells #[.bool ny, .int .i64 ey, .slice ay ly cy] 41)).alloc (.cells #[.bool false, .int .i64 0, .slice none 0 0] 41)) w.heap.size (.bool nx) (.int .i64 ex) (.slice ax lx cx) := ((NumBox.new w _ _ _ _).step hb2 (box_lt _ _)).step hb3 (by rw [hs2]; omega)
  have hY : NumBox (((w.alloc (.cells #[.bool nx, .int .i64 ex, .slice ax lx cx] 41)).alloc (.cells #[.bool ny, .int .i64 ey, .slice ay ly cy] 41)).alloc (.cells #[.bool false, .int .i64 0, .slice none 0 0] 41)) (w.heap.size + 1) (.bool ny) (.int .i64 ey) (.slice ay ly cy) := by
    have h := (NumBox.new (w.alloc (.cells #[.bool nx, .int .i64 ex, .slice ax lx cx] 41)) (.bool ny) (.int .i64 ey) (.slice ay ly cy) 41).step hb3 (box_lt _ _)
    rwa [hs1] at h
  have hR : NumBox (((w.alloc (.cells #[.bool nx, .int .i64 ex, .slice ax lx cx] 41)).alloc (.cells #[.bool ny, .int .i64 ey, .slice ay ly cy] 41)).alloc (.cells #[.bool false, .int .i64 0, .slice none 0 0] 41)) (w.heap.size + 2) (.bool false) (.int .i64 0) (.slice none 0 0) := by
    have h := NumBox.new ((w.alloc (.cells #[.bool nx, .int .i64 ex, .slice ax lx cx] 41)).alloc (.cells #[.bool ny, .int .i64 ey, .slice ay ly cy] 41)) (.bool false) (.int .i64 0) (.slice none 0 0) 41
    rwa [hs2] at h
  have hB : Below w.heap.size w (((w.alloc (.cells #[.bool nx, .int .i64 ex, .slice ax lx cx] 41)).alloc (.cells #[.bool ny, .int .i64 ey, .slice ay ly cy] 41)).alloc (.cells #[.bool false, .int .i64 0, .slice none 0 0] 41)) := Below.next0 (Below.next0 hb1 hb2) hb3
  obtain ⟨W0, hW0⟩ : ∃ W0, (((w.alloc (.cells #[.bool nx, .int .i64 ex, .slice ax lx cx] 41)).alloc (.cells #[.bool ny, .int .i64 ey, .slice ay ly cy] 41)).alloc (.cells #[.bool false, .int .i64 0, .slice none 0 0] 41)) = W0 := ⟨_, rfl⟩
  rw [hW0] at hs3 hX hY hR hB
  have hQ : ∀ W, Turn (· = w.heap.size + 2) W0 W → NumBox W w.heap.size (.bool nx) (.int .i64 ex) (.slice ax lx cx) ∧ NumBox W (w.heap.size + 1) (.bool ny) (.int .i64 ey) (.slice ay ly cy) ∧ WordsIn W ax lx cx ls ∧ WordsIn W ay ly cy ks ∧ Below w.heap.size w W ∧ w.heap.size + 2 < W.heap.size := fun W ht => by
    have hb := Below.turn hB ht hB.size (fun k e => by omega)
    exact ⟨hX.turn ht (by omega) (by omega), hY.turn ht (by omega) (by omega), h1.step hb, h2.step hb, hb, Nat.lt_of_lt_of_le (by omega) ht.size⟩
  have HQ := Lib.hid hQ
  have HR := Lib.hid (And.intro hR hs3)
  clear hs1 hs2 hs3 hb1 hb2 hb3 hX hY hR hB hQ h1 h2
  have hwr : IntKind.i64.wrap (ex + ey) = ex + ey := by rw [IntKind.wrap_i64]; omega
  have H00 : NumC (w.heap.size + 2) W0 W0.drew := NumC.start HR.out.1 (by have := HR.out.2; omega)
  go_enter Tryz.func54, Tryz.ntmps54
  go_wp2_with fail
  refine wp_region_flatE (E := NumE (w.heap.size + 2) (DoneN (w.heap.size + 2) (.bool (nx != ny)) (.int .i64 (ex + ey)) (dig (2 ^ 64) (val (2 ^ 64) ls * val (2 ^ 64) ks)))) (NumE.refl _ _) (by kernel_rfl) (fun W => NumC (w.heap.size + 2) W0 W) (fun _ _ h h' => h.next h') (detV [.pointer (some ⟨w.heap.size, 0, none⟩), .bool nx, .pointer (some ⟨(w.heap.size + 1), 0, none⟩), .bool ny, .bool (nx != ny), .pointer (some ⟨w.heap.size, 1, none⟩), .int .i64 ex, .pointer (some ⟨(w.heap.size + 1), 1, none⟩), .int .i64 ey, .int .i64 (ex + ey), .pointer (some ⟨w.heap.size, 2, none⟩), .slice ax lx cx, .pointer (some ⟨(w.heap.size + 1), 2, none⟩), .slice ay ly cy, undef, undef, undef] (numL 14 15 16 (w.heap.size + 2) (.bool (nx != ny)) (.int .i64 (ex + ey)) (dig (2 ^ 64) (val (2 ^ 64) ls * val (2 ^ 64) ks)))) (detV_growN numL_grow) (detV_last 16 rfl (by kernel_rfl)) (by kernel_rfl) H00 ?_ ?_
  · skip
    refine ⟨fun A W hW hag hdep => ?_, ?_⟩
    · have e2 : A.tmps[2]?.getD undef = .pointer (some ⟨w.heap.size, 0, none⟩) := evalD (hag.keep (t := 2) (by kernel_rfl) rfl)
      refine flatE_on rfl ?_
      refine numE_run (u := .pointer (some ⟨w.heap.size, 0, none⟩)) ?_ ((detV_at rfl).2 rfl)
      simp [go_sem, e2]
    refine ⟨fun A W hW hag hdep => ?_, ?_⟩
    · have e5 : A.tmps[5]?.getD undef = .pointer (some ⟨w.heap.size, 0, none⟩) := evalD ((detV_at rfl).1 (hdep 0 (by decide)))
      refine flatE_on rfl ?_
      obtain ⟨k0, _, _, _, _, _⟩ := (HQ.out W hW.1).1
      refine numE_run (u := .bool nx) ?_ ((detV_at rfl).2 rfl)
      simp [go_sem, e5, k0]
    refine ⟨fun A W hW hag hdep => ?_, ?_⟩
    · have e3 : A.tmps[3]?.getD undef = .pointer (some ⟨(w.heap.size + 1), 0, none⟩) := evalD (hag.keep (t := 3) (by kernel_rfl) rfl)
      refine flatE_on rfl ?_
      refine numE_run (u := .pointer (some ⟨(w.heap.size + 1), 0, none⟩)) ?_ ((detV_at rfl).2 rfl)
      simp [go_sem, e3]
    refine ⟨fun A W hW hag hdep => ?_, ?_⟩
    · have e7 : A.tmps[7]?.getD undef = .pointer (some ⟨(w.heap.size + 1), 0, none⟩) := evalD ((detV_at rfl).1 (hdep 2 (by decide)))
      refine flatE_on rfl ?_
      obtain ⟨k0, _, _, _, _, _⟩ := (HQ.out W hW.1).2.1
      refine numE_run (u := .bool ny) ?_ ((detV_at rfl).2 rfl)
      simp [go_sem, e7, k0]
    refine ⟨fun A W hW hag hdep => ?_, ?_⟩
    · have e6 : A.tmps[6]?.getD undef = .bool nx := evalD ((detV_at rfl).1 (hdep 1 (by decide)))
      have e8 : A.tmps[8]?.getD undef = .bool ny := evalD ((detV_at rfl).1 (hdep 3 (by decide)))
      refine flatE_on rfl ?_
      refine numE_run (u := .bool (nx != ny)) ?_ ((detV_at rfl).2 rfl)
      cases nx <;> cases ny <;> simp [go_sem, e6, e8]
    refine ⟨fun A W hW hag hdep => ?_, ?_⟩
    · have e2 : A.tmps[2]?.getD undef = .pointer (some ⟨w.heap.size, 0, none⟩) := evalD (hag.keep (t := 2) (by kernel_rfl) rfl)
      refine flatE_on rfl ?_
      refine numE_run (u := .pointer (some ⟨w.heap.size, 1, none⟩)) ?_ ((detV_at rfl).2 rfl)
      simp [go_sem, e2]
    refine ⟨fun A W hW hag hdep => ?_, ?_⟩
    · have e10 : A.tmps[10]?.getD undef = .pointer (some ⟨w.heap.size, 1, none⟩) := evalD ((detV_at rfl).1 (hdep 5 (by decide)))
      refine flatE_on rfl ?_
      obtain ⟨_, k1, _, _, _, _⟩ := (HQ.out W hW.1).1
      refine numE_run (u := .int .i64 ex) ?_ ((detV_at rfl).2 rfl)
      simp [go_sem, e10, k1]
    refine ⟨fun A W hW hag hdep => ?_, ?_⟩
    · have e3 : A.tmps[3]?.getD undef = .pointer (some ⟨(w.heap.size + 1), 0, none⟩) := evalD (hag.keep (t := 3) (by kernel_rfl) rfl)
      refine flatE_on rfl ?_
      refine numE_run (u := .pointer (some ⟨(w.heap.size + 1), 1, none⟩)) ?_ ((detV_at rfl).2 rfl)
      simp [go_sem, e3]
    refine ⟨fun A W hW hag hdep => ?_, ?_⟩
    · have e12 : A.tmps[12]?.getD undef = .pointer (some ⟨(w.heap.size + 1), 1, none⟩) := evalD ((detV_at rfl).1 (hdep 7 (by decide)))
      refine flatE_on rfl ?_
      obtain ⟨_, k1, _, _, _, _⟩ := (HQ.out W hW.1).2.1
      refine numE_run (u := .int .i64 ey) ?_ ((detV_at rfl).2 rfl)
      simp [go_sem, e12, k1]
    refine ⟨fun A W hW hag hdep => ?_, ?_⟩
    · have e11 : A.tmps[11]?.getD undef = .int .i64 ex := evalD ((detV_at rfl).1 (hdep 6 (by decide)))
      have e13 : A.tmps[13]?.getD undef = .int .i64 ey := evalD ((detV_at rfl).1 (hdep 8 (by decide)))
      refine flatE_on rfl ?_
      refine numE_run (u := .int .i64 (ex + ey)) ?_ ((detV_at rfl).2 rfl)
      simp [go_sem, e11, e13, hwr]
    refine ⟨fun A W hW hag hdep => ?_, ?_⟩
    · have e2 : A.tmps[2]?.getD undef = .pointer (some ⟨w.heap.size, 0, none⟩) := evalD (hag.keep (t := 2) (by kernel_rfl) rfl)
      refine flatE_on rfl ?_
      refine numE_run (u := .pointer (some ⟨w.heap.size, 2, none⟩)) ?_ ((detV_at rfl).2 rfl)
      simp [go_sem, e2]
    refine ⟨fun A W hW hag hdep => ?_, ?_⟩
    · have e15 : A.tmps[15]?.getD undef = .pointer (some ⟨w.heap.size, 2, none⟩) := evalD ((detV_at rfl).1 (hdep 10 (by decide)))
      refine flatE_on rfl ?_
      obtain ⟨_, _, k2, _, _, _⟩ := (HQ.out W hW.1).1
      refine numE_run (u := .slice ax lx cx) ?_ ((detV_at rfl).2 rfl)
      simp [go_sem, e15, k2]
    refine ⟨fun A W hW hag hdep => ?_, ?_⟩
    · have e3 : A.tmps[3]?.getD undef = .pointer (some ⟨(w.heap.size + 1), 0, none⟩) := evalD (hag.keep (t := 3) (by kernel_rfl) rfl)
      refine flatE_on rfl ?_
      refine numE_run (u := .pointer (some ⟨(w.heap.size + 1), 2, none⟩)) ?_ ((detV_at rfl).2 rfl)
      simp [go_sem, e3]
    refine ⟨fun A W hW hag hdep => ?_, ?_⟩
    · have e17 : A.tmps[17]?.getD undef = .pointer (some ⟨(w.heap.size + 1), 2, none⟩) := evalD ((detV_at rfl).1 (hdep 12 (by decide)))
      refine flatE_on rfl ?_
      obtain ⟨_, _, k2, _, _, _⟩ := (HQ.out W hW.1).2.1
      refine numE_run (u := .slice ay ly cy) ?_ ((detV_at rfl).2 rfl)
      simp [go_sem, e17, k2]
    refine ⟨fun A W hW hag hdep => ?_, ?_⟩
    · have e16 : A.tmps[16]?.getD undef = .slice ax lx cx := evalD ((detV_at rfl).1 (hdep 11 (by decide)))
      have e18 : A.tmps[18]?.getD undef = .slice ay ly cy := evalD ((detV_at rfl).1 (hdep 13 (by decide)))
      refine flatE_on rfl ?_
      refine numE_call (f := 98) (args := #[.slice ax lx cx, .slice ay ly cy]) (by simp [go_sem, e16, e18]) ((natmul_any ax lx cx ls ay ly cy ks W (HQ.out W hW.1).2.2.1 (HQ.out W hW.1).2.2.2.1 (by omega) (by omega)).mono ?_)
      rintro e w2 ⟨a, n, c, rfl, hw, hb⟩
      exact ⟨_, rfl, hb, (detV_some rfl).2 ⟨a, n, c, rfl, hw⟩⟩
    refine ⟨fun A W hW hag hdep => ?_, ?_⟩
    · have e9 : A.tmps[9]?.getD undef = .bool (nx != ny) := evalD ((detV_at rfl).1 (hdep 4 (by decide)))
      have e14 : A.tmps[14]?.getD undef = .int .i64 (ex + ey) := evalD ((detV_at rfl).1 (hdep 9 (by decide)))
      refine flatE_on rfl ?_
      obtain ⟨a, n, c, hv, hw⟩ := (detV_some rfl).1 (hdep 14 (by decide))
      have e19 := evalD hv
      refine numE_run (u := .agg #[.bool (nx != ny), .int .i64 (ex + ey), .slice a n c]) ?_ ((detV_some rfl).2 ⟨a, n, c, rfl, hw⟩)
      simp [go_sem, e9, e14, e19]
    refine ⟨fun A W hW hag hdep => ?_, ?_⟩
    · have e4 : A.tmps[4]?.getD undef = .pointer (some ⟨(w.heap.size + 2), 0, none⟩) := evalD (hag.keep (t := 4) (by kernel_rfl) rfl)
      refine flatE_on rfl ?_
      obtain ⟨a, n, c, hv, hw⟩ := (detV_some rfl).1 (hdep 15 (by decide))
      have e20 := evalD hv
      obtain ⟨⟨b9, e9, a9, n9, c9, hN⟩, hlt⟩ := hW.2.1
      have k0 := hN.c0
      have f0 := hN.f0
      have f1 := hN.f1
      have f2 := hN.f2
      have d1 := hN.d1 (.bool (nx != ny))
      have d2 := hN.d2 (.bool (nx != ny)) (.int .i64 (ex + ey))
      refine numE_store hW.2.1 hw (b := nx != ny) (e := ex + ey) rfl rfl ?_ (fun w' h => (detV_some rfl).2 h)
      simp [go_sem, e4, e20, k0, f0, f1, f2, d1, d2]
    exact trivial
  intro vs W1 hW1 hvs
  obtain ⟨a, n, c, hN1, hlt1, hw1⟩ := (detV_some rfl).1 (hvs 16 (by decide))
  simp only [putAll, Act.put, List.setIfInBounds_toArray, List.set_cons_zero, List.set_cons_succ]
  have k0 := hN1.c0
  have k1 := hN1.c1
  have k2 := hN1.c2
  have hbw := (HQ.out W1 hW1.1).2.2.2.2.1
  have HE := Lib.hid (And.intro hw1 hbw)
  clear hvs hW1 hw1 hbw hN1
  go_wp2_with fail
  exact ⟨rfl, .agg #[.bool (nx != ny), .int .i64 (ex + ey), .slice a n c], by simp [results, go_sem, k0, k1, k2], a, n, c, rfl, HE.out.1, HE.out.2⟩
end Go.Proofs.YtdilmfakkppgpaaGreatDoor
namespace Go.Proofs.YtdilmfakkppgpaaGreatDoor
open Go.RowKit WordsM
def AddOut (w : World) (D : Dyadic) (T lo hi : Int) (r : Ending) (w' : World) : Prop := ∃ n e a l c L, r = .returned (.agg #[.bool n, .int .i64 e, .slice a l c]) ∧ WordsIn w' a l c L ∧ numD n e L = D ∧ lo ≤ e ∧ e ≤ hi ∧ 64 * (l : Int) + e ≤ T ∧ Below w.heap.size w w'
set_option maxRecDepth 100000 in
set_option maxHeartbeats 8000000 in
theorem exactadd_any (nx : Bool) (ex : Int) (ax : Option Addr) (lx cx : Nat) (ls : List Nat) (ny : Bool) (ey : Int) (ay : Option Addr) (ly cy : Nat) (ks : List Nat) (w : World) (h1 : WordsIn w ax lx cx ls) (h2 : WordsIn w ay ly cy ks) (hn : lx ≤ 20000) (hm : ly ≤ 20000) (he1 : -1000000 ≤ ex) (he2 : ex ≤ 1000000) (hf1 : -1000000 ≤ ey) (hf2 : ey ≤ 1000000) (T lo hi : Int) (ht1 : 64 * (lx : Int) + ex ≤ T) (ht2 : 64 * (ly : Int) + ey ≤ T) (hlo1 : lo ≤ ex) (hlo2 : lo ≤ ey) (hhi1 : ex ≤ hi) (hhi2 : ey ≤ hi) :
    Calls Tryz.prog 55 #[.agg #[.bool nx, .int .i64 ex, .slice ax lx cx], .agg #[.bool ny, .int .i64 ey, .slice ay ly cy]] w (AddOut w (numD nx ex ls + numD ny ey ks) (T + 64) lo hi) := by
  have hs1 : (w.alloc (.cells #[.bool nx, .int .i64 ex, .slice ax lx cx] 41)).heap.size = w.heap.size + 1 := World.size_alloc _ _
  have hs2 : ((w.alloc (.cells #[.bool nx, .int .i64 ex, .slice ax lx cx] 41)).alloc (.cells #[.bool ny, .int .i64 ey, .slice ay ly cy] 41)).heap.size = w.heap.size + 2 := by rw [World.size_alloc, hs1]
  have hs3 : (((w.alloc (.cells #[.bool nx, .int .i64 ex, .slice ax lx cx] 41)).alloc (.cells #[.bool ny, .int .i64 ey, .slice ay ly cy] 41)).alloc (.cells #[.bool false, .int .i64 0, .slice none 0 0] 41)).heap.size = w.heap.size + 3 := by rw [World.size_alloc, hs2]
  have hb1 : Below w.heap.size w (w.alloc (.cells #[.bool nx, .int .i64 ex, .slice ax lx cx] 41)) := (Below.refl _ _).alloc (Nat.le_refl _) _
  have hb2 : Below (w.alloc (.cells #[.bool nx, .int .i64 ex, .slice ax lx cx] 41)).heap.size (w.alloc (.cells #[.bool nx, .int .i64 ex, .slice ax lx cx] 41)) ((w.alloc (.cells #[.bool nx, .int .i64 ex, .slice ax lx cx] 41)).alloc (.cells #[.bool ny, .int .i64 ey, .slice ay ly cy] 41)) := (Below.refl _ _).alloc (Nat.le_refl _) _
  have hb3 : Below ((w.alloc (.cells #[.bool nx, .int .i64 ex, .slice ax lx cx] 41)).alloc (.cells #[.bool ny, .int .i64 ey, .slice ay ly cy] 41)).heap.size ((w.alloc (.cells #[.bool nx, .int .i64 ex, .slice ax lx cx] 41)).alloc (.cells #[.bool ny, .int .i64 ey, .slice ay ly cy] 41)) (((w.alloc (.cells #[.bool nx, .int .i64 ex, .slice ax lx cx] 41)).alloc (.cells #[.bool ny, .int .i64 ey, .slice ay ly cy] 41)).alloc (.cells #[.bool false, .int .i64 0, .slice none 0 0] 41)) := (Below.refl _ _).alloc (Nat.le_refl _) _
  have hX : NumBox (((w.alloc (.cells #[.bool nx, .int .i64 ex, .slice ax lx cx] 41)).alloc (.cells #[.bool ny, .int .i64 ey, .slice ay ly cy] 41)).alloc (.cells #[.bool false, .int .i64 0, .slice none 0 0] 41)) w.heap.size (.bool nx) (.int .i64 ex) (.slice ax lx cx) := ((NumBox.new w _ _ _ _).step hb2 (box_lt _ _)).step hb3 (by rw [hs2]; omega)
  have hY : NumBox (((w.alloc (.cells #[.bool nx, .int .i64 ex, .slice ax lx cx] 41)).alloc (.cells #[.bool ny, .int .i64 ey, .slice ay ly cy] 41)).alloc (.cells #[.bool false, .int .i64 0, .slice none 0 0] 41)) (w.heap.size + 1) (.bool ny) (.int .i64 ey) (.slice ay ly cy) := by
    have h := (NumBox.new (w.alloc (.cells #[.bool nx, .int .i64 ex, .slice ax lx cx] 41)) (.bool ny) (.int .i64 ey) (.slice ay ly cy) 41).step hb3 (box_lt _ _)
    rwa [hs1] at h
  have hR : NumBox (((w.alloc (.cells #[.bool nx, .int .i64 ex, .slice ax lx cx] 41)).alloc (.cells #[.bool ny, .int .i64 ey, .slice ay ly cy] 41)).alloc (.cells #[.bool false, .int .i64 0, .slice none 0 0] 41)) (w.heap.size + 2) (.bool false) (.int .i64 0) (.slice none 0 0) := by
    have h := NumBox.new ((w.alloc (.cells #[.bool nx, .int .i64 ex, .slice ax lx cx] 41)).alloc (.cells #[.bool ny, .int .i64 ey, .slice ay ly cy] 41)) (.bool false) (.int .i64 0) (.slice none 0 0) 41
    rwa [hs2] at h
  have hB : Below w.heap.size w (((w.alloc (.cells #[.bool nx, .int .i64 ex, .slice ax lx cx] 41)).alloc (.cells #[.bool ny, .int .i64 ey, .slice ay ly cy] 41)).alloc (.cells #[.bool false, .int .i64 0, .slice none 0 0] 41)) := Below.next0 (Below.next0 hb1 hb2) hb3
  generalize hW0 : (((w.alloc (.cells #[.bool nx, .int .i64 ex, .slice ax lx cx] 41)).alloc (.cells #[.bool ny, .int .i64 ey, .slice ay ly cy] 41)).alloc (.cells #[.bool false, .int .i64 0, .slice none 0 0] 41)) = W0 at hs3 hX hY hR hB
  have hQ : ∀ W, Below W0.heap.size W0 W → NumBox W w.heap.size (.bool nx) (.int .i64 ex) (.slice ax lx cx) ∧ NumBox W (w.heap.size + 1) (.bool ny) (.int .i64 ey) (.slice ay ly cy) ∧ NumBox W (w.heap.size + 2) (.bool false) (.int .i64 0) (.slice none 0 0) ∧ w.heap.size + 2 < W.heap.size ∧ Below w.heap.size w W := fun W hb =>
    ⟨hX.step hb (by omega), hY.step hb (by omega), hR.step hb (by omega), Nat.lt_of_lt_of_le (by omega) hb.size, Below.next0 hB hb⟩
  have HQ := Lib.hid hQ
  have hsx := fun W (hb : Below w.heap.size w W) => exactsign_any nx ex ax lx cx ls W (h1.step hb) (by omega)
  have hsy := fun W (hb : Below w.heap.size w W) => exactsign_any ny ey ay ly cy ks W (h2.step hb) (by omega)
  have HW := Lib.hid (And.intro h1 h2)
  clear hs1 hs2 hs3 hb1 hb2 hb3 hX hY hR hQ h1 h2
  obtain ⟨hx0, hx1, hx2, _, _, _⟩ := (HQ.out W0 (Below.refl _ _)).1
  by_cases hv1 : val (2 ^ 64) ls = 0
  · simp only [hv1, if_true] at hsx
    have HS := Lib.hid hsx
    have HV := Lib.hid hv1
    clear hsx hsy hv1
    go_enter Tryz.func55, Tryz.ntmps55
    go_wp2_with (refine (HS.out W0 hB).mono ?_; rintro r w1 ⟨rfl, hb1⟩; obtain ⟨_, g1, g2, g3, g4⟩ := HQ.out w1 hb1; have yc0 := g1.c0; have yc1 := g1.c1; have yc2 := g1.c2; have rc0 := g2.c0; have rc1 := g2.c1; have rc2 := g2.c2; have rf0 := g2.f0; have rf1 := g2.f1; have rf2 := g2.f2; have rd1 := g2.d1 (.bool ny); have rd2 := g2.d2 (.bool ny) (.int .i64 ey); have HA := Lib.hid (And.intro g2 (And.intro g3 g4)); clear g1 g2 g3 g4)
    have hS := HA.out.1.store (.bool ny) (.int .i64 ey) (.slice ay ly cy)
    have k0 := hS.c0
    have k1 := hS.c1
    have k2 := hS.c2
    have hbz := NumBox.below HA.out.2.2 (show w.heap.size ≤ w.heap.size + 2 by omega) (.bool ny) (.int .i64 ey) (.slice ay ly cy)
    exact ⟨rfl, .agg #[.bool ny, .int .i64 ey, .slice ay ly cy], by simp [results, go_sem, k0, k1, k2], ny, ey, ay, ly, cy, ks, rfl, HW.out.2.step hbz, by rw [numD_none _ _ HV.out, Dyadic.zero_add], hlo2, hhi2, by omega, hbz⟩
  · have hsx' := hsx
    simp only [hv1, if_false] at hsx
    have hsn : ∀ W (hb : Below w.heap.size w W), Calls Tryz.prog 99 #[.agg #[.bool nx, .int .i64 ex, .slice ax lx cx]] W fun r w' => (∃ s : Int, r = .returned (.int .i64 s) ∧ s ≠ 0) ∧ Below W.heap.size W w' := fun W hb => (hsx W hb).mono (by rintro r w' ⟨rfl, hb'⟩; exact ⟨⟨_, rfl, by split <;> decide⟩, hb'⟩)
    by_cases hv2 : val (2 ^ 64) ks = 0
    · simp only [hv2, if_true] at hsy
      have HS := Lib.hid (And.intro hsn hsy)
      have HV := Lib.hid hv2
      clear hsx hsx' hsy hsn hv1 hv2
      go_enter Tryz.func55, Tryz.ntmps55
      go_wp2_with (first
        | (go_at_call_of 99 ax; refine (HS.out.1 W0 hB).mono ?_; rintro r w1 ⟨⟨s, rfl, hs⟩, hb1⟩; have hs0 : (s == 0) = false := (by rw [beq_eq_false_iff_ne]; exact hs); obtain ⟨g0, g1, g2, g3, g4⟩ := HQ.out w1 hb1; have yc0 := g1.c0; have yc1 := g1.c1; have yc2 := g1.c2; have HA := Lib.hid (And.intro hb1 g4); clear g0 g1 g2 g3 g4 hb1)
        | (go_at_call_of 99 ay; refine (HS.out.2 w1 HA.out.2).mono ?_; rintro r w2 ⟨rfl, hb2⟩; obtain ⟨g0, g1, g2, g3, g4⟩ := HQ.out w2 (Below.next0 HA.out.1 hb2); have xc0 := g0.c0; have xc1 := g0.c1; have xc2 := g0.c2; have rc0 := g2.c0; have rc1 := g2.c1; have rc2 := g2.c2; have rf0 := g2.f0; have rf1 := g2.f1; have rf2 := g2.f2; have rd1 := g2.d1 (.bool nx); have rd2 := g2.d2 (.bool nx) (.int .i64 ex); have HC := Lib.hid (And.intro g2 (And.intro g3 g4)); clear g0 g1 g2 g3 g4 hb2))
      have hS := HC.out.1.store (.bool nx) (.int .i64 ex) (.slice ax lx cx)
      have k0 := hS.c0
      have k1 := hS.c1
      have k2 := hS.c2
      have hbz := NumBox.below HC.out.2.2 (show w.heap.size ≤ w.heap.size + 2 by omega) (.bool nx) (.int .i64 ex) (.slice ax lx cx)
      exact ⟨rfl, .agg #[.bool nx, .int .i64 ex, .slice ax lx cx], by simp [results, go_sem, k0, k1, k2], nx, ex, ax, lx, cx, ls, rfl, HW.out.1.step hbz, by rw [numD_none _ _ HV.out, Dyadic.add_zero], hlo1, hhi1, by omega, hbz⟩
    · simp only [hv2, if_false] at hsy
      have hsm : ∀ W (hb : Below w.heap.size w W), Calls Tryz.prog 99 #[.agg #[.bool ny, .int .i64 ey, .slice ay ly cy]] W fun r w' => (∃ s : Int, r = .returned (.int .i64 s) ∧ s ≠ 0) ∧ Below W.heap.size W w' := fun W hb => (hsy W hb).mono (by rintro r w' ⟨rfl, hb'⟩; exact ⟨⟨_, rfl, by split <;> decide⟩, hb'⟩)
      have HS := Lib.hid (And.intro hsn hsm)
      have HV := Lib.hid (And.intro hv1 hv2)
      clear hsx hsx' hsy hsn hsm hv1 hv2
      obtain ⟨D, hD⟩ : ∃ D, numD nx ex ls + numD ny ey ks = D := ⟨_, rfl⟩
      rw [hD]
      have HD := Lib.hid hD
      clear hD
      go_enter Tryz.func55, Tryz.ntmps55
      go_upto_block 0 with fail
      go_cut [] (fun wx => ∃ n1 e1 a1 l1 c1 L1 n2 e2 a2 l2 c2 L2, AddPre w wx D T lo hi n1 e1 a1 l1 c1 L1 n2 e2 a2 l2 c2 L2)
      case first =>
        by_cases hlt : ey < ex
        · go_wp2_with (first
            | (go_at_call_of 99 ax; refine (HS.out.1 W0 hB).mono ?_; rintro r w1 ⟨⟨s, rfl, hs⟩, hb1⟩; have hs0 : (s == 0) = false := (by rw [beq_eq_false_iff_ne]; exact hs); obtain ⟨g0, g1, g2, g3, g4⟩ := HQ.out w1 hb1; have yc0 := g1.c0; have yc1 := g1.c1; have yc2 := g1.c2; have HA := Lib.hid (And.intro hb1 g4); clear g0 g1 g2 g3 g4 hb1)
            | (go_at_call_of 99 ay; refine (HS.out.2 w1 HA.out.2).mono ?_; rintro r w2 ⟨⟨s2, rfl, hs2⟩, hb2⟩; have hs20 : (s2 == 0) = false := (by rw [beq_eq_false_iff_ne]; exact hs2); obtain ⟨g0, g1, g2, g3, g4⟩ := HQ.out w2 (Below.next0 HA.out.1 hb2); have xc0 := g0.c0; have xc1 := g0.c1; have xc2 := g0.c2; have xf0 := g0.f0; have xf1 := g0.f1; have xf2 := g0.f2; have xd1 := g0.d1 (.bool ny); have xd2 := g0.d2 (.bool ny) (.int .i64 ey); have zc0 := g1.c0; have zc1 := g1.c1; have zc2 := g1.c2; have gs0 := g0.store (.bool ny) (.int .i64 ey) (.slice ay ly cy); have gs1 := g1.far3 (show w.heap.size ≠ w.heap.size + 1 by omega) (.bool ny) (.int .i64 ey) (.slice ay ly cy); have sc0 := gs1.c0; have sc1 := gs1.c1; have sc2 := gs1.c2; have sf0 := gs1.f0; have sf1 := gs1.f1; have sf2 := gs1.f2; have sd1 := gs1.d1 (.bool nx); have sd2 := gs1.d2 (.bool nx) (.int .i64 ex); have gz := And.intro (gs0.far3 (show w.heap.size + 1 ≠ w.heap.size by omega) (.bool nx) (.int .i64 ex) (.slice ax lx cx)) (And.intro (gs1.store (.bool nx) (.int .i64 ex) (.slice ax lx cx)) (And.intro ((g2.far3 (show w.heap.size ≠ w.heap.size + 2 by omega) (.bool ny) (.int .i64 ey) (.slice ay ly cy)).far3 (show w.heap.size + 1 ≠ w.heap.size + 2 by omega) (.bool nx) (.int .i64 ex) (.slice ax lx cx)) (NumBox.below (NumBox.below g4 (Nat.le_refl _) (.bool ny) (.int .i64 ey) (.slice ay ly cy)) (show w.heap.size ≤ w.heap.size + 1 by omega) (.bool nx) (.int .i64 ex) (.slice ax lx cx)))); have HZ := Lib.hid gz; clear gs0 gs1 gz; skip; have HC := Lib.hid (And.intro g0 (And.intro g1 (And.intro g2 (And.intro g3 g4)))); clear g0 g1 g2 g3 g4 hb2))
          go_meet
          exact ⟨_, _, _, _, _, _, _, _, _, _, _, _, HZ.out.1, HZ.out.2.1, HZ.out.2.2.1, by rw [size3, size3]; exact HC.out.2.2.2.1, HW.out.2, HW.out.1, by omega, HV.out.2, HV.out.1, hm, hn, hlo2, hhi1, by omega, ht2, ht1, (by rw [Dyadic.add_comm]; exact HD.out), HZ.out.2.2.2⟩
        · go_wp2_with (first
            | (go_at_call_of 99 ax; refine (HS.out.1 W0 hB).mono ?_; rintro r w1 ⟨⟨s, rfl, hs⟩, hb1⟩; have hs0 : (s == 0) = false := (by rw [beq_eq_false_iff_ne]; exact hs); obtain ⟨g0, g1, g2, g3, g4⟩ := HQ.out w1 hb1; have yc0 := g1.c0; have yc1 := g1.c1; have yc2 := g1.c2; have HA := Lib.hid (And.intro hb1 g4); clear g0 g1 g2 g3 g4 hb1)
            | (go_at_call_of 99 ay; refine (HS.out.2 w1 HA.out.2).mono ?_; rintro r w2 ⟨⟨s2, rfl, hs2⟩, hb2⟩; have hs20 : (s2 == 0) = false := (by rw [beq_eq_false_iff_ne]; exact hs2); obtain ⟨g0, g1, g2, g3, g4⟩ := HQ.out w2 (Below.next0 HA.out.1 hb2); have xc0 := g0.c0; have xc1 := g0.c1; have xc2 := g0.c2; have zc0 := g1.c0; have zc1 := g1.c1; have zc2 := g1.c2; have HC := Lib.hid (And.intro g0 (And.intro g1 (And.intro g2 (And.intro g3 g4)))); clear g0 g1 g2 g3 g4 hb2))
          go_meet
          exact ⟨_, _, _, _, _, _, _, _, _, _, _, _, HC.out.1, HC.out.2.1, HC.out.2.2.1, HC.out.2.2.2.1, HW.out.1, HW.out.2, by omega, HV.out.1, HV.out.2, hn, hm, hlo1, hhi2, by omega, ht1, ht2, HD.out, HC.out.2.2.2.2⟩
      case rest =>
        obtain ⟨n1, e1, a1, l1, c1, L1, n2, e2, a2, l2, c2, L2, hP⟩ := hcut
        have hle := hP.le
        have hs1 := hP.s1
        have hs2 := hP.s2
        have hlo := hP.lo1
        have hhi := hP.hi2
        have hrng := hP.rng
        obtain ⟨z, hz⟩ : ∃ z : Nat, e2 - e1 = (z : Int) := ⟨(e2 - e1).toNat, by omega⟩
        have hw1l := hP.w1.len
        have hw2l := hP.w2.len
        have hfit := fun V (hV : V ≤ val (2 ^ 64) L1 + val (2 ^ 64) L2 * 2 ^ z) => add_fit (T := T) (e1 := e1) (e2 := e2) (by have := words_bits hP.w1.low; rwa [hw1l] at this) (by have := words_bits hP.w2.low; rwa [hw2l] at this) hV hz hP.t1 hP.t2
        have hup := natup_any a2 l2 c2 L2 z wc (hP.w2.step hP.bel) (by omega) (by omega)
        have xc0 := hP.b1.c0
        have xc1 := hP.b1.c1
        have xc2 := hP.b1.c2
        have yc0 := hP.b2.c0
        have yc1 := hP.b2.c1
        have yc2 := hP.b2.c2
        have HU := Lib.hid hup
        clear hup HD HV HS
        have hsum := hP.sum
        rw [numD_up n2 e1 e2 L2 z hz] at hsum
        unfold numD at hsum
        rw [dy_add] at hsum
        obtain ⟨v2, hv2⟩ : ∃ v2, val (2 ^ 64) L2 * 2 ^ z = v2 := ⟨_, rfl⟩
        have hv20 : v2 ≠ 0 := by rw [← hv2]; exact Nat.mul_ne_zero hP.v2 (Nat.pos_iff_ne_zero.1 (Nat.pow_pos (by decide)))
        have hl3 : 64 * (dig (2 ^ 64) v2).length ≤ 64 * l2 + z + 63 := dig_bits (by
          rw [← hv2, Nat.pow_add]
          exact Nat.mul_lt_mul_of_pos_right (by have := words_bits hP.w2.low; rwa [hw2l] at this) (Nat.pow_pos (by decide)))
        rw [hv2] at hsum hfit HU
        have HF := Lib.hid (And.intro hsum (And.intro hfit (And.intro hv20 hP.v1)))
        have hbel := hP.bel
        have HP := Lib.hid hP
        clear hsum hfit hv2 hv20 hP
        by_cases hnn : n1 = n2
        · subst hnn
          have hne : (n1 == n1) = true := by simp
          go_wp2_with (go_at_call_of 100 a2; refine HU.out.mono ?_; rintro r w3 ⟨a3, l3, c3, rfl, hW3, hb3⟩; have g0 := HP.out.b1.step hb3 (by have := HP.out.lt; omega); have uc0 := g0.c0; have uc1 := g0.c1; have uc2 := g0.c2; have g1 := HP.out.b2.step hb3 (by have := HP.out.lt; omega); have vc0 := g1.c0; have vc1 := g1.c1; have vc2 := g1.c2; clear g1; have HE := Lib.hid (And.intro hW3 hb3); clear g0 hW3 hb3)
          have hcc : w.heap.size + 2 < w3.heap.size := Nat.lt_of_lt_of_le HP.out.lt HE.out.2.size
          have hbr := HP.out.br.step HE.out.2 HP.out.lt
          have hb1 := HP.out.b1.step HE.out.2 (by have := HP.out.lt; omega)
          have hadd : ∀ W, WordsIn W a1 l1 c1 L1 → WordsIn W a3 l3 c3 (dig (2 ^ 64) v2) → Calls Tryz.prog 101 #[.slice a1 l1 c1, .slice a3 l3 c3] W (NumOut W (val (2 ^ 64) L1 + v2)) := fun W q1 q2 => by
            have h := natadd_any a1 l1 c1 L1 a3 l3 c3 _ W q1 q2 (by omega) (by
              have h6 := HE.out.1.len
              omega)
            rwa [val_dig (by decide)] at h
          have HQ2 := Lib.hid (show ∀ W, NumC (w.heap.size + 2) w3 W → NumBox W w.heap.size (.bool n1) (.int .i64 e1) (.slice a1 l1 c1) ∧ WordsIn W a1 l1 c1 L1 ∧ WordsIn W a3 l3 c3 (dig (2 ^ 64) v2) ∧ Below w.heap.size w W from fun W hW => by
            have hb := Below.turn (Below.next0 HP.out.bel HE.out.2) hW.1 (Below.next0 HP.out.bel HE.out.2).size (fun k e => by omega)
            exact ⟨hb1.turn hW.1 (by omega) (by omega), HP.out.w1.step hb, hW.2.2 _ _ _ _ HE.out.1, hb⟩)
          have HAD := Lib.hid hadd
          have H00 : NumC (w.heap.size + 2) w3 w3.drew := NumC.start hbr hcc
          clear hcc hbr hb1 hadd uc0 uc1 uc2 vc0 vc1 vc2
          refine wp_region_flatE (E := NumE (w.heap.size + 2) (DoneN (w.heap.size + 2) (.bool n1) (.int .i64 e1) (dig (2 ^ 64) (val (2 ^ 64) L1 + v2)))) (NumE.refl _ _) (by kernel_rfl) (fun W => NumC (w.heap.size + 2) w3 W) (fun _ _ h h' => h.next h') (detV [.pointer (some ⟨w.heap.size, 0, none⟩), .bool n1, .pointer (some ⟨w.heap.size, 1, none⟩), .int .i64 e1, .pointer (some ⟨w.heap.size, 2, none⟩), .slice a1 l1 c1, .slice a3 l3 c3, undef, undef, undef] (numL 7 8 9 (w.heap.size + 2) (.bool n1) (.int .i64 e1) (dig (2 ^ 64) (val (2 ^ 64) L1 + v2)))) (detV_growN numL_grow) (detV_last 9 rfl (by kernel_rfl)) (by kernel_rfl) H00 ?_ ?_
          · skip
            refine ⟨fun A W hW hag hdep => ?_, ?_⟩
            · have e2 : A.tmps[2]?.getD undef = .pointer (some ⟨w.heap.size, 0, none⟩) := evalD (hag.keep (t := 2) (by kernel_rfl) rfl)
              refine flatE_on rfl ?_
              refine numE_run (u := .pointer (some ⟨w.heap.size, 0, none⟩)) ?_ ((detV_at rfl).2 rfl)
              simp [go_sem, e2]
            refine ⟨fun A W hW hag hdep => ?_, ?_⟩
            · have e41 : A.tmps[41]?.getD undef = .pointer (some ⟨w.heap.size, 0, none⟩) := evalD ((detV_at rfl).1 (hdep 0 (by decide)))
              refine flatE_on rfl ?_
              obtain ⟨k0, _, _, _, _, _⟩ := (HQ2.out W hW).1
              refine numE_run (u := .bool n1) ?_ ((detV_at rfl).2 rfl)
              simp [go_sem, e41, k0]
            refine ⟨fun A W hW hag hdep => ?_, ?_⟩
            · have e2 : A.tmps[2]?.getD undef = .pointer (some ⟨w.heap.size, 0, none⟩) := evalD (hag.keep (t := 2) (by kernel_rfl) rfl)
              refine flatE_on rfl ?_
              refine numE_run (u := .pointer (some ⟨w.heap.size, 1, none⟩)) ?_ ((detV_at rfl).2 rfl)
              simp [go_sem, e2]
            refine ⟨fun A W hW hag hdep => ?_, ?_⟩
            · have e43 : A.tmps[43]?.getD undef = .pointer (some ⟨w.heap.size, 1, none⟩) := evalD ((detV_at rfl).1 (hdep 2 (by decide)))
              refine flatE_on rfl ?_
              obtain ⟨_, k1, _, _, _, _⟩ := (HQ2.out W hW).1
              refine numE_run (u := .int .i64 e1) ?_ ((detV_at rfl).2 rfl)
              simp [go_sem, e43, k1]
            refine ⟨fun A W hW hag hdep => ?_, ?_⟩
            · have e2 : A.tmps[2]?.getD undef = .pointer (some ⟨w.heap.size, 0, none⟩) := evalD (hag.keep (t := 2) (by kernel_rfl) rfl)
              refine flatE_on rfl ?_
              refine numE_run (u := .pointer (some ⟨w.heap.size, 2, none⟩)) ?_ ((detV_at rfl).2 rfl)
              simp [go_sem, e2]
            refine ⟨fun A W hW hag hdep => ?_, ?_⟩
            · have e45 : A.tmps[45]?.getD undef = .pointer (some ⟨w.heap.size, 2, none⟩) := evalD ((detV_at rfl).1 (hdep 4 (by decide)))
              refine flatE_on rfl ?_
              obtain ⟨_, _, k2, _, _, _⟩ := (HQ2.out W hW).1
              refine numE_run (u := .slice a1 l1 c1) ?_ ((detV_at rfl).2 rfl)
              simp [go_sem, e45, k2]
            refine ⟨fun A W hW hag hdep => ?_, ?_⟩
            · have e5 : A.tmps[5]?.getD undef = .slice a3 l3 c3 := evalD (hag.keep (t := 5) (by kernel_rfl) rfl)
              refine flatE_on rfl ?_
              refine numE_run (u := .slice a3 l3 c3) ?_ ((detV_at rfl).2 rfl)
              simp [go_sem, e5]
            refine ⟨fun A W hW hag hdep => ?_, ?_⟩
            · have e46 : A.tmps[46]?.getD undef = .slice a1 l1 c1 := evalD ((detV_at rfl).1 (hdep 5 (by decide)))
              have e47 : A.tmps[47]?.getD undef = .slice a3 l3 c3 := evalD ((detV_at rfl).1 (hdep 6 (by decide)))
              refine flatE_on rfl ?_
              refine numE_call (f := 101) (args := #[.slice a1 l1 c1, .slice a3 l3 c3]) (by simp [go_sem, e46, e47]) ((HAD.out W (HQ2.out W hW).2.1 (HQ2.out W hW).2.2.1).mono ?_)
              rintro e w2 ⟨a, n, c, rfl, hw, hb⟩
              exact ⟨_, rfl, hb, (detV_some rfl).2 ⟨a, n, c, rfl, hw⟩⟩
            refine ⟨fun A W hW hag hdep => ?_, ?_⟩
            · have e42 : A.tmps[42]?.getD undef = .bool n1 := evalD ((detV_at rfl).1 (hdep 1 (by decide)))
              have e44 : A.tmps[44]?.getD undef = .int .i64 e1 := evalD ((detV_at rfl).1 (hdep 3 (by decide)))
              refine flatE_on rfl ?_
              obtain ⟨a, n, c, hv, hw⟩ := (detV_some rfl).1 (hdep 7 (by decide))
              have e48 := evalD hv
              refine numE_run (u := .agg #[.bool n1, .int .i64 e1, .slice a n c]) ?_ ((detV_some rfl).2 ⟨a, n, c, rfl, hw⟩)
              simp [go_sem, e42, e44, e48]
            refine ⟨fun A W hW hag hdep => ?_, ?_⟩
            · have e4 : A.tmps[4]?.getD undef = .pointer (some ⟨(w.heap.size + 2), 0, none⟩) := evalD (hag.keep (t := 4) (by kernel_rfl) rfl)
              refine flatE_on rfl ?_
              obtain ⟨a, n, c, hv, hw⟩ := (detV_some rfl).1 (hdep 8 (by decide))
              have e49 := evalD hv
              obtain ⟨⟨b9, e9, a9, n9, c9, hN⟩, hlt⟩ := hW.2.1
              have k0 := hN.c0
              have f0 := hN.f0
              have f1 := hN.f1
              have f2 := hN.f2
              have d1 := hN.d1 (.bool n1)
              have d2 := hN.d2 (.bool n1) (.int .i64 e1)
              refine numE_store hW.2.1 hw (b := n1) (e := e1) rfl rfl ?_ (fun w' h => (detV_some rfl).2 h)
              simp [go_sem, e4, e49, k0, f0, f1, f2, d1, d2]
            exact trivial
          intro vs W1 hW1 hvs
          obtain ⟨a, n, c, hN1, hlt1, hw1⟩ := (detV_some rfl).1 (hvs 9 (by decide))
          simp only [putAll, Act.put, List.setIfInBounds_toArray, List.set_cons_zero, List.set_cons_succ]
          have k0 := hN1.c0
          have k1 := hN1.c1
          have k2 := hN1.c2
          have HG := Lib.hid (And.intro hw1 (HQ2.out W1 hW1).2.2.2)
          clear hvs hW1 hw1 hN1
          go_wp2_with fail
          refine ⟨rfl, .agg #[.bool n1, .int .i64 e1, .slice a n c], by simp [results, go_sem, k0, k1, k2], n1, e1, a, n, c, _, rfl, HG.out.1, ?_, hlo, by omega, ?_, HG.out.2⟩
          · rw [numD_dig, ← add_same]; exact HF.out.1
          · have h5 := HF.out.2.1 (val (2 ^ 64) L1 + v2) (Nat.le_refl _)
            rw [HG.out.1.len] at h5
            exact h5
        · have hn2 : n2 = !n1 := by cases n1 <;> cases n2 <;> simp_all
          subst hn2
          have hne : (n1 == !n1) = false := by cases n1 <;> rfl
          by_cases hcmp : v2 ≤ val (2 ^ 64) L1
          · go_wp2_with (first
              | (go_at_call_of 100 a2; refine HU.out.mono ?_; rintro r w3 ⟨a3, l3, c3, rfl, hW3, hb3⟩; have g0 := HP.out.b1.step hb3 (by have := HP.out.lt; omega); have uc0 := g0.c0; have uc1 := g0.c1; have uc2 := g0.c2; have g1 := HP.out.b2.step hb3 (by have := HP.out.lt; omega); have vc0 := g1.c0; have vc1 := g1.c1; have vc2 := g1.c2; have HE := Lib.hid (And.intro hW3 hb3); clear g0 g1 hW3 hb3)
              | (go_at_call_of 102 a1; refine (natsub_any a1 l1 c1 L1 a3 l3 c3 _ w3 (HP.out.w1.step (Below.next0 HP.out.bel HE.out.2)) HE.out.1 (by omega) HF.out.2.2.2).mono ?_; rintro r w4 ⟨a4, l4, c4, ok, rfl, hok, hW4, hb4⟩; rw [val_dig (by decide), decide_eq_true hcmp] at hok; subst hok; have hW4 := hW4 rfl; rw [val_dig (by decide)] at hW4;
                 have hlt3 := HP.out.lt; have hb34 := Below.next0 HE.out.2 hb4; have g0 := HP.out.b1.step hb34 (by omega); have uc0 := g0.c0; have uc1 := g0.c1; have uc2 := g0.c2; have g1 := HP.out.b2.step hb34 (by omega); have vc0 := g1.c0; have vc1 := g1.c1; have vc2 := g1.c2; have g2 := HP.out.br.step hb34 hlt3; have rc0 := g2.c0; have rc1 := g2.c1; have rc2 := g2.c2; have rf0 := g2.f0; have rf1 := g2.f1; have rf2 := g2.f2; have rd1 := g2.d1 (.bool n1); have rd2 := g2.d2 (.bool n1) (.int .i64 e1); have HG := Lib.hid (And.intro hW4 (And.intro g2 (And.intro (Nat.lt_of_lt_of_le hlt3 hb34.size) (Below.next0 HP.out.bel hb34)))); clear g0 g1 g2 hW4 hb4 hb34))
            have hS := HG.out.2.1.store (.bool n1) (.int .i64 e1) (.slice a4 l4 c4)
            have k0 := hS.c0
            have k1 := hS.c1
            have k2 := hS.c2
            have hbz := NumBox.below HG.out.2.2.2 (show w.heap.size ≤ w.heap.size + 2 by omega) (.bool n1) (.int .i64 e1) (.slice a4 l4 c4)
            have hwz : WordsIn (((w4.setCell ⟨w.heap.size + 2, 0, none⟩ (.bool n1)).setCell ⟨w.heap.size + 2, 1, none⟩ (.int .i64 e1)).setCell ⟨w.heap.size + 2, 2, none⟩ (.slice a4 l4 c4)) a4 l4 c4 (dig (2 ^ 64) (val (2 ^ 64) L1 - v2)) := ⟨HG.out.1.len, HG.out.1.cap, HG.out.1.most, HG.out.1.low, (HG.out.1.rd.store3 HG.out.2.1 (fun _ => by simp [nv]) (fun _ => by simp [nv]) (fun _ => by simp [nv]) _ _ _).more (box_size _ _ _ _ _)⟩
            refine ⟨rfl, .agg #[.bool n1, .int .i64 e1, .slice a4 l4 c4], by simp [results, go_sem, k0, k1, k2], _, e1, a4, l4, c4, _, rfl, hwz, ?_, hlo, by omega, ?_, hbz⟩
            · rw [numD_dig, ← HF.out.1, add_other, if_pos hcmp]
            · have h5 := HF.out.2.1 (val (2 ^ 64) L1 - v2) (by omega)
              rw [HG.out.1.len] at h5
              exact h5
          · go_upto_if 57 with (first
              | (go_at_call_of 100 a2; refine HU.out.mono ?_; rintro r w3 ⟨a3, l3, c3, rfl, hW3, hb3⟩; have g0 := HP.out.b1.step hb3 (by have := HP.out.lt; omega); have uc0 := g0.c0; have uc1 := g0.c1; have uc2 := g0.c2; have g1 := HP.out.b2.step hb3 (by have := HP.out.lt; omega); have vc0 := g1.c0; have vc1 := g1.c1; have vc2 := g1.c2; have HE := Lib.hid (And.intro hW3 hb3); clear g0 g1 hW3 hb3)
              | (go_at_call_of 102 a1; refine (natsub_any a1 l1 c1 L1 a3 l3 c3 _ w3 (HP.out.w1.step (Below.next0 HP.out.bel HE.out.2)) HE.out.1 (by omega) HF.out.2.2.2).mono ?_; rintro r w4 ⟨a4, l4, c4, ok, rfl, hok, hW4, hb4⟩; rw [val_dig (by decide), decide_eq_false hcmp] at hok; subst hok; clear hW4;
                 have hb34 := Below.next0 HE.out.2 hb4; have g0 := HP.out.b1.step hb34 (by have := HP.out.lt; omega); have uc0 := g0.c0; have uc1 := g0.c1; have uc2 := g0.c2; have HG1 := Lib.hid (And.intro (HE.out.1.step hb4) hb34); clear g0 hb4 hb34))
            go_wp2_with (go_at_call_of 102 a1; refine (natsub_any a3 l3 c3 _ a1 l1 c1 L1 w4 HG1.out.1 (HP.out.w1.step (Below.next0 HP.out.bel HG1.out.2)) (by have h6 := HG1.out.1.len; omega) (by rw [val_dig (by decide)]; exact HF.out.2.2.1)).mono ?_; rintro r w5 ⟨a5, l5, c5, ok, rfl, hok, hW5, hb5⟩; rw [val_dig (by decide), decide_eq_true (by omega)] at hok; subst hok; have hW5 := hW5 rfl; rw [val_dig (by decide)] at hW5; have hlt3 := HP.out.lt; have hb35 := Below.next0 HG1.out.2 hb5; have g0 := HP.out.b1.step hb35 (by omega); have uc0 := g0.c0; have uc1 := g0.c1; have uc2 := g0.c2; have g1 := HP.out.b2.step hb35 (by omega); have vc0 := g1.c0; have vc1 := g1.c1; have vc2 := g1.c2; have g2 := HP.out.br.step hb35 hlt3; have rc0 := g2.c0; have rc1 := g2.c1; have rc2 := g2.c2; have rf0 := g2.f0; have rf1 := g2.f1; have rf2 := g2.f2; have rd1 := g2.d1 (.bool (!n1)); have rd2 := g2.d2 (.bool (!n1)) (.int .i64 e1); have HG := Lib.hid (And.intro hW5 (And.intro g2 (And.intro (Nat.lt_of_lt_of_le hlt3 hb35.size) (Below.next0 HP.out.bel hb35)))); clear g0 g1 g2 hW5 hb5 hb35)
            have hS := HG.out.2.1.store (.bool (!n1)) (.int .i64 e1) (.slice a5 l5 c5)
            have k0 := hS.c0
            have k1 := hS.c1
            have k2 := hS.c2
            have hbz := NumBox.below HG.out.2.2.2 (show w.heap.size ≤ w.heap.size + 2 by omega) (.bool (!n1)) (.int .i64 e1) (.slice a5 l5 c5)
            have hwz : WordsIn (((w5.setCell ⟨w.heap.size + 2, 0, none⟩ (.bool (!n1))).setCell ⟨w.heap.size + 2, 1, none⟩ (.int .i64 e1)).setCell ⟨w.heap.size + 2, 2, none⟩ (.slice a5 l5 c5)) a5 l5 c5 (dig (2 ^ 64) (v2 - val (2 ^ 64) L1)) := ⟨HG.out.1.len, HG.out.1.cap, HG.out.1.most, HG.out.1.low, (HG.out.1.rd.store3 HG.out.2.1 (fun _ => by simp [nv]) (fun _ => by simp [nv]) (fun _ => by simp [nv]) _ _ _).more (box_size _ _ _ _ _)⟩
            refine ⟨rfl, .agg #[.bool (!n1), .int .i64 e1, .slice a5 l5 c5], by simp [results, go_sem, k0, k1, k2], _, e1, a5, l5, c5, _, rfl, hwz, ?_, hlo, by omega, ?_, hbz⟩
            · rw [numD_dig, ← HF.out.1, add_other, if_neg hcmp]
            · have h5 := HF.out.2.1 (v2 - val (2 ^ 64) L1) (by omega)
              rw [HG.out.1.len] at h5
              exact h5
end Go.Proofs.YtdilmfakkppgpaaGreatDoor
