/- Part 16 of the proof of LawParseDeep: RdrD, RdrE. Condition: as each theorem says; none at the end. -/
import Derived.Deep.RegionLaw
import Derived.Deep.AppendLies
import Derived.WalkMore
import Derived.Test.YtdilmfakkppgpaaGreatDoorPkParseDeep15
namespace Go.Proofs.YtdilmfakkppgpaaGreatDoor
open Go.RowKit WordsM DecM
def factorK (L : List UInt8) (r : PR Ex) : PR Ex := match r with
  | .error e => .error e
  | .ok (b, q) => if byteAt L (skipB L q) = 94 then
      (if 48 ≤ (byteAt L (skipB L (skipB L q + 1))).toNat ∧ (byteAt L (skipB L (skipB L q + 1))).toNat ≤ 56 then .ok (.pow b ((byteAt L (skipB L (skipB L q + 1))).toNat - 48), skipB L (skipB L q + 1) + 1) else .error (skipB L (skipB L q + 1)))
    else .ok (b, skipB L q)
theorem factor_k (sub : Nat → PR Ex) (opens : Bool) (L : List UInt8) (most p : Nat) (bad : Bool) : orBad bad p (factorP sub opens L most p) = factorK L (orBad bad p (baseP sub opens L most p)) := by
  cases bad
  · show factorP sub opens L most p = factorK L (baseP sub opens L most p)
    unfold factorP factorK
    cases baseP sub opens L most p <;> rfl
  · rfl
theorem node_turn {fp : Nat → Prop} {R : Nat} {w w' : World} {x : Ex} {v : Value} (h : ExAt fp w x v) (ht : Turn (OnR R) w w') (hR : fp R) : ExAt fp w' x v := h.turn ht fun k (hk : k = R) => by subst hk; exact hR
set_option maxRecDepth 100000 in
set_option maxHeartbeats 8000000 in
theorem factor_any {w : World} {R : Nat} {s : ByteArray} {p most : Nat} {d : Int} {bad : Bool} (sub : Nat → PR Ex) (h : RdrAt w R s (p : Int) (most : Int) d bad) (hp : p ≤ s.size) (hs : s.size ≤ 281474976710656) (hd0 : 0 ≤ d) (hd : d ≤ 16) (hT : ∀ W, Turn (OnR R) w W → TabIn W)
    (hsub : d < 16 → ∀ (W : World) (q : Nat), RdrAt W R s (q : Int) (most : Int) (d + 1) false → q ≤ s.size → (∀ W', Turn (OnR R) W W' → TabIn W') → Calls Tryz.prog 80 #[.pointer (some ⟨R, 0, none⟩)] W (Node R s (most : Int) (d + 1) (sub q) W)) :
    Calls Tryz.prog 164 #[.pointer (some ⟨R, 0, none⟩)] w (Node R s (most : Int) d (orBad bad p (factorP sub (decide (d < 16)) s.data.toList most p)) w) := by
  have hb := base_any sub h hp hs hd0 hd hT hsub
  have hRw := h.lt
  rw [factor_k]
  obtain ⟨L, hL⟩ : ∃ L, s.data.toList = L := ⟨_, rfl⟩
  have hLs : L.length = s.size := by rw [← hL]; rfl
  rw [hL] at hb ⊢
  obtain ⟨r0, hr0⟩ : ∃ r0, orBad bad p (baseP sub (decide (d < 16)) L most p) = r0 := ⟨_, rfl⟩
  rw [hr0] at hb ⊢
  obtain ⟨X, hX⟩ : ∃ X, factorK L r0 = X := ⟨_, rfl⟩
  rw [hX]
  have H := Lib.hid (And.intro hL (And.intro hLs (And.intro hs (And.intro hb (And.intro hX hRw)))))
  clear h hp hs hT hsub hb hL hLs hr0 hd0 hd hX hRw
  go_enter Tryz.func164, Tryz.ntmps164
  go_upto_region 2 with (go_at_call_of 191 (Value.pointer (some ⟨R, 0, none⟩)); refine H.out.2.2.2.1.mono ?_; rintro r w1 ⟨t, u, rfl, ht1, hN⟩; have H1 := Lib.hid (And.intro ht1 hN); clear ht1 hN)
  cases r0 with
  | error e =>
    have h1 := H1.out.2
    have hsg := sign_any h1.1 h1.2 H.out.2.2.1
    simp only [skS, nxB, if_true] at hsg
    have H2 := Lib.hid (And.intro hsg h1.2)
    clear hsg h1
    have n94 : ((((0 : UInt8).toNat : Nat) : Int) != 94) = true := by decide
    go_wp2_with (go_at_call_of 81 (Value.pointer (some ⟨R, 0, none⟩)); refine H2.out.1.mono ?_; rintro r w2 ⟨rfl, hr2, ht2⟩; have H3 := Lib.hid (And.intro hr2 ht2); clear hr2 ht2)
    go_ret
    have hX : X = .error e := H.out.2.2.2.2.1.symm
    rw [hX]
    exact Node.err (H1.out.1.trans0 H3.out.2) H3.out.1 H2.out.2
  | ok z =>
    obtain ⟨x, q0⟩ := z
    have h1 := H1.out.2
    obtain ⟨q, hq⟩ : ∃ q, skipB L q0 = q := ⟨_, rfl⟩
    have hqs : q ≤ s.size := by rw [← hq, ← H.out.2.1]; exact skip_le (by have := H.out.2.1; have := h1.2.2; omega)
    obtain ⟨c, hc⟩ : ∃ c, byteAt L q = c := ⟨_, rfl⟩
    have hXX : X = if c = 94 then
      (if 48 ≤ (byteAt L (skipB L (q + 1))).toNat ∧ (byteAt L (skipB L (q + 1))).toNat ≤ 56 then .ok (.pow x ((byteAt L (skipB L (q + 1))).toNat - 48), skipB L (q + 1) + 1) else .error (skipB L (q + 1)))
      else .ok (x, q) := by
      have h := H.out.2.2.2.2.1
      unfold factorK at h
      simp only [hq, hc] at h
      exact h.symm
    have hsg := sign_any h1.2.1 h1.2.2 H.out.2.2.1
    rw [H.out.1] at hsg
    simp only [skS, nxB, Bool.false_eq_true, if_false, hq, hc] at hsg
    have hw1 : IntKind.i64.wrap ((q : Int) + 1) = (q : Int) + 1 := by rw [IntKind.wrap_i64]; have := H.out.2.2.1; omega
    by_cases h94 : c = 94
    · subst h94
      have n94 : ((((94 : UInt8).toNat : Nat) : Int) != 94) = false := by decide
      obtain ⟨q2, hq2⟩ : ∃ q2, skipB L (q + 1) = q2 := ⟨_, rfl⟩
      have hq1s : q + 1 ≤ s.size := by have := byteAt_of hc (by decide); have := H.out.2.1; omega
      have hq2s : q2 ≤ s.size := by rw [← hq2, ← H.out.2.1]; exact skip_le (by have := H.out.2.1; omega)
      have hs2 := fun W (hW : RdrAt W R s ((q + 1 : Nat) : Int) (most : Int) d false) => sign_any hW hq1s H.out.2.2.1
      rw [H.out.1] at hs2
      simp only [skS, Bool.false_eq_true, if_false, hq2] at hs2
      rw [if_pos rfl, hq2] at hXX
      have H2 := Lib.hid (And.intro hsg (And.intro h1.1 (And.intro hs2 (And.intro hq2s hXX))))
      clear hsg h1 hs2 hq2 hq1s hq2s hXX hq hc hqs
      go_upto_region 4 with (go_at_call_of 81 (Value.pointer (some ⟨R, 0, none⟩)); refine H2.out.1.mono ?_; rintro r w2 ⟨rfl, hr2, ht2⟩; have k1 := hr2.c1; have g1 := hr2.f1; have H3 := Lib.hid (And.intro (hr2.setAt ((q : Int) + 1)) (ht2.trans0 (turn_set w2 R 1 (.int .i64 ((q : Int) + 1))))); clear hr2 ht2)
      go_upto_region 6 with (go_at_call_of 81 (Value.pointer (some ⟨R, 0, none⟩)); refine (H2.out.2.2.1 _ (show RdrAt _ R s (((q + 1 : Nat)) : Int) (most : Int) d false from H3.out.1)).mono ?_; rintro r w3 ⟨rfl, hr3, ht3⟩; have H4 := Lib.hid (And.intro hr3 (H3.out.2.trans0 ht3)); clear hr3 ht3)
      go_wp2_with (go_at_call_of 192 (Value.pointer (some ⟨R, 0, none⟩)); refine (rdigit_any H4.out.1 H2.out.2.2.2.1 H.out.2.2.1 0 8 (by decide)).mono ?_; rintro r w4 ⟨hor, ht4⟩; obtain ⟨z, hz⟩ : ∃ z : Int, r = .returned (.int .i64 z) := by { rcases hor with ⟨_, _, _, h, _⟩ | ⟨_, h, _⟩ <;> exact ⟨_, h⟩ }; subst hz; have H5 := Lib.hid (And.intro hor (H4.out.2.trans0 ht4)); clear hor ht4)
      go_ret
      obtain ⟨hor, ht⟩ := H5.out
      rw [H.out.1] at hor
      have hxw := node_turn H2.out.2.1 ht H.out.2.2.2.2.2
      have htw := H1.out.1.trans0 ht
      rcases hor with ⟨_, h1, h2, h3, h4⟩ | ⟨h1, h3, h4⟩
      · injection h3 with h3
        injection h3 with _ h3
        subst h3
        rw [H2.out.2.2.2.2, if_pos ⟨by omega, by omega⟩]
        refine Node.okd htw ?_ h4 ?_
        · rw [ExAt]
          refine ⟨_, congrArg (fun z => Value.iface _ (.agg #[_, .int .i64 z])) (by omega), hxw⟩
        · have h5 : byteAt L q2 ≠ 0 := fun e => by rw [e] at h1; exact absurd h1 (by decide)
          have := byteAt_lt h5; have := H.out.2.1; omega
      · rw [H2.out.2.2.2.2, if_neg (fun h => h1 ⟨trivial, by omega, by omega⟩)]
        exact Node.err htw h4 H2.out.2.2.2.1
    · have n93 : ((c.toNat : Int) == 94) = false := num_ne (k := 94) (by decide) h94
      have n94 : ((c.toNat : Int) != 94) = true := by rw [bne, n93]; rfl
      rw [if_neg h94] at hXX
      have H2 := Lib.hid (And.intro hsg (And.intro h1.1 (And.intro hXX hqs)))
      clear hsg h1 hXX hqs hq hc h94
      go_wp2_with (go_at_call_of 81 (Value.pointer (some ⟨R, 0, none⟩)); refine H2.out.1.mono ?_; rintro r w2 ⟨rfl, hr2, ht2⟩; have H3 := Lib.hid (And.intro hr2 ht2); clear hr2 ht2)
      go_ret
      rw [H2.out.2.2.1]
      exact Node.okd (H1.out.1.trans0 H3.out.2) (node_turn H2.out.2.1 H3.out.2 H.out.2.2.2.2.2) H3.out.1 H2.out.2.2.2
end Go.Proofs.YtdilmfakkppgpaaGreatDoor
namespace Go.Proofs.YtdilmfakkppgpaaGreatDoor
open Go.RowKit WordsM DecM
theorem info_node : (Tryz.prog.info? 82).map (fun i => (i.zero, i.size, i.bytes)) = some (some .nilIface, 1, 16) := by kernel_rfl
theorem info_bool : (Tryz.prog.info? 4).map (fun i => (i.zero, i.size, i.bytes)) = some (some (.bool false), 1, 1) := by kernel_rfl
theorem info_split {T : TypeId} {z : Value} {s b : Nat} (h : (Tryz.prog.info? T).map (fun i => (i.zero, i.size, i.bytes)) = some (some z, s, b)) : ∃ i0 : TypeInfo, Tryz.prog.info? T = some i0 ∧ i0.zero = some z ∧ i0.size = s ∧ i0.bytes = b := by
  cases hi : Tryz.prog.info? T with
  | none => rw [hi] at h; cases h
  | some i0 =>
    rw [hi] at h
    simp only [Option.map_some, Option.some.injEq, Prod.mk.injEq] at h
    exact ⟨i0, rfl, h.1, h.2.1, h.2.2⟩
theorem RdrAt.keep {w w' : World} {R : Nat} {s : ByteArray} {p m d : Int} {bad : Bool} {fp : Nat → Prop} (h : RdrAt w R s p m d bad) (ht : Turn fp w w') (hn : ¬ fp R) : RdrAt w' R s p m d bad :=
  ⟨(ht.cell (p := ⟨R, 0, none⟩) h.lt hn).trans h.c0, (ht.cell (p := ⟨R, 1, none⟩) h.lt hn).trans h.c1, (ht.cell (p := ⟨R, 2, none⟩) h.lt hn).trans h.c2, (ht.cell (p := ⟨R, 3, none⟩) h.lt hn).trans h.c3, (ht.cell (p := ⟨R, 4, none⟩) h.lt hn).trans h.c4,
    (ht.frozen (p := ⟨R, 0, none⟩) h.lt hn).trans h.f0, (ht.frozen (p := ⟨R, 1, none⟩) h.lt hn).trans h.f1, (ht.frozen (p := ⟨R, 2, none⟩) h.lt hn).trans h.f2, (ht.frozen (p := ⟨R, 3, none⟩) h.lt hn).trans h.f3, (ht.frozen (p := ⟨R, 4, none⟩) h.lt hn).trans h.f4, Nat.lt_of_lt_of_le h.lt ht.size, fun o ho => (ht.cell (p := ⟨R, o, none⟩) h.lt hn).trans (h.c5 o ho)⟩
def fpR (b : Nat) (a : Option Addr) (k : Nat) : Prop := k ≤ b ∨ ∃ x, a = some x ∧ x.block = k
structure TermSt (R : Nat) (w wr : World) (a : Option Addr) (n c : Nat) (acc : List Ex) (vs : List Value) : Prop where
  turn : Turn (OnR R) w wr
  cell : wr.cell? ⟨w.heap.size, 0, none⟩ = some (.slice a n c)
  frz : wr.frozen? ⟨w.heap.size, 0, none⟩ = false
  row : Row wr (w.heap.size + 1) 82 1 a n c vs
  nodes : NodesAt (fpR w.heap.size a) wr acc vs
  len : acc.length = n
theorem TermSt.lt {R : Nat} {w wr : World} {a : Option Addr} {n c : Nat} {acc : List Ex} {vs : List Value} (h : TermSt R w wr a n c acc vs) : w.heap.size < wr.heap.size := block_lt_of_cell h.cell
theorem TermSt.step {R : Nat} {w wr w' : World} {a : Option Addr} {n c : Nat} {acc : List Ex} {vs : List Value} (h : TermSt R w wr a n c acc vs) (hR : R < w.heap.size) (ht : Turn (OnR R) wr w') : TermSt R w w' a n c acc vs :=
  ⟨h.turn.trans0 ht, (ht.cell (p := ⟨w.heap.size, 0, none⟩) h.lt (fun (e : w.heap.size = R) => by omega)).trans h.cell, (ht.frozen (p := ⟨w.heap.size, 0, none⟩) h.lt (fun (e : w.heap.size = R) => by omega)).trans h.frz,
    h.row.turn ht (fun x hx (e : x.block = R) => by
      rcases h.row.form with ⟨h0, _⟩ | ⟨g, cur, h0, h1, _⟩
      · rw [h0] at hx; cases hx
      · rw [h0] at hx; injection hx with hx; subst hx
        have e : g = R := e
        omega), h.nodes.turn ht (fun k (hk : k = R) => by subst hk; exact .inl (Nat.le_of_lt hR)), h.len⟩
theorem term_turn {R : Nat} {w w3 w4 : World} {a : Option Addr} {n c : Nat} {acc : List Ex} {vs : List Value} (h : TermSt R w w3 a n c acc vs) {o : Obj} (hgr : (w3.alloc o).grownBy w4 (Value.slice a n c).ownBlock) (v : Value) :
    Turn (fun k => k = w.heap.size ∨ ∃ x, a = some x ∧ x.block = k) w3 (w4.setCell ⟨w.heap.size, 0, none⟩ v) := by
  have h1 : Turn (fun k => k = w.heap.size ∨ ∃ x, a = some x ∧ x.block = k) w3 (w3.alloc o) := Turn.of_below ((Below.refl _ _).alloc (Nat.le_refl _) _) _
  have h2 : Turn (fun k => k = w.heap.size ∨ ∃ x, a = some x ∧ x.block = k) (w3.alloc o) w4 := Turn.of_grown hgr fun r hr _ => by
    cases a with
    | none => simp [Value.ownBlock] at hr
    | some x =>
      simp only [Value.ownBlock, Option.some.injEq] at hr
      exact .inr ⟨x, rfl, hr⟩
  exact (h1.trans0 h2).trans0 (Turn.setCell _ _ (p := ⟨w.heap.size, 0, none⟩) (.inl rfl) _)
theorem row_block {w : World} {B : Nat} {T : TypeId} {a : Option Addr} {n c : Nat} {vs : List Value} (h : Row w B T 1 a n c vs) {x : Addr} (hx : a = some x) : B ≤ x.block ∧ x.block < w.heap.size := by
  rcases h.form with ⟨h0, _⟩ | ⟨g, cur, h0, h1, h2, _⟩
  · rw [h0] at hx; cases hx
  · rw [h0] at hx; injection hx with hx; subst hx; exact ⟨h1, h2⟩
theorem term_next {R : Nat} {w wr w3 w4 : World} {a : Option Addr} {n c : Nat} {acc : List Ex} {vs : List Value} (hR : R < w.heap.size) (hr : TermSt R w wr a n c acc vs) (ht : Turn (OnR R) wr w3) {o : Obj} (hgr : (w3.alloc o).grownBy w4 (Value.slice a n c).ownBlock) {g cap : Nat} {x : Ex} {v : Value} (hx : ExAt (· < wr.heap.size) w3 x v)
    (hrow : Row w4 (w.heap.size + 1) 82 1 (some ⟨g, 0, none⟩) (n + 1) cap (vs ++ [v])) (hat : (Value.slice a n c).ownBlock = some g ∨ g = w3.heap.size + 1) (hfz : w4.frozen? ⟨w.heap.size, 0, none⟩ = false) (hcl : ∃ u, w4.cell? ⟨w.heap.size, 0, none⟩ = some u) :
    TermSt R w (w4.setCell ⟨w.heap.size, 0, none⟩ (.slice (some ⟨g, 0, none⟩) (n + 1) cap)) (some ⟨g, 0, none⟩) (n + 1) cap (acc ++ [x]) (vs ++ [v]) := by
  have h := hr.step hR ht
  have htt := term_turn h hgr (.slice (some ⟨g, 0, none⟩) (n + 1) cap)
  have hfb : ∀ k, (k = w.heap.size ∨ ∃ x, a = some x ∧ x.block = k) → fpR w.heap.size a k := fun k hk => hk.elim (fun e => .inl (Nat.le_of_eq e)) .inr
  have hmore : ∀ k, fpR w.heap.size (some ⟨g, 0, none⟩) k → fpR w.heap.size a k ∨ w3.heap.size ≤ k := by
    rintro k (hk | ⟨y, hy, hk⟩)
    · exact .inl (.inl hk)
    · injection hy with hy
      subst hy
      have hk : g = k := hk
      subst hk
      rcases hat with h1 | h1
      · cases a with
        | none => simp [Value.ownBlock] at h1
        | some z =>
          simp only [Value.ownBlock, Option.some.injEq] at h1
          exact .inl (.inr ⟨z, rfl, h1⟩)
      · exact .inr (by omega)
  have hgb := hrow.fresh
  refine ⟨h.turn.trans htt fun k hk hf => ?_, ?_, ?_, ?_, ?_, ?_⟩
  · exfalso
    rcases hf with rfl | ⟨y, hy, rfl⟩
    · omega
    · have := row_block h.row hy; omega
  · obtain ⟨u, hu⟩ := hcl
    exact World.cell?_setCell_same' _ _ _ (by rw [hu]; rfl)
  · exact (World.frozen?_setCell _ _ _ _).trans hfz
  · exact hrow.far (p := ⟨w.heap.size, 0, none⟩) (fun y hy => by injection hy with hy; subst hy; show g ≠ w.heap.size; omega) _
  · have hU : ∀ k, (fpR w.heap.size a k ∨ fpR w.heap.size (some ⟨g, 0, none⟩) k) → fpR w.heap.size a k ∨ w3.heap.size ≤ k := fun k hk => hk.elim .inl (hmore k)
    have hA : ∀ k, fpR w.heap.size a k → k < wr.heap.size := by
      rintro k (hk | ⟨y, hy, rfl⟩)
      · exact Nat.lt_of_le_of_lt hk hr.lt
      · exact (row_block hr.row hy).2
    have hn1 := ((h.nodes.more hU).turn htt (fun k hk => .inl (hfb k hk))).more (fp' := fpR w.heap.size (some ⟨g, 0, none⟩)) (fun k hk => .inl (.inr hk))
    have h1 := ((hx.more (fp' := fun k => fpR w.heap.size a k ∨ fpR w.heap.size (some ⟨g, 0, none⟩) k) fun k hk => (hU k hk).imp (hA k) id).turn htt (fun k hk => .inl (hfb k hk))).more (fp' := fpR w.heap.size (some ⟨g, 0, none⟩)) (fun k hk => .inl (.inr hk))
    exact hn1.snoc h1
  · rw [List.length_append, h.len]; rfl
def TermCut (R : Nat) (s : ByteArray) (m d : Int) (w : World) (n : Nat) (acc : List Ex) (vs : List Value) (r0 : PR Ex) (wx : World) : Prop :=
  ∃ g cap t u, wx.cell? ⟨w.heap.size, 0, none⟩ = some (.slice (some ⟨g, 0, none⟩) (n + 1) cap) ∧ Turn (OnR R) w wx ∧ match r0 with
    | .ok (x, q) => TermSt R w wx (some ⟨g, 0, none⟩) (n + 1) cap (acc ++ [x]) (vs ++ [.iface t u]) ∧ RdrAt wx R s (q : Int) m d false ∧ q ≤ s.size
    | .error q => RdrAt wx R s (q : Int) m d true ∧ q ≤ s.size
theorem term_cut {R : Nat} {s : ByteArray} {m d : Int} {w wr w3 w4 : World} {a : Option Addr} {n c : Nat} {acc : List Ex} {vs : List Value} {r0 : PR Ex} {e : Ending} {t : TypeId} {u : Value} (hR : R < w.heap.size) (hr : TermSt R w wr a n c acc vs) (hN : Node R s m d r0 wr e w3) (he : e = .returned (.iface t u)) {o : Obj} (hgr : (w3.alloc o).grownBy w4 (Value.slice a n c).ownBlock) {g cap : Nat}
    (hrow : Row w4 (w.heap.size + 1) 82 1 (some ⟨g, 0, none⟩) (n + 1) cap (vs ++ [.iface t u])) (hat : (Value.slice a n c).ownBlock = some g ∨ g = w3.heap.size + 1) (hfz : w4.frozen? ⟨w.heap.size, 0, none⟩ = false) (hcl : w4.cell? ⟨w.heap.size, 0, none⟩ = some (.slice a n c)) :
    TermCut R s m d w n acc vs r0 (w4.setCell ⟨w.heap.size, 0, none⟩ (.slice (some ⟨g, 0, none⟩) (n + 1) cap)) := by
  subst he
  obtain ⟨t', u', he, ht, h2⟩ := hN
  injection he with he
  injection he with e1 e2
  subst e1; subst e2
  have hs3 := hr.step hR ht
  have htt := term_turn hs3 hgr (.slice (some ⟨g, 0, none⟩) (n + 1) cap)
  have hnR : ¬ (R = w.heap.size ∨ ∃ x, a = some x ∧ x.block = R) := by
    rintro (h | ⟨y, hy, h⟩)
    · omega
    · have := row_block hs3.row hy; omega
  have hfw : Turn (OnR R) w (w4.setCell ⟨w.heap.size, 0, none⟩ (.slice (some ⟨g, 0, none⟩) (n + 1) cap)) := hs3.turn.trans htt fun k hk hf => by
    exfalso
    rcases hf with rfl | ⟨y, hy, rfl⟩
    · omega
    · have := row_block hs3.row hy; omega
  refine ⟨g, cap, t, u, World.cell?_setCell_same' _ _ _ (by rw [hcl]; rfl), hfw, ?_⟩
  cases r0 with
  | error q => exact ⟨h2.1.keep htt hnR, h2.2⟩
  | ok z => exact ⟨term_next hR hr ht hgr h2.1 hrow hat hfz ⟨_, hcl⟩, h2.2.1.keep htt hnR, h2.2.2⟩
theorem termP_step (sub : Nat → PR Ex) (opens : Bool) (L : List UInt8) (most f p : Nat) (acc : List Ex) (bad : Bool) : orBad bad p (termP sub opens L most (f + 1) p acc) = (match orBad bad p (factorP sub opens L most p) with
    | .error e => .error e
    | .ok (x, q) => if byteAt L (skipB L q) = 42 then termP sub opens L most f (skipB L q + 1) (acc ++ [x]) else .ok (.prod (acc ++ [x]), skipB L q)) := by
  cases bad
  · show termP sub opens L most (f + 1) p acc = _
    rw [termP]; rfl
  · rfl
theorem term_ex {R : Nat} {w w' : World} {g n c : Nat} {acc : List Ex} {vs : List Value} (h : TermSt R w w' (some ⟨g, 0, none⟩) n c acc vs) (h0 : acc ≠ []) : ExAt (· < w.heap.size) w' (.prod acc) (.iface 133 (.agg #[.slice (some ⟨g, 0, none⟩) n c])) := by
  have hlow : ∀ k, k < w.heap.size → fpR w.heap.size (some ⟨g, 0, none⟩) k ∨ w'.heap.size ≤ k := fun k hk => .inl (.inl (Nat.le_of_lt hk))
  have hg := row_block h.row rfl
  have hc := h.row.cap
  have hg1 : w.heap.size + 1 ≤ g := hg.1
  rw [ExAt]
  refine ⟨g, c, by rw [h.len], fun hk => by omega, hg.2, by rw [h.len]; exact hc.1, hc.2, h0, (h.nodes.more hlow).row 0 fun j v hv => ?_⟩
  obtain ⟨g', e, _, _, hcell⟩ := h.row.at_ hv
  injection e with e
  injection e with e
  subst e
  rw [Nat.zero_add]; exact hcell
theorem drew_turn {fp : Nat → Prop} {w w' : World} (h : Turn fp w.drew w') : Turn fp w w' := ⟨h.os, h.tape, h.output, h.size, h.block⟩
set_option maxRecDepth 100000 in
set_option maxHeartbeats 8000000 in
theorem term_any {w : World} {R : Nat} {s : ByteArray} {p most : Nat} {d : Int} {bad : Bool} (sub : Nat → PR Ex) (h : RdrAt w R s (p : Int) (most : Int) d bad) (hp : p ≤ s.size) (hs : s.size ≤ 1000000) (hd0 : 0 ≤ d) (hd : d ≤ 16) (hT : ∀ W, Turn (OnR R) w W → TabIn W) (hmv : decide (d < 16) = true → ∀ p, p ≤ s.data.toList.length → Moves s.data.toList p (sub p))
    (hsub : d < 16 → ∀ (W : World) (q : Nat), RdrAt W R s (q : Int) (most : Int) (d + 1) false → q ≤ s.size → (∀ W', Turn (OnR R) W W' → TabIn W') → Calls Tryz.prog 80 #[.pointer (some ⟨R, 0, none⟩)] W (Node R s (most : Int) (d + 1) (sub q) W)) :
    Calls Tryz.prog 133 #[.pointer (some ⟨R, 0, none⟩)] w (Node R s (most : Int) d (orBad bad p (termP sub (decide (d < 16)) s.data.toList most (s.size + 1) p [])) w) := by
  obtain ⟨i0, hi0, hz0, hz1, hz2⟩ := info_split info_node
  obtain ⟨L, hL⟩ : ∃ L, s.data.toList = L := ⟨_, rfl⟩
  have hLs : L.length = s.size := by rw [← hL]; rfl
  rw [hL]
  obtain ⟨X, hX⟩ : ∃ X, orBad bad p (termP sub (decide (d < 16)) L most (s.size + 1) p []) = X := ⟨_, rfl⟩
  rw [hX]
  have hR := h.lt
  have hal : Below w.heap.size w (w.alloc (.cells #[.slice none 0 0] 133)) := (Below.refl _ _).alloc (Nat.le_refl _) _
  have hst : TermSt R w (w.alloc (.cells #[.slice none 0 0] 133)) none 0 0 [] [] :=
    ⟨Turn.of_below hal _, by rw [cell_of_row _ _ _ _ _ _ (heap_alloc_new _ _)]; rfl, frozen_of_row _ _ _ _ _ (heap_alloc_new _ _), Row.nil_ _ _ _ _, trivial, rfl⟩
  have H := Lib.hid (And.intro hL (And.intro hLs (And.intro hs (And.intro hX (And.intro hR (And.intro hst (h.step hal)))))))
  have HS := Lib.hid (And.intro hd0 (And.intro hd (And.intro hT hsub)))
  rw [hL] at hmv
  have HP := Lib.hid (And.intro hp hmv)
  clear h hp hs hT hsub hmv hL hLs hd0 hd hX hR hst hal
  go_enter Tryz.func133, Tryz.ntmps133
  go_wp2_with fail
  go_step3
  go_wp2_with fail
  go_step3
  go_wp2_with fail
  go_loopw [] (fun wr => ∃ (f p' : Nat) (bd : Bool) (a : Option Addr) (n c : Nat) (acc : List Ex) (vs : List Value), TermSt R w wr a n c acc vs ∧ RdrAt wr R s (p' : Int) (most : Int) d bd ∧ p' ≤ s.size ∧ s.size + 1 ≤ f + p' ∧ n ≤ p' ∧ X = orBad bd p' (termP sub (decide (d < 16)) L most f p' acc)) (fun wr => s.size - atOf wr R)
  case atStart => exact ⟨s.size + 1, p, bad, none, 0, 0, [], [], H.out.2.2.2.2.2.1, H.out.2.2.2.2.2.2, HP.out.1, by omega, Nat.zero_le _, H.out.2.2.2.1.symm⟩
  case round =>
    obtain ⟨f, p', bd, a, n, c, acc, vs, hst, hr, hp', hf, hn, hXX⟩ := hrel
    obtain ⟨f, rfl⟩ : ∃ f', f = f' + 1 := ⟨f - 1, by omega⟩
    rw [termP_step] at hXX
    have hfa := factor_any sub hr.drew hp' (by have := H.out.2.2.1; omega) HS.out.1 HS.out.2.1 (fun W hW => HS.out.2.2.1 W (hst.turn.trans0 (drew_turn hW))) HS.out.2.2.2
    rw [H.out.1] at hfa
    obtain ⟨r0, hr0⟩ : ∃ r0, orBad bd p' (factorP sub (decide (d < 16)) L most p') = r0 := ⟨_, rfl⟩
    rw [hr0] at hfa hXX
    have hgo : ∀ x q0, r0 = .ok (x, q0) → p' < q0 := fun x q0 e => by
      rw [e] at hr0
      cases bd with
      | true => cases hr0
      | false =>
        have hm := factor_moves (most := most) HP.out.2 (p := p') (by have := H.out.2.1; omega)
        have hr1 : factorP sub (decide (d < 16)) L most p' = .ok (x, q0) := hr0
        rw [hr1] at hm
        exact hm.1
    have HG := Lib.hid hgo
    have hk0 := hst.cell
    have hkd : wr.drew.cell? ⟨w.heap.size, 0, none⟩ = some (.slice a n c) := hk0
    have hsz : s.size ≤ 1000000 := H.out.2.2.1
    have hn1 : n + 1 ≤ 1000001 := by omega
    have HF := Lib.hid (And.intro hfa (And.intro hst (And.intro hr (And.intro hp' (And.intro hf (And.intro hn hXX))))))
    clear hfa hst hr hp' hf hXX hr0 hn hsz hgo
    go_upto_region 2 with fail
    go_cut [] (fun wx => TermCut R s (most : Int) d w n acc vs r0 wx)
    case first =>
      go_region_law (first
        | (refine step_call (by rfl) 164 #[.pointer (some ⟨R, 0, none⟩)] (by simp [go_sem]) ?_; refine HF.out.1.mono ?_; rintro e w3 ⟨t, u, rfl, hN0⟩; refine ⟨_, rfl, ?_⟩; (have hN : Node R s (most : Int) d r0 wr (.returned (.iface t u)) w3 := ⟨t, u, rfl, drew_turn hN0.1, hN0.2⟩); (have hs3 := HF.out.2.1.step H.out.2.2.2.2.1 (drew_turn hN0.1)); (have q0 := hs3.cell); (have qa : (w3.alloc (.cells #[.iface t u] 82)).cell? ⟨w.heap.size, 0, none⟩ = some (.slice a n c) := (World.cell?_alloc_lt _ _ _ hs3.lt).trans q0); (have row3 := hs3.row.alloc (.cells #[.iface t u] 82)); (have hlt3 := hs3.lt); (have hfz3 := hs3.frz); (have H3 := Lib.hid (And.intro hN hs3)); clear hN hN0 hs3)
        | (refine step_append_lies _ (by rfl) _ _ _ (by rfl) (w.heap.size + 1) 82 i0 _ 1 16 Tryz.underlying127 hi0 hz0 hz1 hz2 rfl (by omega) (.slice a n c) n vs (by rfl) row3 ⟨w3.heap.size, 0, none⟩ 1 1 [.iface t u] (by rfl) (by rfl) (World.news_of_block (cs := #[.iface t u]) (t := 82) (fr := (0, 0)) (heap_alloc_new w3 _)) (by simp [Value.oneCell']) (by omega) (by unfold maxLen; omega) (by omega) (by rw [World.size_alloc]; omega) (w3.heap.size + 1) (by simp) ?_; intro g cap w4 hrow4 hgrow hat hltg; (have hne : some w.heap.size ≠ (Value.slice a n c).ownBlock := by { intro e; cases a with | none => simp [Value.ownBlock] at e | some y => { simp only [Value.ownBlock, Option.some.injEq] at e; have := row_block row3 rfl; omega } }); (have c4 := (hgrow.cell_far ⟨w.heap.size, 0, none⟩ (by rw [World.size_alloc]; exact Nat.lt_succ_of_lt hlt3) hne).trans qa); (have f4 : w4.frozen? ⟨w.heap.size, 0, none⟩ = false := (World.frozen?_of_block (hgrow.block _ (by rw [World.size_alloc]; exact Nat.lt_succ_of_lt hlt3) hne)).trans ((World.frozen?_of_block (((Below.refl w3.heap.size w3).alloc (Nat.le_refl _) _).block _ hlt3)).trans hfz3)); (have hcut0 := term_cut H.out.2.2.2.2.1 HF.out.2.1 H3.out.1 rfl hgrow hrow4 hat f4 c4); (have H4 := Lib.hid hcut0); clear hcut0 hgrow hrow4 hat))
      all_goals go_wp2_with fail
      all_goals go_meet
      all_goals exact H4.out
    case rest =>
      obtain ⟨g, cap, t, u, hk, htw, h2⟩ := hcut
      have HK := Lib.hid (And.intro htw h2)
      have hX := HF.out.2.2.2.2.2.2
      clear htw h2 hkd
      cases r0 with
      | error e =>
        have h1 := HK.out.2
        have hsg := sign_any h1.1 h1.2 (by have := H.out.2.2.1; omega)
        simp only [skS, nxB, if_true] at hsg
        have H2 := Lib.hid (And.intro hsg (And.intro h1.2 hX))
        clear hsg h1 hX
        have n42 : ((((0 : UInt8).toNat : Nat) : Int) == 42) = false := by decide
        go_wp2_with (go_at_call_of 81 (Value.pointer (some ⟨R, 0, none⟩)); refine H2.out.1.mono ?_; rintro r w2 ⟨rfl, hr2, ht2⟩; have k2 := (ht2.cell (p := ⟨w.heap.size, 0, none⟩) (block_lt_of_cell hk) (fun (e : w.heap.size = R) => by have := H.out.2.2.2.2.1; omega)).trans hk; have H3 := Lib.hid (And.intro hr2 ht2); clear hr2 ht2)
        first | rw [Exit.noGoto_ret] | skip
        go_ret
        rw [H2.out.2.2]
        exact Node.err (HK.out.1.trans0 H3.out.2) H3.out.1 H2.out.2.1
      | ok z =>
        obtain ⟨x, q0⟩ := z
        have h1 := HK.out.2
        obtain ⟨q, hq⟩ : ∃ q, skipB L q0 = q := ⟨_, rfl⟩
        have hqs : q ≤ s.size := by rw [← hq, ← H.out.2.1]; exact skip_le (by have := H.out.2.1; have := h1.2.2; omega)
        obtain ⟨c, hc⟩ : ∃ c, byteAt L q = c := ⟨_, rfl⟩
        have hXX : X = if c = 42 then termP sub (decide (d < 16)) L most f (q + 1) (acc ++ [x]) else .ok (.prod (acc ++ [x]), q) := by
          rw [hX]
          simp only [hq, hc]
        have hsg := sign_any h1.2.1 h1.2.2 (by have := H.out.2.2.1; omega)
        rw [H.out.1] at hsg
        simp only [skS, nxB, Bool.false_eq_true, if_false, hq, hc] at hsg
        have hq0 : p' < q := by have := HG.out x q0 rfl; have := skip_ge L q0; omega
        have hw1 : IntKind.i64.wrap ((q : Int) + 1) = (q : Int) + 1 := by rw [IntKind.wrap_i64]; have := H.out.2.2.1; omega
        by_cases h42 : c = 42
        · subst h42
          have hq1 : q + 1 ≤ s.size := by have := byteAt_of hc (by decide); have := H.out.2.1; omega
          rw [if_pos rfl] at hXX
          have n42 : ((((42 : UInt8).toNat : Nat) : Int) == 42) = true := by decide
          have H2 := Lib.hid (And.intro hsg (And.intro h1.1 (And.intro hXX (And.intro hq1 hq0))))
          clear hsg h1 hXX hX hq1 hq0 hq hc hqs
          go_wp2_with (go_at_call_of 81 (Value.pointer (some ⟨R, 0, none⟩)); refine H2.out.1.mono ?_; rintro r w2 ⟨rfl, hr2, ht2⟩; have k1 := hr2.c1; have g1 := hr2.f1; have H3 := Lib.hid (And.intro hr2 ht2); clear hr2 ht2)
          have hr4 : RdrAt (w2.setCell ⟨R, 1, none⟩ (.int .i64 ((q : Int) + 1))) R s ((q + 1 : Nat) : Int) (most : Int) d false := H3.out.1.setAt ((q : Int) + 1)
          refine ⟨⟨f, q + 1, false, _, n + 1, cap, acc ++ [x], vs ++ [.iface t u], (H2.out.2.1.step H.out.2.2.2.2.1 H3.out.2).step H.out.2.2.2.2.1 (turn_set w2 R 1 (.int .i64 ((q : Int) + 1))), hr4, H2.out.2.2.2.1, ?_, ?_, H2.out.2.2.1⟩, ?_⟩
          · have := HF.out.2.2.2.2.1; have := H2.out.2.2.2.2; omega
          · have := HF.out.2.2.2.2.2.1; have := H2.out.2.2.2.2; omega
          · rw [hr4.atOf, HF.out.2.2.1.atOf]
            have := H2.out.2.2.2.1; have := H2.out.2.2.2.2; omega
        · rw [if_neg h42] at hXX
          have n42 : ((c.toNat : Int) == 42) = false := num_ne (k := 42) (by decide) h42
          have H2 := Lib.hid (And.intro hsg (And.intro h1.1 (And.intro hXX hqs)))
          clear hsg h1 hXX hX hqs hq0 hq hc h42
          go_wp2_with (go_at_call_of 81 (Value.pointer (some ⟨R, 0, none⟩)); refine H2.out.1.mono ?_; rintro r w2 ⟨rfl, hr2, ht2⟩; have k2 := (ht2.cell (p := ⟨w.heap.size, 0, none⟩) (block_lt_of_cell hk) (fun (e : w.heap.size = R) => by have := H.out.2.2.2.2.1; omega)).trans hk; have H3 := Lib.hid (And.intro hr2 ht2); clear hr2 ht2)
          first | rw [Exit.noGoto_ret] | skip
          go_ret
          rw [H2.out.2.2.1]
          have hs3 := H2.out.2.1.step H.out.2.2.2.2.1 H3.out.2
          refine Node.okd (HK.out.1.trans0 H3.out.2) ?_ H3.out.1 H2.out.2.2.2
          exact term_ex hs3 (by simp)
end Go.Proofs.YtdilmfakkppgpaaGreatDoor
