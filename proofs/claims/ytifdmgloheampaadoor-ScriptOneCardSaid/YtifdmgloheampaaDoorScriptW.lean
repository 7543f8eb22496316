/- The walk of the document's readAct. Condition: the text is short. -/
import Derived.Test.YtifdmgloheampaaDoorScriptV
import Derived.Test.YtifdmgloheampaaDoorScriptL
import Derived.Test.YtifdmgloheampaaDoorFlatE
import Derived.Deep.QuietTactic
import Derived.BigQuiet
import Derived.Deep.CutBlock
import Derived.Deep.DeepCutAuto
namespace Go.Proofs.YtifdmgloheampaaDoor
open Go.RowKit DiskM ScriptM

/-- the last kind below k whose word it is -/
def kindUp (l : List UInt8) : Nat → Int
  | 0 => 0
  | k + 1 => if 1 ≤ k ∧ word k = l then k else kindUp l k
theorem kindUp_all (l : List UInt8) : kindUp l 9 = kindR l := by
  by_cases h1 : l = word 1
  · subst h1; decide
  by_cases h2 : l = word 2
  · subst h2; decide
  by_cases h3 : l = word 3
  · subst h3; decide
  by_cases h4 : l = word 4
  · subst h4; decide
  by_cases h5 : l = word 5
  · subst h5; decide
  by_cases h6 : l = word 6
  · subst h6; decide
  by_cases h7 : l = word 7
  · subst h7; decide
  by_cases h8 : l = word 8
  · subst h8; decide
  have e : kindR l = 0 := by
    unfold kindR kindOf
    rw [if_neg h1, if_neg h2, if_neg h3, if_neg h4, if_neg h5, if_neg h6, if_neg h7, if_neg h8]; rfl
  have g1 := fun h => h1 (Eq.symm h)
  have g2 := fun h => h2 (Eq.symm h)
  have g3 := fun h => h3 (Eq.symm h)
  have g4 := fun h => h4 (Eq.symm h)
  have g5 := fun h => h5 (Eq.symm h)
  have g6 := fun h => h6 (Eq.symm h)
  have g7 := fun h => h7 (Eq.symm h)
  have g8 := fun h => h8 (Eq.symm h)
  rw [e]
  simp only [kindUp]
  rw [if_neg (fun h => g8 h.2), if_neg (fun h => g7 h.2), if_neg (fun h => g6 h.2), if_neg (fun h => g5 h.2), if_neg (fun h => g4 h.2), if_neg (fun h => g3 h.2), if_neg (fun h => g2 h.2), if_neg (fun h => g1 h.2)]
  simp
def zeroA : Array Value := #[.int .i64 0, .int .i64 0, .bool false, .slice none 0 0, .string ⟨#[]⟩, .int .u32 0]
def namesV : Array Value := #[sv [], sv (word 1), sv (word 2), sv (word 3), sv (word 4), sv (word 5), sv (word 6), sv (word 7), sv (word 8)]
/-- readAct's memory: the result's box, the act's box, the words -/
structure RAt (w0 : World) (Ha g : Nat) (ws : List (List UInt8)) (x : Array Value) (wr : World) : Prop where
  bel : Below w0.heap.size w0 wr
  zero : wr.heap[w0.heap.size]? = some (.cells zeroA 30 (0, 0))
  act : wr.heap[Ha]? = some (.cells x 30 (0, 0))
  word : ∀ (j : Nat) l, ws[j]? = some l → wr.cell? ⟨g, j, none⟩ = some (sv l)
  lt : w0.heap.size < Ha ∧ g < Ha ∧ g < wr.heap.size
section
variable {w0 wr w' : World} {Ha g : Nat} {ws : List (List UInt8)} {x : Array Value}
theorem RAt.call (h : RAt w0 Ha g ws x wr) (hb : Below wr.heap.size wr w') : RAt w0 Ha g ws x w' :=
  ⟨Below.next0 h.bel hb, (hb.block _ (Array.getElem?_eq_some_iff.1 h.zero).1).trans h.zero, (hb.block _ (Array.getElem?_eq_some_iff.1 h.act).1).trans h.act, fun j l hj => (hb.cell (p := ⟨g, j, none⟩) h.lt.2.2).trans (h.word j l hj), h.lt.1, h.lt.2.1, Nat.lt_of_lt_of_le h.lt.2.2 hb.size⟩
theorem RAt.drewN (h : RAt w0 Ha g ws x wr) (q : Nat) : RAt w0 Ha g ws x (wr.drewN q) := ⟨below_drewN h.bel q, h.zero, h.act, h.word, h.lt⟩
theorem RAt.set (h : RAt w0 Ha g ws x wr) (j : Nat) (v : Value) : RAt w0 Ha g ws (x.setIfInBounds j v) (wr.setCell ⟨Ha, j, none⟩ v) := by
  refine ⟨h.bel.setCell (p := ⟨Ha, j, none⟩) (Nat.le_of_lt h.lt.1) v, ?_, heap_setCell_same _ _ _ _ _ _ h.act, fun i l hi => ?_, h.lt.1, h.lt.2.1, ?_⟩
  · rw [Below.heap_setCell _ _ _ _ (by show w0.heap.size ≠ Ha; have := h.lt.1; omega)]; exact h.zero
  · rw [World.cell?_setCell_other _ _ _ _ (by intro e; injection e with e1; have := h.lt.2.1; omega)]; exact h.word i l hi
  · rw [World.size_setCell]; exact h.lt.2.2
theorem RAt.low (h : RAt w0 Ha g ws x wr) {B : Nat} (hb : Below B wr w') (hB : Ha < B) : RAt w0 Ha g ws x w' := by
  have h1 := h.lt.1
  have h2 := h.lt.2.1
  exact ⟨h.bel.trans (hb.mono (by omega)), (hb.block _ (by omega)).trans h.zero, (hb.block _ hB).trans h.act, fun j l hj => (hb.cell (p := ⟨g, j, none⟩) (by show g < B; omega)).trans (h.word j l hj), h1, h2, Nat.lt_of_lt_of_le h.lt.2.2 hb.size⟩
end
/-- only block R turns, cell by cell, into y's -/
structure EB (R : Nat) (y : Array Value) (T : TypeId) (w w' : World) : Prop where
  os : w'.os = w.os
  tape : w'.tape = w.tape
  output : w'.output = w.output
  size : w.heap.size ≤ w'.heap.size
  block : ∀ k, k < w.heap.size → k ≠ R → w'.heap[k]? = w.heap[k]?
  at_ : ∀ X, w.heap[R]? = some (.cells X T (0, 0)) → ∃ X', w'.heap[R]? = some (.cells X' T (0, 0)) ∧ X'.size = X.size ∧ ∀ j : Nat, X'[j]? = X[j]? ∨ X'[j]? = y[j]?
section
variable {R : Nat} {y : Array Value} {T : TypeId} {w w' w'' : World}
theorem EB.refl (R : Nat) (y : Array Value) (T : TypeId) (w : World) : EB R y T w w := ⟨rfl, rfl, rfl, Nat.le_refl _, fun _ _ _ => rfl, fun X hX => ⟨X, hX, rfl, fun _ => .inl rfl⟩⟩
theorem EB.trans (h : EB R y T w w') (k : EB R y T w' w'') : EB R y T w w'' :=
  ⟨k.os.trans h.os, k.tape.trans h.tape, k.output.trans h.output, Nat.le_trans h.size k.size, fun j hj hR => (k.block j (Nat.lt_of_lt_of_le hj h.size) hR).trans (h.block j hj hR), fun X hX => by
    obtain ⟨X1, h1, h2, h3⟩ := h.at_ X hX
    obtain ⟨X2, k1, k2, k3⟩ := k.at_ X1 h1
    refine ⟨X2, k1, k2.trans h2, fun j => ?_⟩
    rcases k3 j with e | e
    · rw [e]; exact h3 j
    · exact .inr e⟩
theorem EB.below (h : EB R y T w w') (hR : R ≤ w.heap.size) {n : Nat} (hn : n ≤ R) : Below n w w' := ⟨h.os, h.tape, h.output, h.size, fun k hk => h.block k (by omega) (by omega)⟩
theorem EB.cell (h : EB R y T w w') {b o : Nat} (hb : b < w.heap.size) (hR : b ≠ R) : w'.cell? ⟨b, o, none⟩ = w.cell? ⟨b, o, none⟩ := World.cell?_of_block (w := w) (h.block b hb hR)
theorem EB.set {X : Array Value} (hX : w.heap[R]? = some (.cells X T (0, 0))) (j : Nat) (v : Value) (hj : j < X.size) (hv : y[j]? = some v) : EB R y T w (w.setCell ⟨R, j, none⟩ v) ∧ (w.setCell ⟨R, j, none⟩ v).heap[R]? = some (.cells (X.setIfInBounds j v) T (0, 0)) := by
  have h := heap_setCell_same w R j _ _ v hX
  have hb := (Below.refl R w).setCell (p := ⟨R, j, none⟩) (Nat.le_refl _) v
  refine ⟨⟨hb.os, hb.tape, hb.output, hb.size, fun k _ hk => Below.heap_setCell _ _ _ _ hk, fun X2 hX2 => ?_⟩, h⟩
  rw [hX] at hX2
  injection hX2 with hX2
  injection hX2 with hX2
  subst hX2
  refine ⟨_, h, by simp, fun i => ?_⟩
  rw [Array.getElem?_setIfInBounds]
  split
  · next e =>
    subst e
    exact .inr hv.symm
  · exact .inl rfl
theorem EB.final (h : EB R y T w w') {X : Array Value} (hX : w.heap[R]? = some (.cells X T (0, 0))) (hd : ∀ j : Nat, X[j]? = y[j]? ∨ ∃ X', w'.heap[R]? = some (.cells X' T (0, 0)) ∧ X'[j]? = y[j]?) : w'.heap[R]? = some (.cells y T (0, 0)) := by
  obtain ⟨X', h1, h2, h3⟩ := h.at_ X hX
  have : X' = y := by
    refine Array.ext_getElem? fun j => ?_
    rcases hd j with e | ⟨X2, e1, e2⟩
    · rcases h3 j with e3 | e3
      · rw [e3, e]
      · exact e3
    · rw [h1] at e1
      injection e1 with e1
      injection e1 with e1
      subst e1; exact e2
  rw [h1, this]
end
/-- what the region's values are: fs names its stores -/
def ebV (R : Nat) (y : Array Value) (T : TypeId) (fs : List (Nat × Nat)) (cs : List Value) (i : Nat) (u : Value) (W : World) : Prop :=
  match fs.lookup i with
  | some j => ∃ X, W.heap[R]? = some (.cells X T (0, 0)) ∧ X[j]? = y[j]?
  | none => u = cs.getD i undef
section
variable {R : Nat} {y : Array Value} {T : TypeId} {fs : List (Nat × Nat)} {cs : List Value} {i : Nat} {u : Value} {W : World}
theorem ebV_at (h : fs.lookup i = none) (hv : ebV R y T fs cs i u W) : u = cs.getD i undef := by unfold ebV at hv; rwa [h] at hv
theorem ebV_mk (h : fs.lookup i = none) (hv : u = cs.getD i undef) : ebV R y T fs cs i u W := by unfold ebV; rwa [h]
theorem ebV_st {j : Nat} (h : fs.lookup i = some j) (hv : ebV R y T fs cs i u W) : ∃ X, W.heap[R]? = some (.cells X T (0, 0)) ∧ X[j]? = y[j]? := by unfold ebV at hv; rwa [h] at hv
theorem ebV_ms {j : Nat} (h : fs.lookup i = some j) {X : Array Value} (hX : W.heap[R]? = some (.cells X T (0, 0))) (hj : X[j]? = y[j]?) : ebV R y T fs cs i u W := by unfold ebV; rw [h]; exact ⟨X, hX, hj⟩
theorem ebV_keep (R : Nat) (y : Array Value) (T : TypeId) (fs : List (Nat × Nat)) (cs : List Value) (i : Nat) (v : Value) (w w' : World) (hv : ebV R y T fs cs i v w) (h : EB R y T w w') : ebV R y T fs cs i v w' := by
  unfold ebV at *
  split
  · next j hj =>
    rw [hj] at hv
    obtain ⟨X, hX, hx⟩ := hv
    obtain ⟨X', h1, h2, h3⟩ := h.at_ X hX
    refine ⟨X', h1, ?_⟩
    rcases h3 j with e | e
    · rw [e]; exact hx
    · exact e
  · next hn => rw [hn] at hv; exact hv
theorem ebV_none (h : (fs.lookup i).isSome = true) (v : Value) (w : World) (hv : ebV R y T fs cs i v w) : ebV R y T fs cs i undef w := by
  unfold ebV at *
  cases hl : fs.lookup i with
  | some j => rw [hl] at hv; exact hv
  | none => rw [hl] at h; cases h
end
theorem only_named {l : List Oper} {fs : List (Nat × Nat)} (h : (l.zipIdx.all fun p => p.1.dst.isSome || (fs.lookup p.2).isSome) = true) (i : Nat) (o : Oper) (ho : l[i]? = some o) (hd : o.dst = none) : (fs.lookup i).isSome = true := by
  have hm : (o, i) ∈ l.zipIdx := by rw [List.mem_zipIdx_iff_getElem?]; exact ho
  have := List.all_eq_true.1 h _ hm
  rw [hd] at this
  simpa using this
theorem rd_lit (w : World) (cs : Array Value) (t : TypeId) (bs : List UInt8) (h : cs.toList = bs.map bv) : Rd (w.alloc (.cells cs t (0, 0))) (w.heap.size + 1) (some ⟨w.heap.size, 0, none⟩) bs :=
  .inr ⟨_, _, rfl, by omega, fun j x hx => by
    rw [cell_of_row _ _ _ _ _ _ (heap_alloc_new _ _), ← Array.getElem?_toList, h, List.getElem?_map, Nat.zero_add, hx]; rfl⟩
/-- the numbers of a crash read so far -/
def RKeep (wt : List (List UInt8)) (keep : List UInt8) (j : Nat) : Prop := refKeep (wt.take 9) = (refKeep ((wt.take 9).drop j)).map (keep ++ ·)
theorem RKeep.zero (wt : List (List UInt8)) : RKeep wt [] 0 := by
  unfold RKeep
  rw [List.drop_zero]
  cases refKeep (wt.take 9) <;> simp
theorem nine_at {wt : List (List UInt8)} {j : Nat} {x : List UInt8} (hx : wt[j]? = some x) (h9 : j < 9) : (wt.take 9).drop j = x :: (wt.take 9).drop (j + 1) := by
  have h : (wt.take 9)[j]? = some x := by rw [List.getElem?_take, if_pos h9]; exact hx
  obtain ⟨hl, he⟩ := List.getElem?_eq_some_iff.1 h
  rw [List.drop_eq_getElem_cons hl, he]
theorem RKeep.bad {wt : List (List UInt8)} {keep : List UInt8} {j : Nat} {x : List UInt8} (h : RKeep wt keep j) (hx : wt[j]? = some x) (h9 : j < 9) (hb : numberM x < 0 ∨ 255 < numberM x) : refKeep (wt.take 9) = none := by
  unfold RKeep at h
  rw [h, nine_at hx h9]
  simp only [refKeep]
  rw [if_pos hb]; rfl
theorem RKeep.good {wt : List (List UInt8)} {keep : List UInt8} {j : Nat} {x : List UInt8} (h : RKeep wt keep j) (hx : wt[j]? = some x) (h9 : j < 9) (hb : ¬ (numberM x < 0 ∨ 255 < numberM x)) : RKeep wt (keep ++ [UInt8.ofNat (numberM x).toNat]) (j + 1) := by
  unfold RKeep at h ⊢
  rw [h, nine_at hx h9]
  simp only [refKeep]
  rw [if_neg hb]
  cases refKeep ((wt.take 9).drop (j + 1)) <;> simp
theorem RKeep.end_ {wt : List (List UInt8)} {keep : List UInt8} {j : Nat} (h : RKeep wt keep j) (hj : wt.length ≤ j ∨ 9 ≤ j) : refKeep (wt.take 9) = some keep := by
  unfold RKeep at h
  rw [h, List.drop_of_length_le (by rw [List.length_take]; omega)]
  simp [refKeep]
theorem own_place {w : World} {B : Nat} {a : Option Addr} {n c : Nat} {bs : List UInt8} (h : Own w (B + 1) a n c bs) : bs = [] ∨ ∃ g o, a = some ⟨g, o, none⟩ ∧ B < g := by
  rcases h.form with ⟨_, _, _, h0⟩ | ⟨g, cur, e, hB, _⟩
  · exact .inl h0
  · exact .inr ⟨g, 0, e, by omega⟩
theorem fill_none {K : Int} {wt : List (List UInt8)} {n : Nat} (hn : n = wt.length + 1) (h6 : K ≠ 6) (h8 : ¬ (K = 8 ∧ n = 4)) (h5 : ¬ (K = 5 ∧ n = 3)) (h2 : ¬ (K ≠ 4 ∧ K ≠ 8 ∧ n = 2)) : refFill K wt = some ⟨K, 0, false, [], [], 0⟩ := by
  unfold refFill
  rw [if_neg h6, if_neg (by omega), if_neg (by omega), if_neg (by omega)]
theorem fill_one {K : Int} {x : List UInt8} (h6 : K ≠ 6) (h8 : K ≠ 8) (h4 : K ≠ 4) : refFill K [x] = some ⟨K, numberM x, false, [], [], 0⟩ := by
  unfold refFill
  rw [if_neg h6, if_neg (by simp), if_neg (by simp), if_pos ⟨h4, h8, rfl⟩]
  rfl
theorem kindR_range (l : List UInt8) : kindR l = 0 ∨ kindR l = 1 ∨ kindR l = 2 ∨ kindR l = 3 ∨ kindR l = 4 ∨ kindR l = 5 ∨ kindR l = 6 ∨ kindR l = 7 ∨ kindR l = 8 := by
  unfold kindR kindOf
  repeat' split
  all_goals simp
/-- what lies in the boxes when the act is filled -/
def RFull (w0 : World) (Ha : Nat) (v : ActV) (wx : World) : Prop :=
  Below w0.heap.size w0 wx ∧ wx.heap[w0.heap.size]? = some (.cells zeroA 30 (0, 0)) ∧ wx.heap[Ha]? = some (.cells v.x.cells 30 (0, 0)) ∧ v.keep.length = v.x.kn ∧ v.x.kn ≤ 9 ∧ Rd wx wx.heap.size v.x.ka v.keep ∧ v.x.nm.size ≤ 1000 ∧ v.x.mask < 4294967296 ∧ (v.keep = [] ∨ ∃ g o, v.x.ka = some ⟨g, o, none⟩ ∧ Ha < g) ∧ w0.heap.size < Ha
theorem RAt.full {w0 wr : World} {Ha g : Nat} {ws : List (List UInt8)} {x : Array Value} (h : RAt w0 Ha g ws x wr) (K N : Int) (D : Bool) (nm : ByteArray) (m : Nat) (hx : x = #[.int .i64 K, .int .i64 N, .bool D, .slice none 0 0, .string nm, .int .u32 (m : Int)]) (hn : nm.size ≤ 1000) (hm : m < 4294967296) : RFull w0 Ha ⟨⟨K, N, D, none, 0, 0, nm, m⟩, []⟩ wr := by
  subst hx
  exact ⟨h.bel, h.zero, h.act, rfl, Nat.zero_le _, .inl rfl, hn, hm, .inl rfl, h.lt.1⟩
set_option maxRecDepth 100000 in
set_option maxHeartbeats 4000000 in
theorem readact_any (s : ByteArray) (w : World) (hs : s.size ≤ 1000) :
    Calls Tryd.prog 41 #[.string s] w fun e w' => ∃ v : ActV, e = .returned (.tuple #[.agg v.x.cells, .bool (refRead s.data.toList).isSome]) ∧ Below w.heap.size w w' ∧ ((refRead s.data.toList).isSome = true → refRead s.data.toList = some v.abs ∧ v.Ok w' w'.heap.size ∧ (v.keep = [] ∨ ∃ g o, v.x.ka = some ⟨g, o, none⟩ ∧ w.heap.size ≤ g)) := by
  obtain ⟨ws, hws⟩ : ∃ ws, parts s.data.toList = ws := ⟨_, rfl⟩
  have HW := Lib.hid hws
  have hrw := fun W => rwords_any s W (by omega)
  rw [hws] at hrw
  have HRW := Lib.hid hrw
  clear hws hrw
  go_enter Tryd.func41, Tryd.ntmps41
  go_wp2_with (refine (HRW.out _).mono ?_; rintro e w1 ⟨a, c, rfl, hrow, hb1⟩)
  obtain ⟨W2, hW2⟩ : ∃ W2, (w1.alloc (.cells #[.int .i64 0, .int .i64 0, .bool false, .slice none 0 0, .string ⟨#[]⟩, .int .u32 0] 30)).alloc (.cells #[.string ⟨#[]⟩, .string ⟨#[115, 116, 97, 114, 116]⟩, .string ⟨#[103, 111]⟩, .string ⟨#[99, 111, 109, 112, 97, 99, 116]⟩, .string ⟨#[111, 112, 101, 110]⟩, .string ⟨#[97, 114, 109]⟩, .string ⟨#[99, 114, 97, 115, 104]⟩, .string ⟨#[114, 111, 111, 109]⟩, .string ⟨#[102, 108, 105, 112]⟩] 9) = W2 := ⟨_, rfl⟩
  have hsz : w.heap.size < w1.heap.size := by have := hb1.size; simp at this; omega
  have hwne : ws ≠ [] := by rw [← HW.out]; exact parts_ne _
  obtain ⟨w0, wt, hwe⟩ : ∃ w0 wt, ws = w0 :: wt := by
    cases ws with
    | nil => exact absurd rfl hwne
    | cons x r => exact ⟨x, r, rfl⟩
  obtain ⟨g, hag, hgB, hgl, hg0⟩ := hrow.at_ (j := 0) (x := sv w0) (by rw [hwe]; rfl)
  subst hag
  have hra : RAt w w1.heap.size g ws zeroA W2 := by
    rw [← hW2]
    have hgl2 : g < w1.heap.size := hgl
    refine ⟨(((Below.refl _ _).alloc (Nat.le_refl _) _).trans (hb1.mono (by simp))).alloc (Nat.le_of_lt hsz) _ |>.alloc (by simp; omega) _, ?_, ?_, ?_, hsz, by omega, by simp; omega⟩
    · rw [Below.heap_alloc _ _ _ (by simp; omega), Below.heap_alloc _ _ _ hsz, hb1.block _ (by simp)]; exact heap_alloc_new _ _
    · rw [Below.heap_alloc _ _ _ (by simp)]; exact heap_alloc_new _ _
    · intro j l hj
      have hx : (ws.map sv)[j]? = some (sv l) := by rw [List.getElem?_map, hj]; rfl
      obtain ⟨g', e1, _, _, h4⟩ := hrow.at_ hx
      injection e1 with e1; injection e1 with e1; subst e1
      have hb : Below w1.heap.size w1 (((w1.alloc (.cells #[.int .i64 0, .int .i64 0, .bool false, .slice none 0 0, .string ⟨#[]⟩, .int .u32 0] 30)).alloc (.cells #[.string ⟨#[]⟩, .string ⟨#[115, 116, 97, 114, 116]⟩, .string ⟨#[103, 111]⟩, .string ⟨#[99, 111, 109, 112, 97, 99, 116]⟩, .string ⟨#[111, 112, 101, 110]⟩, .string ⟨#[97, 114, 109]⟩, .string ⟨#[99, 114, 97, 115, 104]⟩, .string ⟨#[114, 111, 111, 109]⟩, .string ⟨#[102, 108, 105, 112]⟩] 9))) := ((Below.refl _ _).alloc (Nat.le_refl _) _).alloc (by simp) _
      exact (hb.cell (p := ⟨g, j, none⟩) hgl2).trans h4
  have hnm : W2.heap[w1.heap.size + 1]? = some (.cells namesV 9 (0, 0)) := by
    have h := heap_alloc_new (w1.alloc (.cells #[.int .i64 0, .int .i64 0, .bool false, .slice none 0 0, .string ⟨#[]⟩, .int .u32 0] 30)) (.cells #[.string ⟨#[]⟩, .string ⟨#[115, 116, 97, 114, 116]⟩, .string ⟨#[103, 111]⟩, .string ⟨#[99, 111, 109, 112, 97, 99, 116]⟩, .string ⟨#[111, 112, 101, 110]⟩, .string ⟨#[97, 114, 109]⟩, .string ⟨#[99, 114, 97, 115, 104]⟩, .string ⟨#[114, 111, 111, 109]⟩, .string ⟨#[102, 108, 105, 112]⟩] 9)
    rw [World.size_alloc] at h
    rw [← hW2]; exact h
  have hw1s : w1.heap.size + 1 < W2.heap.size := (Array.getElem?_eq_some_iff.1 hnm).1
  have hlen : ws.length ≤ 1001 := by
    have h := parts_len s.data.toList
    rw [HW.out] at h
    have h2 : s.data.toList.length = s.size := by rw [Array.length_toList]; rfl
    omega
  have hpos : 0 < ws.length := by rw [hwe]; simp
  have HWE := Lib.hid hwe
  rw [hW2]
  clear hW2 hrow hb1 hwne hgB hg0 hwe
  obtain ⟨n, hn⟩ : ∃ n, ws.length = n := ⟨_, rfl⟩
  have HN := Lib.hid hn
  rw [hn] at hlen hpos ⊢
  clear hn
  go_loopw [7] (fun v wr => ∃ k : Nat, v = .int .i64 (k : Int) ∧ 1 ≤ k ∧ k ≤ 9 ∧ RAt w w1.heap.size g ws (zeroA.setIfInBounds 0 (.int .i64 (kindUp w0 k))) wr ∧ wr.heap[w1.heap.size + 1]? = some (.cells namesV 9 (0, 0))) (fun v _ => 9 - (intOf v).toNat)
  case atStart => exact ⟨1, rfl, by omega, by omega, hra, hnm⟩
  case round =>
    obtain ⟨k, rfl, hk1, hk9, hr, hnw⟩ := hrel
    by_cases hk : k < 9
    · have hk' : (k : Int) < 9 := by omega
      have hk0 : (0 : Int) ≤ (k : Int) := by omega
      have c0 : wr.cell? ⟨g, 0, none⟩ = some (sv w0) := hr.word 0 w0 (by rw [HWE.out]; rfl)
      have ck : wr.cell? ⟨w1.heap.size + 1, k, none⟩ = some (sv (word (k : Int))) := by
        rw [cell_of_row _ _ _ _ _ _ hnw]
        have : k = 1 ∨ k = 2 ∨ k = 3 ∨ k = 4 ∨ k = 5 ∨ k = 6 ∨ k = 7 ∨ k = 8 := by omega
        rcases this with rfl | rfl | rfl | rfl | rfl | rfl | rfl | rfl <;> rfl
      have hpos' : (0 : Int) < (n : Int) := by omega
      obtain ⟨wk, hwk⟩ : ∃ wk, word (k : Int) = wk := ⟨_, rfl⟩
      rw [hwk] at ck
      by_cases heq : wk = w0
      · have hku : kindUp w0 (k + 1) = (k : Int) := by show (if _ then _ else _) = _; rw [if_pos ⟨hk1, by rw [hwk]; exact heq⟩]
        subst heq
        have HK := Lib.hid (And.intro hku (And.intro hr hnw))
        clear hku hr hnw hwk
        go_wp2_with fail
        go_quiet (fail)
        have hr3 := HK.out.2.1.drewN nq
        have hn3 : (wr.drewN nq).heap[w1.heap.size + 1]? = some (.cells namesV 9 (0, 0)) := HK.out.2.2
        have HK1 := Lib.hid HK.out.1
        generalize wr.drewN nq = W3 at *
        have k0 : W3.cell? ⟨w1.heap.size, 0, none⟩ = some (.int .i64 (kindUp wk k)) := cell_of_row _ _ 0 _ _ _ hr3.act
        have f0 : W3.frozen? ⟨w1.heap.size, 0, none⟩ = false := frozen_of_row _ _ 0 _ _ hr3.act
        have H3 := Lib.hid (And.intro hr3 hn3)
        clear hr3 hn3 HK
        go_wp2_with fail
        go_roundw
        case rel =>
          refine ⟨k + 1, by go_num, by omega, by omega, ?_, ?_⟩
          · rw [HK1.out]
            exact H3.out.1.set 0 (.int .i64 (k : Int))
          · rw [Below.heap_setCell _ _ _ _ (by simp)]; exact H3.out.2
        case measure => simp [intOf]; omega
      · have hku : kindUp w0 (k + 1) = kindUp w0 k := by show (if _ then _ else _) = _; rw [if_neg (fun h => heq (by rw [← hwk]; exact h.2))]
        have HK := Lib.hid (And.intro hku (And.intro hr hnw))
        have hbe : (w0 == wk) = false := by rw [beq_eq_false_iff_ne]; exact fun e => heq e.symm
        clear hku hr hnw hwk
        go_wp2_with fail
        go_quiet (fail)
        go_wp2_with fail
        go_roundw
        case rel => exact ⟨k + 1, by go_num, by omega, by omega, by rw [HK.out.1]; exact HK.out.2.1.drewN nq, HK.out.2.2⟩
        case measure => simp [intOf]; omega
    · obtain rfl : k = 9 := by omega
      rw [kindUp_all] at hr
      clear hnw
      have hwt : ws.length = wt.length + 1 := by rw [HWE.out]; rfl
      rw [HN.out] at hwt
      obtain ⟨K, hK⟩ : ∃ K, kindR w0 = K := ⟨_, rfl⟩
      rw [hK] at hr
      have hKr := kindR_range w0
      rw [hK] at hKr
      have HK := Lib.hid hK
      have HR := Lib.hid hr
      have k0 : wr.cell? ⟨w1.heap.size, 0, none⟩ = some (.int .i64 K) := cell_of_row _ _ 0 _ _ _ hr.act
      have k1 : wr.cell? ⟨w1.heap.size, 1, none⟩ = some (.int .i64 0) := cell_of_row _ _ 1 _ _ _ hr.act
      have k2 : wr.cell? ⟨w1.heap.size, 2, none⟩ = some (.bool false) := cell_of_row _ _ 2 _ _ _ hr.act
      have k3 : wr.cell? ⟨w1.heap.size, 3, none⟩ = some (.slice none 0 0) := cell_of_row _ _ 3 _ _ _ hr.act
      have k4 : wr.cell? ⟨w1.heap.size, 4, none⟩ = some (.string ⟨#[]⟩) := cell_of_row _ _ 4 _ _ _ hr.act
      have k5 : wr.cell? ⟨w1.heap.size, 5, none⟩ = some (.int .u32 0) := cell_of_row _ _ 5 _ _ _ hr.act
      have y0 : wr.frozen? ⟨w1.heap.size, 0, none⟩ = false := frozen_of_row _ _ 0 _ _ hr.act
      have y1 : wr.frozen? ⟨w1.heap.size, 1, none⟩ = false := frozen_of_row _ _ 1 _ _ hr.act
      have y2 : wr.frozen? ⟨w1.heap.size, 2, none⟩ = false := frozen_of_row _ _ 2 _ _ hr.act
      have y3 : wr.frozen? ⟨w1.heap.size, 3, none⟩ = false := frozen_of_row _ _ 3 _ _ hr.act
      have y4 : wr.frozen? ⟨w1.heap.size, 4, none⟩ = false := frozen_of_row _ _ 4 _ _ hr.act
      have y5 : wr.frozen? ⟨w1.heap.size, 5, none⟩ = false := frozen_of_row _ _ 5 _ _ hr.act
      have hwd : ∀ l ∈ ws, l.length ≤ 1000 := fun l hl => by
        rw [← HW.out] at hl
        have h := parts_each _ l hl
        have h2 : s.data.toList.length = s.size := by rw [Array.length_toList]; rfl
        omega
      have HWD := Lib.hid hwd
      clear hK hr hwd
      go_upto_block 2 with fail
      go_cut [] (fun wx => ∃ v : ActV, refFill K wt = some v.abs ∧ RFull w w1.heap.size v wx)
      case first =>
        rcases hKr with rfl | rfl | rfl | rfl | rfl | rfl | rfl | rfl | rfl
        · by_cases h2 : n = 2
          · obtain ⟨x, hx⟩ : ∃ x, wt = [x] := by
              cases wt with
              | nil => exfalso; simp at hwt; omega
              | cons x r => cases r with
                | nil => exact ⟨x, rfl⟩
                | cons y r => exfalso; simp at hwt; omega
            have q1 : wr.cell? ⟨g, 1, none⟩ = some (sv x) := HR.out.word 1 x (by rw [HWE.out, hx]; rfl)
            have q2 : x.length ≤ 1000 := HWD.out x (by rw [HWE.out, hx]; simp)
            have hnu := number_any ⟨x.toArray⟩ wr (by show x.toArray.size ≤ _; rw [List.size_toArray]; omega)
            have Q3 := Lib.hid (show refFill 0 wt = some ⟨0, numberM x, false, [], [], 0⟩ by rw [hx]; exact fill_one (by decide) (by decide) (by decide))
            have n2 : ((n : Int) == 2) = true := by rw [beq_iff_eq]; omega
            have n2' : (n : Int) = 2 := by omega
            have n1 : (1 : Int) < (n : Int) := by omega
            clear q2 h2 hwt hx
            go_wp2_with (refine hnu.mono ?_; rintro e w' ⟨rfl, rfl⟩)
            go_meet
            exact ⟨⟨⟨0, numberM x, false, none, 0, 0, ⟨#[]⟩, 0⟩, []⟩, Q3.out, (HR.out.set 1 (.int .i64 (numberM x))).full _ _ _ _ _ rfl (by decide) (by decide)⟩
          · skip
            have Q3 := Lib.hid (fill_none (K := 0) hwt (by decide) (by omega) (by omega) (by omega))
            have n2 : ((n : Int) == 2) = false := by rw [beq_eq_false_iff_ne]; omega
            have m2 : ¬ ((n : Int) = 2) := by omega
            clear hwt
            go_wp2_with fail
            go_meet
            exact ⟨⟨⟨0, 0, false, none, 0, 0, ⟨#[]⟩, 0⟩, []⟩, Q3.out, HR.out.full _ _ _ _ _ rfl (by decide) (by decide)⟩
        · by_cases h2 : n = 2
          · obtain ⟨x, hx⟩ : ∃ x, wt = [x] := by
              cases wt with
              | nil => exfalso; simp at hwt; omega
              | cons x r => cases r with
                | nil => exact ⟨x, rfl⟩
                | cons y r => exfalso; simp at hwt; omega
            have q1 : wr.cell? ⟨g, 1, none⟩ = some (sv x) := HR.out.word 1 x (by rw [HWE.out, hx]; rfl)
            have q2 : x.length ≤ 1000 := HWD.out x (by rw [HWE.out, hx]; simp)
            have hnu := number_any ⟨x.toArray⟩ wr (by show x.toArray.size ≤ _; rw [List.size_toArray]; omega)
            have Q3 := Lib.hid (show refFill 1 wt = some ⟨1, numberM x, false, [], [], 0⟩ by rw [hx]; exact fill_one (by decide) (by decide) (by decide))
            have n2 : ((n : Int) == 2) = true := by rw [beq_iff_eq]; omega
            have n2' : (n : Int) = 2 := by omega
            have n1 : (1 : Int) < (n : Int) := by omega
            clear q2 h2 hwt hx
            go_wp2_with (refine hnu.mono ?_; rintro e w' ⟨rfl, rfl⟩)
            go_meet
            exact ⟨⟨⟨1, numberM x, false, none, 0, 0, ⟨#[]⟩, 0⟩, []⟩, Q3.out, (HR.out.set 1 (.int .i64 (numberM x))).full _ _ _ _ _ rfl (by decide) (by decide)⟩
          · skip
            have Q3 := Lib.hid (fill_none (K := 1) hwt (by decide) (by omega) (by omega) (by omega))
            have n2 : ((n : Int) == 2) = false := by rw [beq_eq_false_iff_ne]; omega
            have m2 : ¬ ((n : Int) = 2) := by omega
            clear hwt
            go_wp2_with fail
            go_meet
            exact ⟨⟨⟨1, 0, false, none, 0, 0, ⟨#[]⟩, 0⟩, []⟩, Q3.out, HR.out.full _ _ _ _ _ rfl (by decide) (by decide)⟩
        · by_cases h2 : n = 2
          · obtain ⟨x, hx⟩ : ∃ x, wt = [x] := by
              cases wt with
              | nil => exfalso; simp at hwt; omega
              | cons x r => cases r with
                | nil => exact ⟨x, rfl⟩
                | cons y r => exfalso; simp at hwt; omega
            have q1 : wr.cell? ⟨g, 1, none⟩ = some (sv x) := HR.out.word 1 x (by rw [HWE.out, hx]; rfl)
            have q2 : x.length ≤ 1000 := HWD.out x (by rw [HWE.out, hx]; simp)
            have hnu := number_any ⟨x.toArray⟩ wr (by show x.toArray.size ≤ _; rw [List.size_toArray]; omega)
            have Q3 := Lib.hid (show refFill 2 wt = some ⟨2, numberM x, false, [], [], 0⟩ by rw [hx]; exact fill_one (by decide) (by decide) (by decide))
            have n2 : ((n : Int) == 2) = true := by rw [beq_iff_eq]; omega
            have n2' : (n : Int) = 2 := by omega
            have n1 : (1 : Int) < (n : Int) := by omega
            clear q2 h2 hwt hx
            go_wp2_with (refine hnu.mono ?_; rintro e w' ⟨rfl, rfl⟩)
            go_meet
            exact ⟨⟨⟨2, numberM x, false, none, 0, 0, ⟨#[]⟩, 0⟩, []⟩, Q3.out, (HR.out.set 1 (.int .i64 (numberM x))).full _ _ _ _ _ rfl (by decide) (by decide)⟩
          · skip
            have Q3 := Lib.hid (fill_none (K := 2) hwt (by decide) (by omega) (by omega) (by omega))
            have n2 : ((n : Int) == 2) = false := by rw [beq_eq_false_iff_ne]; omega
            have m2 : ¬ ((n : Int) = 2) := by omega
            clear hwt
            go_wp2_with fail
            go_meet
            exact ⟨⟨⟨2, 0, false, none, 0, 0, ⟨#[]⟩, 0⟩, []⟩, Q3.out, HR.out.full _ _ _ _ _ rfl (by decide) (by decide)⟩
        · by_cases h2 : n = 2
          · obtain ⟨x, hx⟩ : ∃ x, wt = [x] := by
              cases wt with
              | nil => exfalso; simp at hwt; omega
              | cons x r => cases r with
                | nil => exact ⟨x, rfl⟩
                | cons y r => exfalso; simp at hwt; omega
            have q1 : wr.cell? ⟨g, 1, none⟩ = some (sv x) := HR.out.word 1 x (by rw [HWE.out, hx]; rfl)
            have q2 : x.length ≤ 1000 := HWD.out x (by rw [HWE.out, hx]; simp)
            have hnu := number_any ⟨x.toArray⟩ wr (by show x.toArray.size ≤ _; rw [List.size_toArray]; omega)
            have Q3 := Lib.hid (show refFill 3 wt = some ⟨3, numberM x, false, [], [], 0⟩ by rw [hx]; exact fill_one (by decide) (by decide) (by decide))
            have n2 : ((n : Int) == 2) = true := by rw [beq_iff_eq]; omega
            have n2' : (n : Int) = 2 := by omega
            have n1 : (1 : Int) < (n : Int) := by omega
            clear q2 h2 hwt hx
            go_wp2_with (refine hnu.mono ?_; rintro e w' ⟨rfl, rfl⟩)
            go_meet
            exact ⟨⟨⟨3, numberM x, false, none, 0, 0, ⟨#[]⟩, 0⟩, []⟩, Q3.out, (HR.out.set 1 (.int .i64 (numberM x))).full _ _ _ _ _ rfl (by decide) (by decide)⟩
          · skip
            have Q3 := Lib.hid (fill_none (K := 3) hwt (by decide) (by omega) (by omega) (by omega))
            have n2 : ((n : Int) == 2) = false := by rw [beq_eq_false_iff_ne]; omega
            have m2 : ¬ ((n : Int) = 2) := by omega
            clear hwt
            go_wp2_with fail
            go_meet
            exact ⟨⟨⟨3, 0, false, none, 0, 0, ⟨#[]⟩, 0⟩, []⟩, Q3.out, HR.out.full _ _ _ _ _ rfl (by decide) (by decide)⟩
        · skip
          have Q3 := Lib.hid (fill_none (K := 4) hwt (by decide) (by omega) (by omega) (by omega))
          clear hwt
          go_wp2_with fail
          go_meet
          exact ⟨⟨⟨4, 0, false, none, 0, 0, ⟨#[]⟩, 0⟩, []⟩, Q3.out, HR.out.full _ _ _ _ _ rfl (by decide) (by decide)⟩
        · by_cases h3 : n = 3
          · skip
            obtain ⟨x1, x2, hx⟩ : ∃ x1 x2, wt = [x1, x2] := by
              cases wt with
              | nil => exfalso; simp at hwt; omega
              | cons x r => cases r with
                | nil => exfalso; simp at hwt; omega
                | cons y r => cases r with
                  | nil => exact ⟨x, y, rfl⟩
                  | cons z r => exfalso; simp at hwt; omega
            have q1 : wr.cell? ⟨g, 1, none⟩ = some (sv x1) := HR.out.word 1 x1 (by rw [HWE.out, hx]; rfl)
            have q2 : wr.cell? ⟨g, 2, none⟩ = some (sv x2) := HR.out.word 2 x2 (by rw [HWE.out, hx]; rfl)
            have l1 : x1.length ≤ 1000 := HWD.out x1 (by rw [HWE.out, hx]; simp)
            have HN1 := Lib.hid (fun W => number_any ⟨x1.toArray⟩ W (by show x1.toArray.size ≤ _; rw [List.size_toArray]; omega))
            have Q3 := Lib.hid (show refFill 5 wt = some ⟨5, numberM x1, decide (x2 = doneW), [], [], 0⟩ by rw [hx]; rfl)
            have IX := Lib.hid (show (1 : Int) < (n : Int) ∧ (2 : Int) < (n : Int) by omega)
            have n3 : ((n : Int) == 3) = true := by rw [beq_iff_eq]; omega
            have n3' : (n : Int) = 3 := by omega
            clear l1 hwt hx h3
            go_upto_region 20 with fail
            have i1 := IX.out.1
            have i2 := IX.out.2
            refine wp_region_flatE (E := EB w1.heap.size #[.int .i64 5, .int .i64 (numberM x1), .bool (decide (x2 = doneW)), .slice none 0 0, .string ⟨#[]⟩, .int .u32 0] 30) (EB.refl _ _ _) (by kernel_rfl) (fun W => EB w1.heap.size #[.int .i64 5, .int .i64 (numberM x1), .bool (decide (x2 = doneW)), .slice none 0 0, .string ⟨#[]⟩, .int .u32 0] 30 wr W) (fun _ _ h h' => h.trans h') (ebV w1.heap.size #[.int .i64 5, .int .i64 (numberM x1), .bool (decide (x2 = doneW)), .slice none 0 0, .string ⟨#[]⟩, .int .u32 0] 30 [(9, 1), (11, 2)] [(.slice (some ⟨g, 0, none⟩) n c), (.pointer (some ⟨g, 1, none⟩)), (sv x1), (.int .i64 (numberM x1)), (.slice (some ⟨g, 0, none⟩) n c), (.pointer (some ⟨g, 2, none⟩)), (sv x2), (.bool (decide (x2 = doneW))), (.pointer (some ⟨w1.heap.size, 1, none⟩)), undef, (.pointer (some ⟨w1.heap.size, 2, none⟩)), undef]) (ebV_keep _ _ _ _ _) (fun i o ho hd => ebV_none (only_named (by kernel_rfl) i o ho hd)) (by kernel_rfl) ⟨rfl, rfl, rfl, Nat.le_refl _, fun _ _ _ => rfl, fun X hX => ⟨X, hX, rfl, fun _ => .inl rfl⟩⟩ ?_ ?_
            · skip
              refine ⟨fun a W hW hag hdep => ?_, ?_⟩
              · have e4 : a.tmps[4]?.getD undef = (.slice (some ⟨g, 0, none⟩) n c) := evalD (hag.keep (t := 4) (by kernel_rfl) rfl)
                refine flatE_on rfl ?_
                refine flatE_run (EB.refl _ _ _ _) (u := (.slice (some ⟨g, 0, none⟩) n c)) ?_ (ebV_mk rfl rfl)
                simp [go_sem, e4]
              refine ⟨fun a W hW hag hdep => ?_, ?_⟩
              · have e94 : a.tmps[94]?.getD undef = (.slice (some ⟨g, 0, none⟩) n c) := evalD (ebV_at rfl (hdep 0 (by decide)))
                refine flatE_on rfl ?_
                refine flatE_run (EB.refl _ _ _ _) (u := (.pointer (some ⟨g, 1, none⟩))) ?_ (ebV_mk rfl rfl)
                simp [go_sem, e94, i1]
              refine ⟨fun a W hW hag hdep => ?_, ?_⟩
              · have e95 : a.tmps[95]?.getD undef = (.pointer (some ⟨g, 1, none⟩)) := evalD (ebV_at rfl (hdep 1 (by decide)))
                have q0 : W.cell? ⟨g, 1, none⟩ = some (sv x1) := (hW.cell HR.out.lt.2.2 (Nat.ne_of_lt HR.out.lt.2.1)).trans q1
                refine flatE_on rfl ?_
                refine flatE_run (EB.refl _ _ _ _) (u := (sv x1)) ?_ (ebV_mk rfl rfl)
                simp [go_sem, e95, q0]
              refine ⟨fun a W hW hag hdep => ?_, ?_⟩
              · have e96 : a.tmps[96]?.getD undef = (sv x1) := evalD (ebV_at rfl (hdep 2 (by decide)))
                refine flatE_on rfl ?_
                refine flatE_call (f := 54) (args := #[sv x1]) (by simp [go_sem, e96]) ((HN1.out W).mono ?_)
                rintro e W' ⟨rfl, rfl⟩
                exact ⟨_, rfl, EB.refl _ _ _ _, ebV_mk rfl rfl⟩
              refine ⟨fun a W hW hag hdep => ?_, ?_⟩
              · have e4 : a.tmps[4]?.getD undef = (.slice (some ⟨g, 0, none⟩) n c) := evalD (hag.keep (t := 4) (by kernel_rfl) rfl)
                refine flatE_on rfl ?_
                refine flatE_run (EB.refl _ _ _ _) (u := (.slice (some ⟨g, 0, none⟩) n c)) ?_ (ebV_mk rfl rfl)
                simp [go_sem, e4]
              refine ⟨fun a W hW hag hdep => ?_, ?_⟩
              · have e98 : a.tmps[98]?.getD undef = (.slice (some ⟨g, 0, none⟩) n c) := evalD (ebV_at rfl (hdep 4 (by decide)))
                refine flatE_on rfl ?_
                refine flatE_run (EB.refl _ _ _ _) (u := (.pointer (some ⟨g, 2, none⟩))) ?_ (ebV_mk rfl rfl)
                simp [go_sem, e98, i2]
              refine ⟨fun a W hW hag hdep => ?_, ?_⟩
              · have e99 : a.tmps[99]?.getD undef = (.pointer (some ⟨g, 2, none⟩)) := evalD (ebV_at rfl (hdep 5 (by decide)))
                have q0 : W.cell? ⟨g, 2, none⟩ = some (sv x2) := (hW.cell HR.out.lt.2.2 (Nat.ne_of_lt HR.out.lt.2.1)).trans q2
                refine flatE_on rfl ?_
                refine flatE_run (EB.refl _ _ _ _) (u := (sv x2)) ?_ (ebV_mk rfl rfl)
                simp [go_sem, e99, q0]
              refine ⟨fun a W hW hag hdep => ?_, ?_⟩
              · have e100 : a.tmps[100]?.getD undef = (sv x2) := evalD (ebV_at rfl (hdep 6 (by decide)))
                refine flatE_on rfl ?_
                refine flatE_run (EB.refl _ _ _ _) (u := (.bool (decide (x2 = doneW)))) ?_ (ebV_mk rfl rfl)
                simp [go_sem, e100]
                show (x2 == doneW) = _
                rw [Bool.eq_iff_iff, beq_iff_eq, decide_eq_true_iff]
              refine ⟨fun a W hW hag hdep => ?_, ?_⟩
              · have e5 : a.tmps[5]?.getD undef = (.pointer (some ⟨w1.heap.size, 0, none⟩)) := evalD (hag.keep (t := 5) (by kernel_rfl) rfl)
                refine flatE_on rfl ?_
                refine flatE_run (EB.refl _ _ _ _) (u := (.pointer (some ⟨w1.heap.size, 1, none⟩))) ?_ (ebV_mk rfl rfl)
                simp [go_sem, e5]
              refine ⟨fun a W hW hag hdep => ?_, ?_⟩
              · have e102 : a.tmps[102]?.getD undef = (.pointer (some ⟨w1.heap.size, 1, none⟩)) := evalD (ebV_at rfl (hdep 8 (by decide)))
                have e97 : a.tmps[97]?.getD undef = (.int .i64 (numberM x1)) := evalD (ebV_at rfl (hdep 3 (by decide)))
                refine flatE_on rfl ?_
                obtain ⟨X, hX, hX6, _⟩ := hW.at_ _ HR.out.act
                have hX6 : X.size = 6 := hX6
                have z0 : W.cell? ⟨w1.heap.size, 1, none⟩ = some (X.getD 1 undef) := store_cell hX hX6 1 (by decide)
                have y0 : W.frozen? ⟨w1.heap.size, 1, none⟩ = false := frozen_of_row _ _ _ _ _ hX
                obtain ⟨s1, s2⟩ := EB.set (y := #[.int .i64 5, .int .i64 (numberM x1), .bool (decide (x2 = doneW)), .slice none 0 0, .string ⟨#[]⟩, .int .u32 0]) hX 1 (.int .i64 (numberM x1)) (by rw [hX6]; decide) rfl
                refine flatE_skip (w' := W.setCell ⟨w1.heap.size, 1, none⟩ (.int .i64 (numberM x1))) ?_ s1 (ebV_ms rfl s2 (by rw [Array.getElem?_setIfInBounds_self, if_pos (by rw [hX6]; decide)]; rfl))
                simp [go_sem, e102, e97, z0, y0]
              refine ⟨fun a W hW hag hdep => ?_, ?_⟩
              · have e5 : a.tmps[5]?.getD undef = (.pointer (some ⟨w1.heap.size, 0, none⟩)) := evalD (hag.keep (t := 5) (by kernel_rfl) rfl)
                refine flatE_on rfl ?_
                refine flatE_run (EB.refl _ _ _ _) (u := (.pointer (some ⟨w1.heap.size, 2, none⟩))) ?_ (ebV_mk rfl rfl)
                simp [go_sem, e5]
              refine ⟨fun a W hW hag hdep => ?_, ?_⟩
              · have e103 : a.tmps[103]?.getD undef = (.pointer (some ⟨w1.heap.size, 2, none⟩)) := evalD (ebV_at rfl (hdep 10 (by decide)))
                have e101 : a.tmps[101]?.getD undef = (.bool (decide (x2 = doneW))) := evalD (ebV_at rfl (hdep 7 (by decide)))
                refine flatE_on rfl ?_
                obtain ⟨X, hX, hX6, _⟩ := hW.at_ _ HR.out.act
                have hX6 : X.size = 6 := hX6
                have z0 : W.cell? ⟨w1.heap.size, 2, none⟩ = some (X.getD 2 undef) := store_cell hX hX6 2 (by decide)
                have y0 : W.frozen? ⟨w1.heap.size, 2, none⟩ = false := frozen_of_row _ _ _ _ _ hX
                obtain ⟨s1, s2⟩ := EB.set (y := #[.int .i64 5, .int .i64 (numberM x1), .bool (decide (x2 = doneW)), .slice none 0 0, .string ⟨#[]⟩, .int .u32 0]) hX 2 (.bool (decide (x2 = doneW))) (by rw [hX6]; decide) rfl
                refine flatE_skip (w' := W.setCell ⟨w1.heap.size, 2, none⟩ (.bool (decide (x2 = doneW)))) ?_ s1 (ebV_ms rfl s2 (by rw [Array.getElem?_setIfInBounds_self, if_pos (by rw [hX6]; decide)]; rfl))
                simp [go_sem, e103, e101, z0, y0]
              exact trivial
            · intro vs W5 hW5 hvs
              have v0 : vs 0 = _ := ebV_at rfl (hvs 0 (by decide))
              have v1 : vs 1 = _ := ebV_at rfl (hvs 1 (by decide))
              have v2 : vs 2 = _ := ebV_at rfl (hvs 2 (by decide))
              have v3 : vs 3 = _ := ebV_at rfl (hvs 3 (by decide))
              have v4 : vs 4 = _ := ebV_at rfl (hvs 4 (by decide))
              have v5 : vs 5 = _ := ebV_at rfl (hvs 5 (by decide))
              have v6 : vs 6 = _ := ebV_at rfl (hvs 6 (by decide))
              have v7 : vs 7 = _ := ebV_at rfl (hvs 7 (by decide))
              have v8 : vs 8 = _ := ebV_at rfl (hvs 8 (by decide))
              have v10 : vs 10 = _ := ebV_at rfl (hvs 10 (by decide))
              have hfin := hW5.final HR.out.act (fun j => ?hd)
              case hd =>
                match j with
                | 0 => exact .inl rfl
                | 1 => exact .inr (ebV_st (j := 1) rfl (hvs 9 (by decide)))
                | 2 => exact .inr (ebV_st (j := 2) rfl (hvs 11 (by decide)))
                | 3 => exact .inl rfl
                | 4 => exact .inl rfl
                | 5 => exact .inl rfl
                | j + 6 => exact .inl rfl
              simp only [putAll, Act.put, List.setIfInBounds_toArray, List.set_cons_zero, List.set_cons_succ]
              rw [v0, v1, v2, v3, v4, v5, v6, v7, v8, v10]
              have HF := Lib.hid hfin
              have HW5 := Lib.hid (show EB w1.heap.size _ _ wr W5 from hW5)
              clear v0 v1 v2 v3 v4 v5 v6 v7 v8 v10 hvs hW5 hfin
              go_wp2_with fail
              go_meet
              have hRz := HR.out
              exact ⟨⟨⟨5, numberM x1, decide (x2 = doneW), none, 0, 0, ⟨#[]⟩, 0⟩, []⟩, Q3.out, hRz.bel.trans (HW5.out.below (Nat.le_of_lt (Array.getElem?_eq_some_iff.1 hRz.act).1) (Nat.le_of_lt hRz.lt.1)), (HW5.out.block _ (Nat.lt_trans hRz.lt.1 (Array.getElem?_eq_some_iff.1 hRz.act).1) (Nat.ne_of_lt hRz.lt.1)).trans hRz.zero, HF.out, rfl, Nat.zero_le _, .inl rfl, by show 0 ≤ 1000; decide, by show 0 < 4294967296; decide, .inl rfl, hRz.lt.1⟩
          · have n3 : ((n : Int) == 3) = false := by rw [beq_eq_false_iff_ne]; omega
            have m3 : ¬ ((n : Int) = 3) := by omega
            · by_cases h2 : n = 2
              · obtain ⟨x, hx⟩ : ∃ x, wt = [x] := by
                  cases wt with
                  | nil => exfalso; simp at hwt; omega
                  | cons x r => cases r with
                    | nil => exact ⟨x, rfl⟩
                    | cons y r => exfalso; simp at hwt; omega
                have q1 : wr.cell? ⟨g, 1, none⟩ = some (sv x) := HR.out.word 1 x (by rw [HWE.out, hx]; rfl)
                have q2 : x.length ≤ 1000 := HWD.out x (by rw [HWE.out, hx]; simp)
                have hnu := number_any ⟨x.toArray⟩ wr (by show x.toArray.size ≤ _; rw [List.size_toArray]; omega)
                have Q3 := Lib.hid (show refFill 5 wt = some ⟨5, numberM x, false, [], [], 0⟩ by rw [hx]; exact fill_one (by decide) (by decide) (by decide))
                have n2 : ((n : Int) == 2) = true := by rw [beq_iff_eq]; omega
                have n2' : (n : Int) = 2 := by omega
                have n1 : (1 : Int) < (n : Int) := by omega
                clear q2 h2 hwt hx
                go_wp2_with (refine hnu.mono ?_; rintro e w' ⟨rfl, rfl⟩)
                go_meet
                exact ⟨⟨⟨5, numberM x, false, none, 0, 0, ⟨#[]⟩, 0⟩, []⟩, Q3.out, (HR.out.set 1 (.int .i64 (numberM x))).full _ _ _ _ _ rfl (by decide) (by decide)⟩
              · skip
                have Q3 := Lib.hid (fill_none (K := 5) hwt (by decide) (by omega) (by omega) (by omega))
                have n2 : ((n : Int) == 2) = false := by rw [beq_eq_false_iff_ne]; omega
                have m2 : ¬ ((n : Int) = 2) := by omega
                clear hwt
                go_wp2_with fail
                go_meet
                exact ⟨⟨⟨5, 0, false, none, 0, 0, ⟨#[]⟩, 0⟩, []⟩, Q3.out, HR.out.full _ _ _ _ _ rfl (by decide) (by decide)⟩
        · skip
          go_wp2_with fail
          go_loopw [8] (fun v wr => ∃ (J j : Nat) (keep : List UInt8) (ka : Option Addr) (kc : Nat), v = .int .i64 (J : Int) ∧ Hid (j + 1 = J) ∧ j ≤ wt.length ∧ j ≤ 9 ∧ keep.length = j ∧ RKeep wt keep j ∧ RAt w w1.heap.size g ws #[.int .i64 6, .int .i64 0, .bool false, .slice ka j kc, .string ⟨#[]⟩, .int .u32 0] wr ∧ Own wr (w1.heap.size + 1) ka j kc keep ∧ w1.heap.size + 1 ≤ wr.heap.size) (fun v _ => 10 - (intOf v).toNat)
          case atStart => exact ⟨1, 0, [], none, 0, rfl, Lib.hid rfl, Nat.zero_le _, Nat.zero_le _, rfl, RKeep.zero wt, HR.out, (Row.nil_ _ _ _ _).own, Nat.lt_of_lt_of_le (Nat.lt_succ_self _) (Array.getElem?_eq_some_iff.1 HR.out.act).1⟩
          case round =>
            obtain ⟨J, j, keep, ka, kc, rfl, hJh, hj1, hj9, hkl, hrk, hra6, hown, hls⟩ := hrel
            have hJ := hJh.out
            clear hJh
            have a0 : wr.cell? ⟨w1.heap.size, 0, none⟩ = some (.int .i64 6) := cell_of_row _ _ 0 _ _ _ hra6.act
            have a1 : wr.cell? ⟨w1.heap.size, 1, none⟩ = some (.int .i64 0) := cell_of_row _ _ 1 _ _ _ hra6.act
            have a2 : wr.cell? ⟨w1.heap.size, 2, none⟩ = some (.bool false) := cell_of_row _ _ 2 _ _ _ hra6.act
            have a3 : wr.cell? ⟨w1.heap.size, 3, none⟩ = some (.slice ka j kc) := cell_of_row _ _ 3 _ _ _ hra6.act
            have a4 : wr.cell? ⟨w1.heap.size, 4, none⟩ = some (.string ⟨#[]⟩) := cell_of_row _ _ 4 _ _ _ hra6.act
            have a5 : wr.cell? ⟨w1.heap.size, 5, none⟩ = some (.int .u32 0) := cell_of_row _ _ 5 _ _ _ hra6.act
            clear k0 k1 k2 k3 k4 k5 y0 y1 y2 y3 y4 y5
            by_cases hlt : j < wt.length ∧ j < 9
            · have i1 : (J : Int) < (n : Int) := by omega
              have i2 : (J : Int) < 10 := by omega
              have i0 : (0 : Int) ≤ (J : Int) := by omega
              obtain ⟨x, hx⟩ : ∃ x, wt[j]? = some x := ⟨_, List.getElem?_eq_getElem hlt.1⟩
              have hwx : ws[j + 1]? = some x := by rw [HWE.out]; simpa using hx
              have q1 : wr.cell? ⟨g, j + 1, none⟩ = some (sv x) := hra6.word (j + 1) x hwx
              have hxl : x.length ≤ 1000 := HWD.out x (List.mem_of_getElem? hwx)
              rw [hJ] at q1
              have hnu := number_any ⟨x.toArray⟩ wr (by show x.toArray.size ≤ _; rw [List.size_toArray]; omega)
              have hnu : Calls Tryd.prog 54 #[sv x] wr fun e w' => e = .returned (.int .i64 (numberM x)) ∧ wr = w' := hnu
              by_cases hbad : numberM x < 0 ∨ 255 < numberM x
              · have hno : refFill 6 wt = none := by
                  have := hrk.bad hx hlt.2 hbad
                  unfold refFill
                  rw [if_pos rfl, this]; rfl
                have HNO := Lib.hid hno
                have HRA := Lib.hid hra6
                have z0 : wr.cell? ⟨w.heap.size, 0, none⟩ = some (.int .i64 0) := cell_of_row _ _ 0 _ _ _ hra6.zero
                have z1 : wr.cell? ⟨w.heap.size, 1, none⟩ = some (.int .i64 0) := cell_of_row _ _ 1 _ _ _ hra6.zero
                have z2 : wr.cell? ⟨w.heap.size, 2, none⟩ = some (.bool false) := cell_of_row _ _ 2 _ _ _ hra6.zero
                have z3 : wr.cell? ⟨w.heap.size, 3, none⟩ = some (.slice none 0 0) := cell_of_row _ _ 3 _ _ _ hra6.zero
                have z4 : wr.cell? ⟨w.heap.size, 4, none⟩ = some (.string ⟨#[]⟩) := cell_of_row _ _ 4 _ _ _ hra6.zero
                have z5 : wr.cell? ⟨w.heap.size, 5, none⟩ = some (.int .u32 0) := cell_of_row _ _ 5 _ _ _ hra6.zero
                have y0 := frozen_of_row _ _ 0 _ _ hra6.zero
                have y1 := frozen_of_row _ _ 1 _ _ hra6.zero
                have y2 := frozen_of_row _ _ 2 _ _ hra6.zero
                have y3 := frozen_of_row _ _ 3 _ _ hra6.zero
                have y4 := frozen_of_row _ _ 4 _ _ hra6.zero
                have y5 := frozen_of_row _ _ 5 _ _ hra6.zero
                obtain ⟨s1, s2⟩ := store_six hra6.zero rfl (.int .i64 6) (.int .i64 0) (.bool false) (.slice ka j kc) (.string ⟨#[]⟩) (.int .u32 0)
                have HS1 := Lib.hid (And.intro s1 s2)
                obtain ⟨N, hN⟩ : ∃ N, numberM x = N := ⟨_, rfl⟩
                rw [hN] at hnu hbad
                clear hno hra6 s1 s2 hrk hown hx hwx hxl hN
                have fin : ∀ W5, W5 = ((((((wr.setCell ⟨w.heap.size, 0, none⟩ (.int .i64 6)).setCell ⟨w.heap.size, 1, none⟩ (.int .i64 0)).setCell ⟨w.heap.size, 2, none⟩ (.bool false)).setCell ⟨w.heap.size, 3, none⟩ (.slice ka j kc)).setCell ⟨w.heap.size, 4, none⟩ (.string ⟨#[]⟩)).setCell ⟨w.heap.size, 5, none⟩ (.int .u32 0)) →
                    (W5.cell? ⟨w.heap.size, 0, none⟩ = some (.int .i64 6) ∧ W5.cell? ⟨w.heap.size, 1, none⟩ = some (.int .i64 0) ∧ W5.cell? ⟨w.heap.size, 2, none⟩ = some (.bool false) ∧ W5.cell? ⟨w.heap.size, 3, none⟩ = some (.slice ka j kc) ∧ W5.cell? ⟨w.heap.size, 4, none⟩ = some (.string ⟨#[]⟩) ∧ W5.cell? ⟨w.heap.size, 5, none⟩ = some (.int .u32 0)) ∧ Below w.heap.size w W5 := fun W5 hW5 => by
                  have s2 := HS1.out.2
                  rw [← hW5] at s2
                  have s1 := HS1.out.1
                  rw [← hW5] at s1
                  exact ⟨⟨cell_of_row _ _ 0 _ _ _ s2, cell_of_row _ _ 1 _ _ _ s2, cell_of_row _ _ 2 _ _ _ s2, cell_of_row _ _ 3 _ _ _ s2, cell_of_row _ _ 4 _ _ _ s2, cell_of_row _ _ 5 _ _ _ s2⟩, HRA.out.bel.trans (s1.below (Nat.le_of_lt (Array.getElem?_eq_some_iff.1 HRA.out.zero).1))⟩
                have HFI := Lib.hid fin
                have hnone : refRead s.data.toList = none := by
                  unfold refRead
                  rw [HW.out, HWE.out]
                  show (match refFill (kindR w0) wt with | none => none | some a => if right a = true ∧ shown a = s.data.toList then some a else none) = none
                  rw [HK.out, HNO.out]
                have HNN := Lib.hid hnone
                clear fin hnone hwt
                rcases (show N < 0 ∨ (0 ≤ N ∧ 255 < N) by omega) with b1 | ⟨b1, b2⟩
                · go_wp2_with (refine hnu.mono ?_; rintro e w' ⟨rfl, rfl⟩)
                  generalize hW5 : ((((((wr.setCell ⟨w.heap.size, 0, none⟩ (.int .i64 6)).setCell ⟨w.heap.size, 1, none⟩ (.int .i64 0)).setCell ⟨w.heap.size, 2, none⟩ (.bool false)).setCell ⟨w.heap.size, 3, none⟩ (.slice ka j kc)).setCell ⟨w.heap.size, 4, none⟩ (.string ⟨#[]⟩)).setCell ⟨w.heap.size, 5, none⟩ (.int .u32 0)) = W5
                  obtain ⟨⟨r0, r1, r2, r3, r4, r5⟩, hb5⟩ := HFI.out W5 hW5.symm
                  rw [HNN.out]
                  refine ⟨rfl, _, by simp [results, go_sem, r0, r1, r2, r3, r4, r5]; rfl, ⟨⟨6, 0, false, ka, j, kc, ⟨#[]⟩, 0⟩, keep⟩, rfl, hb5, fun h => by cases h⟩
                · go_wp2_with (refine hnu.mono ?_; rintro e w' ⟨rfl, rfl⟩)
                  generalize hW5 : ((((((wr.setCell ⟨w.heap.size, 0, none⟩ (.int .i64 6)).setCell ⟨w.heap.size, 1, none⟩ (.int .i64 0)).setCell ⟨w.heap.size, 2, none⟩ (.bool false)).setCell ⟨w.heap.size, 3, none⟩ (.slice ka j kc)).setCell ⟨w.heap.size, 4, none⟩ (.string ⟨#[]⟩)).setCell ⟨w.heap.size, 5, none⟩ (.int .u32 0)) = W5
                  obtain ⟨⟨r0, r1, r2, r3, r4, r5⟩, hb5⟩ := HFI.out W5 hW5.symm
                  rw [HNN.out]
                  refine ⟨rfl, _, by simp [results, go_sem, r0, r1, r2, r3, r4, r5]; rfl, ⟨⟨6, 0, false, ka, j, kc, ⟨#[]⟩, 0⟩, keep⟩, rfl, hb5, fun h => by cases h⟩
              · obtain ⟨ch, hch⟩ : ∃ ch : UInt8, numberM x = (ch.toNat : Int) ∧ UInt8.ofNat (numberM x).toNat = ch := by
                  refine ⟨UInt8.ofNat (numberM x).toNat, ?_, rfl⟩
                  rw [UInt8.toNat_ofNat']; omega
                have hrk2 := hrk.good hx hlt.2 hbad
                rw [hch.2] at hrk2
                rw [hch.1] at hnu
                have c1 : (0 : Int) ≤ (ch.toNat : Int) := by omega
                have c2 : (ch.toNat : Int) ≤ 255 := by have := ch.toNat_lt; omega
                have hlg := hra6.lt
                have hb1 : Below (w1.heap.size + 1) wr (wr.alloc (.cells #[.int .u8 (ch.toNat : Int)] 5)) := (Below.refl _ _).alloc hls _
                have hlB : w1.heap.size + 1 ≤ (wr.alloc (.cells #[.int .u8 (ch.toNat : Int)] 5)).heap.size := Nat.le_trans hls hb1.size
                have hown1 := hown.alloc (.cells #[.int .u8 (ch.toNat : Int)] 5)
                have hr1 := rd_lit wr #[.int .u8 (ch.toNat : Int)] 5 [ch] rfl
                have f3 : wr.frozen? ⟨w1.heap.size, 3, none⟩ = false := frozen_of_row _ _ 3 _ _ hra6.act
                have K3 := Lib.hid (And.intro a3 f3)
                have HX := Lib.hid (And.intro hrk2 (And.intro hra6 (And.intro hkl hJ)))
                have HWT := Lib.hid hwt
                clear hwt hrk2 hra6 hbad hx hwx hxl hrk hown f3 hch hlg
                go_wp2_with (first | (refine hnu.mono ?_; rintro e w' ⟨rfl, rfl⟩) | (at_builtin; refine wpList_append_b rfl (.tmp 56) (.tmp 59) rfl wr _ (w1.heap.size + 1) hb1 hlB ka j kc keep rfl hown1 _ (some ⟨wr.heap.size, 0, none⟩) 1 1 [ch] rfl hr1 rfl (j + 1) rfl (by omega) ?_; intro a6 c6 w6 ho6 hg6 hb6 _; have k6 : w6.cell? ⟨w1.heap.size, 3, none⟩ = some (.slice ka j kc) := (hb6.cell (p := ⟨w1.heap.size, 3, none⟩) (Nat.lt_succ_self w1.heap.size)).trans K3.out.1; have f6 : w6.frozen? ⟨w1.heap.size, 3, none⟩ = false := (hb6.frozen (p := ⟨w1.heap.size, 3, none⟩) (Nat.lt_succ_self w1.heap.size)).trans K3.out.2))
                go_roundw
                case rel =>
                  obtain ⟨hrk2, hra6, hkl, hJ⟩ := HX.out
                  subst hJ
                  refine ⟨j + 1 + 1, by go_num, j + 1, Lib.hid rfl, by omega, by omega, keep ++ [ch], by rw [List.length_append, hkl]; rfl, hrk2, a6, c6, ?_, ?_, ?_⟩
                  · exact (hra6.low hb6 (Nat.lt_succ_self _)).set 3 (.slice a6 (j + 1) c6)
                  · refine Own.far ho6 (fun x hx => ?_) _
                    rcases ho6.form with ⟨h0, _⟩ | ⟨g6, cur, e6, hB6, _⟩
                    · rw [h0] at hx; cases hx
                    · rw [e6] at hx; injection hx with hx; subst hx
                      show g6 ≠ w1.heap.size
                      omega
                  · exact Nat.le_trans hls hb6.size
                case measure => simp [intOf]; omega
            · have hend : refFill 6 wt = some ⟨6, 0, false, keep, [], 0⟩ := by
                have := hrk.end_ (by omega)
                unfold refFill
                rw [if_pos rfl, this]; rfl
              have HEN := Lib.hid hend
              have HX := Lib.hid (And.intro hra6 (And.intro hown hkl))
              have hj10 : j + 1 ≤ 10 := by omega
              clear hend hra6 hown hrk a0 a1 a2 a3 a4 a5
              rcases (show ¬ ((J : Int) < (n : Int)) ∨ ((J : Int) < (n : Int) ∧ ¬ ((J : Int) < 10)) by omega) with b1 | ⟨b1, b2⟩ <;> clear hwt
              · go_wp2_with fail
                go_meet
                obtain ⟨hra6, hown, hkl⟩ := HX.out
                exact ⟨⟨⟨6, 0, false, ka, j, kc, ⟨#[]⟩, 0⟩, keep⟩, HEN.out, hra6.bel, hra6.zero, hra6.act, hkl, hj9, hown.rd, by show 0 ≤ 1000; decide, by show 0 < 4294967296; decide, own_place hown, hra6.lt.1⟩
              · go_wp2_with fail
                go_meet
                obtain ⟨hra6, hown, hkl⟩ := HX.out
                exact ⟨⟨⟨6, 0, false, ka, j, kc, ⟨#[]⟩, 0⟩, keep⟩, HEN.out, hra6.bel, hra6.zero, hra6.act, hkl, hj9, hown.rd, by show 0 ≤ 1000; decide, by show 0 < 4294967296; decide, own_place hown, hra6.lt.1⟩
        · by_cases h2 : n = 2
          · obtain ⟨x, hx⟩ : ∃ x, wt = [x] := by
              cases wt with
              | nil => exfalso; simp at hwt; omega
              | cons x r => cases r with
                | nil => exact ⟨x, rfl⟩
                | cons y r => exfalso; simp at hwt; omega
            have q1 : wr.cell? ⟨g, 1, none⟩ = some (sv x) := HR.out.word 1 x (by rw [HWE.out, hx]; rfl)
            have q2 : x.length ≤ 1000 := HWD.out x (by rw [HWE.out, hx]; simp)
            have hnu := number_any ⟨x.toArray⟩ wr (by show x.toArray.size ≤ _; rw [List.size_toArray]; omega)
            have Q3 := Lib.hid (show refFill 7 wt = some ⟨7, numberM x, false, [], [], 0⟩ by rw [hx]; exact fill_one (by decide) (by decide) (by decide))
            have n2 : ((n : Int) == 2) = true := by rw [beq_iff_eq]; omega
            have n2' : (n : Int) = 2 := by omega
            have n1 : (1 : Int) < (n : Int) := by omega
            clear q2 h2 hwt hx
            go_wp2_with (refine hnu.mono ?_; rintro e w' ⟨rfl, rfl⟩)
            go_meet
            exact ⟨⟨⟨7, numberM x, false, none, 0, 0, ⟨#[]⟩, 0⟩, []⟩, Q3.out, (HR.out.set 1 (.int .i64 (numberM x))).full _ _ _ _ _ rfl (by decide) (by decide)⟩
          · skip
            have Q3 := Lib.hid (fill_none (K := 7) hwt (by decide) (by omega) (by omega) (by omega))
            have n2 : ((n : Int) == 2) = false := by rw [beq_eq_false_iff_ne]; omega
            have m2 : ¬ ((n : Int) = 2) := by omega
            clear hwt
            go_wp2_with fail
            go_meet
            exact ⟨⟨⟨7, 0, false, none, 0, 0, ⟨#[]⟩, 0⟩, []⟩, Q3.out, HR.out.full _ _ _ _ _ rfl (by decide) (by decide)⟩
        · by_cases h4 : n = 4
          · skip
            obtain ⟨x1, x2, x3, hx⟩ : ∃ x1 x2 x3, wt = [x1, x2, x3] := by
              cases wt with
              | nil => exfalso; simp at hwt; omega
              | cons x r => cases r with
                | nil => exfalso; simp at hwt; omega
                | cons y r => cases r with
                  | nil => exfalso; simp at hwt; omega
                  | cons z r => cases r with
                    | nil => exact ⟨x, y, z, rfl⟩
                    | cons t r => exfalso; simp at hwt; omega
            have q1 : wr.cell? ⟨g, 1, none⟩ = some (sv x1) := HR.out.word 1 x1 (by rw [HWE.out, hx]; rfl)
            have q2 : wr.cell? ⟨g, 2, none⟩ = some (sv x2) := HR.out.word 2 x2 (by rw [HWE.out, hx]; rfl)
            have q3 : wr.cell? ⟨g, 3, none⟩ = some (sv x3) := HR.out.word 3 x3 (by rw [HWE.out, hx]; rfl)
            have l1 : x1.length ≤ 1000 := HWD.out x1 (by rw [HWE.out, hx]; simp)
            have l2 : x2.length ≤ 1000 := HWD.out x2 (by rw [HWE.out, hx]; simp)
            have l3 : x3.length ≤ 1000 := HWD.out x3 (by rw [HWE.out, hx]; simp)
            have HN1 := Lib.hid (fun W => number_any ⟨x2.toArray⟩ W (by show x2.toArray.size ≤ _; rw [List.size_toArray]; omega))
            have HN2 := Lib.hid (fun W => mask_any ⟨x3.toArray⟩ W (by show x3.toArray.size ≤ _; rw [List.size_toArray]; omega))
            have L1 := Lib.hid l1
            have Q3 := Lib.hid (show refFill 8 wt = some ⟨8, numberM x2, false, [], x1, maskM x3⟩ by rw [hx]; rfl)
            have IX := Lib.hid (show (1 : Int) < (n : Int) ∧ (2 : Int) < (n : Int) ∧ (3 : Int) < (n : Int) by omega)
            have n3 : ((n : Int) == 4) = true := by rw [beq_iff_eq]; omega
            have n3' : (n : Int) = 4 := by omega
            clear l1 l2 l3 hwt hx h4
            go_upto_region 18 with fail
            have i1 := IX.out.1
            have i2 := IX.out.2.1
            have i3 := IX.out.2.2
            refine wp_region_flatE (E := EB w1.heap.size #[.int .i64 8, .int .i64 (numberM x2), .bool false, .slice none 0 0, sv x1, .int .u32 (maskM x3 : Int)] 30) (EB.refl _ _ _) (by kernel_rfl) (fun W => EB w1.heap.size #[.int .i64 8, .int .i64 (numberM x2), .bool false, .slice none 0 0, sv x1, .int .u32 (maskM x3 : Int)] 30 wr W) (fun _ _ h h' => h.trans h') (ebV w1.heap.size #[.int .i64 8, .int .i64 (numberM x2), .bool false, .slice none 0 0, sv x1, .int .u32 (maskM x3 : Int)] 30 [(12, 4), (14, 1), (16, 5)] [(.slice (some ⟨g, 0, none⟩) n c), (.pointer (some ⟨g, 1, none⟩)), (sv x1), (.slice (some ⟨g, 0, none⟩) n c), (.pointer (some ⟨g, 2, none⟩)), (sv x2), (.int .i64 (numberM x2)), (.slice (some ⟨g, 0, none⟩) n c), (.pointer (some ⟨g, 3, none⟩)), (sv x3), (.int .u32 (maskM x3 : Int)), (.pointer (some ⟨w1.heap.size, 4, none⟩)), undef, (.pointer (some ⟨w1.heap.size, 1, none⟩)), undef, (.pointer (some ⟨w1.heap.size, 5, none⟩)), undef]) (ebV_keep _ _ _ _ _) (fun i o ho hd => ebV_none (only_named (by kernel_rfl) i o ho hd)) (by kernel_rfl) ⟨rfl, rfl, rfl, Nat.le_refl _, fun _ _ _ => rfl, fun X hX => ⟨X, hX, rfl, fun _ => .inl rfl⟩⟩ ?_ ?_
            · skip
              refine ⟨fun a W hW hag hdep => ?_, ?_⟩
              · have e4 : a.tmps[4]?.getD undef = (.slice (some ⟨g, 0, none⟩) n c) := evalD (hag.keep (t := 4) (by kernel_rfl) rfl)
                refine flatE_on rfl ?_
                refine flatE_run (EB.refl _ _ _ _) (u := (.slice (some ⟨g, 0, none⟩) n c)) ?_ (ebV_mk rfl rfl)
                simp [go_sem, e4]
              refine ⟨fun a W hW hag hdep => ?_, ?_⟩
              · have e71 : a.tmps[71]?.getD undef = (.slice (some ⟨g, 0, none⟩) n c) := evalD (ebV_at rfl (hdep 0 (by decide)))
                refine flatE_on rfl ?_
                refine flatE_run (EB.refl _ _ _ _) (u := (.pointer (some ⟨g, 1, none⟩))) ?_ (ebV_mk rfl rfl)
                simp [go_sem, e71, i1]
              refine ⟨fun a W hW hag hdep => ?_, ?_⟩
              · have e72 : a.tmps[72]?.getD undef = (.pointer (some ⟨g, 1, none⟩)) := evalD (ebV_at rfl (hdep 1 (by decide)))
                have q0 : W.cell? ⟨g, 1, none⟩ = some (sv x1) := (hW.cell HR.out.lt.2.2 (Nat.ne_of_lt HR.out.lt.2.1)).trans q1
                refine flatE_on rfl ?_
                refine flatE_run (EB.refl _ _ _ _) (u := (sv x1)) ?_ (ebV_mk rfl rfl)
                simp [go_sem, e72, q0]
              refine ⟨fun a W hW hag hdep => ?_, ?_⟩
              · have e4 : a.tmps[4]?.getD undef = (.slice (some ⟨g, 0, none⟩) n c) := evalD (hag.keep (t := 4) (by kernel_rfl) rfl)
                refine flatE_on rfl ?_
                refine flatE_run (EB.refl _ _ _ _) (u := (.slice (some ⟨g, 0, none⟩) n c)) ?_ (ebV_mk rfl rfl)
                simp [go_sem, e4]
              refine ⟨fun a W hW hag hdep => ?_, ?_⟩
              · have e74 : a.tmps[74]?.getD undef = (.slice (some ⟨g, 0, none⟩) n c) := evalD (ebV_at rfl (hdep 3 (by decide)))
                refine flatE_on rfl ?_
                refine flatE_run (EB.refl _ _ _ _) (u := (.pointer (some ⟨g, 2, none⟩))) ?_ (ebV_mk rfl rfl)
                simp [go_sem, e74, i2]
              refine ⟨fun a W hW hag hdep => ?_, ?_⟩
              · have e75 : a.tmps[75]?.getD undef = (.pointer (some ⟨g, 2, none⟩)) := evalD (ebV_at rfl (hdep 4 (by decide)))
                have q0 : W.cell? ⟨g, 2, none⟩ = some (sv x2) := (hW.cell HR.out.lt.2.2 (Nat.ne_of_lt HR.out.lt.2.1)).trans q2
                refine flatE_on rfl ?_
                refine flatE_run (EB.refl _ _ _ _) (u := (sv x2)) ?_ (ebV_mk rfl rfl)
                simp [go_sem, e75, q0]
              refine ⟨fun a W hW hag hdep => ?_, ?_⟩
              · have e76 : a.tmps[76]?.getD undef = (sv x2) := evalD (ebV_at rfl (hdep 5 (by decide)))
                refine flatE_on rfl ?_
                refine flatE_call (f := 54) (args := #[sv x2]) (by simp [go_sem, e76]) ((HN1.out W).mono ?_)
                rintro e W' ⟨rfl, rfl⟩
                exact ⟨_, rfl, EB.refl _ _ _ _, ebV_mk rfl rfl⟩
              refine ⟨fun a W hW hag hdep => ?_, ?_⟩
              · have e4 : a.tmps[4]?.getD undef = (.slice (some ⟨g, 0, none⟩) n c) := evalD (hag.keep (t := 4) (by kernel_rfl) rfl)
                refine flatE_on rfl ?_
                refine flatE_run (EB.refl _ _ _ _) (u := (.slice (some ⟨g, 0, none⟩) n c)) ?_ (ebV_mk rfl rfl)
                simp [go_sem, e4]
              refine ⟨fun a W hW hag hdep => ?_, ?_⟩
              · have e78 : a.tmps[78]?.getD undef = (.slice (some ⟨g, 0, none⟩) n c) := evalD (ebV_at rfl (hdep 7 (by decide)))
                refine flatE_on rfl ?_
                refine flatE_run (EB.refl _ _ _ _) (u := (.pointer (some ⟨g, 3, none⟩))) ?_ (ebV_mk rfl rfl)
                simp [go_sem, e78, i3]
              refine ⟨fun a W hW hag hdep => ?_, ?_⟩
              · have e79 : a.tmps[79]?.getD undef = (.pointer (some ⟨g, 3, none⟩)) := evalD (ebV_at rfl (hdep 8 (by decide)))
                have q0 : W.cell? ⟨g, 3, none⟩ = some (sv x3) := (hW.cell HR.out.lt.2.2 (Nat.ne_of_lt HR.out.lt.2.1)).trans q3
                refine flatE_on rfl ?_
                refine flatE_run (EB.refl _ _ _ _) (u := (sv x3)) ?_ (ebV_mk rfl rfl)
                simp [go_sem, e79, q0]
              refine ⟨fun a W hW hag hdep => ?_, ?_⟩
              · have e80 : a.tmps[80]?.getD undef = (sv x3) := evalD (ebV_at rfl (hdep 9 (by decide)))
                refine flatE_on rfl ?_
                refine flatE_call (f := 55) (args := #[sv x3]) (by simp [go_sem, e80]) ((HN2.out W).mono ?_)
                rintro e W' ⟨rfl, rfl⟩
                exact ⟨_, rfl, EB.refl _ _ _ _, ebV_mk rfl rfl⟩
              refine ⟨fun a W hW hag hdep => ?_, ?_⟩
              · have e5 : a.tmps[5]?.getD undef = (.pointer (some ⟨w1.heap.size, 0, none⟩)) := evalD (hag.keep (t := 5) (by kernel_rfl) rfl)
                refine flatE_on rfl ?_
                refine flatE_run (EB.refl _ _ _ _) (u := (.pointer (some ⟨w1.heap.size, 4, none⟩))) ?_ (ebV_mk rfl rfl)
                simp [go_sem, e5]
              refine ⟨fun a W hW hag hdep => ?_, ?_⟩
              · have e82 : a.tmps[82]?.getD undef = (.pointer (some ⟨w1.heap.size, 4, none⟩)) := evalD (ebV_at rfl (hdep 11 (by decide)))
                have e73 : a.tmps[73]?.getD undef = (sv x1) := evalD (ebV_at rfl (hdep 2 (by decide)))
                refine flatE_on rfl ?_
                obtain ⟨X, hX, hX6, _⟩ := hW.at_ _ HR.out.act
                have hX6 : X.size = 6 := hX6
                have z0 : W.cell? ⟨w1.heap.size, 4, none⟩ = some (X.getD 4 undef) := store_cell hX hX6 4 (by decide)
                have y0 : W.frozen? ⟨w1.heap.size, 4, none⟩ = false := frozen_of_row _ _ _ _ _ hX
                obtain ⟨s1, s2⟩ := EB.set (y := #[.int .i64 8, .int .i64 (numberM x2), .bool false, .slice none 0 0, sv x1, .int .u32 (maskM x3 : Int)]) hX 4 (sv x1) (by rw [hX6]; decide) rfl
                refine flatE_skip (w' := W.setCell ⟨w1.heap.size, 4, none⟩ (sv x1)) ?_ s1 (ebV_ms rfl s2 (by rw [Array.getElem?_setIfInBounds_self, if_pos (by rw [hX6]; decide)]; rfl))
                simp [go_sem, e82, e73, z0, y0]
              refine ⟨fun a W hW hag hdep => ?_, ?_⟩
              · have e5 : a.tmps[5]?.getD undef = (.pointer (some ⟨w1.heap.size, 0, none⟩)) := evalD (hag.keep (t := 5) (by kernel_rfl) rfl)
                refine flatE_on rfl ?_
                refine flatE_run (EB.refl _ _ _ _) (u := (.pointer (some ⟨w1.heap.size, 1, none⟩))) ?_ (ebV_mk rfl rfl)
                simp [go_sem, e5]
              refine ⟨fun a W hW hag hdep => ?_, ?_⟩
              · have e83 : a.tmps[83]?.getD undef = (.pointer (some ⟨w1.heap.size, 1, none⟩)) := evalD (ebV_at rfl (hdep 13 (by decide)))
                have e77 : a.tmps[77]?.getD undef = (.int .i64 (numberM x2)) := evalD (ebV_at rfl (hdep 6 (by decide)))
                refine flatE_on rfl ?_
                obtain ⟨X, hX, hX6, _⟩ := hW.at_ _ HR.out.act
                have hX6 : X.size = 6 := hX6
                have z0 : W.cell? ⟨w1.heap.size, 1, none⟩ = some (X.getD 1 undef) := store_cell hX hX6 1 (by decide)
                have y0 : W.frozen? ⟨w1.heap.size, 1, none⟩ = false := frozen_of_row _ _ _ _ _ hX
                obtain ⟨s1, s2⟩ := EB.set (y := #[.int .i64 8, .int .i64 (numberM x2), .bool false, .slice none 0 0, sv x1, .int .u32 (maskM x3 : Int)]) hX 1 (.int .i64 (numberM x2)) (by rw [hX6]; decide) rfl
                refine flatE_skip (w' := W.setCell ⟨w1.heap.size, 1, none⟩ (.int .i64 (numberM x2))) ?_ s1 (ebV_ms rfl s2 (by rw [Array.getElem?_setIfInBounds_self, if_pos (by rw [hX6]; decide)]; rfl))
                simp [go_sem, e83, e77, z0, y0]
              refine ⟨fun a W hW hag hdep => ?_, ?_⟩
              · have e5 : a.tmps[5]?.getD undef = (.pointer (some ⟨w1.heap.size, 0, none⟩)) := evalD (hag.keep (t := 5) (by kernel_rfl) rfl)
                refine flatE_on rfl ?_
                refine flatE_run (EB.refl _ _ _ _) (u := (.pointer (some ⟨w1.heap.size, 5, none⟩))) ?_ (ebV_mk rfl rfl)
                simp [go_sem, e5]
              refine ⟨fun a W hW hag hdep => ?_, ?_⟩
              · have e84 : a.tmps[84]?.getD undef = (.pointer (some ⟨w1.heap.size, 5, none⟩)) := evalD (ebV_at rfl (hdep 15 (by decide)))
                have e81 : a.tmps[81]?.getD undef = (.int .u32 (maskM x3 : Int)) := evalD (ebV_at rfl (hdep 10 (by decide)))
                refine flatE_on rfl ?_
                obtain ⟨X, hX, hX6, _⟩ := hW.at_ _ HR.out.act
                have hX6 : X.size = 6 := hX6
                have z0 : W.cell? ⟨w1.heap.size, 5, none⟩ = some (X.getD 5 undef) := store_cell hX hX6 5 (by decide)
                have y0 : W.frozen? ⟨w1.heap.size, 5, none⟩ = false := frozen_of_row _ _ _ _ _ hX
                obtain ⟨s1, s2⟩ := EB.set (y := #[.int .i64 8, .int .i64 (numberM x2), .bool false, .slice none 0 0, sv x1, .int .u32 (maskM x3 : Int)]) hX 5 (.int .u32 (maskM x3 : Int)) (by rw [hX6]; decide) rfl
                refine flatE_skip (w' := W.setCell ⟨w1.heap.size, 5, none⟩ (.int .u32 (maskM x3 : Int))) ?_ s1 (ebV_ms rfl s2 (by rw [Array.getElem?_setIfInBounds_self, if_pos (by rw [hX6]; decide)]; rfl))
                simp [go_sem, e84, e81, z0, y0]
              exact trivial
            · intro vs W5 hW5 hvs
              have v0 : vs 0 = _ := ebV_at rfl (hvs 0 (by decide))
              have v1 : vs 1 = _ := ebV_at rfl (hvs 1 (by decide))
              have v2 : vs 2 = _ := ebV_at rfl (hvs 2 (by decide))
              have v3 : vs 3 = _ := ebV_at rfl (hvs 3 (by decide))
              have v4 : vs 4 = _ := ebV_at rfl (hvs 4 (by decide))
              have v5 : vs 5 = _ := ebV_at rfl (hvs 5 (by decide))
              have v6 : vs 6 = _ := ebV_at rfl (hvs 6 (by decide))
              have v7 : vs 7 = _ := ebV_at rfl (hvs 7 (by decide))
              have v8 : vs 8 = _ := ebV_at rfl (hvs 8 (by decide))
              have v9 : vs 9 = _ := ebV_at rfl (hvs 9 (by decide))
              have v10 : vs 10 = _ := ebV_at rfl (hvs 10 (by decide))
              have v11 : vs 11 = _ := ebV_at rfl (hvs 11 (by decide))
              have v13 : vs 13 = _ := ebV_at rfl (hvs 13 (by decide))
              have v15 : vs 15 = _ := ebV_at rfl (hvs 15 (by decide))
              have hfin := hW5.final HR.out.act (fun j => ?hd)
              case hd =>
                match j with
                | 0 => exact .inl rfl
                | 1 => exact .inr (ebV_st (j := 1) rfl (hvs 14 (by decide)))
                | 2 => exact .inl rfl
                | 3 => exact .inl rfl
                | 4 => exact .inr (ebV_st (j := 4) rfl (hvs 12 (by decide)))
                | 5 => exact .inr (ebV_st (j := 5) rfl (hvs 16 (by decide)))
                | j + 6 => exact .inl rfl
              simp only [putAll, Act.put, List.setIfInBounds_toArray, List.set_cons_zero, List.set_cons_succ]
              rw [v0, v1, v2, v3, v4, v5, v6, v7, v8, v9, v10, v11, v13, v15]
              have HF := Lib.hid hfin
              have HW5 := Lib.hid (show EB w1.heap.size _ _ wr W5 from hW5)
              clear v0 v1 v2 v3 v4 v5 v6 v7 v8 v9 v10 v11 v13 v15 hvs hW5 hfin
              go_wp2_with fail
              go_meet
              have hRz := HR.out
              exact ⟨⟨⟨8, numberM x2, false, none, 0, 0, ⟨x1.toArray⟩, maskM x3⟩, []⟩, Q3.out, hRz.bel.trans (HW5.out.below (Nat.le_of_lt (Array.getElem?_eq_some_iff.1 hRz.act).1) (Nat.le_of_lt hRz.lt.1)), (HW5.out.block _ (Nat.lt_trans hRz.lt.1 (Array.getElem?_eq_some_iff.1 hRz.act).1) (Nat.ne_of_lt hRz.lt.1)).trans hRz.zero, HF.out, rfl, Nat.zero_le _, .inl rfl, by show x1.toArray.size ≤ 1000; rw [List.size_toArray]; exact L1.out, maskM_lt x3, .inl rfl, hRz.lt.1⟩
          · skip
            have Q3 := Lib.hid (fill_none (K := 8) hwt (by decide) (by omega) (by omega) (by omega))
            have n4 : ((n : Int) == 4) = false := by rw [beq_eq_false_iff_ne]; omega
            have m4 : ¬ ((n : Int) = 4) := by omega
            clear hwt
            go_wp2_with fail
            go_meet
            exact ⟨⟨⟨8, 0, false, none, 0, 0, ⟨#[]⟩, 0⟩, []⟩, Q3.out, HR.out.full _ _ _ _ _ rfl (by decide) (by decide)⟩
      case rest =>
        obtain ⟨v, hv1, hv2⟩ := hcut
        go_upto_region 23 with fail
        obtain ⟨⟨⟨kd, vn, dn, ka, kn, kc, nm, m⟩, keep⟩, hve⟩ : ∃ v', v = v' := ⟨v, rfl⟩
        subst hve
        obtain ⟨hbw, hRz, hx4, hlen4, hkn, hrd4, hnm, hmk, hloc, hHa⟩ := hv2
        have hlen4 : keep.length = kn := hlen4
        have hkn : kn ≤ 9 := hkn
        have hmk : m < 4294967296 := hmk
        have hnm : nm.size ≤ 1000 := hnm
        have hp4 : w1.heap.size < wc.heap.size := (Array.getElem?_eq_some_iff.1 hx4).1
        have HRS := Lib.hid (show w.heap.size < wc.heap.size by omega)
        have HPR := Lib.hid (show w1.heap.size ≠ w.heap.size ∧ w1.heap.size < wc.heap.size ∧ w.heap.size < w1.heap.size by omega)
        have HBW := Lib.hid hbw
        obtain ⟨X, hX⟩ : ∃ X : ActC, X = ⟨kd, vn, dn, ka, kn, kc, nm, m⟩ := ⟨_, rfl⟩
        have hcells : X.cells = #[.int .i64 kd, .int .i64 vn, .bool dn, .slice ka kn kc, .string nm, .int .u32 (m : Int)] := by rw [hX]; rfl
        have hXk : X.ka = ka ∧ X.kn = kn ∧ X.nm = nm ∧ X.mask = m := by rw [hX]; exact ⟨rfl, rfl, rfl, rfl⟩
        have hrw : rightC X = right (X.abs keep) := rightC_right X keep (by rw [hXk.2.1]; exact hlen4)
        have habs : refFill K wt = some (X.abs keep) := by rw [hX]; exact hv1
        have hx4 : wc.heap[w1.heap.size]? = some (.cells #[.int .i64 kd, .int .i64 vn, .bool dn, .slice ka kn kc, .string nm, .int .u32 (m : Int)] 30 (0, 0)) := hx4
        have HQ : Hid (∀ W, EA w.heap.size (some (.cells #[.int .i64 kd, .int .i64 vn, .bool dn, .slice ka kn kc, .string nm, .int .u32 (m : Int)] 30 (0, 0))) wc W → (W.cell? ⟨w1.heap.size, 0, none⟩ = some (.int .i64 kd) ∧ W.cell? ⟨w1.heap.size, 1, none⟩ = some (.int .i64 vn) ∧ W.cell? ⟨w1.heap.size, 2, none⟩ = some (.bool dn) ∧ W.cell? ⟨w1.heap.size, 3, none⟩ = some (.slice ka kn kc) ∧ W.cell? ⟨w1.heap.size, 4, none⟩ = some (.string nm) ∧ W.cell? ⟨w1.heap.size, 5, none⟩ = some (.int .u32 (m : Int)))) := Lib.hid (fun W hW => by
          have hx := (hW.block _ HPR.out.2.1 HPR.out.1).trans hx4
          exact ⟨cell_of_row _ _ 0 _ _ _ hx, cell_of_row _ _ 1 _ _ _ hx, cell_of_row _ _ 2 _ _ _ hx, cell_of_row _ _ 3 _ _ _ hx, cell_of_row _ _ 4 _ _ _ hx, cell_of_row _ _ 5 _ _ _ hx⟩)
        have HZ : Hid (∀ W, EA w.heap.size (some (.cells #[.int .i64 kd, .int .i64 vn, .bool dn, .slice ka kn kc, .string nm, .int .u32 (m : Int)] 30 (0, 0))) wc W → ∃ Z : Array Value, W.heap[w.heap.size]? = some (.cells Z 30 (0, 0)) ∧ Z.size = 6) := Lib.hid (fun W hW => by
          rcases hW.at_ with e | e
          · exact ⟨_, e.trans hRz, rfl⟩
          · exact ⟨_, e, rfl⟩)
        have hrt := fun W => rright_any X W (by rw [hXk.2.2.1]; unfold maxLen; omega) (by rw [hXk.2.1]; omega)
        rw [hcells] at hrt
        have HP0 : Hid (refRead s.data.toList = if right (X.abs keep) = true ∧ shown (X.abs keep) = s.data.toList then some (X.abs keep) else none) := Lib.hid (by
          unfold refRead
          rw [HW.out, HWE.out]
          show (match refFill (kindR w0) wt with | none => none | some a => if right a = true ∧ shown a = s.data.toList then some a else none) = _
          rw [HK.out, habs])
        have HCX := Lib.hid hcells
        have HRX : Hid (∀ W, EA w.heap.size (some (.cells #[.int .i64 kd, .int .i64 vn, .bool dn, .slice ka kn kc, .string nm, .int .u32 (m : Int)] 30 (0, 0))) wc W → Rd W W.heap.size ka keep) := Lib.hid (by
          intro W hW
          have hrd4 : Rd wc wc.heap.size ka keep := hrd4
          rcases hloc with h0 | ⟨g1, o, hka, hg⟩
          · have h0 : keep = [] := h0
            exact .inl h0
          · have hka : ka = some ⟨g1, o, none⟩ := hka
            rcases hrd4 with h0 | ⟨b, o2, e2, hb, hc⟩
            · exact .inl h0
            · rw [hka] at e2
              injection e2 with e2
              injection e2 with e3 e4
              subst e3; subst e4
              exact .inr ⟨g1, o, hka, Nat.lt_of_lt_of_le hb hW.size, fun i x hx => (hW.cell hb (by have := HPR.out.2.2; omega)).trans (hc i x hx)⟩)
        have HAB := Lib.hid (And.intro habs (And.intro hXk (And.intro hlen4 (And.intro hloc (And.intro hmk (And.intro hnm hkn))))))
        clear hx4 habs hlen4 hkn hrd4 hnm hmk hloc hRz hp4 hbw hX hXk hv1 hHa hra hsz hw1s hgl k0 k1 k2 k3 k4 k5 y0 y1 y2 y3 y4 y5 hwt hKr
        cases hR : right (X.abs keep) with
        | false =>
          rw [hrw, hR] at hrt
          have HRT := Lib.hid hrt
          have HRR := Lib.hid hR
          clear hrt hrw hR hcells
          refine wp_region_flatE (E := EA w.heap.size (some (.cells #[.int .i64 kd, .int .i64 vn, .bool dn, .slice ka kn kc, .string nm, .int .u32 (m : Int)] 30 (0, 0)))) (EA.refl _ _) (by kernel_rfl) (fun W => EA w.heap.size (some (.cells #[.int .i64 kd, .int .i64 vn, .bool dn, .slice ka kn kc, .string nm, .int .u32 (m : Int)] 30 (0, 0))) wc W) (fun _ _ h h' => h.trans h') (actV w.heap.size (some (.cells #[.int .i64 kd, .int .i64 vn, .bool dn, .slice ka kn kc, .string nm, .int .u32 (m : Int)] 30 (0, 0))) [.agg #[.int .i64 kd, .int .i64 vn, .bool dn, .slice ka kn kc, .string nm, .int .u32 (m : Int)], .agg #[.int .i64 kd, .int .i64 vn, .bool dn, .slice ka kn kc, .string nm, .int .u32 (m : Int)], .bool false, .bool false, undef, undef, undef, undef, .bool false, undef, .bool false]) (actV_keep _ _ _) (fun i o ho hd => actV_none (only_none (k := 9) (by kernel_rfl) i o ho hd)) (by kernel_rfl) ⟨rfl, rfl, rfl, Nat.le_refl _, fun _ _ _ => rfl, .inl rfl⟩ ?_ ?_
          · skip
            refine ⟨fun a W hW hag hdep => ?_, ?_⟩
            · have e5 : a.tmps[5]?.getD undef = .pointer (some ⟨w1.heap.size, 0, none⟩) := evalD (hag.keep (t := 5) (by kernel_rfl) rfl)
              refine flatE_on rfl ?_
              obtain ⟨q0, q1, q2, q3, q4, q5⟩ := HQ.out W hW
              refine flatE_run (EA.refl _ _ _) (u := .agg #[.int .i64 kd, .int .i64 vn, .bool dn, .slice ka kn kc, .string nm, .int .u32 (m : Int)]) ?_ (actV_mk (by decide) rfl)
              simp [go_sem, e5, q0, q1, q2, q3, q4, q5]
            refine ⟨fun a W hW hag hdep => ?_, ?_⟩
            · have e5 : a.tmps[5]?.getD undef = .pointer (some ⟨w1.heap.size, 0, none⟩) := evalD (hag.keep (t := 5) (by kernel_rfl) rfl)
              refine flatE_on rfl ?_
              obtain ⟨q0, q1, q2, q3, q4, q5⟩ := HQ.out W hW
              refine flatE_run (EA.refl _ _ _) (u := .agg #[.int .i64 kd, .int .i64 vn, .bool dn, .slice ka kn kc, .string nm, .int .u32 (m : Int)]) ?_ (actV_mk (by decide) rfl)
              simp [go_sem, e5, q0, q1, q2, q3, q4, q5]
            refine ⟨fun a W hW hag hdep => ?_, ?_⟩
            · have e124 : a.tmps[124]?.getD undef = .agg #[.int .i64 kd, .int .i64 vn, .bool dn, .slice ka kn kc, .string nm, .int .u32 (m : Int)] := evalD (actV_at (by decide) (hdep 1 (by decide)))
              refine flatE_on rfl ?_
              refine flatE_call (f := 11) (args := #[.agg #[.int .i64 kd, .int .i64 vn, .bool dn, .slice ka kn kc, .string nm, .int .u32 (m : Int)]]) (by simp [go_sem, e124]) ((HRT.out W).mono ?_)
              rintro e W' ⟨rfl, hb5⟩
              exact ⟨_, rfl, EA.of_below hb5 (Nat.lt_of_lt_of_le HRS.out hW.size), actV_mk (by decide) rfl⟩
            refine ⟨fun a W hW hag hdep => ?_, ?_⟩
            · have e125 : a.tmps[125]?.getD undef = .bool false := evalD (actV_at (by decide) (hdep 2 (by decide)))
              refine flatE_on rfl ?_
              refine flatE_run (EA.refl _ _ _) (u := .bool false) ?_ (actV_mk (by decide) rfl)
              simp [go_sem, e125]
            refine ⟨fun a W hW hag hdep => ?_, ?_⟩
            · skip
              have eg : a.eval (.tmp 126) = .bool false := actV_at (by decide) (hdep 3 (by decide))
              exact flatE_not (t := 126) rfl rfl eg (actV_mk (by decide) rfl)
            refine ⟨fun a W hW hag hdep => ?_, ?_⟩
            · skip
              have eg : a.eval (.tmp 126) = .bool false := actV_at (by decide) (hdep 3 (by decide))
              exact flatE_not (t := 126) rfl rfl eg (actV_mk (by decide) rfl)
            refine ⟨fun a W hW hag hdep => ?_, ?_⟩
            · skip
              have eg : a.eval (.tmp 126) = .bool false := actV_at (by decide) (hdep 3 (by decide))
              exact flatE_not (t := 126) rfl rfl eg (actV_mk (by decide) rfl)
            refine ⟨fun a W hW hag hdep => ?_, ?_⟩
            · skip
              have eg : a.eval (.tmp 126) = .bool false := actV_at (by decide) (hdep 3 (by decide))
              exact flatE_not (t := 126) rfl rfl eg (actV_mk (by decide) rfl)
            refine ⟨fun a W hW hag hdep => ?_, ?_⟩
            · have e126 : a.tmps[126]?.getD undef = .bool false := evalD (actV_at (by decide) (hdep 3 (by decide)))
              have e130 : a.tmps[130]?.getD undef = undef := evalD (actV_at (by decide) (hdep 7 (by decide)))
              refine flatE_on rfl ?_
              refine flatE_run (EA.refl _ _ _) (u := .bool false) ?_ (actV_mk (by decide) rfl)
              simp [go_sem, e126, e130]
            refine ⟨fun a W hW hag hdep => ?_, ?_⟩
            · have e123 : a.tmps[123]?.getD undef = .agg #[.int .i64 kd, .int .i64 vn, .bool dn, .slice ka kn kc, .string nm, .int .u32 (m : Int)] := evalD (actV_at (by decide) (hdep 0 (by decide)))
              have e2 : a.tmps[2]?.getD undef = .pointer (some ⟨w.heap.size, 0, none⟩) := evalD (hag.keep (t := 2) (by kernel_rfl) rfl)
              refine flatE_on rfl ?_
              obtain ⟨Z, hZ, hZ6⟩ := HZ.out W hW
              have z0 : W.cell? ⟨w.heap.size, 0, none⟩ = some (Z.getD 0 undef) := store_cell hZ hZ6 0 (by decide)
              have y0 : W.frozen? ⟨w.heap.size, 0, none⟩ = false := frozen_of_row _ _ _ _ _ hZ
              have z1 : W.cell? ⟨w.heap.size, 1, none⟩ = some (Z.getD 1 undef) := store_cell hZ hZ6 1 (by decide)
              have y1 : W.frozen? ⟨w.heap.size, 1, none⟩ = false := frozen_of_row _ _ _ _ _ hZ
              have z2 : W.cell? ⟨w.heap.size, 2, none⟩ = some (Z.getD 2 undef) := store_cell hZ hZ6 2 (by decide)
              have y2 : W.frozen? ⟨w.heap.size, 2, none⟩ = false := frozen_of_row _ _ _ _ _ hZ
              have z3 : W.cell? ⟨w.heap.size, 3, none⟩ = some (Z.getD 3 undef) := store_cell hZ hZ6 3 (by decide)
              have y3 : W.frozen? ⟨w.heap.size, 3, none⟩ = false := frozen_of_row _ _ _ _ _ hZ
              have z4 : W.cell? ⟨w.heap.size, 4, none⟩ = some (Z.getD 4 undef) := store_cell hZ hZ6 4 (by decide)
              have y4 : W.frozen? ⟨w.heap.size, 4, none⟩ = false := frozen_of_row _ _ _ _ _ hZ
              have z5 : W.cell? ⟨w.heap.size, 5, none⟩ = some (Z.getD 5 undef) := store_cell hZ hZ6 5 (by decide)
              have y5 : W.frozen? ⟨w.heap.size, 5, none⟩ = false := frozen_of_row _ _ _ _ _ hZ
              obtain ⟨s1, s2⟩ := store_six hZ hZ6 (.int .i64 kd) (.int .i64 vn) (.bool dn) (.slice ka kn kc) (.string nm) (.int .u32 (m : Int))
              refine flatE_skip ?_ s1 s2
              simp [go_sem, e2, e123, z0, z1, z2, z3, z4, z5, y0, y1, y2, y3, y4, y5]
            refine ⟨fun a W hW hag hdep => ?_, ?_⟩
            · have e131 : a.tmps[131]?.getD undef = .bool false := evalD (actV_at (by decide) (hdep 8 (by decide)))
              refine flatE_on rfl ?_
              refine flatE_run (EA.refl _ _ _) (u := .bool false) ?_ (actV_mk (by decide) rfl)
              simp [go_sem, e131]
            exact trivial
          · intro vs W5 hW5 hvs
            have v0 : vs 0 = _ := actV_at (by decide) (hvs 0 (by decide))
            have v1 : vs 1 = _ := actV_at (by decide) (hvs 1 (by decide))
            have v2 : vs 2 = _ := actV_at (by decide) (hvs 2 (by decide))
            have v3 : vs 3 = _ := actV_at (by decide) (hvs 3 (by decide))
            have v4 : vs 4 = _ := actV_at (by decide) (hvs 4 (by decide))
            have v5 : vs 5 = _ := actV_at (by decide) (hvs 5 (by decide))
            have v6 : vs 6 = _ := actV_at (by decide) (hvs 6 (by decide))
            have v7 : vs 7 = _ := actV_at (by decide) (hvs 7 (by decide))
            have v8 : vs 8 = _ := actV_at (by decide) (hvs 8 (by decide))
            have v10 : vs 10 = _ := actV_at (by decide) (hvs 10 (by decide))
            have hx5 : W5.heap[w.heap.size]? = _ := hvs 9 (by decide)
            simp only [putAll, Act.put, List.setIfInBounds_toArray, List.set_cons_zero, List.set_cons_succ]
            rw [v0, v1, v2, v3, v4, v5, v6, v7, v8, v10]
            have r0 := cell_of_row _ _ 0 _ _ _ hx5
            have r1 := cell_of_row _ _ 1 _ _ _ hx5
            have r2 := cell_of_row _ _ 2 _ _ _ hx5
            have r3 := cell_of_row _ _ 3 _ _ _ hx5
            have r4 := cell_of_row _ _ 4 _ _ _ hx5
            have r5 := cell_of_row _ _ 5 _ _ _ hx5
            have HW5 := Lib.hid (show EA w.heap.size (some (.cells #[.int .i64 kd, .int .i64 vn, .bool dn, .slice ka kn kc, .string nm, .int .u32 (m : Int)] 30 (0, 0))) wc W5 from hW5)
            clear v0 v1 v2 v3 v4 v5 v6 v7 v8 v10 hvs hW5 hx5
            go_wp2_with fail
            have hP2 : refRead s.data.toList = none := by rw [HP0.out, if_neg (fun h => by rw [HRR.out] at h; exact absurd h.1 (by decide))]
            have HB5 := Lib.hid (HBW.out.trans (HW5.out.below (Nat.le_of_lt HRS.out)))
            rw [hP2]
            refine ⟨rfl, _, by simp [results, go_sem, r0, r1, r2, r3, r4, r5]; rfl, ⟨⟨kd, vn, dn, ka, kn, kc, nm, m⟩, keep⟩, rfl, HB5.out, fun h => by cases h⟩
        | true =>
          have hline : ∀ W, EA w.heap.size (some (.cells #[.int .i64 kd, .int .i64 vn, .bool dn, .slice ka kn kc, .string nm, .int .u32 (m : Int)] 30 (0, 0))) wc W → Calls Tryd.prog 28 #[.agg X.cells] W fun e w' => e = .returned (sv (shown (X.abs keep))) ∧ Below W.heap.size W w' := by
            intro W hW
            obtain ⟨habs, hXk, hlen4, hloc, hmk, hnm, hkn⟩ := HAB.out
            refine rshow_any X keep W hR (by rw [hXk.2.2.2]; exact hmk) (by rw [hXk.2.1]; exact hlen4) ?_
            rw [hXk.1]
            exact HRX.out W hW
          rw [hcells] at hline
          obtain ⟨LN, hLN⟩ : ∃ LN, shown (X.abs keep) = LN := ⟨_, rfl⟩
          rw [hLN] at hline
          have HLN := Lib.hid hline
          have HLT := Lib.hid hLN
          rw [hrw, hR] at hrt
          have HRT := Lib.hid hrt
          have HRR := Lib.hid hR
          clear hrt hrw hR hcells hline hLN
          refine wp_region_flatE (E := EA w.heap.size (some (.cells #[.int .i64 kd, .int .i64 vn, .bool dn, .slice ka kn kc, .string nm, .int .u32 (m : Int)] 30 (0, 0)))) (EA.refl _ _) (by kernel_rfl) (fun W => EA w.heap.size (some (.cells #[.int .i64 kd, .int .i64 vn, .bool dn, .slice ka kn kc, .string nm, .int .u32 (m : Int)] 30 (0, 0))) wc W) (fun _ _ h h' => h.trans h') (actV w.heap.size (some (.cells #[.int .i64 kd, .int .i64 vn, .bool dn, .slice ka kn kc, .string nm, .int .u32 (m : Int)] 30 (0, 0))) [.agg #[.int .i64 kd, .int .i64 vn, .bool dn, .slice ka kn kc, .string nm, .int .u32 (m : Int)], .agg #[.int .i64 kd, .int .i64 vn, .bool dn, .slice ka kn kc, .string nm, .int .u32 (m : Int)], .bool true, .bool true, .agg #[.int .i64 kd, .int .i64 vn, .bool dn, .slice ka kn kc, .string nm, .int .u32 (m : Int)], sv LN, .string s, (.bool ((⟨LN.toArray⟩ : ByteArray).toList == s.toList)), (.bool ((⟨LN.toArray⟩ : ByteArray).toList == s.toList)), undef, (.bool ((⟨LN.toArray⟩ : ByteArray).toList == s.toList))]) (actV_keep _ _ _) (fun i o ho hd => actV_none (only_none (k := 9) (by kernel_rfl) i o ho hd)) (by kernel_rfl) ⟨rfl, rfl, rfl, Nat.le_refl _, fun _ _ _ => rfl, .inl rfl⟩ ?_ ?_
          · skip
            refine ⟨fun a W hW hag hdep => ?_, ?_⟩
            · have e5 : a.tmps[5]?.getD undef = .pointer (some ⟨w1.heap.size, 0, none⟩) := evalD (hag.keep (t := 5) (by kernel_rfl) rfl)
              refine flatE_on rfl ?_
              obtain ⟨q0, q1, q2, q3, q4, q5⟩ := HQ.out W hW
              refine flatE_run (EA.refl _ _ _) (u := .agg #[.int .i64 kd, .int .i64 vn, .bool dn, .slice ka kn kc, .string nm, .int .u32 (m : Int)]) ?_ (actV_mk (by decide) rfl)
              simp [go_sem, e5, q0, q1, q2, q3, q4, q5]
            refine ⟨fun a W hW hag hdep => ?_, ?_⟩
            · have e5 : a.tmps[5]?.getD undef = .pointer (some ⟨w1.heap.size, 0, none⟩) := evalD (hag.keep (t := 5) (by kernel_rfl) rfl)
              refine flatE_on rfl ?_
              obtain ⟨q0, q1, q2, q3, q4, q5⟩ := HQ.out W hW
              refine flatE_run (EA.refl _ _ _) (u := .agg #[.int .i64 kd, .int .i64 vn, .bool dn, .slice ka kn kc, .string nm, .int .u32 (m : Int)]) ?_ (actV_mk (by decide) rfl)
              simp [go_sem, e5, q0, q1, q2, q3, q4, q5]
            refine ⟨fun a W hW hag hdep => ?_, ?_⟩
            · have e124 : a.tmps[124]?.getD undef = .agg #[.int .i64 kd, .int .i64 vn, .bool dn, .slice ka kn kc, .string nm, .int .u32 (m : Int)] := evalD (actV_at (by decide) (hdep 1 (by decide)))
              refine flatE_on rfl ?_
              refine flatE_call (f := 11) (args := #[.agg #[.int .i64 kd, .int .i64 vn, .bool dn, .slice ka kn kc, .string nm, .int .u32 (m : Int)]]) (by simp [go_sem, e124]) ((HRT.out W).mono ?_)
              rintro e W' ⟨rfl, hb5⟩
              exact ⟨_, rfl, EA.of_below hb5 (Nat.lt_of_lt_of_le HRS.out hW.size), actV_mk (by decide) rfl⟩
            refine ⟨fun a W hW hag hdep => ?_, ?_⟩
            · have e125 : a.tmps[125]?.getD undef = .bool true := evalD (actV_at (by decide) (hdep 2 (by decide)))
              refine flatE_on rfl ?_
              refine flatE_run (EA.refl _ _ _) (u := .bool true) ?_ (actV_mk (by decide) rfl)
              simp [go_sem, e125]
            refine ⟨fun a W hW hag hdep => ?_, ?_⟩
            · skip
              have eg : a.eval (.tmp 126) = .bool true := actV_at (by decide) (hdep 3 (by decide))
              refine flatE_go (t := 126) rfl rfl eg ?_
              have e5 : a.tmps[5]?.getD undef = .pointer (some ⟨w1.heap.size, 0, none⟩) := evalD (hag.keep (t := 5) (by kernel_rfl) rfl)
              obtain ⟨q0, q1, q2, q3, q4, q5⟩ := HQ.out W hW
              refine flatE_run (EA.refl _ _ _) (u := .agg #[.int .i64 kd, .int .i64 vn, .bool dn, .slice ka kn kc, .string nm, .int .u32 (m : Int)]) ?_ (actV_mk (by decide) rfl)
              simp [go_sem, e5, q0, q1, q2, q3, q4, q5]
            refine ⟨fun a W hW hag hdep => ?_, ?_⟩
            · skip
              have eg : a.eval (.tmp 126) = .bool true := actV_at (by decide) (hdep 3 (by decide))
              refine flatE_go (t := 126) rfl rfl eg ?_
              have e127 : a.tmps[127]?.getD undef = .agg #[.int .i64 kd, .int .i64 vn, .bool dn, .slice ka kn kc, .string nm, .int .u32 (m : Int)] := evalD (actV_at (by decide) (hdep 4 (by decide)))
              refine flatE_call (f := 28) (args := #[.agg #[.int .i64 kd, .int .i64 vn, .bool dn, .slice ka kn kc, .string nm, .int .u32 (m : Int)]]) (by simp [go_sem, e127]) ((HLN.out W hW).mono ?_)
              rintro e W' ⟨rfl, hb5⟩
              exact ⟨_, rfl, EA.of_below hb5 (Nat.lt_of_lt_of_le HRS.out hW.size), actV_mk (by decide) rfl⟩
            refine ⟨fun a W hW hag hdep => ?_, ?_⟩
            · skip
              have eg : a.eval (.tmp 126) = .bool true := actV_at (by decide) (hdep 3 (by decide))
              refine flatE_go (t := 126) rfl rfl eg ?_
              have e0 : a.tmps[0]?.getD undef = .string s := evalD (hag.keep (t := 0) (by kernel_rfl) rfl)
              refine flatE_run (EA.refl _ _ _) (u := .string s) ?_ (actV_mk (by decide) rfl)
              simp [go_sem, e0]
            refine ⟨fun a W hW hag hdep => ?_, ?_⟩
            · skip
              have eg : a.eval (.tmp 126) = .bool true := actV_at (by decide) (hdep 3 (by decide))
              refine flatE_go (t := 126) rfl rfl eg ?_
              have e128 : a.tmps[128]?.getD undef = sv LN := evalD (actV_at (by decide) (hdep 5 (by decide)))
              have e129 : a.tmps[129]?.getD undef = .string s := evalD (actV_at (by decide) (hdep 6 (by decide)))
              refine flatE_run (EA.refl _ _ _) (u := (.bool ((⟨LN.toArray⟩ : ByteArray).toList == s.toList))) ?_ (actV_mk (by decide) rfl)
              simp [go_sem, e128, e129]
            refine ⟨fun a W hW hag hdep => ?_, ?_⟩
            · have e126 : a.tmps[126]?.getD undef = .bool true := evalD (actV_at (by decide) (hdep 3 (by decide)))
              have e130 : a.tmps[130]?.getD undef = (.bool ((⟨LN.toArray⟩ : ByteArray).toList == s.toList)) := evalD (actV_at (by decide) (hdep 7 (by decide)))
              refine flatE_on rfl ?_
              refine flatE_run (EA.refl _ _ _) (u := (.bool ((⟨LN.toArray⟩ : ByteArray).toList == s.toList))) ?_ (actV_mk (by decide) rfl)
              simp [go_sem, e126, e130]
            refine ⟨fun a W hW hag hdep => ?_, ?_⟩
            · have e123 : a.tmps[123]?.getD undef = .agg #[.int .i64 kd, .int .i64 vn, .bool dn, .slice ka kn kc, .string nm, .int .u32 (m : Int)] := evalD (actV_at (by decide) (hdep 0 (by decide)))
              have e2 : a.tmps[2]?.getD undef = .pointer (some ⟨w.heap.size, 0, none⟩) := evalD (hag.keep (t := 2) (by kernel_rfl) rfl)
              refine flatE_on rfl ?_
              obtain ⟨Z, hZ, hZ6⟩ := HZ.out W hW
              have z0 : W.cell? ⟨w.heap.size, 0, none⟩ = some (Z.getD 0 undef) := store_cell hZ hZ6 0 (by decide)
              have y0 : W.frozen? ⟨w.heap.size, 0, none⟩ = false := frozen_of_row _ _ _ _ _ hZ
              have z1 : W.cell? ⟨w.heap.size, 1, none⟩ = some (Z.getD 1 undef) := store_cell hZ hZ6 1 (by decide)
              have y1 : W.frozen? ⟨w.heap.size, 1, none⟩ = false := frozen_of_row _ _ _ _ _ hZ
              have z2 : W.cell? ⟨w.heap.size, 2, none⟩ = some (Z.getD 2 undef) := store_cell hZ hZ6 2 (by decide)
              have y2 : W.frozen? ⟨w.heap.size, 2, none⟩ = false := frozen_of_row _ _ _ _ _ hZ
              have z3 : W.cell? ⟨w.heap.size, 3, none⟩ = some (Z.getD 3 undef) := store_cell hZ hZ6 3 (by decide)
              have y3 : W.frozen? ⟨w.heap.size, 3, none⟩ = false := frozen_of_row _ _ _ _ _ hZ
              have z4 : W.cell? ⟨w.heap.size, 4, none⟩ = some (Z.getD 4 undef) := store_cell hZ hZ6 4 (by decide)
              have y4 : W.frozen? ⟨w.heap.size, 4, none⟩ = false := frozen_of_row _ _ _ _ _ hZ
              have z5 : W.cell? ⟨w.heap.size, 5, none⟩ = some (Z.getD 5 undef) := store_cell hZ hZ6 5 (by decide)
              have y5 : W.frozen? ⟨w.heap.size, 5, none⟩ = false := frozen_of_row _ _ _ _ _ hZ
              obtain ⟨s1, s2⟩ := store_six hZ hZ6 (.int .i64 kd) (.int .i64 vn) (.bool dn) (.slice ka kn kc) (.string nm) (.int .u32 (m : Int))
              refine flatE_skip ?_ s1 s2
              simp [go_sem, e2, e123, z0, z1, z2, z3, z4, z5, y0, y1, y2, y3, y4, y5]
            refine ⟨fun a W hW hag hdep => ?_, ?_⟩
            · have e131 : a.tmps[131]?.getD undef = (.bool ((⟨LN.toArray⟩ : ByteArray).toList == s.toList)) := evalD (actV_at (by decide) (hdep 8 (by decide)))
              refine flatE_on rfl ?_
              refine flatE_run (EA.refl _ _ _) (u := (.bool ((⟨LN.toArray⟩ : ByteArray).toList == s.toList))) ?_ (actV_mk (by decide) rfl)
              simp [go_sem, e131]
            exact trivial
          · intro vs W5 hW5 hvs
            have v0 : vs 0 = _ := actV_at (by decide) (hvs 0 (by decide))
            have v1 : vs 1 = _ := actV_at (by decide) (hvs 1 (by decide))
            have v2 : vs 2 = _ := actV_at (by decide) (hvs 2 (by decide))
            have v3 : vs 3 = _ := actV_at (by decide) (hvs 3 (by decide))
            have v4 : vs 4 = _ := actV_at (by decide) (hvs 4 (by decide))
            have v5 : vs 5 = _ := actV_at (by decide) (hvs 5 (by decide))
            have v6 : vs 6 = _ := actV_at (by decide) (hvs 6 (by decide))
            have v7 : vs 7 = _ := actV_at (by decide) (hvs 7 (by decide))
            have v8 : vs 8 = _ := actV_at (by decide) (hvs 8 (by decide))
            have v10 : vs 10 = _ := actV_at (by decide) (hvs 10 (by decide))
            have hx5 : W5.heap[w.heap.size]? = _ := hvs 9 (by decide)
            simp only [putAll, Act.put, List.setIfInBounds_toArray, List.set_cons_zero, List.set_cons_succ]
            rw [v0, v1, v2, v3, v4, v5, v6, v7, v8, v10]
            have r0 := cell_of_row _ _ 0 _ _ _ hx5
            have r1 := cell_of_row _ _ 1 _ _ _ hx5
            have r2 := cell_of_row _ _ 2 _ _ _ hx5
            have r3 := cell_of_row _ _ 3 _ _ _ hx5
            have r4 := cell_of_row _ _ 4 _ _ _ hx5
            have r5 := cell_of_row _ _ 5 _ _ _ hx5
            have HW5 := Lib.hid (show EA w.heap.size (some (.cells #[.int .i64 kd, .int .i64 vn, .bool dn, .slice ka kn kc, .string nm, .int .u32 (m : Int)] 30 (0, 0))) wc W5 from hW5)
            clear v0 v1 v2 v3 v4 v5 v6 v7 v8 v10 hvs hW5 hx5
            go_wp2_with fail
            have hz : (⟨LN.toArray⟩ : ByteArray).toList = LN := by rw [ByteArray.toList_eq]
            have hB : ((⟨LN.toArray⟩ : ByteArray).toList == s.toList) = (refRead s.data.toList).isSome := by
              rw [HP0.out, HRR.out, HLT.out, hz, ByteArray.toList_eq]
              by_cases h : LN = s.data.toList
              · rw [if_pos ⟨rfl, h⟩, h]; simp
              · rw [if_neg (fun x => h x.2)]; simpa using h
            have hok : (refRead s.data.toList).isSome = true → refRead s.data.toList = some (X.abs keep) := fun h => by
              rw [HP0.out] at h ⊢
              split at h
              · next hc => rw [if_pos hc]
              · cases h
            have HOK := Lib.hid hok
            have HB5 := Lib.hid (HBW.out.trans (HW5.out.below (Nat.le_of_lt HRS.out)))
            rw [← hB]
            obtain ⟨habs, hXk, hlen4, hloc, hmk, hnm, hkn⟩ := HAB.out
            have hk8 := right_kind HRR.out
            have hn9 := right_n HRR.out
            refine ⟨rfl, _, by simp [results, go_sem, r0, r1, r2, r3, r4, r5]; rfl, ⟨X, keep⟩, ?_, HB5.out, fun h => ⟨HOK.out (by rw [← hB]; exact h), ⟨?_, ?_, ?_, ?_, ?_, ?_, ?_⟩, ?_⟩⟩
            · show _ = Ending.returned (.tuple #[.agg X.cells, _])
              rw [HCX.out, hz]
            · have h1 : 1 ≤ X.kind := hk8.1
              have h2 : X.kind ≤ 8 := hk8.2
              exact ⟨by show _ ≤ X.kind; omega, by show X.kind ≤ _; omega⟩
            · have h1 : 0 ≤ X.n := hn9.1
              have h2 : X.n ≤ 999999 := hn9.2
              exact ⟨by show _ ≤ X.n; omega, by show X.n ≤ _; omega⟩
            · show keep.length = X.kn
              rw [hXk.2.1]; exact hlen4
            · show X.kn ≤ _
              rw [hXk.2.1]; omega
            · show X.nm.size ≤ _
              rw [hXk.2.2.1]; omega
            · show Rd _ _ X.ka keep
              rw [hXk.1]; exact HRX.out W5 HW5.out
            · show X.mask < _
              rw [hXk.2.2.2]; exact hmk
            · rcases hloc with h0 | ⟨g1, o, hka, hg⟩
              · exact .inl h0
              · exact .inr ⟨g1, ⟨o, by rw [← hka]; exact hXk.1⟩, by have := HPR.out.2.2; omega⟩
end Go.Proofs.YtifdmgloheampaaDoor
