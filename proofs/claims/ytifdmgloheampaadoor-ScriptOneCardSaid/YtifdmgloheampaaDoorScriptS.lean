/- The walk of the script's act. Condition: the text is short; the world is laid. -/
import Derived.Test.YtifdmgloheampaaDoorScriptR
import Derived.Test.YtifdmgloheampaaDoorFlatE
import Derived.Deep.QuietTactic
import Derived.BigQuiet
namespace Go.Proofs.YtifdmgloheampaaDoor
open Go.RowKit DiskM ScriptM

theorem parts_len : ∀ l : List UInt8, (parts l).length ≤ l.length + 1
  | [] => by simp [parts]
  | c :: r => by
    have ih := parts_len r
    simp only [parts]
    split
    · simp; omega
    · cases h : parts r with
      | nil => simp
      | cons x xs => rw [h] at ih; simp only [List.length_cons] at ih ⊢; omega
theorem parts_ne : ∀ l : List UInt8, parts l ≠ []
  | [] => by simp [parts]
  | c :: r => by
    simp only [parts]
    split
    · simp
    · cases h : parts r with
      | nil => simp
      | cons x xs => simp
theorem parts_each : ∀ (l : List UInt8) x, x ∈ parts l → x.length ≤ l.length
  | [], x, h => by
    simp only [parts, List.mem_singleton] at h
    subst h; simp
  | c :: r, x, h => by
    have ih := parts_each r
    simp only [parts] at h
    split at h
    · rcases List.mem_cons.1 h with rfl | h
      · simp
      · have := ih x h; simp only [List.length_cons]; omega
    · cases hp : parts r with
      | nil => exact absurd hp (parts_ne r)
      | cons y ys =>
        rw [hp] at h ih
        rcases List.mem_cons.1 h with rfl | h
        · have := ih y (by simp); simp only [List.length_cons]; omega
        · have := ih x (by simp [h]); simp only [List.length_cons]; omega
theorem cut_len (l : List UInt8) : (cutLast l).length ≤ l.length := by
  unfold cutLast Lib.trimSuffix
  split
  · exact List.length_take_le' _ _
  · exact Nat.le_refl _
theorem right_n {a : ScriptM.Act} (h : right a = true) : 0 ≤ a.n ∧ a.n ≤ 999999 := by
  obtain ⟨r1, r2, r3, r4, r5⟩ := right_parts h
  have hk := right_kind h
  have hks : a.kind = 1 ∨ a.kind = 2 ∨ a.kind = 3 ∨ a.kind = 7 ∨ a.kind = 5 ∨ a.kind = 8 ∨ a.kind = 4 ∨ a.kind = 6 := by omega
  rcases hks with e | e | e | e | e | e | e | e
  · exact r2 (.inl e)
  · exact r2 (.inr (.inl e))
  · exact r2 (.inr (.inr (.inl e)))
  · exact r2 (.inr (.inr (.inr e)))
  · exact r3 e
  · exact ⟨(r4 e).1, (r4 e).2.1⟩
  · unfold right at h
    rw [e, if_neg (by decide), if_pos rfl] at h
    simp only [Bool.and_eq_true, decide_eq_true_eq] at h
    have := h.1.1.1.1
    omega
  · unfold right at h
    rw [e, if_neg (by decide), if_neg (by decide), if_neg (by decide), if_pos rfl] at h
    simp only [Bool.and_eq_true, decide_eq_true_eq] at h
    have := h.1.1.1.1
    omega
/-- only block R turns, and into xs at most -/
structure EA (R : Nat) (xs : Option Obj) (w w' : World) : Prop where
  os : w'.os = w.os
  tape : w'.tape = w.tape
  output : w'.output = w.output
  size : w.heap.size ≤ w'.heap.size
  block : ∀ k, k < w.heap.size → k ≠ R → w'.heap[k]? = w.heap[k]?
  at_ : w'.heap[R]? = w.heap[R]? ∨ w'.heap[R]? = xs
section
variable {R : Nat} {xs : Option Obj} {w w' w'' : World}
theorem EA.refl (R : Nat) (xs : Option Obj) (w : World) : EA R xs w w := ⟨rfl, rfl, rfl, Nat.le_refl _, fun _ _ _ => rfl, .inl rfl⟩
theorem EA.trans (h : EA R xs w w') (k : EA R xs w' w'') : EA R xs w w'' :=
  ⟨k.os.trans h.os, k.tape.trans h.tape, k.output.trans h.output, Nat.le_trans h.size k.size, fun j hj hR => (k.block j (Nat.lt_of_lt_of_le hj h.size) hR).trans (h.block j hj hR), by
    rcases k.at_ with e | e
    · rw [e]; exact h.at_
    · exact .inr e⟩
theorem EA.of_below (hb : Below w.heap.size w w') (hR : R < w.heap.size) : EA R xs w w' := ⟨hb.os, hb.tape, hb.output, hb.size, fun k hk _ => hb.block k hk, .inl (hb.block R hR)⟩
theorem EA.below (h : EA R xs w w') (hR : R ≤ w.heap.size) : Below R w w' := ⟨h.os, h.tape, h.output, h.size, fun k hk => h.block k (by omega) (by omega)⟩
theorem EA.cell (h : EA R xs w w') {b o : Nat} (hb : b < w.heap.size) (hR : b ≠ R) : w'.cell? ⟨b, o, none⟩ = w.cell? ⟨b, o, none⟩ := World.cell?_of_block (w := w) (h.block b hb hR)
end
/-- what region 8's values are: the ninth operation is the store -/
def actV (R : Nat) (xs : Option Obj) (cs : List Value) (i : Nat) (u : Value) (W : World) : Prop := if i = 9 then W.heap[R]? = xs else u = cs.getD i undef
section
variable {R : Nat} {xs : Option Obj} {cs : List Value} {i : Nat} {u : Value} {W : World}
theorem actV_at (h : i ≠ 9) (hv : actV R xs cs i u W) : u = cs.getD i undef := by unfold actV at hv; rwa [if_neg h] at hv
theorem actV_mk (h : i ≠ 9) (hv : u = cs.getD i undef) : actV R xs cs i u W := by unfold actV; rwa [if_neg h]
theorem actV_keep (R : Nat) (xs : Option Obj) (cs : List Value) (i : Nat) (v : Value) (w w' : World) (hv : actV R xs cs i v w) (h : EA R xs w w') : actV R xs cs i v w' := by
  unfold actV at *
  split at hv
  · rename_i hi
    rw [if_pos hi]
    rcases h.at_ with e | e
    · rw [e]; exact hv
    · exact e
  · rename_i hi
    rw [if_neg hi]; exact hv
theorem actV_none (h : i = 9) (v : Value) (w : World) (hv : actV R xs cs i v w) : actV R xs cs i undef w := by
  unfold actV at *
  rw [if_pos h] at hv ⊢; exact hv
end
theorem only_none {l : List Oper} {k : Nat} (h : (l.zipIdx.all fun p => p.1.dst.isSome || p.2 == k) = true) (i : Nat) (o : Oper) (ho : l[i]? = some o) (hd : o.dst = none) : i = k := by
  have hm : (o, i) ∈ l.zipIdx := by rw [List.mem_zipIdx_iff_getElem?]; exact ho
  have := List.all_eq_true.1 h _ hm
  rw [hd] at this
  simpa using this
theorem flatE_run {P : Program} {E : World → World → Prop} {V : Value → World → Prop} {w : World} {u : Value} {res : Result Next} (hE : E w w) (hr : res = .ok (.value u) w) (h : V u w) : FlatUponE P E V w res := by
  rw [hr]; exact ⟨hE, h⟩
theorem flatE_call {P : Program} {E : World → World → Prop} {V : Value → World → Prop} {w : World} {f : FuncId} {args : Array Value} {res : Result Next} (hr : res = .ok (.enter f args) w) (h : Calls P f args w fun e w'' => ∃ v, e = .returned v ∧ E w w'' ∧ V v w'') : FlatUponE P E V w res := by
  rw [hr]; exact h
theorem flatE_skip {P : Program} {E : World → World → Prop} {V : Value → World → Prop} {w w' : World} {res : Result Next} (hr : res = .ok .skip w') (hE : E w w') (h : V undef w') : FlatUponE P E V w res := by
  rw [hr]; exact ⟨hE, h⟩
theorem six (Z : Array Value) (h6 : Z.size = 6) (a b c d e f : Value) : ((((((Z.setIfInBounds 0 a).setIfInBounds 1 b).setIfInBounds 2 c).setIfInBounds 3 d).setIfInBounds 4 e).setIfInBounds 5 f) = #[a, b, c, d, e, f] := by
  obtain ⟨l⟩ := Z
  have h6 : l.length = 6 := h6
  obtain ⟨x0, l, rfl⟩ : ∃ x r, l = x :: r := by cases l with | nil => cases h6 | cons x r => exact ⟨x, r, rfl⟩
  obtain ⟨x1, l, rfl⟩ : ∃ x r, l = x :: r := by cases l with | nil => cases h6 | cons x r => exact ⟨x, r, rfl⟩
  obtain ⟨x2, l, rfl⟩ : ∃ x r, l = x :: r := by cases l with | nil => cases h6 | cons x r => exact ⟨x, r, rfl⟩
  obtain ⟨x3, l, rfl⟩ : ∃ x r, l = x :: r := by cases l with | nil => cases h6 | cons x r => exact ⟨x, r, rfl⟩
  obtain ⟨x4, l, rfl⟩ : ∃ x r, l = x :: r := by cases l with | nil => cases h6 | cons x r => exact ⟨x, r, rfl⟩
  obtain ⟨x5, l, rfl⟩ : ∃ x r, l = x :: r := by cases l with | nil => cases h6 | cons x r => exact ⟨x, r, rfl⟩
  obtain rfl : l = [] := by cases l with | nil => rfl | cons x r => simp at h6
  simp [List.setIfInBounds_toArray]
set_option maxHeartbeats 1000000 in
theorem store_six {W : World} {R : Nat} {Z : Array Value} {T : TypeId} (hZ : W.heap[R]? = some (.cells Z T (0, 0))) (h6 : Z.size = 6) (a b c d e f : Value) :
    EA R (some (.cells #[a, b, c, d, e, f] T (0, 0))) W ((((((W.setCell ⟨R, 0, none⟩ a).setCell ⟨R, 1, none⟩ b).setCell ⟨R, 2, none⟩ c).setCell ⟨R, 3, none⟩ d).setCell ⟨R, 4, none⟩ e).setCell ⟨R, 5, none⟩ f) ∧
    ((((((W.setCell ⟨R, 0, none⟩ a).setCell ⟨R, 1, none⟩ b).setCell ⟨R, 2, none⟩ c).setCell ⟨R, 3, none⟩ d).setCell ⟨R, 4, none⟩ e).setCell ⟨R, 5, none⟩ f).heap[R]? = some (.cells #[a, b, c, d, e, f] T (0, 0)) := by
  have k0 := heap_setCell_same _ R 0 _ _ a hZ
  have k1 := heap_setCell_same _ R 1 _ _ b k0
  have k2 := heap_setCell_same _ R 2 _ _ c k1
  have k3 := heap_setCell_same _ R 3 _ _ d k2
  have k4 := heap_setCell_same _ R 4 _ _ e k3
  have h := heap_setCell_same _ R 5 _ _ f k4
  rw [six Z h6] at h
  have hb := ((((((Below.refl R W).setCell (p := ⟨R, 0, none⟩) (Nat.le_refl _) a).setCell (p := ⟨R, 1, none⟩) (Nat.le_refl _) b).setCell (p := ⟨R, 2, none⟩) (Nat.le_refl _) c).setCell (p := ⟨R, 3, none⟩) (Nat.le_refl _) d).setCell (p := ⟨R, 4, none⟩) (Nat.le_refl _) e).setCell (p := ⟨R, 5, none⟩) (Nat.le_refl _) f
  refine ⟨⟨hb.os, hb.tape, hb.output, hb.size, fun k _ hk => ?_, .inr h⟩, h⟩
  rw [Below.heap_setCell _ _ _ _ hk, Below.heap_setCell _ _ _ _ hk, Below.heap_setCell _ _ _ _ hk, Below.heap_setCell _ _ _ _ hk, Below.heap_setCell _ _ _ _ hk, Below.heap_setCell _ _ _ _ hk]
theorem store_cell {W : World} {R : Nat} {Z : Array Value} {T : TypeId} (hZ : W.heap[R]? = some (.cells Z T (0, 0))) (h6 : Z.size = 6) (j : Nat) (hj : j < 6) : W.cell? ⟨R, j, none⟩ = some (Z.getD j undef) := by
  rw [cell_of_row _ _ _ _ _ _ hZ, Array.getD_eq_getD_getElem?, Array.getElem?_eq_getElem (by omega)]; rfl
/-- a call that leaves the world as it was, in a region behind draws -/
theorem still_call {f : FuncId} {args : Array Value} {w : World} {a n : Nat} {v : Value} (h : ∀ W, Calls Tryd.prog f args W fun e w' => e = .returned v ∧ W = w') :
    Calls Tryd.prog f args (w.drewN (a + n)) fun e w'' => e = .returned v ∧ ∃ m, w'' = w.drewN (a + m) :=
  (h (w.drewN (a + n))).mono fun _ _ p => ⟨p.1, n, p.2.symm⟩
set_option maxRecDepth 100000 in
set_option maxHeartbeats 8000000 in
theorem act_any (s : ByteArray) (w : World) (hs : s.size ≤ 1000) (hl : Laid w) :
    Calls Tryd.prog 33 #[.string s] w fun e w' => ∃ v : ActV, e = .returned (.tuple #[.agg v.x.cells, .bool (progRead s.data.toList).2]) ∧ Below w.heap.size w w' ∧ ((progRead s.data.toList).2 = true → v.abs = (progRead s.data.toList).1 ∧ v.Ok w' w'.heap.size ∧ (v.keep = [] ∨ ∃ g o, v.x.ka = some ⟨g, o, none⟩ ∧ w.heap.size ≤ g)) := by
  have HL := Lib.hid hl
  obtain ⟨C, hC⟩ : ∃ C, cutLast s.data.toList = C := ⟨_, rfl⟩
  have hCl : C.length ≤ 1000 := by
    rw [← hC]
    have := cut_len s.data.toList
    have h2 : s.data.toList.length = s.size := by rw [Array.length_toList]; rfl
    omega
  obtain ⟨L, hL⟩ : ∃ L, parts C = L := ⟨_, rfl⟩
  have hLl : L.length ≤ 1001 := by have := parts_len C; rw [hL] at this; omega
  have hLe : ∀ x ∈ L, x.length ≤ 1000 := fun x hx => by have := parts_each C x (by rw [hL]; exact hx); omega
  have hLn : L ≠ [] := by rw [← hL]; exact parts_ne C
  have HT : Hid (∀ w, Calls Tryd.prog 45 #[.string s, .string ⟨#[10]⟩] w fun e w' => e = .returned (sv C) ∧ w = w') := Lib.hid (fun w => by rw [← hC]; exact trim_any s w (by omega))
  have HSP : Hid (∀ w', Laid w' → Calls Tryd.prog 44 #[sv C, .string ⟨#[32]⟩] w' fun e w'' => ∃ B n, n = L.length ∧ e = .returned (.slice (some ⟨B, 0, none⟩) n n) ∧ B = w'.heap.size ∧ w'' = w'.alloc (.cells (L.map sv).toArray 9)) :=
    Lib.hid (fun w' hl' => by rw [← hL]; exact split_any ⟨C.toArray⟩ w' (by show C.toArray.size < _; rw [List.size_toArray]; omega) hl')
  have HD := Lib.hid (And.intro hC (And.intro hL (And.intro hLl (And.intro hLe hLn))))
  clear hl hC hCl hL hLl hLe hLn
  go_enter Tryd.func33, Tryd.ntmps33
  go_wp2_with (first | (refine (HT.out _).mono ?_; rintro e w' ⟨rfl, rfl⟩) | (refine (HSP.out _ (HL.out.below ((Below.refl _ _).alloc (Nat.le_refl _) _))).mono ?_; rintro e w1 ⟨B, n, hn, rfl, hB, hw⟩))
  have hb0 : Below w.heap.size w w1 := by rw [hw]; exact ((Below.refl _ _).alloc (Nat.le_refl _) _).alloc (by simp) _
  have hR : w1.heap[w.heap.size]? = some (.cells #[.int .i64 0, .int .i64 0, .bool false, .slice none 0 0, .string .empty, .int .u32 0] 30 (0, 0)) := by
    rw [hw, Below.heap_alloc _ _ _ (by simp)]; exact heap_alloc_new _ _
  have hS : w1.heap[w.heap.size + 1]? = some (.cells (L.map sv).toArray 9 (0, 0)) := by
    have e : (w.alloc (.cells #[.int .i64 0, .int .i64 0, .bool false, .slice none 0 0, .string .empty, .int .u32 0] 30)).heap.size = w.heap.size + 1 := by simp
    rw [hw, ← e]; exact heap_alloc_new _ _
  have hz : w1.heap.size = w.heap.size + 2 := by rw [hw]; simp
  rw [← hw]
  clear hw hB hn
  obtain ⟨l0, rest, hLe⟩ : ∃ l0 rest, L = l0 :: rest := by
    cases L with
    | nil => exact absurd rfl HD.out.2.2.2.2
    | cons a r => exact ⟨a, r, rfl⟩
  have hl0 : w1.cell? ⟨w.heap.size + 1, 0, none⟩ = some (sv l0) := by rw [cell_of_row _ _ _ _ _ _ hS, hLe]; rfl
  have HLE := Lib.hid hLe
  have HW := Lib.hid (And.intro hb0 (And.intro hR (And.intro hS hz)))
  have hn0 : 0 < L.length := by rw [hLe]; simp
  have hn1 : L.length ≤ 1001 := HD.out.2.2.1
  obtain ⟨n, hn⟩ : ∃ n, L.length = n := ⟨_, rfl⟩
  rw [hn] at hn0 hn1 ⊢
  have HN := Lib.hid hn
  clear hLe hb0 hR hS hz hn
  go_loopw [5] (fun kv wr => ∃ (j : Nat) (q : Nat), kv = .int .i64 (j : Int) ∧ 1 ≤ j ∧ j ≤ 9 ∧ wr = w1.drewN q ∧ ∀ i : Int, 1 ≤ i → i < j → word i ≠ l0) (fun kv _ => 9 - (intOf kv).toNat)
  case atStart => exact ⟨1, 0, rfl, by omega, by omega, rfl, fun i h1 h2 => by omega⟩
  case round =>
    obtain ⟨j, q, rfl, hj1, hj9, rfl, hno⟩ := hrel
    by_cases hj : j ≤ 8
    · have hj' : (j : Int) ≤ 8 := by omega
      have HNO := Lib.hid hno
      have HWD := Lib.hid (word_any (j : Int))
      have hlen : (word (j : Int)).length ≤ 16 := word_len _
      obtain ⟨wj, hwj⟩ : ∃ wj, word (j : Int) = wj := ⟨_, rfl⟩
      rw [hwj] at HWD hlen
      have HWJ := Lib.hid hwj
      clear hno hwj
      by_cases heq : wj = l0
      · subst heq
        go_wp2_with fail
        go_quiet ((exact still_call HWD.out))
        obtain ⟨W2, hW2⟩ : ∃ W2, (w1.drewN q).drewN nq = W2 := ⟨_, rfl⟩
        have hw2 : Below w.heap.size w W2 ∧ W2.heap[w.heap.size]? = some (.cells #[.int .i64 0, .int .i64 0, .bool false, .slice none 0 0, .string .empty, .int .u32 0] 30 (0, 0)) ∧ W2.heap[w.heap.size + 1]? = some (.cells (L.map sv).toArray 9 (0, 0)) ∧ W2.heap.size = w.heap.size + 2 := by
          rw [← hW2]
          exact ⟨below_drewN (below_drewN HW.out.1 _) _, HW.out.2.1, HW.out.2.2.1, HW.out.2.2.2⟩
        rw [hW2]
        have HW2 := Lib.hid hw2
        clear hW2 hw2 hl0 HW
        have hk18 : 1 ≤ (j : Int) ∧ (j : Int) ≤ 8 := by omega
        have hrest : rest.length = n - 1 := by have := HN.out; rw [HLE.out, List.length_cons] at this; omega
        have hBX : ∀ W3, W3 = W2.alloc (.cells #[.int .i64 (j : Int), .int .i64 0, .bool false, .slice none 0 0, .string .empty, .int .u32 0] 30) → ∀ o, (o = 1 ∨ rest = []) →
            Calls Tryd.prog 46 #[.pointer (some ⟨W2.heap.size, 0, none⟩), .slice (some ⟨w.heap.size + 1, o, none⟩) (n - 1) (n - 1)] W3 fun e w' => e = .returned (.tuple #[]) ∧ ∃ v, Filled v (wordsM (j : Int) rest) W2.heap.size W3 w' := by
          intro W3 hW3 o ho
          obtain ⟨g1, g2, g3, g4⟩ := HW2.out
          have hb3 : Below W2.heap.size W2 W3 := by rw [hW3]; exact (Below.refl _ _).alloc (Nat.le_refl _) _
          refine words_any (j : Int) hk18 W2.heap.size (w.heap.size + 1) o (n - 1) rest W3 hrest (by omega) (by omega) (by have := HL.out.big; omega) (by rw [hW3]; simp) (by rw [hW3]; exact heap_alloc_new _ _) (fun i x hx => ?_) (HL.out.below (Below.next0 g1 hb3))
          have hx2 : L[i + 1]? = some x := by rw [HLE.out]; simpa using hx
          refine ⟨?_, Nat.le_trans (HD.out.2.2.2.1 x (List.mem_of_getElem? hx2)) (by decide)⟩
          rcases ho with rfl | rfl
          · have e1 : W3.cell? ⟨w.heap.size + 1, 1 + i, none⟩ = W2.cell? ⟨w.heap.size + 1, 1 + i, none⟩ := hb3.cell (by show w.heap.size + 1 < _; omega)
            rw [e1, cell_of_row _ _ _ _ _ _ g3, List.getElem?_toArray, List.getElem?_map, Nat.add_comm 1 i, hx2]
            rfl
          · cases hx
        have HBX := Lib.hid hBX
        clear hBX hrest hk18
        rcases Nat.lt_or_ge 1 n with hn2 | hn2
        · go_wp2_with (refine (HBX.out _ rfl 1 (.inl rfl)).mono ?_; rintro e w4 ⟨rfl, v, hv⟩; have HV := Lib.hid hv; clear hv)
          obtain ⟨⟨⟨kd, vn, dn, ka, kn, kc, nm, m⟩, keep⟩, hve⟩ : ∃ v', v = v' := ⟨v, rfl⟩
          subst hve
          obtain ⟨hx4, habs, hlen4, hkn, hrd4, hnm, hmk, hb4, hloc⟩ := HV.out
          have hlen4 : keep.length = kn := hlen4
          have hkn : kn ≤ 1000000 := hkn
          have hmk : m < 4294967296 := hmk
          have hnm : nm.size ≤ 1000000 := hnm
          obtain ⟨g1, g2, g3, g4⟩ := HW2.out
          have hRz : w4.heap[w.heap.size]? = some (.cells #[.int .i64 0, .int .i64 0, .bool false, .slice none 0 0, .string .empty, .int .u32 0] 30 (0, 0)) := by
            rw [hb4.block _ (by omega), Below.heap_alloc _ _ _ (by omega)]; exact g2
          have hp4 : W2.heap.size < w4.heap.size := (Array.getElem?_eq_some_iff.1 hx4).1
          have HRS := Lib.hid (show w.heap.size < w4.heap.size by omega)
          have HPR := Lib.hid (show W2.heap.size ≠ w.heap.size ∧ W2.heap.size < w4.heap.size ∧ w.heap.size < W2.heap.size by omega)
          have hbw4 : Below w.heap.size w w4 := g1.trans ((((Below.refl _ _).alloc (Nat.le_refl _) _ : Below W2.heap.size W2 (W2.alloc (.cells #[.int .i64 (j : Int), .int .i64 0, .bool false, .slice none 0 0, .string .empty, .int .u32 0] 30))).mono (by omega)).trans (hb4.mono (by omega)))
          have HBW := Lib.hid hbw4
          obtain ⟨X, hX⟩ : ∃ X : ActC, X = ⟨kd, vn, dn, ka, kn, kc, nm, m⟩ := ⟨_, rfl⟩
          have hcells : X.cells = #[.int .i64 kd, .int .i64 vn, .bool dn, .slice ka kn kc, .string nm, .int .u32 (m : Int)] := by rw [hX]; rfl
          have hXk : X.ka = ka ∧ X.kn = kn ∧ X.nm = nm ∧ X.mask = m := by rw [hX]; exact ⟨rfl, rfl, rfl, rfl⟩
          have hrw : rightB X = right (X.abs keep) := rightB_right X keep (by rw [hXk.2.1]; exact hlen4)
          have habs : X.abs keep = wordsM (j : Int) rest := by rw [hX]; exact habs
          have hx4 : w4.heap[W2.heap.size]? = some (.cells #[.int .i64 kd, .int .i64 vn, .bool dn, .slice ka kn kc, .string nm, .int .u32 (m : Int)] 30 (0, 0)) := hx4
          have HQ : Hid (∀ W, EA w.heap.size (some (.cells #[.int .i64 kd, .int .i64 vn, .bool dn, .slice ka kn kc, .string nm, .int .u32 (m : Int)] 30 (0, 0))) w4 W → (W.cell? ⟨W2.heap.size, 0, none⟩ = some (.int .i64 kd) ∧ W.cell? ⟨W2.heap.size, 1, none⟩ = some (.int .i64 vn) ∧ W.cell? ⟨W2.heap.size, 2, none⟩ = some (.bool dn) ∧ W.cell? ⟨W2.heap.size, 3, none⟩ = some (.slice ka kn kc) ∧ W.cell? ⟨W2.heap.size, 4, none⟩ = some (.string nm) ∧ W.cell? ⟨W2.heap.size, 5, none⟩ = some (.int .u32 (m : Int)))) := Lib.hid (fun W hW => by
            have hx := (hW.block _ HPR.out.2.1 HPR.out.1).trans hx4
            exact ⟨cell_of_row _ _ 0 _ _ _ hx, cell_of_row _ _ 1 _ _ _ hx, cell_of_row _ _ 2 _ _ _ hx, cell_of_row _ _ 3 _ _ _ hx, cell_of_row _ _ 4 _ _ _ hx, cell_of_row _ _ 5 _ _ _ hx⟩)
          have HZ : Hid (∀ W, EA w.heap.size (some (.cells #[.int .i64 kd, .int .i64 vn, .bool dn, .slice ka kn kc, .string nm, .int .u32 (m : Int)] 30 (0, 0))) w4 W → ∃ Z : Array Value, W.heap[w.heap.size]? = some (.cells Z 30 (0, 0)) ∧ Z.size = 6) := Lib.hid (fun W hW => by
            rcases hW.at_ with e | e
            · exact ⟨_, e.trans hRz, rfl⟩
            · exact ⟨_, e, rfl⟩)
          have hrt := fun W => sright_any X W (by rw [hXk.2.2.1]; unfold maxLen; omega) (by rw [hXk.2.1]; omega)
          rw [hcells] at hrt
          have HP0 : Hid (progRead s.data.toList = (X.abs keep, right (X.abs keep) && decide (ScriptM.line (X.abs keep) = s.data.toList))) := Lib.hid (by
            unfold progRead
            rw [HD.out.1, HD.out.2.1, HLE.out]
            show (match kindOf wj with | none => (act0, false) | some k => (wordsM k rest, right (wordsM k rest) && decide (ScriptM.line (wordsM k rest) = s.data.toList))) = _
            rw [← HWJ.out, kindOf_word (j : Int) (by omega)]
            show (wordsM (j : Int) rest, _) = _
            rw [habs])
          have HCX := Lib.hid hcells
          have HRX : Hid (∀ W, EA w.heap.size (some (.cells #[.int .i64 kd, .int .i64 vn, .bool dn, .slice ka kn kc, .string nm, .int .u32 (m : Int)] 30 (0, 0))) w4 W → Rd W W.heap.size ka keep) := Lib.hid (by
            intro W hW
            have hrd4 : Rd w4 w4.heap.size ka keep := hrd4
            rcases hloc with h0 | ⟨g, o, hka, hg⟩
            · have h0 : keep = [] := h0
              exact .inl h0
            · have hka : ka = some ⟨g, o, none⟩ := hka
              rcases hrd4 with h0 | ⟨b, o2, e2, hb, hc⟩
              · exact .inl h0
              · rw [hka] at e2
                injection e2 with e2
                injection e2 with e3 e4
                subst e3; subst e4
                exact .inr ⟨g, o, hka, Nat.lt_of_lt_of_le hb hW.size, fun i x hx => (hW.cell hb (by have := HPR.out.2.2; omega)).trans (hc i x hx)⟩)
          have HAB := Lib.hid (And.intro habs (And.intro hXk (And.intro hlen4 (And.intro hrd4 (And.intro hloc (And.intro hmk (And.intro hnm hkn)))))))
          clear hx4 habs hlen4 hkn hrd4 hnm hmk hb4 hloc g1 g2 g3 g4 hRz hp4 hbw4 hX hXk HV
          cases hR : right (X.abs keep) with
          | false =>
            rw [hrw, hR] at hrt
            have HRT := Lib.hid hrt
            have HRR := Lib.hid hR
            clear hrt hrw hR hcells
            refine wp_region_flatE (E := EA w.heap.size (some (.cells #[.int .i64 kd, .int .i64 vn, .bool dn, .slice ka kn kc, .string nm, .int .u32 (m : Int)] 30 (0, 0)))) (EA.refl _ _) (by kernel_rfl) (fun W => EA w.heap.size (some (.cells #[.int .i64 kd, .int .i64 vn, .bool dn, .slice ka kn kc, .string nm, .int .u32 (m : Int)] 30 (0, 0))) w4 W) (fun _ _ h h' => h.trans h') (actV w.heap.size (some (.cells #[.int .i64 kd, .int .i64 vn, .bool dn, .slice ka kn kc, .string nm, .int .u32 (m : Int)] 30 (0, 0))) [.agg #[.int .i64 kd, .int .i64 vn, .bool dn, .slice ka kn kc, .string nm, .int .u32 (m : Int)], .agg #[.int .i64 kd, .int .i64 vn, .bool dn, .slice ka kn kc, .string nm, .int .u32 (m : Int)], .bool false, .bool false, undef, undef, undef, undef, .bool false, undef, .bool false]) (actV_keep _ _ _) (fun i o ho hd => actV_none (only_none (k := 9) (by kernel_rfl) i o ho hd)) (by kernel_rfl) ⟨rfl, rfl, rfl, Nat.le_refl _, fun _ _ _ => rfl, .inl rfl⟩ ?_ ?_
            · skip
              refine ⟨fun a W hW hag hdep => ?_, ?_⟩
              · have e6 : a.tmps[6]?.getD undef = .pointer (some ⟨W2.heap.size, 0, none⟩) := evalD (hag.keep (t := 6) (by kernel_rfl) rfl)
                refine flatE_on rfl ?_
                obtain ⟨q0, q1, q2, q3, q4, q5⟩ := HQ.out W hW
                refine flatE_run (EA.refl _ _ _) (u := .agg #[.int .i64 kd, .int .i64 vn, .bool dn, .slice ka kn kc, .string nm, .int .u32 (m : Int)]) ?_ (actV_mk (by decide) rfl)
                simp [go_sem, e6, q0, q1, q2, q3, q4, q5]
              refine ⟨fun a W hW hag hdep => ?_, ?_⟩
              · have e6 : a.tmps[6]?.getD undef = .pointer (some ⟨W2.heap.size, 0, none⟩) := evalD (hag.keep (t := 6) (by kernel_rfl) rfl)
                refine flatE_on rfl ?_
                obtain ⟨q0, q1, q2, q3, q4, q5⟩ := HQ.out W hW
                refine flatE_run (EA.refl _ _ _) (u := .agg #[.int .i64 kd, .int .i64 vn, .bool dn, .slice ka kn kc, .string nm, .int .u32 (m : Int)]) ?_ (actV_mk (by decide) rfl)
                simp [go_sem, e6, q0, q1, q2, q3, q4, q5]
              refine ⟨fun a W hW hag hdep => ?_, ?_⟩
              · have e26 : a.tmps[26]?.getD undef = .agg #[.int .i64 kd, .int .i64 vn, .bool dn, .slice ka kn kc, .string nm, .int .u32 (m : Int)] := evalD (actV_at (by decide) (hdep 1 (by decide)))
                refine flatE_on rfl ?_
                refine flatE_call (f := 10) (args := #[.agg #[.int .i64 kd, .int .i64 vn, .bool dn, .slice ka kn kc, .string nm, .int .u32 (m : Int)]]) (by simp [go_sem, e26]) ((HRT.out W).mono ?_)
                rintro e W' ⟨rfl, hb5⟩
                exact ⟨_, rfl, EA.of_below hb5 (Nat.lt_of_lt_of_le HRS.out hW.size), actV_mk (by decide) rfl⟩
              refine ⟨fun a W hW hag hdep => ?_, ?_⟩
              · have e27 : a.tmps[27]?.getD undef = .bool false := evalD (actV_at (by decide) (hdep 2 (by decide)))
                refine flatE_on rfl ?_
                refine flatE_run (EA.refl _ _ _) (u := .bool false) ?_ (actV_mk (by decide) rfl)
                simp [go_sem, e27]
              refine ⟨fun a W hW hag hdep => ?_, ?_⟩
              · skip
                have eg : a.eval (.tmp 28) = .bool false := actV_at (by decide) (hdep 3 (by decide))
                exact flatE_not (t := 28) rfl rfl eg (actV_mk (by decide) rfl)
              refine ⟨fun a W hW hag hdep => ?_, ?_⟩
              · skip
                have eg : a.eval (.tmp 28) = .bool false := actV_at (by decide) (hdep 3 (by decide))
                exact flatE_not (t := 28) rfl rfl eg (actV_mk (by decide) rfl)
              refine ⟨fun a W hW hag hdep => ?_, ?_⟩
              · skip
                have eg : a.eval (.tmp 28) = .bool false := actV_at (by decide) (hdep 3 (by decide))
                exact flatE_not (t := 28) rfl rfl eg (actV_mk (by decide) rfl)
              refine ⟨fun a W hW hag hdep => ?_, ?_⟩
              · skip
                have eg : a.eval (.tmp 28) = .bool false := actV_at (by decide) (hdep 3 (by decide))
                exact flatE_not (t := 28) rfl rfl eg (actV_mk (by decide) rfl)
              refine ⟨fun a W hW hag hdep => ?_, ?_⟩
              · have e28 : a.tmps[28]?.getD undef = .bool false := evalD (actV_at (by decide) (hdep 3 (by decide)))
                have e32 : a.tmps[32]?.getD undef = undef := evalD (actV_at (by decide) (hdep 7 (by decide)))
                refine flatE_on rfl ?_
                refine flatE_run (EA.refl _ _ _) (u := .bool false) ?_ (actV_mk (by decide) rfl)
                simp [go_sem, e28, e32]
              refine ⟨fun a W hW hag hdep => ?_, ?_⟩
              · have e25 : a.tmps[25]?.getD undef = .agg #[.int .i64 kd, .int .i64 vn, .bool dn, .slice ka kn kc, .string nm, .int .u32 (m : Int)] := evalD (actV_at (by decide) (hdep 0 (by decide)))
                have e2 : a.tmps[2]?.getD undef = .pointer (some ⟨w.heap.size, 0, none⟩) := evalD (hag.keep (t := 2) (by kernel_rfl) rfl)
                refine flatE_on rfl ?_
                obtain ⟨Z, hZ, hZ6⟩ := HZ.out W hW
                have z0 : W.cell? ⟨w.heap.size, 0, none⟩ = some (Z.getD 0 undef) := store_cell hZ hZ6 0 (by decide)
                have y0 : W.frozen? ⟨w.heap.size, 0, none⟩ = false := frozen_of_row _ _ _ _ _ hZ
                have z1 : W.cell? ⟨w.heap.size, 1, none⟩ = some (Z.getD 1 undef) := store_cell hZ hZ6 1 (by decide)
                have y1 : W.frozen? ⟨w.heap.size, 1, none⟩ = false := frozen_of_row _ _ _ _ _ hZ
                have z2 : W.cell? ⟨w.heap.size, 2, none⟩ = some (Z.getD 2 undef) := store_cell hZ hZ6 2 (by decide)
                have y2 : W.frozen? ⟨w.heap.size, 2, none⟩ = false := frozen_of_row _ _ _ _ _ hZ
                have z3 : W.cell? ⟨w.heap.size, 3, none⟩ = some (Z.getD 3 undef) := store_cell hZ hZ6 3 (by decide)
                have y3 : W.frozen? ⟨w.heap.size, 3, none⟩ = false := frozen_of_row _ _ _ _ _ hZ
                have z4 : W.cell? ⟨w.heap.size, 4, none⟩ = some (Z.getD 4 undef) := store_cell hZ hZ6 4 (by decide)
                have y4 : W.frozen? ⟨w.heap.size, 4, none⟩ = false := frozen_of_row _ _ _ _ _ hZ
                have z5 : W.cell? ⟨w.heap.size, 5, none⟩ = some (Z.getD 5 undef) := store_cell hZ hZ6 5 (by decide)
                have y5 : W.frozen? ⟨w.heap.size, 5, none⟩ = false := frozen_of_row _ _ _ _ _ hZ
                obtain ⟨s1, s2⟩ := store_six hZ hZ6 (.int .i64 kd) (.int .i64 vn) (.bool dn) (.slice ka kn kc) (.string nm) (.int .u32 (m : Int))
                refine flatE_skip ?_ s1 s2
                simp [go_sem, e2, e25, z0, z1, z2, z3, z4, z5, y0, y1, y2, y3, y4, y5]
              refine ⟨fun a W hW hag hdep => ?_, ?_⟩
              · have e33 : a.tmps[33]?.getD undef = .bool false := evalD (actV_at (by decide) (hdep 8 (by decide)))
                refine flatE_on rfl ?_
                refine flatE_run (EA.refl _ _ _) (u := .bool false) ?_ (actV_mk (by decide) rfl)
                simp [go_sem, e33]
              exact trivial
            · intro vs W5 hW5 hvs
              have v0 : vs 0 = _ := actV_at (by decide) (hvs 0 (by decide))
              have v1 : vs 1 = _ := actV_at (by decide) (hvs 1 (by decide))
              have v2 : vs 2 = _ := actV_at (by decide) (hvs 2 (by decide))
              have v3 : vs 3 = _ := actV_at (by decide) (hvs 3 (by decide))
              have v4 : vs 4 = _ := actV_at (by decide) (hvs 4 (by decide))
              have v5 : vs 5 = _ := actV_at (by decide) (hvs 5 (by decide))
              have v6 : vs 6 = _ := actV_at (by decide) (hvs 6 (by decide))
              have v7 : vs 7 = _ := actV_at (by decide) (hvs 7 (by decide))
              have v8 : vs 8 = _ := actV_at (by decide) (hvs 8 (by decide))
              have v10 : vs 10 = _ := actV_at (by decide) (hvs 10 (by decide))
              have hx5 : W5.heap[w.heap.size]? = _ := hvs 9 (by decide)
              simp only [putAll, Act.put, List.setIfInBounds_toArray, List.set_cons_zero, List.set_cons_succ]
              rw [v0, v1, v2, v3, v4, v5, v6, v7, v8, v10]
              have r0 := cell_of_row _ _ 0 _ _ _ hx5
              have r1 := cell_of_row _ _ 1 _ _ _ hx5
              have r2 := cell_of_row _ _ 2 _ _ _ hx5
              have r3 := cell_of_row _ _ 3 _ _ _ hx5
              have r4 := cell_of_row _ _ 4 _ _ _ hx5
              have r5 := cell_of_row _ _ 5 _ _ _ hx5
              have HW5 := Lib.hid (show EA w.heap.size _ w4 W5 from hW5)
              clear v0 v1 v2 v3 v4 v5 v6 v7 v8 v10 hvs hW5 hx5
              go_wp2_with fail
              have hP2 : (progRead s.data.toList).2 = false := by rw [HP0.out, HRR.out]; rfl
              have HB5 := Lib.hid (HBW.out.trans (HW5.out.below (Nat.le_of_lt HRS.out)))
              rw [hP2]
              refine ⟨rfl, _, by simp [results, go_sem, r0, r1, r2, r3, r4, r5]; rfl, ⟨⟨kd, vn, dn, ka, kn, kc, nm, m⟩, keep⟩, rfl, HB5.out, fun h => by cases h⟩
          | true =>
            have hline : ∀ W, EA w.heap.size (some (.cells #[.int .i64 kd, .int .i64 vn, .bool dn, .slice ka kn kc, .string nm, .int .u32 (m : Int)] 30 (0, 0))) w4 W → Calls Tryd.prog 26 #[.agg X.cells] W fun e w' => e = .returned (sv (ScriptM.line (X.abs keep))) ∧ Below W.heap.size W w' := by
              intro W hW
              obtain ⟨habs, hXk, hlen4, hrd4, hloc, hmk, hnm, hkn⟩ := HAB.out
              have hbR : Below w.heap.size w W := HBW.out.trans (hW.below (Nat.le_of_lt HRS.out))
              refine sline_any X keep W hR (by rw [hXk.2.2.2]; exact hmk) (by rw [hXk.2.1]; exact hlen4) ?_ (HL.out.below hbR)
              rw [hXk.1]
              exact HRX.out W hW
            rw [hcells] at hline
            obtain ⟨LN, hLN⟩ : ∃ LN, ScriptM.line (X.abs keep) = LN := ⟨_, rfl⟩
            rw [hLN] at hline
            have HLN := Lib.hid hline
            have HLT := Lib.hid hLN
            rw [hrw, hR] at hrt
            have HRT := Lib.hid hrt
            have HRR := Lib.hid hR
            clear hrt hrw hR hcells hline hLN
            refine wp_region_flatE (E := EA w.heap.size (some (.cells #[.int .i64 kd, .int .i64 vn, .bool dn, .slice ka kn kc, .string nm, .int .u32 (m : Int)] 30 (0, 0)))) (EA.refl _ _) (by kernel_rfl) (fun W => EA w.heap.size (some (.cells #[.int .i64 kd, .int .i64 vn, .bool dn, .slice ka kn kc, .string nm, .int .u32 (m : Int)] 30 (0, 0))) w4 W) (fun _ _ h h' => h.trans h') (actV w.heap.size (some (.cells #[.int .i64 kd, .int .i64 vn, .bool dn, .slice ka kn kc, .string nm, .int .u32 (m : Int)] 30 (0, 0))) [.agg #[.int .i64 kd, .int .i64 vn, .bool dn, .slice ka kn kc, .string nm, .int .u32 (m : Int)], .agg #[.int .i64 kd, .int .i64 vn, .bool dn, .slice ka kn kc, .string nm, .int .u32 (m : Int)], .bool true, .bool true, .agg #[.int .i64 kd, .int .i64 vn, .bool dn, .slice ka kn kc, .string nm, .int .u32 (m : Int)], sv LN, .string s, .bool ((⟨LN.toArray⟩ : ByteArray).toList == s.toList), .bool ((⟨LN.toArray⟩ : ByteArray).toList == s.toList), undef, .bool ((⟨LN.toArray⟩ : ByteArray).toList == s.toList)]) (actV_keep _ _ _) (fun i o ho hd => actV_none (only_none (k := 9) (by kernel_rfl) i o ho hd)) (by kernel_rfl) ⟨rfl, rfl, rfl, Nat.le_refl _, fun _ _ _ => rfl, .inl rfl⟩ ?_ ?_
            · skip
              refine ⟨fun a W hW hag hdep => ?_, ?_⟩
              · have e6 : a.tmps[6]?.getD undef = .pointer (some ⟨W2.heap.size, 0, none⟩) := evalD (hag.keep (t := 6) (by kernel_rfl) rfl)
                refine flatE_on rfl ?_
                obtain ⟨q0, q1, q2, q3, q4, q5⟩ := HQ.out W hW
                refine flatE_run (EA.refl _ _ _) (u := .agg #[.int .i64 kd, .int .i64 vn, .bool dn, .slice ka kn kc, .string nm, .int .u32 (m : Int)]) ?_ (actV_mk (by decide) rfl)
                simp [go_sem, e6, q0, q1, q2, q3, q4, q5]
              refine ⟨fun a W hW hag hdep => ?_, ?_⟩
              · have e6 : a.tmps[6]?.getD undef = .pointer (some ⟨W2.heap.size, 0, none⟩) := evalD (hag.keep (t := 6) (by kernel_rfl) rfl)
                refine flatE_on rfl ?_
                obtain ⟨q0, q1, q2, q3, q4, q5⟩ := HQ.out W hW
                refine flatE_run (EA.refl _ _ _) (u := .agg #[.int .i64 kd, .int .i64 vn, .bool dn, .slice ka kn kc, .string nm, .int .u32 (m : Int)]) ?_ (actV_mk (by decide) rfl)
                simp [go_sem, e6, q0, q1, q2, q3, q4, q5]
              refine ⟨fun a W hW hag hdep => ?_, ?_⟩
              · have e26 : a.tmps[26]?.getD undef = .agg #[.int .i64 kd, .int .i64 vn, .bool dn, .slice ka kn kc, .string nm, .int .u32 (m : Int)] := evalD (actV_at (by decide) (hdep 1 (by decide)))
                refine flatE_on rfl ?_
                refine flatE_call (f := 10) (args := #[.agg #[.int .i64 kd, .int .i64 vn, .bool dn, .slice ka kn kc, .string nm, .int .u32 (m : Int)]]) (by simp [go_sem, e26]) ((HRT.out W).mono ?_)
                rintro e W' ⟨rfl, hb5⟩
                exact ⟨_, rfl, EA.of_below hb5 (Nat.lt_of_lt_of_le HRS.out hW.size), actV_mk (by decide) rfl⟩
              refine ⟨fun a W hW hag hdep => ?_, ?_⟩
              · have e27 : a.tmps[27]?.getD undef = .bool true := evalD (actV_at (by decide) (hdep 2 (by decide)))
                refine flatE_on rfl ?_
                refine flatE_run (EA.refl _ _ _) (u := .bool true) ?_ (actV_mk (by decide) rfl)
                simp [go_sem, e27]
              refine ⟨fun a W hW hag hdep => ?_, ?_⟩
              · skip
                have eg : a.eval (.tmp 28) = .bool true := actV_at (by decide) (hdep 3 (by decide))
                refine flatE_go (t := 28) rfl rfl eg ?_
                have e6 : a.tmps[6]?.getD undef = .pointer (some ⟨W2.heap.size, 0, none⟩) := evalD (hag.keep (t := 6) (by kernel_rfl) rfl)
                obtain ⟨q0, q1, q2, q3, q4, q5⟩ := HQ.out W hW
                refine flatE_run (EA.refl _ _ _) (u := .agg #[.int .i64 kd, .int .i64 vn, .bool dn, .slice ka kn kc, .string nm, .int .u32 (m : Int)]) ?_ (actV_mk (by decide) rfl)
                simp [go_sem, e6, q0, q1, q2, q3, q4, q5]
              refine ⟨fun a W hW hag hdep => ?_, ?_⟩
              · skip
                have eg : a.eval (.tmp 28) = .bool true := actV_at (by decide) (hdep 3 (by decide))
                refine flatE_go (t := 28) rfl rfl eg ?_
                have e29 : a.tmps[29]?.getD undef = .agg #[.int .i64 kd, .int .i64 vn, .bool dn, .slice ka kn kc, .string nm, .int .u32 (m : Int)] := evalD (actV_at (by decide) (hdep 4 (by decide)))
                refine flatE_call (f := 26) (args := #[.agg #[.int .i64 kd, .int .i64 vn, .bool dn, .slice ka kn kc, .string nm, .int .u32 (m : Int)]]) (by simp [go_sem, e29]) ((HLN.out W hW).mono ?_)
                rintro e W' ⟨rfl, hb5⟩
                exact ⟨_, rfl, EA.of_below hb5 (Nat.lt_of_lt_of_le HRS.out hW.size), actV_mk (by decide) rfl⟩
              refine ⟨fun a W hW hag hdep => ?_, ?_⟩
              · skip
                have eg : a.eval (.tmp 28) = .bool true := actV_at (by decide) (hdep 3 (by decide))
                refine flatE_go (t := 28) rfl rfl eg ?_
                have e0 : a.tmps[0]?.getD undef = .string s := evalD (hag.keep (t := 0) (by kernel_rfl) rfl)
                refine flatE_run (EA.refl _ _ _) (u := .string s) ?_ (actV_mk (by decide) rfl)
                simp [go_sem, e0]
              refine ⟨fun a W hW hag hdep => ?_, ?_⟩
              · skip
                have eg : a.eval (.tmp 28) = .bool true := actV_at (by decide) (hdep 3 (by decide))
                refine flatE_go (t := 28) rfl rfl eg ?_
                have e30 : a.tmps[30]?.getD undef = sv LN := evalD (actV_at (by decide) (hdep 5 (by decide)))
                have e31 : a.tmps[31]?.getD undef = .string s := evalD (actV_at (by decide) (hdep 6 (by decide)))
                refine flatE_run (EA.refl _ _ _) (u := .bool ((⟨LN.toArray⟩ : ByteArray).toList == s.toList)) ?_ (actV_mk (by decide) rfl)
                simp [go_sem, e30, e31]
              refine ⟨fun a W hW hag hdep => ?_, ?_⟩
              · have e28 : a.tmps[28]?.getD undef = .bool true := evalD (actV_at (by decide) (hdep 3 (by decide)))
                have e32 : a.tmps[32]?.getD undef = .bool ((⟨LN.toArray⟩ : ByteArray).toList == s.toList) := evalD (actV_at (by decide) (hdep 7 (by decide)))
                refine flatE_on rfl ?_
                refine flatE_run (EA.refl _ _ _) (u := .bool ((⟨LN.toArray⟩ : ByteArray).toList == s.toList)) ?_ (actV_mk (by decide) rfl)
                simp [go_sem, e28, e32]
              refine ⟨fun a W hW hag hdep => ?_, ?_⟩
              · have e25 : a.tmps[25]?.getD undef = .agg #[.int .i64 kd, .int .i64 vn, .bool dn, .slice ka kn kc, .string nm, .int .u32 (m : Int)] := evalD (actV_at (by decide) (hdep 0 (by decide)))
                have e2 : a.tmps[2]?.getD undef = .pointer (some ⟨w.heap.size, 0, none⟩) := evalD (hag.keep (t := 2) (by kernel_rfl) rfl)
                refine flatE_on rfl ?_
                obtain ⟨Z, hZ, hZ6⟩ := HZ.out W hW
                have z0 : W.cell? ⟨w.heap.size, 0, none⟩ = some (Z.getD 0 undef) := store_cell hZ hZ6 0 (by decide)
                have y0 : W.frozen? ⟨w.heap.size, 0, none⟩ = false := frozen_of_row _ _ _ _ _ hZ
                have z1 : W.cell? ⟨w.heap.size, 1, none⟩ = some (Z.getD 1 undef) := store_cell hZ hZ6 1 (by decide)
                have y1 : W.frozen? ⟨w.heap.size, 1, none⟩ = false := frozen_of_row _ _ _ _ _ hZ
                have z2 : W.cell? ⟨w.heap.size, 2, none⟩ = some (Z.getD 2 undef) := store_cell hZ hZ6 2 (by decide)
                have y2 : W.frozen? ⟨w.heap.size, 2, none⟩ = false := frozen_of_row _ _ _ _ _ hZ
                have z3 : W.cell? ⟨w.heap.size, 3, none⟩ = some (Z.getD 3 undef) := store_cell hZ hZ6 3 (by decide)
                have y3 : W.frozen? ⟨w.heap.size, 3, none⟩ = false := frozen_of_row _ _ _ _ _ hZ
                have z4 : W.cell? ⟨w.heap.size, 4, none⟩ = some (Z.getD 4 undef) := store_cell hZ hZ6 4 (by decide)
                have y4 : W.frozen? ⟨w.heap.size, 4, none⟩ = false := frozen_of_row _ _ _ _ _ hZ
                have z5 : W.cell? ⟨w.heap.size, 5, none⟩ = some (Z.getD 5 undef) := store_cell hZ hZ6 5 (by decide)
                have y5 : W.frozen? ⟨w.heap.size, 5, none⟩ = false := frozen_of_row _ _ _ _ _ hZ
                obtain ⟨s1, s2⟩ := store_six hZ hZ6 (.int .i64 kd) (.int .i64 vn) (.bool dn) (.slice ka kn kc) (.string nm) (.int .u32 (m : Int))
                refine flatE_skip ?_ s1 s2
                simp [go_sem, e2, e25, z0, z1, z2, z3, z4, z5, y0, y1, y2, y3, y4, y5]
              refine ⟨fun a W hW hag hdep => ?_, ?_⟩
              · have e33 : a.tmps[33]?.getD undef = .bool ((⟨LN.toArray⟩ : ByteArray).toList == s.toList) := evalD (actV_at (by decide) (hdep 8 (by decide)))
                refine flatE_on rfl ?_
                refine flatE_run (EA.refl _ _ _) (u := .bool ((⟨LN.toArray⟩ : ByteArray).toList == s.toList)) ?_ (actV_mk (by decide) rfl)
                simp [go_sem, e33]
              exact trivial
            · intro vs W5 hW5 hvs
              have v0 : vs 0 = _ := actV_at (by decide) (hvs 0 (by decide))
              have v1 : vs 1 = _ := actV_at (by decide) (hvs 1 (by decide))
              have v2 : vs 2 = _ := actV_at (by decide) (hvs 2 (by decide))
              have v3 : vs 3 = _ := actV_at (by decide) (hvs 3 (by decide))
              have v4 : vs 4 = _ := actV_at (by decide) (hvs 4 (by decide))
              have v5 : vs 5 = _ := actV_at (by decide) (hvs 5 (by decide))
              have v6 : vs 6 = _ := actV_at (by decide) (hvs 6 (by decide))
              have v7 : vs 7 = _ := actV_at (by decide) (hvs 7 (by decide))
              have v8 : vs 8 = _ := actV_at (by decide) (hvs 8 (by decide))
              have v10 : vs 10 = _ := actV_at (by decide) (hvs 10 (by decide))
              have hx5 : W5.heap[w.heap.size]? = _ := hvs 9 (by decide)
              simp only [putAll, Act.put, List.setIfInBounds_toArray, List.set_cons_zero, List.set_cons_succ]
              rw [v0, v1, v2, v3, v4, v5, v6, v7, v8, v10]
              have r0 := cell_of_row _ _ 0 _ _ _ hx5
              have r1 := cell_of_row _ _ 1 _ _ _ hx5
              have r2 := cell_of_row _ _ 2 _ _ _ hx5
              have r3 := cell_of_row _ _ 3 _ _ _ hx5
              have r4 := cell_of_row _ _ 4 _ _ _ hx5
              have r5 := cell_of_row _ _ 5 _ _ _ hx5
              have HW5 := Lib.hid (show EA w.heap.size _ w4 W5 from hW5)
              clear v0 v1 v2 v3 v4 v5 v6 v7 v8 v10 hvs hW5 hx5
              go_wp2_with fail
              have hP2 : (progRead s.data.toList).2 = ((⟨LN.toArray⟩ : ByteArray).toList == s.toList) := by
                rw [HP0.out, HRR.out, HLT.out, ByteArray.toList_eq, ByteArray.toList_eq]
                show (true && decide (LN = s.data.toList)) = (LN == s.data.toList)
                rw [Bool.true_and, Bool.eq_iff_iff, decide_eq_true_iff, beq_iff_eq]
              have HP1 := Lib.hid (show (progRead s.data.toList).1 = X.abs keep by rw [HP0.out])
              have HB5 := Lib.hid (HBW.out.trans (HW5.out.below (Nat.le_of_lt HRS.out)))
              rw [hP2]
              obtain ⟨habs, hXk, hlen4, hrd4, hloc, hmk, hnm, hkn⟩ := HAB.out
              have hk8 := right_kind HRR.out
              have hn9 := right_n HRR.out
              refine ⟨rfl, _, by simp [results, go_sem, r0, r1, r2, r3, r4, r5]; rfl, ⟨X, keep⟩, ?_, HB5.out, fun _ => ⟨HP1.out.symm, ⟨?_, ?_, ?_, ?_, ?_, ?_, ?_⟩, ?_⟩⟩
              · show _ = Ending.returned (.tuple #[.agg X.cells, _])
                have hz : (⟨LN.toArray⟩ : ByteArray).toList = LN := by rw [ByteArray.toList_eq]
                rw [HCX.out, hz]
              · have h1 : 1 ≤ X.kind := hk8.1
                have h2 : X.kind ≤ 8 := hk8.2
                exact ⟨by show _ ≤ X.kind; omega, by show X.kind ≤ _; omega⟩
              · have h1 : 0 ≤ X.n := hn9.1
                have h2 : X.n ≤ 999999 := hn9.2
                exact ⟨by show _ ≤ X.n; omega, by show X.n ≤ _; omega⟩
              · show keep.length = X.kn
                rw [hXk.2.1]; exact hlen4
              · show X.kn ≤ _
                rw [hXk.2.1]; omega
              · show X.nm.size ≤ _
                rw [hXk.2.2.1]; omega
              · show Rd _ _ X.ka keep
                rw [hXk.1]; exact HRX.out W5 HW5.out
              · show X.mask < _
                rw [hXk.2.2.2]; exact hmk
              · rcases hloc with h0 | ⟨g, o, hka, hg⟩
                · exact .inl h0
                · exact .inr ⟨g, ⟨o, by rw [← hka]; exact hXk.1⟩, by have := HPR.out.2.2; omega⟩
        · obtain rfl : n = 1 := by omega
          have hr0 : rest = [] := by
            have := HN.out; rw [HLE.out, List.length_cons] at this
            exact List.length_eq_zero_iff.1 (by omega)
          have HBX0 : Hid (∀ W3, W3 = W2.alloc (.cells #[.int .i64 (j : Int), .int .i64 0, .bool false, .slice none 0 0, .string .empty, .int .u32 0] 30) → 
            Calls Tryd.prog 46 #[.pointer (some ⟨W2.heap.size, 0, none⟩), .slice (some ⟨w.heap.size + 1, 0, none⟩) 0 0] W3 fun e w' => e = .returned (.tuple #[]) ∧ ∃ v, Filled v (wordsM (j : Int) rest) W2.heap.size W3 w') := Lib.hid (fun W3 h => HBX.out W3 h 0 (.inr hr0))
          clear hr0
          go_wp2_with (refine (HBX0.out _ rfl).mono ?_; rintro e w4 ⟨rfl, v, hv⟩; have HV := Lib.hid hv; clear hv)
          obtain ⟨⟨⟨kd, vn, dn, ka, kn, kc, nm, m⟩, keep⟩, hve⟩ : ∃ v', v = v' := ⟨v, rfl⟩
          subst hve
          obtain ⟨hx4, habs, hlen4, hkn, hrd4, hnm, hmk, hb4, hloc⟩ := HV.out
          have hlen4 : keep.length = kn := hlen4
          have hkn : kn ≤ 1000000 := hkn
          have hmk : m < 4294967296 := hmk
          have hnm : nm.size ≤ 1000000 := hnm
          obtain ⟨g1, g2, g3, g4⟩ := HW2.out
          have hRz : w4.heap[w.heap.size]? = some (.cells #[.int .i64 0, .int .i64 0, .bool false, .slice none 0 0, .string .empty, .int .u32 0] 30 (0, 0)) := by
            rw [hb4.block _ (by omega), Below.heap_alloc _ _ _ (by omega)]; exact g2
          have hp4 : W2.heap.size < w4.heap.size := (Array.getElem?_eq_some_iff.1 hx4).1
          have HRS := Lib.hid (show w.heap.size < w4.heap.size by omega)
          have HPR := Lib.hid (show W2.heap.size ≠ w.heap.size ∧ W2.heap.size < w4.heap.size ∧ w.heap.size < W2.heap.size by omega)
          have hbw4 : Below w.heap.size w w4 := g1.trans ((((Below.refl _ _).alloc (Nat.le_refl _) _ : Below W2.heap.size W2 (W2.alloc (.cells #[.int .i64 (j : Int), .int .i64 0, .bool false, .slice none 0 0, .string .empty, .int .u32 0] 30))).mono (by omega)).trans (hb4.mono (by omega)))
          have HBW := Lib.hid hbw4
          obtain ⟨X, hX⟩ : ∃ X : ActC, X = ⟨kd, vn, dn, ka, kn, kc, nm, m⟩ := ⟨_, rfl⟩
          have hcells : X.cells = #[.int .i64 kd, .int .i64 vn, .bool dn, .slice ka kn kc, .string nm, .int .u32 (m : Int)] := by rw [hX]; rfl
          have hXk : X.ka = ka ∧ X.kn = kn ∧ X.nm = nm ∧ X.mask = m := by rw [hX]; exact ⟨rfl, rfl, rfl, rfl⟩
          have hrw : rightB X = right (X.abs keep) := rightB_right X keep (by rw [hXk.2.1]; exact hlen4)
          have habs : X.abs keep = wordsM (j : Int) rest := by rw [hX]; exact habs
          have hx4 : w4.heap[W2.heap.size]? = some (.cells #[.int .i64 kd, .int .i64 vn, .bool dn, .slice ka kn kc, .string nm, .int .u32 (m : Int)] 30 (0, 0)) := hx4
          have HQ : Hid (∀ W, EA w.heap.size (some (.cells #[.int .i64 kd, .int .i64 vn, .bool dn, .slice ka kn kc, .string nm, .int .u32 (m : Int)] 30 (0, 0))) w4 W → (W.cell? ⟨W2.heap.size, 0, none⟩ = some (.int .i64 kd) ∧ W.cell? ⟨W2.heap.size, 1, none⟩ = some (.int .i64 vn) ∧ W.cell? ⟨W2.heap.size, 2, none⟩ = some (.bool dn) ∧ W.cell? ⟨W2.heap.size, 3, none⟩ = some (.slice ka kn kc) ∧ W.cell? ⟨W2.heap.size, 4, none⟩ = some (.string nm) ∧ W.cell? ⟨W2.heap.size, 5, none⟩ = some (.int .u32 (m : Int)))) := Lib.hid (fun W hW => by
            have hx := (hW.block _ HPR.out.2.1 HPR.out.1).trans hx4
            exact ⟨cell_of_row _ _ 0 _ _ _ hx, cell_of_row _ _ 1 _ _ _ hx, cell_of_row _ _ 2 _ _ _ hx, cell_of_row _ _ 3 _ _ _ hx, cell_of_row _ _ 4 _ _ _ hx, cell_of_row _ _ 5 _ _ _ hx⟩)
          have HZ : Hid (∀ W, EA w.heap.size (some (.cells #[.int .i64 kd, .int .i64 vn, .bool dn, .slice ka kn kc, .string nm, .int .u32 (m : Int)] 30 (0, 0))) w4 W → ∃ Z : Array Value, W.heap[w.heap.size]? = some (.cells Z 30 (0, 0)) ∧ Z.size = 6) := Lib.hid (fun W hW => by
            rcases hW.at_ with e | e
            · exact ⟨_, e.trans hRz, rfl⟩
            · exact ⟨_, e, rfl⟩)
          have hrt := fun W => sright_any X W (by rw [hXk.2.2.1]; unfold maxLen; omega) (by rw [hXk.2.1]; omega)
          rw [hcells] at hrt
          have HP0 : Hid (progRead s.data.toList = (X.abs keep, right (X.abs keep) && decide (ScriptM.line (X.abs keep) = s.data.toList))) := Lib.hid (by
            unfold progRead
            rw [HD.out.1, HD.out.2.1, HLE.out]
            show (match kindOf wj with | none => (act0, false) | some k => (wordsM k rest, right (wordsM k rest) && decide (ScriptM.line (wordsM k rest) = s.data.toList))) = _
            rw [← HWJ.out, kindOf_word (j : Int) (by omega)]
            show (wordsM (j : Int) rest, _) = _
            rw [habs])
          have HCX := Lib.hid hcells
          have HRX : Hid (∀ W, EA w.heap.size (some (.cells #[.int .i64 kd, .int .i64 vn, .bool dn, .slice ka kn kc, .string nm, .int .u32 (m : Int)] 30 (0, 0))) w4 W → Rd W W.heap.size ka keep) := Lib.hid (by
            intro W hW
            have hrd4 : Rd w4 w4.heap.size ka keep := hrd4
            rcases hloc with h0 | ⟨g, o, hka, hg⟩
            · have h0 : keep = [] := h0
              exact .inl h0
            · have hka : ka = some ⟨g, o, none⟩ := hka
              rcases hrd4 with h0 | ⟨b, o2, e2, hb, hc⟩
              · exact .inl h0
              · rw [hka] at e2
                injection e2 with e2
                injection e2 with e3 e4
                subst e3; subst e4
                exact .inr ⟨g, o, hka, Nat.lt_of_lt_of_le hb hW.size, fun i x hx => (hW.cell hb (by have := HPR.out.2.2; omega)).trans (hc i x hx)⟩)
          have HAB := Lib.hid (And.intro habs (And.intro hXk (And.intro hlen4 (And.intro hrd4 (And.intro hloc (And.intro hmk (And.intro hnm hkn)))))))
          clear hx4 habs hlen4 hkn hrd4 hnm hmk hb4 hloc g1 g2 g3 g4 hRz hp4 hbw4 hX hXk HV
          cases hR : right (X.abs keep) with
          | false =>
            rw [hrw, hR] at hrt
            have HRT := Lib.hid hrt
            have HRR := Lib.hid hR
            clear hrt hrw hR hcells
            refine wp_region_flatE (E := EA w.heap.size (some (.cells #[.int .i64 kd, .int .i64 vn, .bool dn, .slice ka kn kc, .string nm, .int .u32 (m : Int)] 30 (0, 0)))) (EA.refl _ _) (by kernel_rfl) (fun W => EA w.heap.size (some (.cells #[.int .i64 kd, .int .i64 vn, .bool dn, .slice ka kn kc, .string nm, .int .u32 (m : Int)] 30 (0, 0))) w4 W) (fun _ _ h h' => h.trans h') (actV w.heap.size (some (.cells #[.int .i64 kd, .int .i64 vn, .bool dn, .slice ka kn kc, .string nm, .int .u32 (m : Int)] 30 (0, 0))) [.agg #[.int .i64 kd, .int .i64 vn, .bool dn, .slice ka kn kc, .string nm, .int .u32 (m : Int)], .agg #[.int .i64 kd, .int .i64 vn, .bool dn, .slice ka kn kc, .string nm, .int .u32 (m : Int)], .bool false, .bool false, undef, undef, undef, undef, .bool false, undef, .bool false]) (actV_keep _ _ _) (fun i o ho hd => actV_none (only_none (k := 9) (by kernel_rfl) i o ho hd)) (by kernel_rfl) ⟨rfl, rfl, rfl, Nat.le_refl _, fun _ _ _ => rfl, .inl rfl⟩ ?_ ?_
            · skip
              refine ⟨fun a W hW hag hdep => ?_, ?_⟩
              · have e6 : a.tmps[6]?.getD undef = .pointer (some ⟨W2.heap.size, 0, none⟩) := evalD (hag.keep (t := 6) (by kernel_rfl) rfl)
                refine flatE_on rfl ?_
                obtain ⟨q0, q1, q2, q3, q4, q5⟩ := HQ.out W hW
                refine flatE_run (EA.refl _ _ _) (u := .agg #[.int .i64 kd, .int .i64 vn, .bool dn, .slice ka kn kc, .string nm, .int .u32 (m : Int)]) ?_ (actV_mk (by decide) rfl)
                simp [go_sem, e6, q0, q1, q2, q3, q4, q5]
              refine ⟨fun a W hW hag hdep => ?_, ?_⟩
              · have e6 : a.tmps[6]?.getD undef = .pointer (some ⟨W2.heap.size, 0, none⟩) := evalD (hag.keep (t := 6) (by kernel_rfl) rfl)
                refine flatE_on rfl ?_
                obtain ⟨q0, q1, q2, q3, q4, q5⟩ := HQ.out W hW
                refine flatE_run (EA.refl _ _ _) (u := .agg #[.int .i64 kd, .int .i64 vn, .bool dn, .slice ka kn kc, .string nm, .int .u32 (m : Int)]) ?_ (actV_mk (by decide) rfl)
                simp [go_sem, e6, q0, q1, q2, q3, q4, q5]
              refine ⟨fun a W hW hag hdep => ?_, ?_⟩
              · have e26 : a.tmps[26]?.getD undef = .agg #[.int .i64 kd, .int .i64 vn, .bool dn, .slice ka kn kc, .string nm, .int .u32 (m : Int)] := evalD (actV_at (by decide) (hdep 1 (by decide)))
                refine flatE_on rfl ?_
                refine flatE_call (f := 10) (args := #[.agg #[.int .i64 kd, .int .i64 vn, .bool dn, .slice ka kn kc, .string nm, .int .u32 (m : Int)]]) (by simp [go_sem, e26]) ((HRT.out W).mono ?_)
                rintro e W' ⟨rfl, hb5⟩
                exact ⟨_, rfl, EA.of_below hb5 (Nat.lt_of_lt_of_le HRS.out hW.size), actV_mk (by decide) rfl⟩
              refine ⟨fun a W hW hag hdep => ?_, ?_⟩
              · have e27 : a.tmps[27]?.getD undef = .bool false := evalD (actV_at (by decide) (hdep 2 (by decide)))
                refine flatE_on rfl ?_
                refine flatE_run (EA.refl _ _ _) (u := .bool false) ?_ (actV_mk (by decide) rfl)
                simp [go_sem, e27]
              refine ⟨fun a W hW hag hdep => ?_, ?_⟩
              · skip
                have eg : a.eval (.tmp 28) = .bool false := actV_at (by decide) (hdep 3 (by decide))
                exact flatE_not (t := 28) rfl rfl eg (actV_mk (by decide) rfl)
              refine ⟨fun a W hW hag hdep => ?_, ?_⟩
              · skip
                have eg : a.eval (.tmp 28) = .bool false := actV_at (by decide) (hdep 3 (by decide))
                exact flatE_not (t := 28) rfl rfl eg (actV_mk (by decide) rfl)
              refine ⟨fun a W hW hag hdep => ?_, ?_⟩
              · skip
                have eg : a.eval (.tmp 28) = .bool false := actV_at (by decide) (hdep 3 (by decide))
                exact flatE_not (t := 28) rfl rfl eg (actV_mk (by decide) rfl)
              refine ⟨fun a W hW hag hdep => ?_, ?_⟩
              · skip
                have eg : a.eval (.tmp 28) = .bool false := actV_at (by decide) (hdep 3 (by decide))
                exact flatE_not (t := 28) rfl rfl eg (actV_mk (by decide) rfl)
              refine ⟨fun a W hW hag hdep => ?_, ?_⟩
              · have e28 : a.tmps[28]?.getD undef = .bool false := evalD (actV_at (by decide) (hdep 3 (by decide)))
                have e32 : a.tmps[32]?.getD undef = undef := evalD (actV_at (by decide) (hdep 7 (by decide)))
                refine flatE_on rfl ?_
                refine flatE_run (EA.refl _ _ _) (u := .bool false) ?_ (actV_mk (by decide) rfl)
                simp [go_sem, e28, e32]
              refine ⟨fun a W hW hag hdep => ?_, ?_⟩
              · have e25 : a.tmps[25]?.getD undef = .agg #[.int .i64 kd, .int .i64 vn, .bool dn, .slice ka kn kc, .string nm, .int .u32 (m : Int)] := evalD (actV_at (by decide) (hdep 0 (by decide)))
                have e2 : a.tmps[2]?.getD undef = .pointer (some ⟨w.heap.size, 0, none⟩) := evalD (hag.keep (t := 2) (by kernel_rfl) rfl)
                refine flatE_on rfl ?_
                obtain ⟨Z, hZ, hZ6⟩ := HZ.out W hW
                have z0 : W.cell? ⟨w.heap.size, 0, none⟩ = some (Z.getD 0 undef) := store_cell hZ hZ6 0 (by decide)
                have y0 : W.frozen? ⟨w.heap.size, 0, none⟩ = false := frozen_of_row _ _ _ _ _ hZ
                have z1 : W.cell? ⟨w.heap.size, 1, none⟩ = some (Z.getD 1 undef) := store_cell hZ hZ6 1 (by decide)
                have y1 : W.frozen? ⟨w.heap.size, 1, none⟩ = false := frozen_of_row _ _ _ _ _ hZ
                have z2 : W.cell? ⟨w.heap.size, 2, none⟩ = some (Z.getD 2 undef) := store_cell hZ hZ6 2 (by decide)
                have y2 : W.frozen? ⟨w.heap.size, 2, none⟩ = false := frozen_of_row _ _ _ _ _ hZ
                have z3 : W.cell? ⟨w.heap.size, 3, none⟩ = some (Z.getD 3 undef) := store_cell hZ hZ6 3 (by decide)
                have y3 : W.frozen? ⟨w.heap.size, 3, none⟩ = false := frozen_of_row _ _ _ _ _ hZ
                have z4 : W.cell? ⟨w.heap.size, 4, none⟩ = some (Z.getD 4 undef) := store_cell hZ hZ6 4 (by decide)
                have y4 : W.frozen? ⟨w.heap.size, 4, none⟩ = false := frozen_of_row _ _ _ _ _ hZ
                have z5 : W.cell? ⟨w.heap.size, 5, none⟩ = some (Z.getD 5 undef) := store_cell hZ hZ6 5 (by decide)
                have y5 : W.frozen? ⟨w.heap.size, 5, none⟩ = false := frozen_of_row _ _ _ _ _ hZ
                obtain ⟨s1, s2⟩ := store_six hZ hZ6 (.int .i64 kd) (.int .i64 vn) (.bool dn) (.slice ka kn kc) (.string nm) (.int .u32 (m : Int))
                refine flatE_skip ?_ s1 s2
                simp [go_sem, e2, e25, z0, z1, z2, z3, z4, z5, y0, y1, y2, y3, y4, y5]
              refine ⟨fun a W hW hag hdep => ?_, ?_⟩
              · have e33 : a.tmps[33]?.getD undef = .bool false := evalD (actV_at (by decide) (hdep 8 (by decide)))
                refine flatE_on rfl ?_
                refine flatE_run (EA.refl _ _ _) (u := .bool false) ?_ (actV_mk (by decide) rfl)
                simp [go_sem, e33]
              exact trivial
            · intro vs W5 hW5 hvs
              have v0 : vs 0 = _ := actV_at (by decide) (hvs 0 (by decide))
              have v1 : vs 1 = _ := actV_at (by decide) (hvs 1 (by decide))
              have v2 : vs 2 = _ := actV_at (by decide) (hvs 2 (by decide))
              have v3 : vs 3 = _ := actV_at (by decide) (hvs 3 (by decide))
              have v4 : vs 4 = _ := actV_at (by decide) (hvs 4 (by decide))
              have v5 : vs 5 = _ := actV_at (by decide) (hvs 5 (by decide))
              have v6 : vs 6 = _ := actV_at (by decide) (hvs 6 (by decide))
              have v7 : vs 7 = _ := actV_at (by decide) (hvs 7 (by decide))
              have v8 : vs 8 = _ := actV_at (by decide) (hvs 8 (by decide))
              have v10 : vs 10 = _ := actV_at (by decide) (hvs 10 (by decide))
              have hx5 : W5.heap[w.heap.size]? = _ := hvs 9 (by decide)
              simp only [putAll, Act.put, List.setIfInBounds_toArray, List.set_cons_zero, List.set_cons_succ]
              rw [v0, v1, v2, v3, v4, v5, v6, v7, v8, v10]
              have r0 := cell_of_row _ _ 0 _ _ _ hx5
              have r1 := cell_of_row _ _ 1 _ _ _ hx5
              have r2 := cell_of_row _ _ 2 _ _ _ hx5
              have r3 := cell_of_row _ _ 3 _ _ _ hx5
              have r4 := cell_of_row _ _ 4 _ _ _ hx5
              have r5 := cell_of_row _ _ 5 _ _ _ hx5
              have HW5 := Lib.hid (show EA w.heap.size _ w4 W5 from hW5)
              clear v0 v1 v2 v3 v4 v5 v6 v7 v8 v10 hvs hW5 hx5
              go_wp2_with fail
              have hP2 : (progRead s.data.toList).2 = false := by rw [HP0.out, HRR.out]; rfl
              have HB5 := Lib.hid (HBW.out.trans (HW5.out.below (Nat.le_of_lt HRS.out)))
              rw [hP2]
              refine ⟨rfl, _, by simp [results, go_sem, r0, r1, r2, r3, r4, r5]; rfl, ⟨⟨kd, vn, dn, ka, kn, kc, nm, m⟩, keep⟩, rfl, HB5.out, fun h => by cases h⟩
          | true =>
            have hline : ∀ W, EA w.heap.size (some (.cells #[.int .i64 kd, .int .i64 vn, .bool dn, .slice ka kn kc, .string nm, .int .u32 (m : Int)] 30 (0, 0))) w4 W → Calls Tryd.prog 26 #[.agg X.cells] W fun e w' => e = .returned (sv (ScriptM.line (X.abs keep))) ∧ Below W.heap.size W w' := by
              intro W hW
              obtain ⟨habs, hXk, hlen4, hrd4, hloc, hmk, hnm, hkn⟩ := HAB.out
              have hbR : Below w.heap.size w W := HBW.out.trans (hW.below (Nat.le_of_lt HRS.out))
              refine sline_any X keep W hR (by rw [hXk.2.2.2]; exact hmk) (by rw [hXk.2.1]; exact hlen4) ?_ (HL.out.below hbR)
              rw [hXk.1]
              exact HRX.out W hW
            rw [hcells] at hline
            obtain ⟨LN, hLN⟩ : ∃ LN, ScriptM.line (X.abs keep) = LN := ⟨_, rfl⟩
            rw [hLN] at hline
            have HLN := Lib.hid hline
            have HLT := Lib.hid hLN
            rw [hrw, hR] at hrt
            have HRT := Lib.hid hrt
            have HRR := Lib.hid hR
            clear hrt hrw hR hcells hline hLN
            refine wp_region_flatE (E := EA w.heap.size (some (.cells #[.int .i64 kd, .int .i64 vn, .bool dn, .slice ka kn kc, .string nm, .int .u32 (m : Int)] 30 (0, 0)))) (EA.refl _ _) (by kernel_rfl) (fun W => EA w.heap.size (some (.cells #[.int .i64 kd, .int .i64 vn, .bool dn, .slice ka kn kc, .string nm, .int .u32 (m : Int)] 30 (0, 0))) w4 W) (fun _ _ h h' => h.trans h') (actV w.heap.size (some (.cells #[.int .i64 kd, .int .i64 vn, .bool dn, .slice ka kn kc, .string nm, .int .u32 (m : Int)] 30 (0, 0))) [.agg #[.int .i64 kd, .int .i64 vn, .bool dn, .slice ka kn kc, .string nm, .int .u32 (m : Int)], .agg #[.int .i64 kd, .int .i64 vn, .bool dn, .slice ka kn kc, .string nm, .int .u32 (m : Int)], .bool true, .bool true, .agg #[.int .i64 kd, .int .i64 vn, .bool dn, .slice ka kn kc, .string nm, .int .u32 (m : Int)], sv LN, .string s, .bool ((⟨LN.toArray⟩ : ByteArray).toList == s.toList), .bool ((⟨LN.toArray⟩ : ByteArray).toList == s.toList), undef, .bool ((⟨LN.toArray⟩ : ByteArray).toList == s.toList)]) (actV_keep _ _ _) (fun i o ho hd => actV_none (only_none (k := 9) (by kernel_rfl) i o ho hd)) (by kernel_rfl) ⟨rfl, rfl, rfl, Nat.le_refl _, fun _ _ _ => rfl, .inl rfl⟩ ?_ ?_
            · skip
              refine ⟨fun a W hW hag hdep => ?_, ?_⟩
              · have e6 : a.tmps[6]?.getD undef = .pointer (some ⟨W2.heap.size, 0, none⟩) := evalD (hag.keep (t := 6) (by kernel_rfl) rfl)
                refine flatE_on rfl ?_
                obtain ⟨q0, q1, q2, q3, q4, q5⟩ := HQ.out W hW
                refine flatE_run (EA.refl _ _ _) (u := .agg #[.int .i64 kd, .int .i64 vn, .bool dn, .slice ka kn kc, .string nm, .int .u32 (m : Int)]) ?_ (actV_mk (by decide) rfl)
                simp [go_sem, e6, q0, q1, q2, q3, q4, q5]
              refine ⟨fun a W hW hag hdep => ?_, ?_⟩
              · have e6 : a.tmps[6]?.getD undef = .pointer (some ⟨W2.heap.size, 0, none⟩) := evalD (hag.keep (t := 6) (by kernel_rfl) rfl)
                refine flatE_on rfl ?_
                obtain ⟨q0, q1, q2, q3, q4, q5⟩ := HQ.out W hW
                refine flatE_run (EA.refl _ _ _) (u := .agg #[.int .i64 kd, .int .i64 vn, .bool dn, .slice ka kn kc, .string nm, .int .u32 (m : Int)]) ?_ (actV_mk (by decide) rfl)
                simp [go_sem, e6, q0, q1, q2, q3, q4, q5]
              refine ⟨fun a W hW hag hdep => ?_, ?_⟩
              · have e26 : a.tmps[26]?.getD undef = .agg #[.int .i64 kd, .int .i64 vn, .bool dn, .slice ka kn kc, .string nm, .int .u32 (m : Int)] := evalD (actV_at (by decide) (hdep 1 (by decide)))
                refine flatE_on rfl ?_
                refine flatE_call (f := 10) (args := #[.agg #[.int .i64 kd, .int .i64 vn, .bool dn, .slice ka kn kc, .string nm, .int .u32 (m : Int)]]) (by simp [go_sem, e26]) ((HRT.out W).mono ?_)
                rintro e W' ⟨rfl, hb5⟩
                exact ⟨_, rfl, EA.of_below hb5 (Nat.lt_of_lt_of_le HRS.out hW.size), actV_mk (by decide) rfl⟩
              refine ⟨fun a W hW hag hdep => ?_, ?_⟩
              · have e27 : a.tmps[27]?.getD undef = .bool true := evalD (actV_at (by decide) (hdep 2 (by decide)))
                refine flatE_on rfl ?_
                refine flatE_run (EA.refl _ _ _) (u := .bool true) ?_ (actV_mk (by decide) rfl)
                simp [go_sem, e27]
              refine ⟨fun a W hW hag hdep => ?_, ?_⟩
              · skip
                have eg : a.eval (.tmp 28) = .bool true := actV_at (by decide) (hdep 3 (by decide))
                refine flatE_go (t := 28) rfl rfl eg ?_
                have e6 : a.tmps[6]?.getD undef = .pointer (some ⟨W2.heap.size, 0, none⟩) := evalD (hag.keep (t := 6) (by kernel_rfl) rfl)
                obtain ⟨q0, q1, q2, q3, q4, q5⟩ := HQ.out W hW
                refine flatE_run (EA.refl _ _ _) (u := .agg #[.int .i64 kd, .int .i64 vn, .bool dn, .slice ka kn kc, .string nm, .int .u32 (m : Int)]) ?_ (actV_mk (by decide) rfl)
                simp [go_sem, e6, q0, q1, q2, q3, q4, q5]
              refine ⟨fun a W hW hag hdep => ?_, ?_⟩
              · skip
                have eg : a.eval (.tmp 28) = .bool true := actV_at (by decide) (hdep 3 (by decide))
                refine flatE_go (t := 28) rfl rfl eg ?_
                have e29 : a.tmps[29]?.getD undef = .agg #[.int .i64 kd, .int .i64 vn, .bool dn, .slice ka kn kc, .string nm, .int .u32 (m : Int)] := evalD (actV_at (by decide) (hdep 4 (by decide)))
                refine flatE_call (f := 26) (args := #[.agg #[.int .i64 kd, .int .i64 vn, .bool dn, .slice ka kn kc, .string nm, .int .u32 (m : Int)]]) (by simp [go_sem, e29]) ((HLN.out W hW).mono ?_)
                rintro e W' ⟨rfl, hb5⟩
                exact ⟨_, rfl, EA.of_below hb5 (Nat.lt_of_lt_of_le HRS.out hW.size), actV_mk (by decide) rfl⟩
              refine ⟨fun a W hW hag hdep => ?_, ?_⟩
              · skip
                have eg : a.eval (.tmp 28) = .bool true := actV_at (by decide) (hdep 3 (by decide))
                refine flatE_go (t := 28) rfl rfl eg ?_
                have e0 : a.tmps[0]?.getD undef = .string s := evalD (hag.keep (t := 0) (by kernel_rfl) rfl)
                refine flatE_run (EA.refl _ _ _) (u := .string s) ?_ (actV_mk (by decide) rfl)
                simp [go_sem, e0]
              refine ⟨fun a W hW hag hdep => ?_, ?_⟩
              · skip
                have eg : a.eval (.tmp 28) = .bool true := actV_at (by decide) (hdep 3 (by decide))
                refine flatE_go (t := 28) rfl rfl eg ?_
                have e30 : a.tmps[30]?.getD undef = sv LN := evalD (actV_at (by decide) (hdep 5 (by decide)))
                have e31 : a.tmps[31]?.getD undef = .string s := evalD (actV_at (by decide) (hdep 6 (by decide)))
                refine flatE_run (EA.refl _ _ _) (u := .bool ((⟨LN.toArray⟩ : ByteArray).toList == s.toList)) ?_ (actV_mk (by decide) rfl)
                simp [go_sem, e30, e31]
              refine ⟨fun a W hW hag hdep => ?_, ?_⟩
              · have e28 : a.tmps[28]?.getD undef = .bool true := evalD (actV_at (by decide) (hdep 3 (by decide)))
                have e32 : a.tmps[32]?.getD undef = .bool ((⟨LN.toArray⟩ : ByteArray).toList == s.toList) := evalD (actV_at (by decide) (hdep 7 (by decide)))
                refine flatE_on rfl ?_
                refine flatE_run (EA.refl _ _ _) (u := .bool ((⟨LN.toArray⟩ : ByteArray).toList == s.toList)) ?_ (actV_mk (by decide) rfl)
                simp [go_sem, e28, e32]
              refine ⟨fun a W hW hag hdep => ?_, ?_⟩
              · have e25 : a.tmps[25]?.getD undef = .agg #[.int .i64 kd, .int .i64 vn, .bool dn, .slice ka kn kc, .string nm, .int .u32 (m : Int)] := evalD (actV_at (by decide) (hdep 0 (by decide)))
                have e2 : a.tmps[2]?.getD undef = .pointer (some ⟨w.heap.size, 0, none⟩) := evalD (hag.keep (t := 2) (by kernel_rfl) rfl)
                refine flatE_on rfl ?_
                obtain ⟨Z, hZ, hZ6⟩ := HZ.out W hW
                have z0 : W.cell? ⟨w.heap.size, 0, none⟩ = some (Z.getD 0 undef) := store_cell hZ hZ6 0 (by decide)
                have y0 : W.frozen? ⟨w.heap.size, 0, none⟩ = false := frozen_of_row _ _ _ _ _ hZ
                have z1 : W.cell? ⟨w.heap.size, 1, none⟩ = some (Z.getD 1 undef) := store_cell hZ hZ6 1 (by decide)
                have y1 : W.frozen? ⟨w.heap.size, 1, none⟩ = false := frozen_of_row _ _ _ _ _ hZ
                have z2 : W.cell? ⟨w.heap.size, 2, none⟩ = some (Z.getD 2 undef) := store_cell hZ hZ6 2 (by decide)
                have y2 : W.frozen? ⟨w.heap.size, 2, none⟩ = false := frozen_of_row _ _ _ _ _ hZ
                have z3 : W.cell? ⟨w.heap.size, 3, none⟩ = some (Z.getD 3 undef) := store_cell hZ hZ6 3 (by decide)
                have y3 : W.frozen? ⟨w.heap.size, 3, none⟩ = false := frozen_of_row _ _ _ _ _ hZ
                have z4 : W.cell? ⟨w.heap.size, 4, none⟩ = some (Z.getD 4 undef) := store_cell hZ hZ6 4 (by decide)
                have y4 : W.frozen? ⟨w.heap.size, 4, none⟩ = false := frozen_of_row _ _ _ _ _ hZ
                have z5 : W.cell? ⟨w.heap.size, 5, none⟩ = some (Z.getD 5 undef) := store_cell hZ hZ6 5 (by decide)
                have y5 : W.frozen? ⟨w.heap.size, 5, none⟩ = false := frozen_of_row _ _ _ _ _ hZ
                obtain ⟨s1, s2⟩ := store_six hZ hZ6 (.int .i64 kd) (.int .i64 vn) (.bool dn) (.slice ka kn kc) (.string nm) (.int .u32 (m : Int))
                refine flatE_skip ?_ s1 s2
                simp [go_sem, e2, e25, z0, z1, z2, z3, z4, z5, y0, y1, y2, y3, y4, y5]
              refine ⟨fun a W hW hag hdep => ?_, ?_⟩
              · have e33 : a.tmps[33]?.getD undef = .bool ((⟨LN.toArray⟩ : ByteArray).toList == s.toList) := evalD (actV_at (by decide) (hdep 8 (by decide)))
                refine flatE_on rfl ?_
                refine flatE_run (EA.refl _ _ _) (u := .bool ((⟨LN.toArray⟩ : ByteArray).toList == s.toList)) ?_ (actV_mk (by decide) rfl)
                simp [go_sem, e33]
              exact trivial
            · intro vs W5 hW5 hvs
              have v0 : vs 0 = _ := actV_at (by decide) (hvs 0 (by decide))
              have v1 : vs 1 = _ := actV_at (by decide) (hvs 1 (by decide))
              have v2 : vs 2 = _ := actV_at (by decide) (hvs 2 (by decide))
              have v3 : vs 3 = _ := actV_at (by decide) (hvs 3 (by decide))
              have v4 : vs 4 = _ := actV_at (by decide) (hvs 4 (by decide))
              have v5 : vs 5 = _ := actV_at (by decide) (hvs 5 (by decide))
              have v6 : vs 6 = _ := actV_at (by decide) (hvs 6 (by decide))
              have v7 : vs 7 = _ := actV_at (by decide) (hvs 7 (by decide))
              have v8 : vs 8 = _ := actV_at (by decide) (hvs 8 (by decide))
              have v10 : vs 10 = _ := actV_at (by decide) (hvs 10 (by decide))
              have hx5 : W5.heap[w.heap.size]? = _ := hvs 9 (by decide)
              simp only [putAll, Act.put, List.setIfInBounds_toArray, List.set_cons_zero, List.set_cons_succ]
              rw [v0, v1, v2, v3, v4, v5, v6, v7, v8, v10]
              have r0 := cell_of_row _ _ 0 _ _ _ hx5
              have r1 := cell_of_row _ _ 1 _ _ _ hx5
              have r2 := cell_of_row _ _ 2 _ _ _ hx5
              have r3 := cell_of_row _ _ 3 _ _ _ hx5
              have r4 := cell_of_row _ _ 4 _ _ _ hx5
              have r5 := cell_of_row _ _ 5 _ _ _ hx5
              have HW5 := Lib.hid (show EA w.heap.size _ w4 W5 from hW5)
              clear v0 v1 v2 v3 v4 v5 v6 v7 v8 v10 hvs hW5 hx5
              go_wp2_with fail
              have hP2 : (progRead s.data.toList).2 = ((⟨LN.toArray⟩ : ByteArray).toList == s.toList) := by
                rw [HP0.out, HRR.out, HLT.out, ByteArray.toList_eq, ByteArray.toList_eq]
                show (true && decide (LN = s.data.toList)) = (LN == s.data.toList)
                rw [Bool.true_and, Bool.eq_iff_iff, decide_eq_true_iff, beq_iff_eq]
              have HP1 := Lib.hid (show (progRead s.data.toList).1 = X.abs keep by rw [HP0.out])
              have HB5 := Lib.hid (HBW.out.trans (HW5.out.below (Nat.le_of_lt HRS.out)))
              rw [hP2]
              obtain ⟨habs, hXk, hlen4, hrd4, hloc, hmk, hnm, hkn⟩ := HAB.out
              have hk8 := right_kind HRR.out
              have hn9 := right_n HRR.out
              refine ⟨rfl, _, by simp [results, go_sem, r0, r1, r2, r3, r4, r5]; rfl, ⟨X, keep⟩, ?_, HB5.out, fun _ => ⟨HP1.out.symm, ⟨?_, ?_, ?_, ?_, ?_, ?_, ?_⟩, ?_⟩⟩
              · show _ = Ending.returned (.tuple #[.agg X.cells, _])
                have hz : (⟨LN.toArray⟩ : ByteArray).toList = LN := by rw [ByteArray.toList_eq]
                rw [HCX.out, hz]
              · have h1 : 1 ≤ X.kind := hk8.1
                have h2 : X.kind ≤ 8 := hk8.2
                exact ⟨by show _ ≤ X.kind; omega, by show X.kind ≤ _; omega⟩
              · have h1 : 0 ≤ X.n := hn9.1
                have h2 : X.n ≤ 999999 := hn9.2
                exact ⟨by show _ ≤ X.n; omega, by show X.n ≤ _; omega⟩
              · show keep.length = X.kn
                rw [hXk.2.1]; exact hlen4
              · show X.kn ≤ _
                rw [hXk.2.1]; omega
              · show X.nm.size ≤ _
                rw [hXk.2.2.1]; omega
              · show Rd _ _ X.ka keep
                rw [hXk.1]; exact HRX.out W5 HW5.out
              · show X.mask < _
                rw [hXk.2.2.2]; exact hmk
              · rcases hloc with h0 | ⟨g, o, hka, hg⟩
                · exact .inl h0
                · exact .inr ⟨g, ⟨o, by rw [← hka]; exact hXk.1⟩, by have := HPR.out.2.2; omega⟩
      · have hbe : (wj == l0) = false := by rw [beq_eq_false_iff_ne]; exact heq
        go_wp2_with fail
        go_quiet ((exact still_call HWD.out))
        go_wp2_with fail
        go_roundw
        case rel =>
          refine ⟨j + 1, q + nq, by go_num, by omega, by omega, rfl, fun i h1 h2 => ?_⟩
          rcases (by omega : i < (j : Int) ∨ i = (j : Int)) with h3 | rfl
          · exact HNO.out i h1 h3
          · rw [HWJ.out]; exact heq
        case measure => simp [intOf]; omega
    · have hj' : ¬ ((j : Int) ≤ 8) := by omega
      obtain rfl : j = 9 := by omega
      have hP : (progRead s.data.toList).2 = false := by
        unfold progRead
        rw [HD.out.1, HD.out.2.1, HLE.out]
        have hk : kindOf l0 = none := by
          unfold kindOf
          have h : ∀ i : Int, 1 ≤ i → i < 9 → ¬ l0 = word i := fun i h1 h2 e => hno i h1 h2 e.symm
          rw [if_neg (h 1 (by decide) (by decide)), if_neg (h 2 (by decide) (by decide)), if_neg (h 3 (by decide) (by decide)), if_neg (h 4 (by decide) (by decide)), if_neg (h 5 (by decide) (by decide)), if_neg (h 6 (by decide) (by decide)), if_neg (h 7 (by decide) (by decide)), if_neg (h 8 (by decide) (by decide))]
        show (match kindOf l0 with | none => (act0, false) | some k => (wordsM k rest, right (wordsM k rest) && decide (ScriptM.line (wordsM k rest) = s.data.toList))).2 = false
        rw [hk]
      have HP := Lib.hid hP
      obtain ⟨g1, g2, g3, g4⟩ := HW.out
      have g2' : (w1.drewN q).heap[w.heap.size]? = some (.cells #[.int .i64 0, .int .i64 0, .bool false, .slice none 0 0, .string .empty, .int .u32 0] 30 (0, 0)) := g2
      have HB := Lib.hid (below_drewN g1 q)
      generalize w1.drewN q = W2 at *
      have HG := Lib.hid g2'
      have z0 := cell_of_row _ _ 0 _ _ _ g2'
      have z1 := cell_of_row _ _ 1 _ _ _ g2'
      have z2 := cell_of_row _ _ 2 _ _ _ g2'
      have z3 := cell_of_row _ _ 3 _ _ _ g2'
      have z4 := cell_of_row _ _ 4 _ _ _ g2'
      have z5 := cell_of_row _ _ 5 _ _ _ g2'
      have y0 := frozen_of_row _ _ 0 _ _ g2'
      have y1 := frozen_of_row _ _ 1 _ _ g2'
      have y2 := frozen_of_row _ _ 2 _ _ g2'
      have y3 := frozen_of_row _ _ 3 _ _ g2'
      have y4 := frozen_of_row _ _ 4 _ _ g2'
      have y5 := frozen_of_row _ _ 5 _ _ g2'
      clear hP g1 g2 g2' g3 g4 hno hl0
      go_wp2_with fail
      obtain ⟨s1, s2⟩ := store_six HG.out rfl (.int .i64 0) (.int .i64 0) (.bool false) (.slice none 0 0) (.string ⟨#[]⟩) (.int .u32 0)
      have hb5 := HB.out.trans (s1.below (Nat.le_of_lt (Array.getElem?_eq_some_iff.1 HG.out).1))
      have HB5 := Lib.hid hb5
      have r0 := cell_of_row _ _ 0 _ _ _ s2
      have r1 := cell_of_row _ _ 1 _ _ _ s2
      have r2 := cell_of_row _ _ 2 _ _ _ s2
      have r3 := cell_of_row _ _ 3 _ _ _ s2
      have r4 := cell_of_row _ _ 4 _ _ _ s2
      have r5 := cell_of_row _ _ 5 _ _ _ s2
      clear s1 s2 hb5 z0 z1 z2 z3 z4 z5 y0 y1 y2 y3 y4 y5
      rw [HP.out]
      change _ ∧ _
      generalize hW5 : ((((((W2.setCell ⟨w.heap.size, 0, none⟩ (.int .i64 0)).setCell ⟨w.heap.size, 1, none⟩ (.int .i64 0)).setCell ⟨w.heap.size, 2, none⟩ (.bool false)).setCell ⟨w.heap.size, 3, none⟩ (.slice none 0 0)).setCell ⟨w.heap.size, 4, none⟩ (.string ⟨#[]⟩)).setCell ⟨w.heap.size, 5, none⟩ (.int .u32 0)) = W5 at *
      refine ⟨rfl, _, by simp [results, go_sem, r0, r1, r2, r3, r4, r5]; rfl, ⟨⟨0, 0, false, none, 0, 0, .empty, 0⟩, []⟩, rfl, HB5.out, fun h => by cases h⟩
end Go.Proofs.YtifdmgloheampaaDoor
