/- The walk of the script's line. Condition: the act is right; the world is laid. -/
import Derived.Test.YtifdmgloheampaaDoorScriptF
namespace Go.Proofs.YtifdmgloheampaaDoor
open Go.RowKit DiskM ScriptM

theorem info_str : (Tryd.prog.info? 9).map (fun i => (i.zero, i.size, i.bytes)) = some (some (.string .empty), 1, 16) := by kernel_rfl
/-- a block that is no row of texts -/
def Other (w w' : World) : Prop := ∀ (k : Nat) (cs : Array Value) (T : TypeId), T ≠ 9 → w.heap[k]? = some (Obj.cells cs T (0, 0)) → w'.heap[k]? = some (Obj.cells cs T (0, 0))
set_option maxRecDepth 100000 in
/-- append of one text onto a row of texts of the call's own -/
theorem wpList_append_s {o : Oper} {act : Act} {Q : Exit → Act → World → Prop} {ops : Array Oper} {rest : List Oper} (hgd : o.guard = none) (s x : Operand) (ho : o.op = .call { callee := .builtin .append, args := #[s, x], argTypes := #[64, 64] })
    (w0 w : World) (B : Nat) (hb0 : Below B w0 w) (hB : B ≤ w.heap.size) (a : Option Addr) (n c : Nat) (xs : List (List UInt8)) (hs : act.eval s = .slice a n c) (hown : Row w B 9 1 a n c (xs.map sv))
    (ad : Addr) (l : List UInt8) (hx : act.eval x = .slice (some ad) 1 1) (hc : w.cell? ad = some (sv l)) (hn : n < 1000000)
    (h : ∀ a' c' w', Row w' B 9 1 a' (n + 1) c' ((xs ++ [l]).map sv) → Below B w0 w' → Other w w' → wpList Tryd.prog ops Q rest (act.put o.dst (.slice a' (n + 1) c')) w') : wpList Tryd.prog ops Q (o :: rest) act w := by
  obtain ⟨i0, hi, hz0, hz1, hz2⟩ := info_parts info_str
  refine wpList_append_row hgd s x 64 ho w0 w 9 i0 _ 1 16 Tryd.underlying64 hi hz0 hz1 hz2 rfl (by omega) B hb0 hB a n c (xs.map sv) hs hown ad 1 1 [sv l] hx rfl (fun j u hu => ?_) (fun u hu => ?_) (n + 1) rfl (by omega) (by omega)
    (fun a' c' w' h1 h2 h3 _ => h a' c' w' (by rw [List.map_append]; exact h1) h3 fun k cs T hT hk => ?_)
  · obtain rfl : j = 0 := by
      cases j with
      | zero => rfl
      | succ j => exact absurd hu (by intro h; cases h)
    have hu : some (sv l) = some u := hu
    injection hu with hu
    subst hu
    have : ad.add 0 = ad := by simp [Addr.add]
    rw [this]; exact hc
  · have hu : u = sv l := List.mem_singleton.1 hu
    subst hu; rfl
  · refine (h2.block k (Array.getElem?_eq_some_iff.1 hk).1 fun e => ?_).trans hk
    rcases hown.form with ⟨rfl, _⟩ | ⟨g, cur, rfl, _, _, hh, _⟩
    · cases e
    · have e : k = g := by simpa using e
      rw [e, hh] at hk
      injection hk with hk
      injection hk with _ e2
      exact hT e2.symm
/-- the boxes of line: the act's, and what its kind has -/
structure LineAt (w0 w : World) (H : Nat) (cs hs : Array Value) : Prop where
  bel : Below w0.heap.size w0 w
  box : w.heap[w0.heap.size]? = some (.cells cs 30 (0, 0))
  has : w.heap[H]? = some (.cells hs 47 (0, 0))
section
variable {w0 w w' : World} {H : Nat} {cs hs : Array Value}
theorem LineAt.call (h : LineAt w0 w H cs hs) (hb : Below w.heap.size w w') : LineAt w0 w' H cs hs :=
  ⟨Below.next0 h.bel hb, (hb.block _ (Array.getElem?_eq_some_iff.1 h.box).1).trans h.box, (hb.block _ (Array.getElem?_eq_some_iff.1 h.has).1).trans h.has⟩
theorem LineAt.alloc (h : LineAt w0 w H cs hs) (o : Obj) : LineAt w0 (w.alloc o) H cs hs := h.call ((Below.refl _ _).alloc (Nat.le_refl _) _)
theorem LineAt.keep (h : LineAt w0 w H cs hs) (hb : Below w0.heap.size w0 w') (hk : Other w w') : LineAt w0 w' H cs hs := ⟨hb, hk _ _ _ (by decide) h.box, hk _ _ _ (by decide) h.has⟩
theorem LineAt.start {w1 : World} (hb : Below w0.heap.size w0 w1) (hx : w1.heap[w0.heap.size]? = some (.cells cs 30 (0, 0))) (l : List UInt8) :
    LineAt w0 ((w1.alloc (.cells hs 47)).alloc (.cells #[sv l] 9)) w1.heap.size cs hs ∧ Row ((w1.alloc (.cells hs 47)).alloc (.cells #[sv l] 9)) w0.heap.size 9 1 (some ⟨(w1.alloc (.cells hs 47)).heap.size, 0, none⟩) 1 1 ([l].map sv) := by
  have hz := (Array.getElem?_eq_some_iff.1 hx).1
  have h1 : LineAt w0 (w1.alloc (.cells hs 47)) w1.heap.size cs hs := by
    refine ⟨hb.alloc hb.size _, ?_, heap_alloc_new _ _⟩
    rw [Below.heap_alloc _ _ _ hz]; exact hx
  exact ⟨h1.alloc _, Row.lit _ h1.bel.size _ 1 #[sv l] 1 (by decide) rfl⟩
theorem LineAt.act (h : LineAt w0 w H cs hs) {j : Nat} {v : Value} (hv : cs[j]? = some v) : w.cell? ⟨w0.heap.size, j, none⟩ = some v := by rw [cell_of_row _ _ _ _ _ _ h.box]; exact hv
theorem LineAt.its (h : LineAt w0 w H cs hs) {j : Nat} {v : Value} (hv : hs[j]? = some v) : w.cell? ⟨H, j, none⟩ = some v := by rw [cell_of_row _ _ _ _ _ _ h.has]; exact hv
end
theorem cell_new1 (w : World) (v : Value) (e : TypeId) (z : Nat) (hz : z = w.heap.size) : (w.alloc (.cells #[v] e)).cell? ⟨z, 0, none⟩ = some v := by subst hz; exact cell_of_row _ _ 0 _ _ _ (heap_alloc_new _ _)
theorem line_text (l : List UInt8) : (⟨l.toArray⟩ : ByteArray) ++ ⟨#[10]⟩ = ⟨(l ++ [10]).toArray⟩ := by
  apply ByteArray.ext
  simp [ByteArray.data_append]
theorem take_dec (keep : List UInt8) (i : Nat) (y : UInt8) (h : keep[i]? = some y) (base : List (List UInt8)) : base ++ (keep.take i).map (fun k => dec k.toNat) ++ [dec y.toNat] = base ++ (keep.take (i + 1)).map fun k => dec k.toNat := by
  rw [List.take_add_one, h]; simp

set_option maxRecDepth 100000 in
set_option maxHeartbeats 4000000 in
theorem line_n (x : ActC) (keep : List UInt8) (w : World) (hk : x.kind = 1 ∨ x.kind = 2 ∨ x.kind = 3 ∨ x.kind = 7) (h0 : 0 ≤ x.n) (h1 : x.n ≤ 999999) (hkl : keep.length = x.kn) (h8 : keep.length ≤ 8) (hrd : Rd w w.heap.size x.ka keep) (hlen : (shown (x.abs keep)).length ≤ 1000000) (hl : Laid w) :
    Calls Tryd.prog 26 #[.agg x.cells] w fun e w' => e = .returned (sv (ScriptM.line (x.abs keep))) ∧ Below w.heap.size w w' := by
  obtain ⟨k, n, dn, ka, kn, kc, nm, m⟩ := x
  obtain ⟨nl, rfl⟩ : ∃ nl : List UInt8, nm = ⟨nl.toArray⟩ := ⟨nm.data.toList, rfl⟩
  have HL := Lib.hid hl
  have HO := Lib.hid (of_any k)
  have HW := Lib.hid (word_any k)
  have h0 : 0 ≤ n := h0
  have h1 : n ≤ 999999 := h1
  have h1b : n ≤ 9223372036854775807 := by omega
  have hf : hasC k = #[.bool true, .bool false, .bool false, .bool false] ∧ shown (ActC.abs ⟨k, n, dn, ka, kn, kc, ⟨nl.toArray⟩, m⟩ keep) = glue ((word k :: [dec n.toNat]) ++ keep.map fun k => dec k.toNat) := by
    rcases hk with h | h | h | h
    all_goals (have h : k = _ := h; subst h; exact ⟨rfl, rfl⟩)
  rw [hf.1] at HO
  have HR := Lib.hid (show ScriptM.line (ActC.abs ⟨k, n, dn, ka, kn, kc, ⟨nl.toArray⟩, m⟩ keep) = glue ((word k :: [dec n.toNat]) ++ keep.map fun k => dec k.toNat) ++ [10] by unfold ScriptM.line; rw [hf.2])
  rw [HR.out]
  rw [hf.2] at hlen
  obtain ⟨G, hG⟩ : ∃ G, glue ((word k :: [dec n.toNat]) ++ keep.map fun k => dec k.toNat) = G := ⟨_, rfl⟩
  have HG := Lib.hid hG
  rw [hG] at hlen ⊢
  have hrd : Rd w w.heap.size ka keep := hrd
  have HRD := Lib.hid hrd
  obtain rfl : keep.length = kn := hkl
  clear hk hf hl HR hrd hG
  unfold ActC.cells
  go_enter Tryd.func26, Tryd.ntmps26
  go_wp2_with fail
  have hb0 : Below w.heap.size w (w.alloc (.cells #[.int .i64 k, .int .i64 n, .bool dn, .slice ka keep.length kc, sv nl, .int .u32 (m : Int)] 30)) := (Below.refl _ _).alloc (Nat.le_refl _) _
  have hbx := heap_alloc_new w (.cells #[.int .i64 k, .int .i64 n, .bool dn, .slice ka keep.length kc, sv nl, .int .u32 (m : Int)] 30)
  have hsz : w.heap.size < (w.alloc (.cells #[.int .i64 k, .int .i64 n, .bool dn, .slice ka keep.length kc, sv nl, .int .u32 (m : Int)] 30)).heap.size := by simp
  generalize w.alloc (.cells #[.int .i64 k, .int .i64 n, .bool dn, .slice ka keep.length kc, sv nl, .int .u32 (m : Int)] 30) = W0 at *
  refine (HO.out W0).mono ?_
  rintro e w1 ⟨rfl, hb1⟩
  have hx1 := (hb1.block _ hsz).trans hbx
  have c0 : w1.cell? ⟨w.heap.size, 0, none⟩ = some (.int .i64 k) := cell_of_row _ _ 0 _ _ _ hx1
  have HS := Lib.hid (LineAt.start (hs := #[.bool true, .bool false, .bool false, .bool false]) (Below.next0 hb0 hb1) hx1 (word k))
  have hs1 : w.heap.size < w1.heap.size := Nat.lt_of_lt_of_le hsz hb1.size
  have EZ := Lib.hid (show (w1.alloc (.cells #[.bool true, .bool false, .bool false, .bool false] 47)).heap.size = w1.heap.size + 1 by simp)
  clear hb0 hbx hsz hb1 hx1
  go_wp2_with fail
  refine (HW.out _).mono ?_
  rintro e w' ⟨rfl, rfl⟩
  clear c0
  have L0 := Lib.hid HS.out.1
  have R0 := Lib.hid HS.out.2
  rw [EZ.out] at R0
  clear HS
  have d0 : ((w1.alloc (.cells #[.bool true, .bool false, .bool false, .bool false] 47)).alloc (.cells #[sv (word k)] 9)).cell? ⟨w1.heap.size, 0, none⟩ = some (.bool true) := L0.out.its rfl
  have d1 : ((w1.alloc (.cells #[.bool true, .bool false, .bool false, .bool false] 47)).alloc (.cells #[sv (word k)] 9)).cell? ⟨w1.heap.size, 1, none⟩ = some (.bool false) := L0.out.its rfl
  have d2 : ((w1.alloc (.cells #[.bool true, .bool false, .bool false, .bool false] 47)).alloc (.cells #[sv (word k)] 9)).cell? ⟨w1.heap.size, 2, none⟩ = some (.bool false) := L0.out.its rfl
  have d3 : ((w1.alloc (.cells #[.bool true, .bool false, .bool false, .bool false] 47)).alloc (.cells #[sv (word k)] 9)).cell? ⟨w1.heap.size, 3, none⟩ = some (.bool false) := L0.out.its rfl
  have c1 : ((w1.alloc (.cells #[.bool true, .bool false, .bool false, .bool false] 47)).alloc (.cells #[sv (word k)] 9)).cell? ⟨w.heap.size, 1, none⟩ = some (.int .i64 n) := L0.out.act rfl
  have c2 : ((w1.alloc (.cells #[.bool true, .bool false, .bool false, .bool false] 47)).alloc (.cells #[sv (word k)] 9)).cell? ⟨w.heap.size, 2, none⟩ = some (.bool dn) := L0.out.act rfl
  have c3 : ((w1.alloc (.cells #[.bool true, .bool false, .bool false, .bool false] 47)).alloc (.cells #[sv (word k)] 9)).cell? ⟨w.heap.size, 3, none⟩ = some (.slice ka keep.length kc) := L0.out.act rfl
  have c4 : ((w1.alloc (.cells #[.bool true, .bool false, .bool false, .bool false] 47)).alloc (.cells #[sv (word k)] 9)).cell? ⟨w.heap.size, 4, none⟩ = some (sv nl) := L0.out.act rfl
  have c5 : ((w1.alloc (.cells #[.bool true, .bool false, .bool false, .bool false] 47)).alloc (.cells #[sv (word k)] 9)).cell? ⟨w.heap.size, 5, none⟩ = some (.int .u32 (m : Int)) := L0.out.act rfl
  unfold sv at d0 d1 d2 d3 c1 c2 c3 c4 c5
  go_wp2_with (first | (refine (itoa_any n _ h0 h1b (HL.out.below L0.out.bel)).mono ?_; rintro e v0 ⟨rfl, hb⟩; have LC := Lib.hid (L0.out.call hb); have RC := Lib.hid (R0.out.call hb); clear hb d0 d1 d2 d3 c1 c2 c3 c4 c5 L0 R0) | (at_builtin; refine wpList_append_s rfl (.tmp 27) (.tmp 31) rfl w _ w.heap.size (LC.out.alloc _).bel (LC.out.alloc _).bel.size (some ⟨w1.heap.size + 1, 0, none⟩) 1 1 ([word k]) rfl (RC.out.alloc _) _ (dec n.toNat) rfl (cell_new1 _ _ _ _ (by first | rfl | simp)) (by omega) ?_; intro a1 c1' W1 hr hb2 hk2; have L1 := Lib.hid ((LC.out.alloc _).keep hb2 hk2); have R1 := Lib.hid hr; clear hr hb2 hk2 LC RC; have d0 : W1.cell? ⟨w1.heap.size, 0, none⟩ = some (.bool true) := L1.out.its rfl; have d1 : W1.cell? ⟨w1.heap.size, 1, none⟩ = some (.bool false) := L1.out.its rfl; have d2 : W1.cell? ⟨w1.heap.size, 2, none⟩ = some (.bool false) := L1.out.its rfl; have d3 : W1.cell? ⟨w1.heap.size, 3, none⟩ = some (.bool false) := L1.out.its rfl; have c1 : W1.cell? ⟨w.heap.size, 1, none⟩ = some (.int .i64 n) := L1.out.act rfl; have c2 : W1.cell? ⟨w.heap.size, 2, none⟩ = some (.bool dn) := L1.out.act rfl; have c3 : W1.cell? ⟨w.heap.size, 3, none⟩ = some (.slice ka keep.length kc) := L1.out.act rfl; have c4 : W1.cell? ⟨w.heap.size, 4, none⟩ = some (sv nl) := L1.out.act rfl; have c5 : W1.cell? ⟨w.heap.size, 5, none⟩ = some (.int .u32 (m : Int)) := L1.out.act rfl))
  clear d0 d1 d2 d3 c1 c2 c4 c5 c3
  go_loopw [5, 62] (fun l i wr => ∃ (j : Nat) (ao : Option Addr) (co : Nat), j ≤ keep.length ∧ i = .int .i64 (j : Int) ∧ l = .slice ao (2 + j) co ∧ Row wr w.heap.size 9 1 ao (2 + j) co (((word k :: [dec n.toNat]) ++ (keep.take j).map fun k => dec k.toNat).map sv) ∧ LineAt w wr w1.heap.size #[.int .i64 k, .int .i64 n, .bool dn, .slice ka keep.length kc, sv nl, .int .u32 (m : Int)] #[.bool true, .bool false, .bool false, .bool false]) (fun _ i _ => keep.length - (intOf i).toNat)
  case atStart => exact ⟨0, _, _, Nat.zero_le _, rfl, rfl, R1.out, L1.out⟩
  case round =>
    clear L1 R1
    obtain ⟨j, ao, co, hj, rfl, rfl, hrow, hlat⟩ := hrel
    have LI := Lib.hid hlat
    have RI := Lib.hid hrow
    clear hlat hrow
    by_cases hlt : j < keep.length
    · obtain ⟨b, o, y, rfl, hbk, hy, hcy⟩ := HRD.out.at_ hlt
      have hcy' : wr.cell? ⟨b, o + j, none⟩ = some (.int .u8 (y.toNat : Int)) := (LI.out.bel.cell (by exact hbk)).trans hcy
      have HT := Lib.hid (take_dec keep j y hy (word k :: [dec n.toNat]))
      have hy0 : (0 : Int) ≤ (y.toNat : Int) := by omega
      have hy1 : (y.toNat : Int) ≤ 9223372036854775807 := by have := y.toNat_lt; omega
      clear hcy hy
      go_wp2_with (first | (refine (itoa_any (y.toNat : Int) _ hy0 hy1 (HL.out.below LI.out.bel)).mono ?_; rintro e v9 ⟨rfl, hb⟩; have LC := Lib.hid (LI.out.call hb); have RC := Lib.hid (RI.out.call hb); clear hb LI RI hcy') | (at_builtin; refine wpList_append_s rfl (.tmp 66) (.tmp 70) rfl w _ w.heap.size (LC.out.alloc _).bel (LC.out.alloc _).bel.size ao (2 + j) co ((word k :: [dec n.toNat]) ++ (keep.take j).map fun k => dec k.toNat) rfl (RC.out.alloc _) _ (dec (y.toNat : Int).toNat) rfl (cell_new1 _ _ _ _ (by first | rfl | simp)) (by omega) ?_; intro a9 c9 W9 hr hb2 hk2; have LD := Lib.hid ((LC.out.alloc _).keep hb2 hk2); have RD := Lib.hid hr; clear hr hb2 hk2 LC RC))
      go_roundw
      case rel => exact ⟨j + 1, a9, c9, by omega, by go_num, rfl, by rw [← HT.out]; exact RD.out, LD.out⟩
      case measure => simp [intOf]; omega
    · obtain rfl : j = keep.length := by omega
      have RJ := RI
      rw [List.take_length] at RJ
      clear RI hlt hj
      have hn47 : 2 + keep.length ≤ 140737488355328 := by omega
      go_wp2_with (refine (join_any ao (2 + keep.length) co _ _ w.heap.size RJ.out (by simp) (by rw [HG.out]; exact Nat.le_trans hlen (by decide)) hn47).mono ?_; rw [HG.out]; rintro e v9 ⟨rfl, hb⟩; have HB := Lib.hid (Below.next0 LI.out.bel hb); clear hb)
      go_ret
      exact ⟨congrArg (fun s => Ending.returned (Value.string s)) (line_text _), HB.out⟩
set_option maxRecDepth 100000 in
set_option maxHeartbeats 4000000 in
theorem line_open (x : ActC) (keep : List UInt8) (w : World) (hk : x.kind = 4) (hkl : keep.length = x.kn) (h8 : keep.length ≤ 8) (hrd : Rd w w.heap.size x.ka keep) (hlen : (shown (x.abs keep)).length ≤ 1000000) (hl : Laid w) :
    Calls Tryd.prog 26 #[.agg x.cells] w fun e w' => e = .returned (sv (ScriptM.line (x.abs keep))) ∧ Below w.heap.size w w' := by
  obtain ⟨k, n, dn, ka, kn, kc, nm, m⟩ := x
  obtain ⟨nl, rfl⟩ : ∃ nl : List UInt8, nm = ⟨nl.toArray⟩ := ⟨nm.data.toList, rfl⟩
  have HL := Lib.hid hl
  have HO := Lib.hid (of_any k)
  have HW := Lib.hid (word_any k)
  have hf : hasC k = #[.bool false, .bool false, .bool false, .bool false] ∧ shown (ActC.abs ⟨k, n, dn, ka, kn, kc, ⟨nl.toArray⟩, m⟩ keep) = glue ((word k :: []) ++ keep.map fun k => dec k.toNat) := by
    have h : k = _ := hk
    subst h
    exact ⟨rfl, rfl⟩
  rw [hf.1] at HO
  have HR := Lib.hid (show ScriptM.line (ActC.abs ⟨k, n, dn, ka, kn, kc, ⟨nl.toArray⟩, m⟩ keep) = glue ((word k :: []) ++ keep.map fun k => dec k.toNat) ++ [10] by unfold ScriptM.line; rw [hf.2])
  rw [HR.out]
  rw [hf.2] at hlen
  obtain ⟨G, hG⟩ : ∃ G, glue ((word k :: []) ++ keep.map fun k => dec k.toNat) = G := ⟨_, rfl⟩
  have HG := Lib.hid hG
  rw [hG] at hlen ⊢
  have hrd : Rd w w.heap.size ka keep := hrd
  have HRD := Lib.hid hrd
  obtain rfl : keep.length = kn := hkl
  clear hk hf hl HR hrd hG
  unfold ActC.cells
  go_enter Tryd.func26, Tryd.ntmps26
  go_wp2_with fail
  have hb0 : Below w.heap.size w (w.alloc (.cells #[.int .i64 k, .int .i64 n, .bool dn, .slice ka keep.length kc, sv nl, .int .u32 (m : Int)] 30)) := (Below.refl _ _).alloc (Nat.le_refl _) _
  have hbx := heap_alloc_new w (.cells #[.int .i64 k, .int .i64 n, .bool dn, .slice ka keep.length kc, sv nl, .int .u32 (m : Int)] 30)
  have hsz : w.heap.size < (w.alloc (.cells #[.int .i64 k, .int .i64 n, .bool dn, .slice ka keep.length kc, sv nl, .int .u32 (m : Int)] 30)).heap.size := by simp
  generalize w.alloc (.cells #[.int .i64 k, .int .i64 n, .bool dn, .slice ka keep.length kc, sv nl, .int .u32 (m : Int)] 30) = W0 at *
  refine (HO.out W0).mono ?_
  rintro e w1 ⟨rfl, hb1⟩
  have hx1 := (hb1.block _ hsz).trans hbx
  have c0 : w1.cell? ⟨w.heap.size, 0, none⟩ = some (.int .i64 k) := cell_of_row _ _ 0 _ _ _ hx1
  have HS := Lib.hid (LineAt.start (hs := #[.bool false, .bool false, .bool false, .bool false]) (Below.next0 hb0 hb1) hx1 (word k))
  have hs1 : w.heap.size < w1.heap.size := Nat.lt_of_lt_of_le hsz hb1.size
  have EZ := Lib.hid (show (w1.alloc (.cells #[.bool false, .bool false, .bool false, .bool false] 47)).heap.size = w1.heap.size + 1 by simp)
  clear hb0 hbx hsz hb1 hx1
  go_wp2_with fail
  refine (HW.out _).mono ?_
  rintro e w' ⟨rfl, rfl⟩
  clear c0
  have L0 := Lib.hid HS.out.1
  have R0 := Lib.hid HS.out.2
  rw [EZ.out] at R0
  clear HS
  have d0 : ((w1.alloc (.cells #[.bool false, .bool false, .bool false, .bool false] 47)).alloc (.cells #[sv (word k)] 9)).cell? ⟨w1.heap.size, 0, none⟩ = some (.bool false) := L0.out.its rfl
  have d1 : ((w1.alloc (.cells #[.bool false, .bool false, .bool false, .bool false] 47)).alloc (.cells #[sv (word k)] 9)).cell? ⟨w1.heap.size, 1, none⟩ = some (.bool false) := L0.out.its rfl
  have d2 : ((w1.alloc (.cells #[.bool false, .bool false, .bool false, .bool false] 47)).alloc (.cells #[sv (word k)] 9)).cell? ⟨w1.heap.size, 2, none⟩ = some (.bool false) := L0.out.its rfl
  have d3 : ((w1.alloc (.cells #[.bool false, .bool false, .bool false, .bool false] 47)).alloc (.cells #[sv (word k)] 9)).cell? ⟨w1.heap.size, 3, none⟩ = some (.bool false) := L0.out.its rfl
  have c1 : ((w1.alloc (.cells #[.bool false, .bool false, .bool false, .bool false] 47)).alloc (.cells #[sv (word k)] 9)).cell? ⟨w.heap.size, 1, none⟩ = some (.int .i64 n) := L0.out.act rfl
  have c2 : ((w1.alloc (.cells #[.bool false, .bool false, .bool false, .bool false] 47)).alloc (.cells #[sv (word k)] 9)).cell? ⟨w.heap.size, 2, none⟩ = some (.bool dn) := L0.out.act rfl
  have c3 : ((w1.alloc (.cells #[.bool false, .bool false, .bool false, .bool false] 47)).alloc (.cells #[sv (word k)] 9)).cell? ⟨w.heap.size, 3, none⟩ = some (.slice ka keep.length kc) := L0.out.act rfl
  have c4 : ((w1.alloc (.cells #[.bool false, .bool false, .bool false, .bool false] 47)).alloc (.cells #[sv (word k)] 9)).cell? ⟨w.heap.size, 4, none⟩ = some (sv nl) := L0.out.act rfl
  have c5 : ((w1.alloc (.cells #[.bool false, .bool false, .bool false, .bool false] 47)).alloc (.cells #[sv (word k)] 9)).cell? ⟨w.heap.size, 5, none⟩ = some (.int .u32 (m : Int)) := L0.out.act rfl
  unfold sv at d0 d1 d2 d3 c1 c2 c3 c4 c5
  go_wp2_with (fail)
  clear d0 d1 d2 d3 c1 c2 c4 c5 c3
  go_loopw [5, 62] (fun l i wr => ∃ (j : Nat) (ao : Option Addr) (co : Nat), j ≤ keep.length ∧ i = .int .i64 (j : Int) ∧ l = .slice ao (1 + j) co ∧ Row wr w.heap.size 9 1 ao (1 + j) co (((word k :: []) ++ (keep.take j).map fun k => dec k.toNat).map sv) ∧ LineAt w wr w1.heap.size #[.int .i64 k, .int .i64 n, .bool dn, .slice ka keep.length kc, sv nl, .int .u32 (m : Int)] #[.bool false, .bool false, .bool false, .bool false]) (fun _ i _ => keep.length - (intOf i).toNat)
  case atStart => exact ⟨0, _, _, Nat.zero_le _, rfl, rfl, R0.out, L0.out⟩
  case round =>
    clear L0 R0
    obtain ⟨j, ao, co, hj, rfl, rfl, hrow, hlat⟩ := hrel
    have LI := Lib.hid hlat
    have RI := Lib.hid hrow
    clear hlat hrow
    by_cases hlt : j < keep.length
    · obtain ⟨b, o, y, rfl, hbk, hy, hcy⟩ := HRD.out.at_ hlt
      have hcy' : wr.cell? ⟨b, o + j, none⟩ = some (.int .u8 (y.toNat : Int)) := (LI.out.bel.cell (by exact hbk)).trans hcy
      have HT := Lib.hid (take_dec keep j y hy (word k :: []))
      have hy0 : (0 : Int) ≤ (y.toNat : Int) := by omega
      have hy1 : (y.toNat : Int) ≤ 9223372036854775807 := by have := y.toNat_lt; omega
      clear hcy hy
      go_wp2_with (first | (refine (itoa_any (y.toNat : Int) _ hy0 hy1 (HL.out.below LI.out.bel)).mono ?_; rintro e v9 ⟨rfl, hb⟩; have LC := Lib.hid (LI.out.call hb); have RC := Lib.hid (RI.out.call hb); clear hb LI RI hcy') | (at_builtin; refine wpList_append_s rfl (.tmp 66) (.tmp 70) rfl w _ w.heap.size (LC.out.alloc _).bel (LC.out.alloc _).bel.size ao (1 + j) co ((word k :: []) ++ (keep.take j).map fun k => dec k.toNat) rfl (RC.out.alloc _) _ (dec (y.toNat : Int).toNat) rfl (cell_new1 _ _ _ _ (by first | rfl | simp)) (by omega) ?_; intro a9 c9 W9 hr hb2 hk2; have LD := Lib.hid ((LC.out.alloc _).keep hb2 hk2); have RD := Lib.hid hr; clear hr hb2 hk2 LC RC))
      go_roundw
      case rel => exact ⟨j + 1, a9, c9, by omega, by go_num, rfl, by rw [← HT.out]; exact RD.out, LD.out⟩
      case measure => simp [intOf]; omega
    · obtain rfl : j = keep.length := by omega
      have RJ := RI
      rw [List.take_length] at RJ
      clear RI hlt hj
      have hn47 : 1 + keep.length ≤ 140737488355328 := by omega
      go_wp2_with (refine (join_any ao (1 + keep.length) co _ _ w.heap.size RJ.out (by simp) (by rw [HG.out]; exact Nat.le_trans hlen (by decide)) hn47).mono ?_; rw [HG.out]; rintro e v9 ⟨rfl, hb⟩; have HB := Lib.hid (Below.next0 LI.out.bel hb); clear hb)
      go_ret
      exact ⟨congrArg (fun s => Ending.returned (Value.string s)) (line_text _), HB.out⟩
set_option maxRecDepth 100000 in
set_option maxHeartbeats 4000000 in
theorem line_arm (x : ActC) (keep : List UInt8) (w : World) (hk : x.kind = 5) (hdn : x.done = true) (h0 : 0 ≤ x.n) (h1 : x.n ≤ 999999) (hkl : keep.length = x.kn) (h8 : keep.length ≤ 8) (hrd : Rd w w.heap.size x.ka keep) (hlen : (shown (x.abs keep)).length ≤ 1000000) (hl : Laid w) :
    Calls Tryd.prog 26 #[.agg x.cells] w fun e w' => e = .returned (sv (ScriptM.line (x.abs keep))) ∧ Below w.heap.size w w' := by
  obtain ⟨k, n, dn, ka, kn, kc, nm, m⟩ := x
  obtain ⟨nl, rfl⟩ : ∃ nl : List UInt8, nm = ⟨nl.toArray⟩ := ⟨nm.data.toList, rfl⟩
  have HL := Lib.hid hl
  have HO := Lib.hid (of_any k)
  have HW := Lib.hid (word_any k)
  have h0 : 0 ≤ n := h0
  have h1 : n ≤ 999999 := h1
  have h1b : n ≤ 9223372036854775807 := by omega
  obtain rfl : dn = true := hdn
  have hf : hasC k = #[.bool true, .bool true, .bool false, .bool false] ∧ shown (ActC.abs ⟨k, n, true, ka, kn, kc, ⟨nl.toArray⟩, m⟩ keep) = glue ((word k :: [dec n.toNat, doneW]) ++ keep.map fun k => dec k.toNat) := by
    have h : k = _ := hk
    subst h
    exact ⟨rfl, rfl⟩
  rw [hf.1] at HO
  have HR := Lib.hid (show ScriptM.line (ActC.abs ⟨k, n, true, ka, kn, kc, ⟨nl.toArray⟩, m⟩ keep) = glue ((word k :: [dec n.toNat, doneW]) ++ keep.map fun k => dec k.toNat) ++ [10] by unfold ScriptM.line; rw [hf.2])
  rw [HR.out]
  rw [hf.2] at hlen
  obtain ⟨G, hG⟩ : ∃ G, glue ((word k :: [dec n.toNat, doneW]) ++ keep.map fun k => dec k.toNat) = G := ⟨_, rfl⟩
  have HG := Lib.hid hG
  rw [hG] at hlen ⊢
  have hrd : Rd w w.heap.size ka keep := hrd
  have HRD := Lib.hid hrd
  obtain rfl : keep.length = kn := hkl
  clear hk hf hl HR hrd hG
  unfold ActC.cells
  go_enter Tryd.func26, Tryd.ntmps26
  go_wp2_with fail
  have hb0 : Below w.heap.size w (w.alloc (.cells #[.int .i64 k, .int .i64 n, .bool true, .slice ka keep.length kc, sv nl, .int .u32 (m : Int)] 30)) := (Below.refl _ _).alloc (Nat.le_refl _) _
  have hbx := heap_alloc_new w (.cells #[.int .i64 k, .int .i64 n, .bool true, .slice ka keep.length kc, sv nl, .int .u32 (m : Int)] 30)
  have hsz : w.heap.size < (w.alloc (.cells #[.int .i64 k, .int .i64 n, .bool true, .slice ka keep.length kc, sv nl, .int .u32 (m : Int)] 30)).heap.size := by simp
  generalize w.alloc (.cells #[.int .i64 k, .int .i64 n, .bool true, .slice ka keep.length kc, sv nl, .int .u32 (m : Int)] 30) = W0 at *
  refine (HO.out W0).mono ?_
  rintro e w1 ⟨rfl, hb1⟩
  have hx1 := (hb1.block _ hsz).trans hbx
  have c0 : w1.cell? ⟨w.heap.size, 0, none⟩ = some (.int .i64 k) := cell_of_row _ _ 0 _ _ _ hx1
  have HS := Lib.hid (LineAt.start (hs := #[.bool true, .bool true, .bool false, .bool false]) (Below.next0 hb0 hb1) hx1 (word k))
  have hs1 : w.heap.size < w1.heap.size := Nat.lt_of_lt_of_le hsz hb1.size
  have EZ := Lib.hid (show (w1.alloc (.cells #[.bool true, .bool true, .bool false, .bool false] 47)).heap.size = w1.heap.size + 1 by simp)
  clear hb0 hbx hsz hb1 hx1
  go_wp2_with fail
  refine (HW.out _).mono ?_
  rintro e w' ⟨rfl, rfl⟩
  clear c0
  have L0 := Lib.hid HS.out.1
  have R0 := Lib.hid HS.out.2
  rw [EZ.out] at R0
  clear HS
  have d0 : ((w1.alloc (.cells #[.bool true, .bool true, .bool false, .bool false] 47)).alloc (.cells #[sv (word k)] 9)).cell? ⟨w1.heap.size, 0, none⟩ = some (.bool true) := L0.out.its rfl
  have d1 : ((w1.alloc (.cells #[.bool true, .bool true, .bool false, .bool false] 47)).alloc (.cells #[sv (word k)] 9)).cell? ⟨w1.heap.size, 1, none⟩ = some (.bool true) := L0.out.its rfl
  have d2 : ((w1.alloc (.cells #[.bool true, .bool true, .bool false, .bool false] 47)).alloc (.cells #[sv (word k)] 9)).cell? ⟨w1.heap.size, 2, none⟩ = some (.bool false) := L0.out.its rfl
  have d3 : ((w1.alloc (.cells #[.bool true, .bool true, .bool false, .bool false] 47)).alloc (.cells #[sv (word k)] 9)).cell? ⟨w1.heap.size, 3, none⟩ = some (.bool false) := L0.out.its rfl
  have c1 : ((w1.alloc (.cells #[.bool true, .bool true, .bool false, .bool false] 47)).alloc (.cells #[sv (word k)] 9)).cell? ⟨w.heap.size, 1, none⟩ = some (.int .i64 n) := L0.out.act rfl
  have c2 : ((w1.alloc (.cells #[.bool true, .bool true, .bool false, .bool false] 47)).alloc (.cells #[sv (word k)] 9)).cell? ⟨w.heap.size, 2, none⟩ = some (.bool true) := L0.out.act rfl
  have c3 : ((w1.alloc (.cells #[.bool true, .bool true, .bool false, .bool false] 47)).alloc (.cells #[sv (word k)] 9)).cell? ⟨w.heap.size, 3, none⟩ = some (.slice ka keep.length kc) := L0.out.act rfl
  have c4 : ((w1.alloc (.cells #[.bool true, .bool true, .bool false, .bool false] 47)).alloc (.cells #[sv (word k)] 9)).cell? ⟨w.heap.size, 4, none⟩ = some (sv nl) := L0.out.act rfl
  have c5 : ((w1.alloc (.cells #[.bool true, .bool true, .bool false, .bool false] 47)).alloc (.cells #[sv (word k)] 9)).cell? ⟨w.heap.size, 5, none⟩ = some (.int .u32 (m : Int)) := L0.out.act rfl
  unfold sv at d0 d1 d2 d3 c1 c2 c3 c4 c5
  go_wp2_with (first | (refine (itoa_any n _ h0 h1b (HL.out.below L0.out.bel)).mono ?_; rintro e v0 ⟨rfl, hb⟩; have LC := Lib.hid (L0.out.call hb); have RC := Lib.hid (R0.out.call hb); clear hb d0 d1 d2 d3 c1 c2 c3 c4 c5 L0 R0) | (at_builtin; refine wpList_append_s rfl (.tmp 27) (.tmp 31) rfl w _ w.heap.size (LC.out.alloc _).bel (LC.out.alloc _).bel.size (some ⟨w1.heap.size + 1, 0, none⟩) 1 1 ([word k]) rfl (RC.out.alloc _) _ (dec n.toNat) rfl (cell_new1 _ _ _ _ (by first | rfl | simp)) (by omega) ?_; intro a1 c1' W1 hr hb2 hk2; have L1 := Lib.hid ((LC.out.alloc _).keep hb2 hk2); have R1 := Lib.hid hr; clear hr hb2 hk2 LC RC; have d0 : W1.cell? ⟨w1.heap.size, 0, none⟩ = some (.bool true) := L1.out.its rfl; have d1 : W1.cell? ⟨w1.heap.size, 1, none⟩ = some (.bool true) := L1.out.its rfl; have d2 : W1.cell? ⟨w1.heap.size, 2, none⟩ = some (.bool false) := L1.out.its rfl; have d3 : W1.cell? ⟨w1.heap.size, 3, none⟩ = some (.bool false) := L1.out.its rfl; have c1 : W1.cell? ⟨w.heap.size, 1, none⟩ = some (.int .i64 n) := L1.out.act rfl; have c2 : W1.cell? ⟨w.heap.size, 2, none⟩ = some (.bool true) := L1.out.act rfl; have c3 : W1.cell? ⟨w.heap.size, 3, none⟩ = some (.slice ka keep.length kc) := L1.out.act rfl; have c4 : W1.cell? ⟨w.heap.size, 4, none⟩ = some (sv nl) := L1.out.act rfl; have c5 : W1.cell? ⟨w.heap.size, 5, none⟩ = some (.int .u32 (m : Int)) := L1.out.act rfl) | (at_builtin; refine wpList_append_s rfl (.tmp 40) (.tmp 41) rfl w _ w.heap.size (L1.out.alloc _).bel (L1.out.alloc _).bel.size a1 2 c1' ([word k] ++ [dec n.toNat]) rfl (R1.out.alloc _) _ (doneW) rfl (cell_new1 _ _ _ _ (by first | rfl | simp)) (by omega) ?_; intro a2 c2' W2 hr hb2 hk2; have L2 := Lib.hid ((L1.out.alloc _).keep hb2 hk2); have R2 := Lib.hid hr; clear hr hb2 hk2 L1 R1 d0 d1 d2 d3 c1 c2 c3 c4 c5; have d0 : W2.cell? ⟨w1.heap.size, 0, none⟩ = some (.bool true) := L2.out.its rfl; have d1 : W2.cell? ⟨w1.heap.size, 1, none⟩ = some (.bool true) := L2.out.its rfl; have d2 : W2.cell? ⟨w1.heap.size, 2, none⟩ = some (.bool false) := L2.out.its rfl; have d3 : W2.cell? ⟨w1.heap.size, 3, none⟩ = some (.bool false) := L2.out.its rfl; have c1 : W2.cell? ⟨w.heap.size, 1, none⟩ = some (.int .i64 n) := L2.out.act rfl; have c2 : W2.cell? ⟨w.heap.size, 2, none⟩ = some (.bool true) := L2.out.act rfl; have c3 : W2.cell? ⟨w.heap.size, 3, none⟩ = some (.slice ka keep.length kc) := L2.out.act rfl; have c4 : W2.cell? ⟨w.heap.size, 4, none⟩ = some (sv nl) := L2.out.act rfl; have c5 : W2.cell? ⟨w.heap.size, 5, none⟩ = some (.int .u32 (m : Int)) := L2.out.act rfl))
  clear d0 d1 d2 d3 c1 c2 c4 c5 c3
  go_loopw [5, 62] (fun l i wr => ∃ (j : Nat) (ao : Option Addr) (co : Nat), j ≤ keep.length ∧ i = .int .i64 (j : Int) ∧ l = .slice ao (3 + j) co ∧ Row wr w.heap.size 9 1 ao (3 + j) co (((word k :: [dec n.toNat, doneW]) ++ (keep.take j).map fun k => dec k.toNat).map sv) ∧ LineAt w wr w1.heap.size #[.int .i64 k, .int .i64 n, .bool true, .slice ka keep.length kc, sv nl, .int .u32 (m : Int)] #[.bool true, .bool true, .bool false, .bool false]) (fun _ i _ => keep.length - (intOf i).toNat)
  case atStart => exact ⟨0, _, _, Nat.zero_le _, rfl, rfl, R2.out, L2.out⟩
  case round =>
    clear L2 R2
    obtain ⟨j, ao, co, hj, rfl, rfl, hrow, hlat⟩ := hrel
    have LI := Lib.hid hlat
    have RI := Lib.hid hrow
    clear hlat hrow
    by_cases hlt : j < keep.length
    · obtain ⟨b, o, y, rfl, hbk, hy, hcy⟩ := HRD.out.at_ hlt
      have hcy' : wr.cell? ⟨b, o + j, none⟩ = some (.int .u8 (y.toNat : Int)) := (LI.out.bel.cell (by exact hbk)).trans hcy
      have HT := Lib.hid (take_dec keep j y hy (word k :: [dec n.toNat, doneW]))
      have hy0 : (0 : Int) ≤ (y.toNat : Int) := by omega
      have hy1 : (y.toNat : Int) ≤ 9223372036854775807 := by have := y.toNat_lt; omega
      clear hcy hy
      go_wp2_with (first | (refine (itoa_any (y.toNat : Int) _ hy0 hy1 (HL.out.below LI.out.bel)).mono ?_; rintro e v9 ⟨rfl, hb⟩; have LC := Lib.hid (LI.out.call hb); have RC := Lib.hid (RI.out.call hb); clear hb LI RI hcy') | (at_builtin; refine wpList_append_s rfl (.tmp 66) (.tmp 70) rfl w _ w.heap.size (LC.out.alloc _).bel (LC.out.alloc _).bel.size ao (3 + j) co ((word k :: [dec n.toNat, doneW]) ++ (keep.take j).map fun k => dec k.toNat) rfl (RC.out.alloc _) _ (dec (y.toNat : Int).toNat) rfl (cell_new1 _ _ _ _ (by first | rfl | simp)) (by omega) ?_; intro a9 c9 W9 hr hb2 hk2; have LD := Lib.hid ((LC.out.alloc _).keep hb2 hk2); have RD := Lib.hid hr; clear hr hb2 hk2 LC RC))
      go_roundw
      case rel => exact ⟨j + 1, a9, c9, by omega, by go_num, rfl, by rw [← HT.out]; exact RD.out, LD.out⟩
      case measure => simp [intOf]; omega
    · obtain rfl : j = keep.length := by omega
      have RJ := RI
      rw [List.take_length] at RJ
      clear RI hlt hj
      have hn47 : 3 + keep.length ≤ 140737488355328 := by omega
      go_wp2_with (refine (join_any ao (3 + keep.length) co _ _ w.heap.size RJ.out (by simp) (by rw [HG.out]; exact Nat.le_trans hlen (by decide)) hn47).mono ?_; rw [HG.out]; rintro e v9 ⟨rfl, hb⟩; have HB := Lib.hid (Below.next0 LI.out.bel hb); clear hb)
      go_ret
      exact ⟨congrArg (fun s => Ending.returned (Value.string s)) (line_text _), HB.out⟩
set_option maxRecDepth 100000 in
set_option maxHeartbeats 4000000 in
theorem line_lost (x : ActC) (keep : List UInt8) (w : World) (hk : x.kind = 5) (hdn : x.done = false) (h0 : 0 ≤ x.n) (h1 : x.n ≤ 999999) (hkl : keep.length = x.kn) (h8 : keep.length ≤ 8) (hrd : Rd w w.heap.size x.ka keep) (hlen : (shown (x.abs keep)).length ≤ 1000000) (hl : Laid w) :
    Calls Tryd.prog 26 #[.agg x.cells] w fun e w' => e = .returned (sv (ScriptM.line (x.abs keep))) ∧ Below w.heap.size w w' := by
  obtain ⟨k, n, dn, ka, kn, kc, nm, m⟩ := x
  obtain ⟨nl, rfl⟩ : ∃ nl : List UInt8, nm = ⟨nl.toArray⟩ := ⟨nm.data.toList, rfl⟩
  have HL := Lib.hid hl
  have HO := Lib.hid (of_any k)
  have HW := Lib.hid (word_any k)
  have h0 : 0 ≤ n := h0
  have h1 : n ≤ 999999 := h1
  have h1b : n ≤ 9223372036854775807 := by omega
  obtain rfl : dn = false := hdn
  have hf : hasC k = #[.bool true, .bool true, .bool false, .bool false] ∧ shown (ActC.abs ⟨k, n, false, ka, kn, kc, ⟨nl.toArray⟩, m⟩ keep) = glue ((word k :: [dec n.toNat, lostW]) ++ keep.map fun k => dec k.toNat) := by
    have h : k = _ := hk
    subst h
    exact ⟨rfl, rfl⟩
  rw [hf.1] at HO
  have HR := Lib.hid (show ScriptM.line (ActC.abs ⟨k, n, false, ka, kn, kc, ⟨nl.toArray⟩, m⟩ keep) = glue ((word k :: [dec n.toNat, lostW]) ++ keep.map fun k => dec k.toNat) ++ [10] by unfold ScriptM.line; rw [hf.2])
  rw [HR.out]
  rw [hf.2] at hlen
  obtain ⟨G, hG⟩ : ∃ G, glue ((word k :: [dec n.toNat, lostW]) ++ keep.map fun k => dec k.toNat) = G := ⟨_, rfl⟩
  have HG := Lib.hid hG
  rw [hG] at hlen ⊢
  have hrd : Rd w w.heap.size ka keep := hrd
  have HRD := Lib.hid hrd
  obtain rfl : keep.length = kn := hkl
  clear hk hf hl HR hrd hG
  unfold ActC.cells
  go_enter Tryd.func26, Tryd.ntmps26
  go_wp2_with fail
  have hb0 : Below w.heap.size w (w.alloc (.cells #[.int .i64 k, .int .i64 n, .bool false, .slice ka keep.length kc, sv nl, .int .u32 (m : Int)] 30)) := (Below.refl _ _).alloc (Nat.le_refl _) _
  have hbx := heap_alloc_new w (.cells #[.int .i64 k, .int .i64 n, .bool false, .slice ka keep.length kc, sv nl, .int .u32 (m : Int)] 30)
  have hsz : w.heap.size < (w.alloc (.cells #[.int .i64 k, .int .i64 n, .bool false, .slice ka keep.length kc, sv nl, .int .u32 (m : Int)] 30)).heap.size := by simp
  generalize w.alloc (.cells #[.int .i64 k, .int .i64 n, .bool false, .slice ka keep.length kc, sv nl, .int .u32 (m : Int)] 30) = W0 at *
  refine (HO.out W0).mono ?_
  rintro e w1 ⟨rfl, hb1⟩
  have hx1 := (hb1.block _ hsz).trans hbx
  have c0 : w1.cell? ⟨w.heap.size, 0, none⟩ = some (.int .i64 k) := cell_of_row _ _ 0 _ _ _ hx1
  have HS := Lib.hid (LineAt.start (hs := #[.bool true, .bool true, .bool false, .bool false]) (Below.next0 hb0 hb1) hx1 (word k))
  have hs1 : w.heap.size < w1.heap.size := Nat.lt_of_lt_of_le hsz hb1.size
  have EZ := Lib.hid (show (w1.alloc (.cells #[.bool true, .bool true, .bool false, .bool false] 47)).heap.size = w1.heap.size + 1 by simp)
  clear hb0 hbx hsz hb1 hx1
  go_wp2_with fail
  refine (HW.out _).mono ?_
  rintro e w' ⟨rfl, rfl⟩
  clear c0
  have L0 := Lib.hid HS.out.1
  have R0 := Lib.hid HS.out.2
  rw [EZ.out] at R0
  clear HS
  have d0 : ((w1.alloc (.cells #[.bool true, .bool true, .bool false, .bool false] 47)).alloc (.cells #[sv (word k)] 9)).cell? ⟨w1.heap.size, 0, none⟩ = some (.bool true) := L0.out.its rfl
  have d1 : ((w1.alloc (.cells #[.bool true, .bool true, .bool false, .bool false] 47)).alloc (.cells #[sv (word k)] 9)).cell? ⟨w1.heap.size, 1, none⟩ = some (.bool true) := L0.out.its rfl
  have d2 : ((w1.alloc (.cells #[.bool true, .bool true, .bool false, .bool false] 47)).alloc (.cells #[sv (word k)] 9)).cell? ⟨w1.heap.size, 2, none⟩ = some (.bool false) := L0.out.its rfl
  have d3 : ((w1.alloc (.cells #[.bool true, .bool true, .bool false, .bool false] 47)).alloc (.cells #[sv (word k)] 9)).cell? ⟨w1.heap.size, 3, none⟩ = some (.bool false) := L0.out.its rfl
  have c1 : ((w1.alloc (.cells #[.bool true, .bool true, .bool false, .bool false] 47)).alloc (.cells #[sv (word k)] 9)).cell? ⟨w.heap.size, 1, none⟩ = some (.int .i64 n) := L0.out.act rfl
  have c2 : ((w1.alloc (.cells #[.bool true, .bool true, .bool false, .bool false] 47)).alloc (.cells #[sv (word k)] 9)).cell? ⟨w.heap.size, 2, none⟩ = some (.bool false) := L0.out.act rfl
  have c3 : ((w1.alloc (.cells #[.bool true, .bool true, .bool false, .bool false] 47)).alloc (.cells #[sv (word k)] 9)).cell? ⟨w.heap.size, 3, none⟩ = some (.slice ka keep.length kc) := L0.out.act rfl
  have c4 : ((w1.alloc (.cells #[.bool true, .bool true, .bool false, .bool false] 47)).alloc (.cells #[sv (word k)] 9)).cell? ⟨w.heap.size, 4, none⟩ = some (sv nl) := L0.out.act rfl
  have c5 : ((w1.alloc (.cells #[.bool true, .bool true, .bool false, .bool false] 47)).alloc (.cells #[sv (word k)] 9)).cell? ⟨w.heap.size, 5, none⟩ = some (.int .u32 (m : Int)) := L0.out.act rfl
  unfold sv at d0 d1 d2 d3 c1 c2 c3 c4 c5
  go_wp2_with (first | (refine (itoa_any n _ h0 h1b (HL.out.below L0.out.bel)).mono ?_; rintro e v0 ⟨rfl, hb⟩; have LC := Lib.hid (L0.out.call hb); have RC := Lib.hid (R0.out.call hb); clear hb d0 d1 d2 d3 c1 c2 c3 c4 c5 L0 R0) | (at_builtin; refine wpList_append_s rfl (.tmp 27) (.tmp 31) rfl w _ w.heap.size (LC.out.alloc _).bel (LC.out.alloc _).bel.size (some ⟨w1.heap.size + 1, 0, none⟩) 1 1 ([word k]) rfl (RC.out.alloc _) _ (dec n.toNat) rfl (cell_new1 _ _ _ _ (by first | rfl | simp)) (by omega) ?_; intro a1 c1' W1 hr hb2 hk2; have L1 := Lib.hid ((LC.out.alloc _).keep hb2 hk2); have R1 := Lib.hid hr; clear hr hb2 hk2 LC RC; have d0 : W1.cell? ⟨w1.heap.size, 0, none⟩ = some (.bool true) := L1.out.its rfl; have d1 : W1.cell? ⟨w1.heap.size, 1, none⟩ = some (.bool true) := L1.out.its rfl; have d2 : W1.cell? ⟨w1.heap.size, 2, none⟩ = some (.bool false) := L1.out.its rfl; have d3 : W1.cell? ⟨w1.heap.size, 3, none⟩ = some (.bool false) := L1.out.its rfl; have c1 : W1.cell? ⟨w.heap.size, 1, none⟩ = some (.int .i64 n) := L1.out.act rfl; have c2 : W1.cell? ⟨w.heap.size, 2, none⟩ = some (.bool false) := L1.out.act rfl; have c3 : W1.cell? ⟨w.heap.size, 3, none⟩ = some (.slice ka keep.length kc) := L1.out.act rfl; have c4 : W1.cell? ⟨w.heap.size, 4, none⟩ = some (sv nl) := L1.out.act rfl; have c5 : W1.cell? ⟨w.heap.size, 5, none⟩ = some (.int .u32 (m : Int)) := L1.out.act rfl) | (at_builtin; refine wpList_append_s rfl (.tmp 46) (.tmp 47) rfl w _ w.heap.size (L1.out.alloc _).bel (L1.out.alloc _).bel.size a1 2 c1' ([word k] ++ [dec n.toNat]) rfl (R1.out.alloc _) _ (lostW) rfl (cell_new1 _ _ _ _ (by first | rfl | simp)) (by omega) ?_; intro a2 c2' W2 hr hb2 hk2; have L2 := Lib.hid ((L1.out.alloc _).keep hb2 hk2); have R2 := Lib.hid hr; clear hr hb2 hk2 L1 R1 d0 d1 d2 d3 c1 c2 c3 c4 c5; have d0 : W2.cell? ⟨w1.heap.size, 0, none⟩ = some (.bool true) := L2.out.its rfl; have d1 : W2.cell? ⟨w1.heap.size, 1, none⟩ = some (.bool true) := L2.out.its rfl; have d2 : W2.cell? ⟨w1.heap.size, 2, none⟩ = some (.bool false) := L2.out.its rfl; have d3 : W2.cell? ⟨w1.heap.size, 3, none⟩ = some (.bool false) := L2.out.its rfl; have c1 : W2.cell? ⟨w.heap.size, 1, none⟩ = some (.int .i64 n) := L2.out.act rfl; have c2 : W2.cell? ⟨w.heap.size, 2, none⟩ = some (.bool false) := L2.out.act rfl; have c3 : W2.cell? ⟨w.heap.size, 3, none⟩ = some (.slice ka keep.length kc) := L2.out.act rfl; have c4 : W2.cell? ⟨w.heap.size, 4, none⟩ = some (sv nl) := L2.out.act rfl; have c5 : W2.cell? ⟨w.heap.size, 5, none⟩ = some (.int .u32 (m : Int)) := L2.out.act rfl))
  clear d0 d1 d2 d3 c1 c2 c4 c5 c3
  go_loopw [5, 62] (fun l i wr => ∃ (j : Nat) (ao : Option Addr) (co : Nat), j ≤ keep.length ∧ i = .int .i64 (j : Int) ∧ l = .slice ao (3 + j) co ∧ Row wr w.heap.size 9 1 ao (3 + j) co (((word k :: [dec n.toNat, lostW]) ++ (keep.take j).map fun k => dec k.toNat).map sv) ∧ LineAt w wr w1.heap.size #[.int .i64 k, .int .i64 n, .bool false, .slice ka keep.length kc, sv nl, .int .u32 (m : Int)] #[.bool true, .bool true, .bool false, .bool false]) (fun _ i _ => keep.length - (intOf i).toNat)
  case atStart => exact ⟨0, _, _, Nat.zero_le _, rfl, rfl, R2.out, L2.out⟩
  case round =>
    clear L2 R2
    obtain ⟨j, ao, co, hj, rfl, rfl, hrow, hlat⟩ := hrel
    have LI := Lib.hid hlat
    have RI := Lib.hid hrow
    clear hlat hrow
    by_cases hlt : j < keep.length
    · obtain ⟨b, o, y, rfl, hbk, hy, hcy⟩ := HRD.out.at_ hlt
      have hcy' : wr.cell? ⟨b, o + j, none⟩ = some (.int .u8 (y.toNat : Int)) := (LI.out.bel.cell (by exact hbk)).trans hcy
      have HT := Lib.hid (take_dec keep j y hy (word k :: [dec n.toNat, lostW]))
      have hy0 : (0 : Int) ≤ (y.toNat : Int) := by omega
      have hy1 : (y.toNat : Int) ≤ 9223372036854775807 := by have := y.toNat_lt; omega
      clear hcy hy
      go_wp2_with (first | (refine (itoa_any (y.toNat : Int) _ hy0 hy1 (HL.out.below LI.out.bel)).mono ?_; rintro e v9 ⟨rfl, hb⟩; have LC := Lib.hid (LI.out.call hb); have RC := Lib.hid (RI.out.call hb); clear hb LI RI hcy') | (at_builtin; refine wpList_append_s rfl (.tmp 66) (.tmp 70) rfl w _ w.heap.size (LC.out.alloc _).bel (LC.out.alloc _).bel.size ao (3 + j) co ((word k :: [dec n.toNat, lostW]) ++ (keep.take j).map fun k => dec k.toNat) rfl (RC.out.alloc _) _ (dec (y.toNat : Int).toNat) rfl (cell_new1 _ _ _ _ (by first | rfl | simp)) (by omega) ?_; intro a9 c9 W9 hr hb2 hk2; have LD := Lib.hid ((LC.out.alloc _).keep hb2 hk2); have RD := Lib.hid hr; clear hr hb2 hk2 LC RC))
      go_roundw
      case rel => exact ⟨j + 1, a9, c9, by omega, by go_num, rfl, by rw [← HT.out]; exact RD.out, LD.out⟩
      case measure => simp [intOf]; omega
    · obtain rfl : j = keep.length := by omega
      have RJ := RI
      rw [List.take_length] at RJ
      clear RI hlt hj
      have hn47 : 3 + keep.length ≤ 140737488355328 := by omega
      go_wp2_with (refine (join_any ao (3 + keep.length) co _ _ w.heap.size RJ.out (by simp) (by rw [HG.out]; exact Nat.le_trans hlen (by decide)) hn47).mono ?_; rw [HG.out]; rintro e v9 ⟨rfl, hb⟩; have HB := Lib.hid (Below.next0 LI.out.bel hb); clear hb)
      go_ret
      exact ⟨congrArg (fun s => Ending.returned (Value.string s)) (line_text _), HB.out⟩
set_option maxRecDepth 100000 in
set_option maxHeartbeats 4000000 in
theorem line_crash (x : ActC) (keep : List UInt8) (w : World) (hk : x.kind = 6) (hkl : keep.length = x.kn) (h8 : keep.length ≤ 8) (hrd : Rd w w.heap.size x.ka keep) (hlen : (shown (x.abs keep)).length ≤ 1000000) (hl : Laid w) :
    Calls Tryd.prog 26 #[.agg x.cells] w fun e w' => e = .returned (sv (ScriptM.line (x.abs keep))) ∧ Below w.heap.size w w' := by
  obtain ⟨k, n, dn, ka, kn, kc, nm, m⟩ := x
  obtain ⟨nl, rfl⟩ : ∃ nl : List UInt8, nm = ⟨nl.toArray⟩ := ⟨nm.data.toList, rfl⟩
  have HL := Lib.hid hl
  have HO := Lib.hid (of_any k)
  have HW := Lib.hid (word_any k)
  have hf : hasC k = #[.bool false, .bool false, .bool true, .bool false] ∧ shown (ActC.abs ⟨k, n, dn, ka, kn, kc, ⟨nl.toArray⟩, m⟩ keep) = glue ((word k :: []) ++ keep.map fun k => dec k.toNat) := by
    have h : k = _ := hk
    subst h
    exact ⟨rfl, rfl⟩
  rw [hf.1] at HO
  have HR := Lib.hid (show ScriptM.line (ActC.abs ⟨k, n, dn, ka, kn, kc, ⟨nl.toArray⟩, m⟩ keep) = glue ((word k :: []) ++ keep.map fun k => dec k.toNat) ++ [10] by unfold ScriptM.line; rw [hf.2])
  rw [HR.out]
  rw [hf.2] at hlen
  obtain ⟨G, hG⟩ : ∃ G, glue ((word k :: []) ++ keep.map fun k => dec k.toNat) = G := ⟨_, rfl⟩
  have HG := Lib.hid hG
  rw [hG] at hlen ⊢
  have hrd : Rd w w.heap.size ka keep := hrd
  have HRD := Lib.hid hrd
  obtain rfl : keep.length = kn := hkl
  clear hk hf hl HR hrd hG
  unfold ActC.cells
  go_enter Tryd.func26, Tryd.ntmps26
  go_wp2_with fail
  have hb0 : Below w.heap.size w (w.alloc (.cells #[.int .i64 k, .int .i64 n, .bool dn, .slice ka keep.length kc, sv nl, .int .u32 (m : Int)] 30)) := (Below.refl _ _).alloc (Nat.le_refl _) _
  have hbx := heap_alloc_new w (.cells #[.int .i64 k, .int .i64 n, .bool dn, .slice ka keep.length kc, sv nl, .int .u32 (m : Int)] 30)
  have hsz : w.heap.size < (w.alloc (.cells #[.int .i64 k, .int .i64 n, .bool dn, .slice ka keep.length kc, sv nl, .int .u32 (m : Int)] 30)).heap.size := by simp
  generalize w.alloc (.cells #[.int .i64 k, .int .i64 n, .bool dn, .slice ka keep.length kc, sv nl, .int .u32 (m : Int)] 30) = W0 at *
  refine (HO.out W0).mono ?_
  rintro e w1 ⟨rfl, hb1⟩
  have hx1 := (hb1.block _ hsz).trans hbx
  have c0 : w1.cell? ⟨w.heap.size, 0, none⟩ = some (.int .i64 k) := cell_of_row _ _ 0 _ _ _ hx1
  have HS := Lib.hid (LineAt.start (hs := #[.bool false, .bool false, .bool true, .bool false]) (Below.next0 hb0 hb1) hx1 (word k))
  have hs1 : w.heap.size < w1.heap.size := Nat.lt_of_lt_of_le hsz hb1.size
  have EZ := Lib.hid (show (w1.alloc (.cells #[.bool false, .bool false, .bool true, .bool false] 47)).heap.size = w1.heap.size + 1 by simp)
  clear hb0 hbx hsz hb1 hx1
  go_wp2_with fail
  refine (HW.out _).mono ?_
  rintro e w' ⟨rfl, rfl⟩
  clear c0
  have L0 := Lib.hid HS.out.1
  have R0 := Lib.hid HS.out.2
  rw [EZ.out] at R0
  clear HS
  have d0 : ((w1.alloc (.cells #[.bool false, .bool false, .bool true, .bool false] 47)).alloc (.cells #[sv (word k)] 9)).cell? ⟨w1.heap.size, 0, none⟩ = some (.bool false) := L0.out.its rfl
  have d1 : ((w1.alloc (.cells #[.bool false, .bool false, .bool true, .bool false] 47)).alloc (.cells #[sv (word k)] 9)).cell? ⟨w1.heap.size, 1, none⟩ = some (.bool false) := L0.out.its rfl
  have d2 : ((w1.alloc (.cells #[.bool false, .bool false, .bool true, .bool false] 47)).alloc (.cells #[sv (word k)] 9)).cell? ⟨w1.heap.size, 2, none⟩ = some (.bool true) := L0.out.its rfl
  have d3 : ((w1.alloc (.cells #[.bool false, .bool false, .bool true, .bool false] 47)).alloc (.cells #[sv (word k)] 9)).cell? ⟨w1.heap.size, 3, none⟩ = some (.bool false) := L0.out.its rfl
  have c1 : ((w1.alloc (.cells #[.bool false, .bool false, .bool true, .bool false] 47)).alloc (.cells #[sv (word k)] 9)).cell? ⟨w.heap.size, 1, none⟩ = some (.int .i64 n) := L0.out.act rfl
  have c2 : ((w1.alloc (.cells #[.bool false, .bool false, .bool true, .bool false] 47)).alloc (.cells #[sv (word k)] 9)).cell? ⟨w.heap.size, 2, none⟩ = some (.bool dn) := L0.out.act rfl
  have c3 : ((w1.alloc (.cells #[.bool false, .bool false, .bool true, .bool false] 47)).alloc (.cells #[sv (word k)] 9)).cell? ⟨w.heap.size, 3, none⟩ = some (.slice ka keep.length kc) := L0.out.act rfl
  have c4 : ((w1.alloc (.cells #[.bool false, .bool false, .bool true, .bool false] 47)).alloc (.cells #[sv (word k)] 9)).cell? ⟨w.heap.size, 4, none⟩ = some (sv nl) := L0.out.act rfl
  have c5 : ((w1.alloc (.cells #[.bool false, .bool false, .bool true, .bool false] 47)).alloc (.cells #[sv (word k)] 9)).cell? ⟨w.heap.size, 5, none⟩ = some (.int .u32 (m : Int)) := L0.out.act rfl
  unfold sv at d0 d1 d2 d3 c1 c2 c3 c4 c5
  go_wp2_with (fail)
  clear d0 d1 d2 d3 c1 c2 c4 c5 c3
  go_loopw [5, 62] (fun l i wr => ∃ (j : Nat) (ao : Option Addr) (co : Nat), j ≤ keep.length ∧ i = .int .i64 (j : Int) ∧ l = .slice ao (1 + j) co ∧ Row wr w.heap.size 9 1 ao (1 + j) co (((word k :: []) ++ (keep.take j).map fun k => dec k.toNat).map sv) ∧ LineAt w wr w1.heap.size #[.int .i64 k, .int .i64 n, .bool dn, .slice ka keep.length kc, sv nl, .int .u32 (m : Int)] #[.bool false, .bool false, .bool true, .bool false]) (fun _ i _ => keep.length - (intOf i).toNat)
  case atStart => exact ⟨0, _, _, Nat.zero_le _, rfl, rfl, R0.out, L0.out⟩
  case round =>
    clear L0 R0
    obtain ⟨j, ao, co, hj, rfl, rfl, hrow, hlat⟩ := hrel
    have LI := Lib.hid hlat
    have RI := Lib.hid hrow
    clear hlat hrow
    by_cases hlt : j < keep.length
    · obtain ⟨b, o, y, rfl, hbk, hy, hcy⟩ := HRD.out.at_ hlt
      have hcy' : wr.cell? ⟨b, o + j, none⟩ = some (.int .u8 (y.toNat : Int)) := (LI.out.bel.cell (by exact hbk)).trans hcy
      have HT := Lib.hid (take_dec keep j y hy (word k :: []))
      have hy0 : (0 : Int) ≤ (y.toNat : Int) := by omega
      have hy1 : (y.toNat : Int) ≤ 9223372036854775807 := by have := y.toNat_lt; omega
      clear hcy hy
      go_wp2_with (first | (refine (itoa_any (y.toNat : Int) _ hy0 hy1 (HL.out.below LI.out.bel)).mono ?_; rintro e v9 ⟨rfl, hb⟩; have LC := Lib.hid (LI.out.call hb); have RC := Lib.hid (RI.out.call hb); clear hb LI RI hcy') | (at_builtin; refine wpList_append_s rfl (.tmp 66) (.tmp 70) rfl w _ w.heap.size (LC.out.alloc _).bel (LC.out.alloc _).bel.size ao (1 + j) co ((word k :: []) ++ (keep.take j).map fun k => dec k.toNat) rfl (RC.out.alloc _) _ (dec (y.toNat : Int).toNat) rfl (cell_new1 _ _ _ _ (by first | rfl | simp)) (by omega) ?_; intro a9 c9 W9 hr hb2 hk2; have LD := Lib.hid ((LC.out.alloc _).keep hb2 hk2); have RD := Lib.hid hr; clear hr hb2 hk2 LC RC))
      go_roundw
      case rel => exact ⟨j + 1, a9, c9, by omega, by go_num, rfl, by rw [← HT.out]; exact RD.out, LD.out⟩
      case measure => simp [intOf]; omega
    · obtain rfl : j = keep.length := by omega
      have RJ := RI
      rw [List.take_length] at RJ
      clear RI hlt hj
      have hn47 : 1 + keep.length ≤ 140737488355328 := by omega
      go_wp2_with (refine (join_any ao (1 + keep.length) co _ _ w.heap.size RJ.out (by simp) (by rw [HG.out]; exact Nat.le_trans hlen (by decide)) hn47).mono ?_; rw [HG.out]; rintro e v9 ⟨rfl, hb⟩; have HB := Lib.hid (Below.next0 LI.out.bel hb); clear hb)
      go_ret
      exact ⟨congrArg (fun s => Ending.returned (Value.string s)) (line_text _), HB.out⟩
set_option maxRecDepth 100000 in
set_option maxHeartbeats 4000000 in
theorem line_flip (x : ActC) (keep : List UInt8) (w : World) (hk : x.kind = 8) (h0 : 0 ≤ x.n) (h1 : x.n ≤ 999999) (hm : x.mask < 4294967296) (hkl : keep.length = x.kn) (h8 : keep.length ≤ 8) (hrd : Rd w w.heap.size x.ka keep) (hlen : (shown (x.abs keep)).length ≤ 1000000) (hl : Laid w) :
    Calls Tryd.prog 26 #[.agg x.cells] w fun e w' => e = .returned (sv (ScriptM.line (x.abs keep))) ∧ Below w.heap.size w w' := by
  obtain ⟨k, n, dn, ka, kn, kc, nm, m⟩ := x
  obtain ⟨nl, rfl⟩ : ∃ nl : List UInt8, nm = ⟨nl.toArray⟩ := ⟨nm.data.toList, rfl⟩
  have HL := Lib.hid hl
  have HO := Lib.hid (of_any k)
  have HW := Lib.hid (word_any k)
  have h0 : 0 ≤ n := h0
  have h1 : n ≤ 999999 := h1
  have h1b : n ≤ 9223372036854775807 := by omega
  have hm : m < 4294967296 := hm
  have hf : hasC k = #[.bool true, .bool false, .bool false, .bool true] ∧ shown (ActC.abs ⟨k, n, dn, ka, kn, kc, ⟨nl.toArray⟩, m⟩ keep) = glue ((word k :: [nl, dec n.toNat, hexD m]) ++ keep.map fun k => dec k.toNat) := by
    have h : k = _ := hk
    subst h
    exact ⟨rfl, rfl⟩
  rw [hf.1] at HO
  have HR := Lib.hid (show ScriptM.line (ActC.abs ⟨k, n, dn, ka, kn, kc, ⟨nl.toArray⟩, m⟩ keep) = glue ((word k :: [nl, dec n.toNat, hexD m]) ++ keep.map fun k => dec k.toNat) ++ [10] by unfold ScriptM.line; rw [hf.2])
  rw [HR.out]
  rw [hf.2] at hlen
  obtain ⟨G, hG⟩ : ∃ G, glue ((word k :: [nl, dec n.toNat, hexD m]) ++ keep.map fun k => dec k.toNat) = G := ⟨_, rfl⟩
  have HG := Lib.hid hG
  rw [hG] at hlen ⊢
  have hrd : Rd w w.heap.size ka keep := hrd
  have HRD := Lib.hid hrd
  obtain rfl : keep.length = kn := hkl
  clear hk hf hl HR hrd hG
  unfold ActC.cells
  go_enter Tryd.func26, Tryd.ntmps26
  go_wp2_with fail
  have hb0 : Below w.heap.size w (w.alloc (.cells #[.int .i64 k, .int .i64 n, .bool dn, .slice ka keep.length kc, sv nl, .int .u32 (m : Int)] 30)) := (Below.refl _ _).alloc (Nat.le_refl _) _
  have hbx := heap_alloc_new w (.cells #[.int .i64 k, .int .i64 n, .bool dn, .slice ka keep.length kc, sv nl, .int .u32 (m : Int)] 30)
  have hsz : w.heap.size < (w.alloc (.cells #[.int .i64 k, .int .i64 n, .bool dn, .slice ka keep.length kc, sv nl, .int .u32 (m : Int)] 30)).heap.size := by simp
  generalize w.alloc (.cells #[.int .i64 k, .int .i64 n, .bool dn, .slice ka keep.length kc, sv nl, .int .u32 (m : Int)] 30) = W0 at *
  refine (HO.out W0).mono ?_
  rintro e w1 ⟨rfl, hb1⟩
  have hx1 := (hb1.block _ hsz).trans hbx
  have c0 : w1.cell? ⟨w.heap.size, 0, none⟩ = some (.int .i64 k) := cell_of_row _ _ 0 _ _ _ hx1
  have HS := Lib.hid (LineAt.start (hs := #[.bool true, .bool false, .bool false, .bool true]) (Below.next0 hb0 hb1) hx1 (word k))
  have hs1 : w.heap.size < w1.heap.size := Nat.lt_of_lt_of_le hsz hb1.size
  have EZ := Lib.hid (show (w1.alloc (.cells #[.bool true, .bool false, .bool false, .bool true] 47)).heap.size = w1.heap.size + 1 by simp)
  clear hb0 hbx hsz hb1 hx1
  go_wp2_with fail
  refine (HW.out _).mono ?_
  rintro e w' ⟨rfl, rfl⟩
  clear c0
  have L0 := Lib.hid HS.out.1
  have R0 := Lib.hid HS.out.2
  rw [EZ.out] at R0
  clear HS
  have d0 : ((w1.alloc (.cells #[.bool true, .bool false, .bool false, .bool true] 47)).alloc (.cells #[sv (word k)] 9)).cell? ⟨w1.heap.size, 0, none⟩ = some (.bool true) := L0.out.its rfl
  have d1 : ((w1.alloc (.cells #[.bool true, .bool false, .bool false, .bool true] 47)).alloc (.cells #[sv (word k)] 9)).cell? ⟨w1.heap.size, 1, none⟩ = some (.bool false) := L0.out.its rfl
  have d2 : ((w1.alloc (.cells #[.bool true, .bool false, .bool false, .bool true] 47)).alloc (.cells #[sv (word k)] 9)).cell? ⟨w1.heap.size, 2, none⟩ = some (.bool false) := L0.out.its rfl
  have d3 : ((w1.alloc (.cells #[.bool true, .bool false, .bool false, .bool true] 47)).alloc (.cells #[sv (word k)] 9)).cell? ⟨w1.heap.size, 3, none⟩ = some (.bool true) := L0.out.its rfl
  have c1 : ((w1.alloc (.cells #[.bool true, .bool false, .bool false, .bool true] 47)).alloc (.cells #[sv (word k)] 9)).cell? ⟨w.heap.size, 1, none⟩ = some (.int .i64 n) := L0.out.act rfl
  have c2 : ((w1.alloc (.cells #[.bool true, .bool false, .bool false, .bool true] 47)).alloc (.cells #[sv (word k)] 9)).cell? ⟨w.heap.size, 2, none⟩ = some (.bool dn) := L0.out.act rfl
  have c3 : ((w1.alloc (.cells #[.bool true, .bool false, .bool false, .bool true] 47)).alloc (.cells #[sv (word k)] 9)).cell? ⟨w.heap.size, 3, none⟩ = some (.slice ka keep.length kc) := L0.out.act rfl
  have c4 : ((w1.alloc (.cells #[.bool true, .bool false, .bool false, .bool true] 47)).alloc (.cells #[sv (word k)] 9)).cell? ⟨w.heap.size, 4, none⟩ = some (sv nl) := L0.out.act rfl
  have c5 : ((w1.alloc (.cells #[.bool true, .bool false, .bool false, .bool true] 47)).alloc (.cells #[sv (word k)] 9)).cell? ⟨w.heap.size, 5, none⟩ = some (.int .u32 (m : Int)) := L0.out.act rfl
  unfold sv at d0 d1 d2 d3 c1 c2 c3 c4 c5
  go_wp2_with (first | (at_builtin; refine wpList_append_s rfl (.tmp 20) (.tmp 23) rfl w _ w.heap.size (L0.out.alloc _).bel (L0.out.alloc _).bel.size (some ⟨w1.heap.size + 1, 0, none⟩) 1 1 ([word k]) rfl (R0.out.alloc _) _ (nl) rfl (cell_new1 _ _ _ _ (by first | rfl | simp)) (by omega) ?_; intro a1 c1' W1 hr hb2 hk2; have L1 := Lib.hid ((L0.out.alloc _).keep hb2 hk2); have R1 := Lib.hid hr; clear hr hb2 hk2 L0 R0 d0 d1 d2 d3 c1 c2 c3 c4 c5; have d0 : W1.cell? ⟨w1.heap.size, 0, none⟩ = some (.bool true) := L1.out.its rfl; have d1 : W1.cell? ⟨w1.heap.size, 1, none⟩ = some (.bool false) := L1.out.its rfl; have d2 : W1.cell? ⟨w1.heap.size, 2, none⟩ = some (.bool false) := L1.out.its rfl; have d3 : W1.cell? ⟨w1.heap.size, 3, none⟩ = some (.bool true) := L1.out.its rfl; have c1 : W1.cell? ⟨w.heap.size, 1, none⟩ = some (.int .i64 n) := L1.out.act rfl; have c2 : W1.cell? ⟨w.heap.size, 2, none⟩ = some (.bool dn) := L1.out.act rfl; have c3 : W1.cell? ⟨w.heap.size, 3, none⟩ = some (.slice ka keep.length kc) := L1.out.act rfl; have c4 : W1.cell? ⟨w.heap.size, 4, none⟩ = some (sv nl) := L1.out.act rfl; have c5 : W1.cell? ⟨w.heap.size, 5, none⟩ = some (.int .u32 (m : Int)) := L1.out.act rfl) | (refine (itoa_any n _ h0 h1b (HL.out.below L1.out.bel)).mono ?_; rintro e v1 ⟨rfl, hb⟩; have LC := Lib.hid (L1.out.call hb); have RC := Lib.hid (R1.out.call hb); clear hb d0 d1 d2 d3 c1 c2 c3 c4 c5 L1 R1) | (at_builtin; refine wpList_append_s rfl (.tmp 27) (.tmp 31) rfl w _ w.heap.size (LC.out.alloc _).bel (LC.out.alloc _).bel.size a1 2 c1' ([word k] ++ [nl]) rfl (RC.out.alloc _) _ (dec n.toNat) rfl (cell_new1 _ _ _ _ (by first | rfl | simp)) (by omega) ?_; intro a2 c2' W2 hr hb2 hk2; have L2 := Lib.hid ((LC.out.alloc _).keep hb2 hk2); have R2 := Lib.hid hr; clear hr hb2 hk2 LC RC; have d0 : W2.cell? ⟨w1.heap.size, 0, none⟩ = some (.bool true) := L2.out.its rfl; have d1 : W2.cell? ⟨w1.heap.size, 1, none⟩ = some (.bool false) := L2.out.its rfl; have d2 : W2.cell? ⟨w1.heap.size, 2, none⟩ = some (.bool false) := L2.out.its rfl; have d3 : W2.cell? ⟨w1.heap.size, 3, none⟩ = some (.bool true) := L2.out.its rfl; have c1 : W2.cell? ⟨w.heap.size, 1, none⟩ = some (.int .i64 n) := L2.out.act rfl; have c2 : W2.cell? ⟨w.heap.size, 2, none⟩ = some (.bool dn) := L2.out.act rfl; have c3 : W2.cell? ⟨w.heap.size, 3, none⟩ = some (.slice ka keep.length kc) := L2.out.act rfl; have c4 : W2.cell? ⟨w.heap.size, 4, none⟩ = some (sv nl) := L2.out.act rfl; have c5 : W2.cell? ⟨w.heap.size, 5, none⟩ = some (.int .u32 (m : Int)) := L2.out.act rfl) | (refine (hex_any m _ hm (HL.out.below L2.out.bel)).mono ?_; rintro e v2 ⟨rfl, hb⟩; have LC := Lib.hid (L2.out.call hb); have RC := Lib.hid (R2.out.call hb); clear hb d0 d1 d2 d3 c1 c2 c3 c4 c5 L2 R2) | (at_builtin; refine wpList_append_s rfl (.tmp 52) (.tmp 57) rfl w _ w.heap.size (LC.out.alloc _).bel (LC.out.alloc _).bel.size a2 3 c2' ([word k] ++ [nl] ++ [dec n.toNat]) rfl (RC.out.alloc _) _ (hexD m) rfl (cell_new1 _ _ _ _ (by first | rfl | simp)) (by omega) ?_; intro a3 c3' W3 hr hb2 hk2; have L3 := Lib.hid ((LC.out.alloc _).keep hb2 hk2); have R3 := Lib.hid hr; clear hr hb2 hk2 LC RC; have d0 : W3.cell? ⟨w1.heap.size, 0, none⟩ = some (.bool true) := L3.out.its rfl; have d1 : W3.cell? ⟨w1.heap.size, 1, none⟩ = some (.bool false) := L3.out.its rfl; have d2 : W3.cell? ⟨w1.heap.size, 2, none⟩ = some (.bool false) := L3.out.its rfl; have d3 : W3.cell? ⟨w1.heap.size, 3, none⟩ = some (.bool true) := L3.out.its rfl; have c1 : W3.cell? ⟨w.heap.size, 1, none⟩ = some (.int .i64 n) := L3.out.act rfl; have c2 : W3.cell? ⟨w.heap.size, 2, none⟩ = some (.bool dn) := L3.out.act rfl; have c3 : W3.cell? ⟨w.heap.size, 3, none⟩ = some (.slice ka keep.length kc) := L3.out.act rfl; have c4 : W3.cell? ⟨w.heap.size, 4, none⟩ = some (sv nl) := L3.out.act rfl; have c5 : W3.cell? ⟨w.heap.size, 5, none⟩ = some (.int .u32 (m : Int)) := L3.out.act rfl))
  clear d0 d1 d2 d3 c1 c2 c4 c5 c3
  go_loopw [5, 62] (fun l i wr => ∃ (j : Nat) (ao : Option Addr) (co : Nat), j ≤ keep.length ∧ i = .int .i64 (j : Int) ∧ l = .slice ao (4 + j) co ∧ Row wr w.heap.size 9 1 ao (4 + j) co (((word k :: [nl, dec n.toNat, hexD m]) ++ (keep.take j).map fun k => dec k.toNat).map sv) ∧ LineAt w wr w1.heap.size #[.int .i64 k, .int .i64 n, .bool dn, .slice ka keep.length kc, sv nl, .int .u32 (m : Int)] #[.bool true, .bool false, .bool false, .bool true]) (fun _ i _ => keep.length - (intOf i).toNat)
  case atStart => exact ⟨0, _, _, Nat.zero_le _, rfl, rfl, R3.out, L3.out⟩
  case round =>
    clear L3 R3
    obtain ⟨j, ao, co, hj, rfl, rfl, hrow, hlat⟩ := hrel
    have LI := Lib.hid hlat
    have RI := Lib.hid hrow
    clear hlat hrow
    by_cases hlt : j < keep.length
    · obtain ⟨b, o, y, rfl, hbk, hy, hcy⟩ := HRD.out.at_ hlt
      have hcy' : wr.cell? ⟨b, o + j, none⟩ = some (.int .u8 (y.toNat : Int)) := (LI.out.bel.cell (by exact hbk)).trans hcy
      have HT := Lib.hid (take_dec keep j y hy (word k :: [nl, dec n.toNat, hexD m]))
      have hy0 : (0 : Int) ≤ (y.toNat : Int) := by omega
      have hy1 : (y.toNat : Int) ≤ 9223372036854775807 := by have := y.toNat_lt; omega
      clear hcy hy
      go_wp2_with (first | (refine (itoa_any (y.toNat : Int) _ hy0 hy1 (HL.out.below LI.out.bel)).mono ?_; rintro e v9 ⟨rfl, hb⟩; have LC := Lib.hid (LI.out.call hb); have RC := Lib.hid (RI.out.call hb); clear hb LI RI hcy') | (at_builtin; refine wpList_append_s rfl (.tmp 66) (.tmp 70) rfl w _ w.heap.size (LC.out.alloc _).bel (LC.out.alloc _).bel.size ao (4 + j) co ((word k :: [nl, dec n.toNat, hexD m]) ++ (keep.take j).map fun k => dec k.toNat) rfl (RC.out.alloc _) _ (dec (y.toNat : Int).toNat) rfl (cell_new1 _ _ _ _ (by first | rfl | simp)) (by omega) ?_; intro a9 c9 W9 hr hb2 hk2; have LD := Lib.hid ((LC.out.alloc _).keep hb2 hk2); have RD := Lib.hid hr; clear hr hb2 hk2 LC RC))
      go_roundw
      case rel => exact ⟨j + 1, a9, c9, by omega, by go_num, rfl, by rw [← HT.out]; exact RD.out, LD.out⟩
      case measure => simp [intOf]; omega
    · obtain rfl : j = keep.length := by omega
      have RJ := RI
      rw [List.take_length] at RJ
      clear RI hlt hj
      have hn47 : 4 + keep.length ≤ 140737488355328 := by omega
      go_wp2_with (refine (join_any ao (4 + keep.length) co _ _ w.heap.size RJ.out (by simp) (by rw [HG.out]; exact Nat.le_trans hlen (by decide)) hn47).mono ?_; rw [HG.out]; rintro e v9 ⟨rfl, hb⟩; have HB := Lib.hid (Below.next0 LI.out.bel hb); clear hb)
      go_ret
      exact ⟨congrArg (fun s => Ending.returned (Value.string s)) (line_text _), HB.out⟩
end Go.Proofs.YtifdmgloheampaaDoor
