/- The walk of the library's FormatUint at base 16. Condition: a number below 2^32; the world is laid. -/
/- The walk of the script's line. Condition: the act is right; the world is laid. -/
/- The walks of the library's Builder that writes a text, and the line of any right act. Condition: Go's own limit. -/
import Derived.Test.YtifdmgloheampaaDoorScriptE
import Derived.Lib.Builder
import Derived.Lib.AppendStr
import Derived.Lib.UnsafeStr
import Derived.Laws.Externs
namespace Go.Proofs.YtifdmgloheampaaDoor
open Go.RowKit DiskM ScriptM

set_option maxRecDepth 100000 in
theorem tz64 (w : World) (hl : Laid w) : Calls Tryd.prog 94 #[.int .u64 16] w fun e w' => e = .returned (.int .i64 4) ∧ w = w' := by
  have hb := hl.bru
  clear hl
  have e1 : IntKind.u64.wrap (bits BinOp.and IntKind.u64 16 (IntKind.u64.wrap (-16)) * 285870213051353865) / 288230376151711744 = 15 := by decide +kernel
  go_enter Tryd.func94, Tryd.ntmps94
  go_wp2_with fail
  go_ret
  exact ⟨rfl, rfl⟩
set_option maxRecDepth 100000 in
theorem tz16 (w : World) (hl : Laid w) : Calls Tryd.prog 80 #[.int .u64 16] w fun e w' => e = .returned (.int .i64 4) ∧ w = w' := by
  have HL := Lib.hid hl
  clear hl
  go_enter Tryd.func80, Tryd.ntmps80
  go_wp2_with (refine (tz64 _ HL.out).mono ?_; rintro e w' ⟨rfl, rfl⟩)
  go_ret
  exact ⟨rfl, rfl⟩
set_option maxRecDepth 100000 in
theorem pow16 (w : World) : Calls Tryd.prog 79 #[.int .i64 16] w fun e w' => e = .returned (.bool true) ∧ w = w' := by
  go_enter Tryd.func79, Tryd.ntmps79
  go_wp2_with fail
  go_ret
  exact ⟨rfl, rfl⟩
def digS : ByteArray := ⟨#[48, 49, 50, 51, 52, 53, 54, 55, 56, 57, 97, 98, 99, 100, 101, 102, 103, 104, 105, 106, 107, 108, 109, 110, 111, 112, 113, 114, 115, 116, 117, 118, 119, 120, 121, 122]⟩
theorem digS_at : ∀ d (h : d < 16), (digS[d]'(Nat.lt_of_lt_of_le h (by decide))) = hexc d := by decide
theorem and15 (v : Nat) (h : v < 4294967296) : bits BinOp.and IntKind.u64 (v : Int) 15 = ((v % 16 : Nat) : Int) := by
  have := bits_mask .u64 64 (by decide) (fun n h0 h1 => by rw [IntKind.wrap_u64]; omega) 4 (by decide) (v : Int) (by omega) (by omega)
  exact this
/-- one digit more ahead -/
theorem dig_store {w0 w : World} {H j : Nat} {T : TypeId} {cs : Array Value} {t : List UInt8} (hh : w.heap[H]? = some (.cells cs T (0, 0))) (hs : cs.size = 65) (hc : cs.toList.drop (j + 1) = t.map bv) (hj : j < 65) (x : UInt8) (hb : Below H w0 w) :
    ∃ cs', (w.setCell ⟨H, j, none⟩ (.int .u8 (x.toNat : Int))).heap[H]? = some (.cells cs' T (0, 0)) ∧ cs'.size = 65 ∧ cs'.toList.drop j = (x :: t).map bv ∧ Below H w0 (w.setCell ⟨H, j, none⟩ (.int .u8 (x.toNat : Int))) := by
  refine ⟨cs.setIfInBounds j (bv x), heap_setCell_same _ _ _ _ _ _ hh, by simpa using hs, ?_, hb.setCell (Nat.le_refl _) _⟩
  rw [Array.toList_setIfInBounds, List.drop_eq_getElem_cons (by simp; omega), List.getElem_set_self, List.map_cons, ← hc]
  rw [List.drop_set_of_lt (by omega)]

theorem rd_drop {w : World} {H j : Nat} {T : TypeId} {cs : Array Value} {l : List UInt8} (hh : w.heap[H]? = some (.cells cs T (0, 0))) (hc : cs.toList.drop j = l.map bv) : Rd w (H + 1) (some ⟨H, j, none⟩) l := by
  refine .inr ⟨H, j, rfl, by omega, fun i x hx => ?_⟩
  rw [cell_of_row _ _ _ _ _ _ hh, ← Array.getElem?_toList, ← List.getElem?_drop, hc, List.getElem?_map, hx]
  rfl
theorem slice65 (w : World) (H j : Nat) (hj : j < 65) : (Instr.sliceAt 109 (.pointer (some ⟨H, 0, none⟩)) (some (.int .i64 (j : Int))) none none).run Tryd.prog w = .ok (.slice (some ⟨H, j, none⟩) (65 - j) (65 - j)) w := by
  have ht : Tryd.prog.underlying 109 = some (.array (Tryd.prog.arrayLen 109) (Tryd.prog.elem 109)) := by kernel_rfl
  have hn : Tryd.prog.arrayLen 109 = 65 := by kernel_rfl
  have hs : (sizeOf (Tryd.prog.elem 109)).run Tryd.prog w = .ok 1 w := by kernel_rfl
  rw [run_sliceAt_array_l w 109 ⟨H, 0, none⟩ ht .i64 (j : Int) (by omega) (by rw [hn]; omega), hs, hn]
  show Result.ok (slicedAt _ _ _ _ _) w = _
  unfold slicedAt
  rw [if_neg (by omega), Int.toNat_natCast, Nat.mul_one]
  simp [Addr.add]
  exact fun h => h.symm

set_option maxRecDepth 100000 in
theorem fb16 (u : Nat) (w : World) (hu : u < 4294967296) (hl : Laid w) : Calls Tryd.prog 65 #[.slice none 0 0, .int .u64 (u : Int), .int .i64 16, .bool false, .bool false] w fun e w' => e = .returned (.tuple #[.slice none 0 0, sv (hexD u)]) ∧ Below w.heap.size w w' := by
  have HL := Lib.hid hl
  clear hl
  go_enter Tryd.func65, Tryd.ntmps65
  go_wp2_with (first | (refine (pow16 _).mono ?_; rintro e w' ⟨rfl, rfl⟩) | (refine (tz16 _ (HL.out.below ((Below.refl _ _).alloc (Nat.le_refl _) _))).mono ?_; rintro e w' ⟨rfl, rfl⟩))
  have hz : Tryd.zeroCells109.size = 65 := by kernel_rfl
  go_loopw [1, 13] (fun x i wr => ∃ (v j : Nat) (t : List UInt8) (cs : Array Value), x = .int .u64 (v : Int) ∧ i = .int .i64 (j : Int) ∧ v < 4294967296 ∧ j + t.length = 65 ∧ t.length ≤ 8 ∧ v * 16 ^ t.length < 4294967296 ∧ hexD u = hexD v ++ t ∧ wr.heap[w.heap.size]? = some (.cells cs 109 (0, 0)) ∧ cs.size = 65 ∧ cs.toList.drop j = t.map bv ∧ Below w.heap.size w wr) (fun x _ _ => (intOf x).toNat)
  case atStart =>
    exact ⟨u, 65, [], _, rfl, rfl, hu, rfl, by simp, by simpa using hu, by simp, heap_alloc_new _ _, hz, by rw [List.drop_eq_nil_of_le (by simp [hz])]; rfl, (Below.refl _ _).alloc (Nat.le_refl _) _⟩
  case round =>
    obtain ⟨v, j, t, cs, rfl, rfl, hv, hj, ht, hp, hd, hh, hs, hc, hb⟩ := hrel
    obtain ⟨j, rfl⟩ : ∃ i, j = i + 1 := ⟨j - 1, by omega⟩
    have hj64 : j < 65 := by omega
    obtain ⟨x0, hx0⟩ : ∃ x0, cs[j]? = some x0 := ⟨cs[j]'(by omega), Array.getElem?_eq_getElem (by omega)⟩
    have hcell : wr.cell? ⟨w.heap.size, j, none⟩ = some x0 := by rw [cell_of_row _ _ j _ _ _ hh]; exact hx0
    have hfr : wr.frozen? ⟨w.heap.size, j, none⟩ = false := frozen_of_row _ _ _ _ _ hh
    by_cases h16 : 16 ≤ v
    · have hlen : t.length ≤ 6 := by
        rcases Nat.lt_or_ge t.length 7 with h | h
        · omega
        · have h1 : 16 ^ 7 ≤ 16 ^ t.length := Nat.pow_le_pow_right (by omega) h
          have h2 : 16 * 16 ^ 7 ≤ v * 16 ^ t.length := Nat.mul_le_mul h16 h1
          have h3 : (16 : Nat) * 16 ^ 7 = 4294967296 := by decide
          omega
      have hd2 : hexD v = hexD (v / 16) ++ [hexc (v % 16)] := by rw [hexD, dif_neg (by omega)]
      have hp2 : v / 16 * 16 ^ (t.length + 1) < 4294967296 := by
        rw [Nat.pow_succ, Nat.mul_comm (16 ^ t.length), ← Nat.mul_assoc]
        exact Nat.lt_of_le_of_lt (Nat.mul_le_mul_right _ (Nat.div_mul_le_self v 16)) hp
      obtain ⟨cs', k1, k2, k3, k4⟩ := dig_store hh hs hc hj64 (hexc (v % 16)) hb
      have H := Lib.hid (And.intro hd (And.intro hd2 (And.intro hp2 (And.intro k1 (And.intro k2 (And.intro k3 k4))))))
      have hm : v % 16 < 16 := by omega
      have hand := and15 v hv
      obtain ⟨d, hde⟩ : ∃ d, v % 16 = d := ⟨_, rfl⟩
      rw [hde] at hm hand H
      have hm' : (d : Int) < 36 := by omega
      clear hd hd2 hp hp2 k1 k2 k3 k4 hh hs hc hb hx0 hde
      go_wp2_with fail
      go_roundw
      case rel =>
        obtain ⟨g1, g2, g3, g4, g5, g6, g7⟩ := H.out
        have g4' := g4
        rw [← digS_at d hm] at g4' g7
        exact ⟨v / 16, j, hexc d :: t, cs', rfl, rfl, by omega, by simp only [List.length_cons]; omega, by simp only [List.length_cons]; omega, g3, by rw [g1, g2]; simp, g4', g5, g6, g7⟩
      case measure => simp [intOf]; omega
    · obtain ⟨cs', k1, k2, k3, k4⟩ := dig_store hh hs hc hj64 (hexc v) hb
      have hd2 : hexD v = [hexc v] := by rw [hexD, dif_pos (by omega)]
      have H := Lib.hid (And.intro hd (And.intro hd2 (And.intro k1 (And.intro k2 (And.intro k3 k4)))))
      have hm : v < 16 := by omega
      have hm' : (v : Int) < 36 := by omega
      clear hd hd2 hp k1 k2 k3 k4 hh hs hc hb hx0
      have hsl := fun wx => slice65 wx w.heap.size j hj64
      go_wp2_with fail
      rw [run_string_b _ (w.heap.size + 1) _ _ _ (hexc v :: t) ?_ ?_]
      · go_wp2_with fail
        obtain ⟨g1, g2, g3, g4, g5, g6⟩ := H.out
        rw [← digS_at v hm] at g6
        refine bodyPost_ret (v := .tuple #[.slice none 0 0, sv (hexc v :: t)]) (by simp [results, go_sem]) rfl ⟨?_, g6⟩
        rw [g1, g2]; rfl
      · obtain ⟨g1, g2, g3, g4, g5, g6⟩ := H.out
        rw [← digS_at v hm] at g3
        exact rd_drop g3 g5
      · simp only [List.length_cons]; omega
set_option maxRecDepth 100000 in
theorem fu16' (u : Nat) (w : World) (hu : u < 4294967296) (hl : Laid w) : Calls Tryd.prog 49 #[.int .u64 (u : Int), .int .i64 16] w fun e w' => e = .returned (sv (hexD u)) ∧ Below w.heap.size w w' := by
  have HL := Lib.hid hl
  clear hl
  go_enter Tryd.func49, Tryd.ntmps49
  go_wp2_with (refine (fb16 _ _ hu HL.out).mono ?_; rintro e w' ⟨rfl, hb⟩)
  go_ret
  exact ⟨rfl, hb⟩
set_option maxRecDepth 100000 in
/-- FormatUint at base 16 -/
theorem hex_any (u : Nat) (w : World) (hu : u < 4294967296) (hl : Laid w) : Calls Tryd.prog 37 #[.int .u64 (u : Int), .int .i64 16] w fun e w' => e = .returned (sv (hexD u)) ∧ Below w.heap.size w w' := by
  have HL := Lib.hid hl
  clear hl
  go_enter Tryd.func37, Tryd.ntmps37
  go_wp2_with (refine (fu16' _ _ hu HL.out).mono ?_; rintro e w' ⟨rfl, hb⟩)
  go_ret
  exact ⟨rfl, hb⟩
end Go.Proofs.YtifdmgloheampaaDoor
namespace Go.Proofs.YtifdmgloheampaaDoor
open Go.RowKit DiskM ScriptM

theorem info_str : (Tryd.prog.info? 9).map (fun i => (i.zero, i.size, i.bytes)) = some (some (.string .empty), 1, 16) := by kernel_rfl
/-- a block that is no row of texts -/
def Other (w w' : World) : Prop := ∀ (k : Nat) (cs : Array Value) (T : TypeId), T ≠ 9 → w.heap[k]? = some (Obj.cells cs T (0, 0)) → w'.heap[k]? = some (Obj.cells cs T (0, 0))
set_option maxRecDepth 100000 in
/-- append of one text onto a row of texts of the call's own -/
theorem wpList_append_s {o : Oper} {act : Act} {Q : Exit → Act → World → Prop} {ops : Array Oper} {rest : List Oper} (hgd : o.guard = none) (s x : Operand) (ho : o.op = .call { callee := .builtin .append, args := #[s, x], argTypes := #[64, 64] })
    (w0 w : World) (B : Nat) (hb0 : Below B w0 w) (hB : B ≤ w.heap.size) (a : Option Addr) (n c : Nat) (xs : List (List UInt8)) (hs : act.eval s = .slice a n c) (hown : Row w B 9 1 a n c (xs.map sv))
    (ad : Addr) (l : List UInt8) (hx : act.eval x = .slice (some ad) 1 1) (hc : w.cell? ad = some (sv l)) (hn : n < 1000000)
    (h : ∀ a' c' w', Row w' B 9 1 a' (n + 1) c' ((xs ++ [l]).map sv) → Below B w0 w' → Other w w' → wpList Tryd.prog ops Q rest (act.put o.dst (.slice a' (n + 1) c')) w') : wpList Tryd.prog ops Q (o :: rest) act w := by
  obtain ⟨i0, hi, hz0, hz1, hz2⟩ := info_parts info_str
  refine wpList_append_row hgd s x 64 ho w0 w 9 i0 _ 1 16 Tryd.underlying64 hi hz0 hz1 hz2 rfl (by omega) B hb0 hB a n c (xs.map sv) hs hown ad 1 1 [sv l] hx rfl (fun j u hu => ?_) (fun u hu => ?_) (n + 1) rfl (by omega) (by omega)
    (fun a' c' w' h1 h2 h3 _ => h a' c' w' (by rw [List.map_append]; exact h1) h3 fun k cs T hT hk => ?_)
  · obtain rfl : j = 0 := by
      cases j with
      | zero => rfl
      | succ j => exact absurd hu (by intro h; cases h)
    have hu : some (sv l) = some u := hu
    injection hu with hu
    subst hu
    have : ad.add 0 = ad := by simp [Addr.add]
    rw [this]; exact hc
  · have hu : u = sv l := List.mem_singleton.1 hu
    subst hu; rfl
  · refine (h2.block k (Array.getElem?_eq_some_iff.1 hk).1 fun e => ?_).trans hk
    rcases hown.form with ⟨rfl, _⟩ | ⟨g, cur, rfl, _, _, hh, _⟩
    · cases e
    · have e : k = g := by simpa using e
      rw [e, hh] at hk
      injection hk with hk
      injection hk with _ e2
      exact hT e2.symm
/-- the boxes of line: the act's, and what its kind has -/
structure LineAt (w0 w : World) (H : Nat) (cs hs : Array Value) : Prop where
  bel : Below w0.heap.size w0 w
  box : w.heap[w0.heap.size]? = some (.cells cs 30 (0, 0))
  has : w.heap[H]? = some (.cells hs 47 (0, 0))
section
variable {w0 w w' : World} {H : Nat} {cs hs : Array Value}
theorem LineAt.call (h : LineAt w0 w H cs hs) (hb : Below w.heap.size w w') : LineAt w0 w' H cs hs :=
  ⟨Below.next0 h.bel hb, (hb.block _ (Array.getElem?_eq_some_iff.1 h.box).1).trans h.box, (hb.block _ (Array.getElem?_eq_some_iff.1 h.has).1).trans h.has⟩
theorem LineAt.alloc (h : LineAt w0 w H cs hs) (o : Obj) : LineAt w0 (w.alloc o) H cs hs := h.call ((Below.refl _ _).alloc (Nat.le_refl _) _)
theorem LineAt.keep (h : LineAt w0 w H cs hs) (hb : Below w0.heap.size w0 w') (hk : Other w w') : LineAt w0 w' H cs hs := ⟨hb, hk _ _ _ (by decide) h.box, hk _ _ _ (by decide) h.has⟩
theorem LineAt.start {w1 : World} (hb : Below w0.heap.size w0 w1) (hx : w1.heap[w0.heap.size]? = some (.cells cs 30 (0, 0))) (l : List UInt8) :
    LineAt w0 ((w1.alloc (.cells hs 47)).alloc (.cells #[sv l] 9)) w1.heap.size cs hs ∧ Row ((w1.alloc (.cells hs 47)).alloc (.cells #[sv l] 9)) w0.heap.size 9 1 (some ⟨(w1.alloc (.cells hs 47)).heap.size, 0, none⟩) 1 1 ([l].map sv) := by
  have hz := (Array.getElem?_eq_some_iff.1 hx).1
  have h1 : LineAt w0 (w1.alloc (.cells hs 47)) w1.heap.size cs hs := by
    refine ⟨hb.alloc hb.size _, ?_, heap_alloc_new _ _⟩
    rw [Below.heap_alloc _ _ _ hz]; exact hx
  exact ⟨h1.alloc _, Row.lit _ h1.bel.size _ 1 #[sv l] 1 (by decide) rfl⟩
theorem LineAt.act (h : LineAt w0 w H cs hs) {j : Nat} {v : Value} (hv : cs[j]? = some v) : w.cell? ⟨w0.heap.size, j, none⟩ = some v := by rw [cell_of_row _ _ _ _ _ _ h.box]; exact hv
theorem LineAt.its (h : LineAt w0 w H cs hs) {j : Nat} {v : Value} (hv : hs[j]? = some v) : w.cell? ⟨H, j, none⟩ = some v := by rw [cell_of_row _ _ _ _ _ _ h.has]; exact hv
end
theorem cell_new1 (w : World) (v : Value) (e : TypeId) (z : Nat) (hz : z = w.heap.size) : (w.alloc (.cells #[v] e)).cell? ⟨z, 0, none⟩ = some v := by subst hz; exact cell_of_row _ _ 0 _ _ _ (heap_alloc_new _ _)
theorem line_text (l : List UInt8) : (⟨l.toArray⟩ : ByteArray) ++ ⟨#[10]⟩ = ⟨(l ++ [10]).toArray⟩ := by
  apply ByteArray.ext
  simp [ByteArray.data_append]
theorem take_dec (keep : List UInt8) (i : Nat) (y : UInt8) (h : keep[i]? = some y) (base : List (List UInt8)) : base ++ (keep.take i).map (fun k => dec k.toNat) ++ [dec y.toNat] = base ++ (keep.take (i + 1)).map fun k => dec k.toNat := by
  rw [List.take_add_one, h]; simp

set_option maxRecDepth 100000 in
set_option maxHeartbeats 4000000 in
theorem line_n (x : ActC) (keep : List UInt8) (w : World) (hk : x.kind = 1 ∨ x.kind = 2 ∨ x.kind = 3 ∨ x.kind = 7) (h0 : 0 ≤ x.n) (h1 : x.n ≤ 999999) (hkl : keep.length = x.kn) (h8 : keep.length ≤ 8) (hrd : Rd w w.heap.size x.ka keep) (hlen : (shown (x.abs keep)).length ≤ 1000000) (hl : Laid w) :
    Calls Tryd.prog 26 #[.agg x.cells] w fun e w' => e = .returned (sv (ScriptM.line (x.abs keep))) ∧ Below w.heap.size w w' := by
  obtain ⟨k, n, dn, ka, kn, kc, nm, m⟩ := x
  obtain ⟨nl, rfl⟩ : ∃ nl : List UInt8, nm = ⟨nl.toArray⟩ := ⟨nm.data.toList, rfl⟩
  have HL := Lib.hid hl
  have HO := Lib.hid (of_any k)
  have HW := Lib.hid (word_any k)
  have h0 : 0 ≤ n := h0
  have h1 : n ≤ 999999 := h1
  have h1b : n ≤ 9223372036854775807 := by omega
  have hf : hasC k = #[.bool true, .bool false, .bool false, .bool false] ∧ shown (ActC.abs ⟨k, n, dn, ka, kn, kc, ⟨nl.toArray⟩, m⟩ keep) = glue ((word k :: [dec n.toNat]) ++ keep.map fun k => dec k.toNat) := by
    rcases hk with h | h | h | h
    all_goals (have h : k = _ := h; subst h; exact ⟨rfl, rfl⟩)
  rw [hf.1] at HO
  have HR := Lib.hid (show ScriptM.line (ActC.abs ⟨k, n, dn, ka, kn, kc, ⟨nl.toArray⟩, m⟩ keep) = glue ((word k :: [dec n.toNat]) ++ keep.map fun k => dec k.toNat) ++ [10] by unfold ScriptM.line; rw [hf.2])
  rw [HR.out]
  rw [hf.2] at hlen
  obtain ⟨G, hG⟩ : ∃ G, glue ((word k :: [dec n.toNat]) ++ keep.map fun k => dec k.toNat) = G := ⟨_, rfl⟩
  have HG := Lib.hid hG
  rw [hG] at hlen ⊢
  have hrd : Rd w w.heap.size ka keep := hrd
  have HRD := Lib.hid hrd
  obtain rfl : keep.length = kn := hkl
  clear hk hf hl HR hrd hG
  unfold ActC.cells
  go_enter Tryd.func26, Tryd.ntmps26
  go_wp2_with fail
  have hb0 : Below w.heap.size w (w.alloc (.cells #[.int .i64 k, .int .i64 n, .bool dn, .slice ka keep.length kc, sv nl, .int .u32 (m : Int)] 30)) := (Below.refl _ _).alloc (Nat.le_refl _) _
  have hbx := heap_alloc_new w (.cells #[.int .i64 k, .int .i64 n, .bool dn, .slice ka keep.length kc, sv nl, .int .u32 (m : Int)] 30)
  have hsz : w.heap.size < (w.alloc (.cells #[.int .i64 k, .int .i64 n, .bool dn, .slice ka keep.length kc, sv nl, .int .u32 (m : Int)] 30)).heap.size := by simp
  generalize w.alloc (.cells #[.int .i64 k, .int .i64 n, .bool dn, .slice ka keep.length kc, sv nl, .int .u32 (m : Int)] 30) = W0 at *
  refine (HO.out W0).mono ?_
  rintro e w1 ⟨rfl, hb1⟩
  have hx1 := (hb1.block _ hsz).trans hbx
  have c0 : w1.cell? ⟨w.heap.size, 0, none⟩ = some (.int .i64 k) := cell_of_row _ _ 0 _ _ _ hx1
  have HS := Lib.hid (LineAt.start (hs := #[.bool true, .bool false, .bool false, .bool false]) (Below.next0 hb0 hb1) hx1 (word k))
  have hs1 : w.heap.size < w1.heap.size := Nat.lt_of_lt_of_le hsz hb1.size
  have EZ := Lib.hid (show (w1.alloc (.cells #[.bool true, .bool false, .bool false, .bool false] 47)).heap.size = w1.heap.size + 1 by simp)
  clear hb0 hbx hsz hb1 hx1
  go_wp2_with fail
  refine (HW.out _).mono ?_
  rintro e w' ⟨rfl, rfl⟩
  clear c0
  have L0 := Lib.hid HS.out.1
  have R0 := Lib.hid HS.out.2
  rw [EZ.out] at R0
  clear HS
  have d0 : ((w1.alloc (.cells #[.bool true, .bool false, .bool false, .bool false] 47)).alloc (.cells #[sv (word k)] 9)).cell? ⟨w1.heap.size, 0, none⟩ = some (.bool true) := L0.out.its rfl
  have d1 : ((w1.alloc (.cells #[.bool true, .bool false, .bool false, .bool false] 47)).alloc (.cells #[sv (word k)] 9)).cell? ⟨w1.heap.size, 1, none⟩ = some (.bool false) := L0.out.its rfl
  have d2 : ((w1.alloc (.cells #[.bool true, .bool false, .bool false, .bool false] 47)).alloc (.cells #[sv (word k)] 9)).cell? ⟨w1.heap.size, 2, none⟩ = some (.bool false) := L0.out.its rfl
  have d3 : ((w1.alloc (.cells #[.bool true, .bool false, .bool false, .bool false] 47)).alloc (.cells #[sv (word k)] 9)).cell? ⟨w1.heap.size, 3, none⟩ = some (.bool false) := L0.out.its rfl
  have c1 : ((w1.alloc (.cells #[.bool true, .bool false, .bool false, .bool false] 47)).alloc (.cells #[sv (word k)] 9)).cell? ⟨w.heap.size, 1, none⟩ = some (.int .i64 n) := L0.out.act rfl
  have c2 : ((w1.alloc (.cells #[.bool true, .bool false, .bool false, .bool false] 47)).alloc (.cells #[sv (word k)] 9)).cell? ⟨w.heap.size, 2, none⟩ = some (.bool dn) := L0.out.act rfl
  have c3 : ((w1.alloc (.cells #[.bool true, .bool false, .bool false, .bool false] 47)).alloc (.cells #[sv (word k)] 9)).cell? ⟨w.heap.size, 3, none⟩ = some (.slice ka keep.length kc) := L0.out.act rfl
  have c4 : ((w1.alloc (.cells #[.bool true, .bool false, .bool false, .bool false] 47)).alloc (.cells #[sv (word k)] 9)).cell? ⟨w.heap.size, 4, none⟩ = some (sv nl) := L0.out.act rfl
  have c5 : ((w1.alloc (.cells #[.bool true, .bool false, .bool false, .bool false] 47)).alloc (.cells #[sv (word k)] 9)).cell? ⟨w.heap.size, 5, none⟩ = some (.int .u32 (m : Int)) := L0.out.act rfl
  unfold sv at d0 d1 d2 d3 c1 c2 c3 c4 c5
  go_wp2_with (first | (refine (itoa_any n _ h0 h1b (HL.out.below L0.out.bel)).mono ?_; rintro e v0 ⟨rfl, hb⟩; have LC := Lib.hid (L0.out.call hb); have RC := Lib.hid (R0.out.call hb); clear hb d0 d1 d2 d3 c1 c2 c3 c4 c5 L0 R0) | (at_builtin; refine wpList_append_s rfl (.tmp 27) (.tmp 31) rfl w _ w.heap.size (LC.out.alloc _).bel (LC.out.alloc _).bel.size (some ⟨w1.heap.size + 1, 0, none⟩) 1 1 ([word k]) rfl (RC.out.alloc _) _ (dec n.toNat) rfl (cell_new1 _ _ _ _ (by first | rfl | simp)) (by omega) ?_; intro a1 c1' W1 hr hb2 hk2; have L1 := Lib.hid ((LC.out.alloc _).keep hb2 hk2); have R1 := Lib.hid hr; clear hr hb2 hk2 LC RC; have d0 : W1.cell? ⟨w1.heap.size, 0, none⟩ = some (.bool true) := L1.out.its rfl; have d1 : W1.cell? ⟨w1.heap.size, 1, none⟩ = some (.bool false) := L1.out.its rfl; have d2 : W1.cell? ⟨w1.heap.size, 2, none⟩ = some (.bool false) := L1.out.its rfl; have d3 : W1.cell? ⟨w1.heap.size, 3, none⟩ = some (.bool false) := L1.out.its rfl; have c1 : W1.cell? ⟨w.heap.size, 1, none⟩ = some (.int .i64 n) := L1.out.act rfl; have c2 : W1.cell? ⟨w.heap.size, 2, none⟩ = some (.bool dn) := L1.out.act rfl; have c3 : W1.cell? ⟨w.heap.size, 3, none⟩ = some (.slice ka keep.length kc) := L1.out.act rfl; have c4 : W1.cell? ⟨w.heap.size, 4, none⟩ = some (sv nl) := L1.out.act rfl; have c5 : W1.cell? ⟨w.heap.size, 5, none⟩ = some (.int .u32 (m : Int)) := L1.out.act rfl))
  clear d0 d1 d2 d3 c1 c2 c4 c5 c3
  go_loopw [5, 62] (fun l i wr => ∃ (j : Nat) (ao : Option Addr) (co : Nat), j ≤ keep.length ∧ i = .int .i64 (j : Int) ∧ l = .slice ao (2 + j) co ∧ Row wr w.heap.size 9 1 ao (2 + j) co (((word k :: [dec n.toNat]) ++ (keep.take j).map fun k => dec k.toNat).map sv) ∧ LineAt w wr w1.heap.size #[.int .i64 k, .int .i64 n, .bool dn, .slice ka keep.length kc, sv nl, .int .u32 (m : Int)] #[.bool true, .bool false, .bool false, .bool false]) (fun _ i _ => keep.length - (intOf i).toNat)
  case atStart => exact ⟨0, _, _, Nat.zero_le _, rfl, rfl, R1.out, L1.out⟩
  case round =>
    clear L1 R1
    obtain ⟨j, ao, co, hj, rfl, rfl, hrow, hlat⟩ := hrel
    have LI := Lib.hid hlat
    have RI := Lib.hid hrow
    clear hlat hrow
    by_cases hlt : j < keep.length
    · obtain ⟨b, o, y, rfl, hbk, hy, hcy⟩ := HRD.out.at_ hlt
      have hcy' : wr.cell? ⟨b, o + j, none⟩ = some (.int .u8 (y.toNat : Int)) := (LI.out.bel.cell (by exact hbk)).trans hcy
      have HT := Lib.hid (take_dec keep j y hy (word k :: [dec n.toNat]))
      have hy0 : (0 : Int) ≤ (y.toNat : Int) := by omega
      have hy1 : (y.toNat : Int) ≤ 9223372036854775807 := by have := y.toNat_lt; omega
      clear hcy hy
      go_wp2_with (first | (refine (itoa_any (y.toNat : Int) _ hy0 hy1 (HL.out.below LI.out.bel)).mono ?_; rintro e v9 ⟨rfl, hb⟩; have LC := Lib.hid (LI.out.call hb); have RC := Lib.hid (RI.out.call hb); clear hb LI RI hcy') | (at_builtin; refine wpList_append_s rfl (.tmp 66) (.tmp 70) rfl w _ w.heap.size (LC.out.alloc _).bel (LC.out.alloc _).bel.size ao (2 + j) co ((word k :: [dec n.toNat]) ++ (keep.take j).map fun k => dec k.toNat) rfl (RC.out.alloc _) _ (dec (y.toNat : Int).toNat) rfl (cell_new1 _ _ _ _ (by first | rfl | simp)) (by omega) ?_; intro a9 c9 W9 hr hb2 hk2; have LD := Lib.hid ((LC.out.alloc _).keep hb2 hk2); have RD := Lib.hid hr; clear hr hb2 hk2 LC RC))
      go_roundw
      case rel => exact ⟨j + 1, a9, c9, by omega, by go_num, rfl, by rw [← HT.out]; exact RD.out, LD.out⟩
      case measure => simp [intOf]; omega
    · obtain rfl : j = keep.length := by omega
      have RJ := RI
      rw [List.take_length] at RJ
      clear RI hlt hj
      have hn47 : 2 + keep.length ≤ 140737488355328 := by omega
      go_wp2_with (refine (join_any ao (2 + keep.length) co _ _ w.heap.size RJ.out (by simp) (by rw [HG.out]; exact Nat.le_trans hlen (by decide)) hn47).mono ?_; rw [HG.out]; rintro e v9 ⟨rfl, hb⟩; have HB := Lib.hid (Below.next0 LI.out.bel hb); clear hb)
      go_ret
      exact ⟨congrArg (fun s => Ending.returned (Value.string s)) (line_text _), HB.out⟩
set_option maxRecDepth 100000 in
set_option maxHeartbeats 4000000 in
theorem line_open (x : ActC) (keep : List UInt8) (w : World) (hk : x.kind = 4) (hkl : keep.length = x.kn) (h8 : keep.length ≤ 8) (hrd : Rd w w.heap.size x.ka keep) (hlen : (shown (x.abs keep)).length ≤ 1000000) (hl : Laid w) :
    Calls Tryd.prog 26 #[.agg x.cells] w fun e w' => e = .returned (sv (ScriptM.line (x.abs keep))) ∧ Below w.heap.size w w' := by
  obtain ⟨k, n, dn, ka, kn, kc, nm, m⟩ := x
  obtain ⟨nl, rfl⟩ : ∃ nl : List UInt8, nm = ⟨nl.toArray⟩ := ⟨nm.data.toList, rfl⟩
  have HL := Lib.hid hl
  have HO := Lib.hid (of_any k)
  have HW := Lib.hid (word_any k)
  have hf : hasC k = #[.bool false, .bool false, .bool false, .bool false] ∧ shown (ActC.abs ⟨k, n, dn, ka, kn, kc, ⟨nl.toArray⟩, m⟩ keep) = glue ((word k :: []) ++ keep.map fun k => dec k.toNat) := by
    have h : k = _ := hk
    subst h
    exact ⟨rfl, rfl⟩
  rw [hf.1] at HO
  have HR := Lib.hid (show ScriptM.line (ActC.abs ⟨k, n, dn, ka, kn, kc, ⟨nl.toArray⟩, m⟩ keep) = glue ((word k :: []) ++ keep.map fun k => dec k.toNat) ++ [10] by unfold ScriptM.line; rw [hf.2])
  rw [HR.out]
  rw [hf.2] at hlen
  obtain ⟨G, hG⟩ : ∃ G, glue ((word k :: []) ++ keep.map fun k => dec k.toNat) = G := ⟨_, rfl⟩
  have HG := Lib.hid hG
  rw [hG] at hlen ⊢
  have hrd : Rd w w.heap.size ka keep := hrd
  have HRD := Lib.hid hrd
  obtain rfl : keep.length = kn := hkl
  clear hk hf hl HR hrd hG
  unfold ActC.cells
  go_enter Tryd.func26, Tryd.ntmps26
  go_wp2_with fail
  have hb0 : Below w.heap.size w (w.alloc (.cells #[.int .i64 k, .int .i64 n, .bool dn, .slice ka keep.length kc, sv nl, .int .u32 (m : Int)] 30)) := (Below.refl _ _).alloc (Nat.le_refl _) _
  have hbx := heap_alloc_new w (.cells #[.int .i64 k, .int .i64 n, .bool dn, .slice ka keep.length kc, sv nl, .int .u32 (m : Int)] 30)
  have hsz : w.heap.size < (w.alloc (.cells #[.int .i64 k, .int .i64 n, .bool dn, .slice ka keep.length kc, sv nl, .int .u32 (m : Int)] 30)).heap.size := by simp
  generalize w.alloc (.cells #[.int .i64 k, .int .i64 n, .bool dn, .slice ka keep.length kc, sv nl, .int .u32 (m : Int)] 30) = W0 at *
  refine (HO.out W0).mono ?_
  rintro e w1 ⟨rfl, hb1⟩
  have hx1 := (hb1.block _ hsz).trans hbx
  have c0 : w1.cell? ⟨w.heap.size, 0, none⟩ = some (.int .i64 k) := cell_of_row _ _ 0 _ _ _ hx1
  have HS := Lib.hid (LineAt.start (hs := #[.bool false, .bool false, .bool false, .bool false]) (Below.next0 hb0 hb1) hx1 (word k))
  have hs1 : w.heap.size < w1.heap.size := Nat.lt_of_lt_of_le hsz hb1.size
  have EZ := Lib.hid (show (w1.alloc (.cells #[.bool false, .bool false, .bool false, .bool false] 47)).heap.size = w1.heap.size + 1 by simp)
  clear hb0 hbx hsz hb1 hx1
  go_wp2_with fail
  refine (HW.out _).mono ?_
  rintro e w' ⟨rfl, rfl⟩
  clear c0
  have L0 := Lib.hid HS.out.1
  have R0 := Lib.hid HS.out.2
  rw [EZ.out] at R0
  clear HS
  have d0 : ((w1.alloc (.cells #[.bool false, .bool false, .bool false, .bool false] 47)).alloc (.cells #[sv (word k)] 9)).cell? ⟨w1.heap.size, 0, none⟩ = some (.bool false) := L0.out.its rfl
  have d1 : ((w1.alloc (.cells #[.bool false, .bool false, .bool false, .bool false] 47)).alloc (.cells #[sv (word k)] 9)).cell? ⟨w1.heap.size, 1, none⟩ = some (.bool false) := L0.out.its rfl
  have d2 : ((w1.alloc (.cells #[.bool false, .bool false, .bool false, .bool false] 47)).alloc (.cells #[sv (word k)] 9)).cell? ⟨w1.heap.size, 2, none⟩ = some (.bool false) := L0.out.its rfl
  have d3 : ((w1.alloc (.cells #[.bool false, .bool false, .bool false, .bool false] 47)).alloc (.cells #[sv (word k)] 9)).cell? ⟨w1.heap.size, 3, none⟩ = some (.bool false) := L0.out.its rfl
  have c1 : ((w1.alloc (.cells #[.bool false, .bool false, .bool false, .bool false] 47)).alloc (.cells #[sv (word k)] 9)).cell? ⟨w.heap.size, 1, none⟩ = some (.int .i64 n) := L0.out.act rfl
  have c2 : ((w1.alloc (.cells #[.bool false, .bool false, .bool false, .bool false] 47)).alloc (.cells #[sv (word k)] 9)).cell? ⟨w.heap.size, 2, none⟩ = some (.bool dn) := L0.out.act rfl
  have c3 : ((w1.alloc (.cells #[.bool false, .bool false, .bool false, .bool false] 47)).alloc (.cells #[sv (word k)] 9)).cell? ⟨w.heap.size, 3, none⟩ = some (.slice ka keep.length kc) := L0.out.act rfl
  have c4 : ((w1.alloc (.cells #[.bool false, .bool false, .bool false, .bool false] 47)).alloc (.cells #[sv (word k)] 9)).cell? ⟨w.heap.size, 4, none⟩ = some (sv nl) := L0.out.act rfl
  have c5 : ((w1.alloc (.cells #[.bool false, .bool false, .bool false, .bool false] 47)).alloc (.cells #[sv (word k)] 9)).cell? ⟨w.heap.size, 5, none⟩ = some (.int .u32 (m : Int)) := L0.out.act rfl
  unfold sv at d0 d1 d2 d3 c1 c2 c3 c4 c5
  go_wp2_with (fail)
  clear d0 d1 d2 d3 c1 c2 c4 c5 c3
  go_loopw [5, 62] (fun l i wr => ∃ (j : Nat) (ao : Option Addr) (co : Nat), j ≤ keep.length ∧ i = .int .i64 (j : Int) ∧ l = .slice ao (1 + j) co ∧ Row wr w.heap.size 9 1 ao (1 + j) co (((word k :: []) ++ (keep.take j).map fun k => dec k.toNat).map sv) ∧ LineAt w wr w1.heap.size #[.int .i64 k, .int .i64 n, .bool dn, .slice ka keep.length kc, sv nl, .int .u32 (m : Int)] #[.bool false, .bool false, .bool false, .bool false]) (fun _ i _ => keep.length - (intOf i).toNat)
  case atStart => exact ⟨0, _, _, Nat.zero_le _, rfl, rfl, R0.out, L0.out⟩
  case round =>
    clear L0 R0
    obtain ⟨j, ao, co, hj, rfl, rfl, hrow, hlat⟩ := hrel
    have LI := Lib.hid hlat
    have RI := Lib.hid hrow
    clear hlat hrow
    by_cases hlt : j < keep.length
    · obtain ⟨b, o, y, rfl, hbk, hy, hcy⟩ := HRD.out.at_ hlt
      have hcy' : wr.cell? ⟨b, o + j, none⟩ = some (.int .u8 (y.toNat : Int)) := (LI.out.bel.cell (by exact hbk)).trans hcy
      have HT := Lib.hid (take_dec keep j y hy (word k :: []))
      have hy0 : (0 : Int) ≤ (y.toNat : Int) := by omega
      have hy1 : (y.toNat : Int) ≤ 9223372036854775807 := by have := y.toNat_lt; omega
      clear hcy hy
      go_wp2_with (first | (refine (itoa_any (y.toNat : Int) _ hy0 hy1 (HL.out.below LI.out.bel)).mono ?_; rintro e v9 ⟨rfl, hb⟩; have LC := Lib.hid (LI.out.call hb); have RC := Lib.hid (RI.out.call hb); clear hb LI RI hcy') | (at_builtin; refine wpList_append_s rfl (.tmp 66) (.tmp 70) rfl w _ w.heap.size (LC.out.alloc _).bel (LC.out.alloc _).bel.size ao (1 + j) co ((word k :: []) ++ (keep.take j).map fun k => dec k.toNat) rfl (RC.out.alloc _) _ (dec (y.toNat : Int).toNat) rfl (cell_new1 _ _ _ _ (by first | rfl | simp)) (by omega) ?_; intro a9 c9 W9 hr hb2 hk2; have LD := Lib.hid ((LC.out.alloc _).keep hb2 hk2); have RD := Lib.hid hr; clear hr hb2 hk2 LC RC))
      go_roundw
      case rel => exact ⟨j + 1, a9, c9, by omega, by go_num, rfl, by rw [← HT.out]; exact RD.out, LD.out⟩
      case measure => simp [intOf]; omega
    · obtain rfl : j = keep.length := by omega
      have RJ := RI
      rw [List.take_length] at RJ
      clear RI hlt hj
      have hn47 : 1 + keep.length ≤ 140737488355328 := by omega
      go_wp2_with (refine (join_any ao (1 + keep.length) co _ _ w.heap.size RJ.out (by simp) (by rw [HG.out]; exact Nat.le_trans hlen (by decide)) hn47).mono ?_; rw [HG.out]; rintro e v9 ⟨rfl, hb⟩; have HB := Lib.hid (Below.next0 LI.out.bel hb); clear hb)
      go_ret
      exact ⟨congrArg (fun s => Ending.returned (Value.string s)) (line_text _), HB.out⟩
set_option maxRecDepth 100000 in
set_option maxHeartbeats 4000000 in
theorem line_arm (x : ActC) (keep : List UInt8) (w : World) (hk : x.kind = 5) (hdn : x.done = true) (h0 : 0 ≤ x.n) (h1 : x.n ≤ 999999) (hkl : keep.length = x.kn) (h8 : keep.length ≤ 8) (hrd : Rd w w.heap.size x.ka keep) (hlen : (shown (x.abs keep)).length ≤ 1000000) (hl : Laid w) :
    Calls Tryd.prog 26 #[.agg x.cells] w fun e w' => e = .returned (sv (ScriptM.line (x.abs keep))) ∧ Below w.heap.size w w' := by
  obtain ⟨k, n, dn, ka, kn, kc, nm, m⟩ := x
  obtain ⟨nl, rfl⟩ : ∃ nl : List UInt8, nm = ⟨nl.toArray⟩ := ⟨nm.data.toList, rfl⟩
  have HL := Lib.hid hl
  have HO := Lib.hid (of_any k)
  have HW := Lib.hid (word_any k)
  have h0 : 0 ≤ n := h0
  have h1 : n ≤ 999999 := h1
  have h1b : n ≤ 9223372036854775807 := by omega
  obtain rfl : dn = true := hdn
  have hf : hasC k = #[.bool true, .bool true, .bool false, .bool false] ∧ shown (ActC.abs ⟨k, n, true, ka, kn, kc, ⟨nl.toArray⟩, m⟩ keep) = glue ((word k :: [dec n.toNat, doneW]) ++ keep.map fun k => dec k.toNat) := by
    have h : k = _ := hk
    subst h
    exact ⟨rfl, rfl⟩
  rw [hf.1] at HO
  have HR := Lib.hid (show ScriptM.line (ActC.abs ⟨k, n, true, ka, kn, kc, ⟨nl.toArray⟩, m⟩ keep) = glue ((word k :: [dec n.toNat, doneW]) ++ keep.map fun k => dec k.toNat) ++ [10] by unfold ScriptM.line; rw [hf.2])
  rw [HR.out]
  rw [hf.2] at hlen
  obtain ⟨G, hG⟩ : ∃ G, glue ((word k :: [dec n.toNat, doneW]) ++ keep.map fun k => dec k.toNat) = G := ⟨_, rfl⟩
  have HG := Lib.hid hG
  rw [hG] at hlen ⊢
  have hrd : Rd w w.heap.size ka keep := hrd
  have HRD := Lib.hid hrd
  obtain rfl : keep.length = kn := hkl
  clear hk hf hl HR hrd hG
  unfold ActC.cells
  go_enter Tryd.func26, Tryd.ntmps26
  go_wp2_with fail
  have hb0 : Below w.heap.size w (w.alloc (.cells #[.int .i64 k, .int .i64 n, .bool true, .slice ka keep.length kc, sv nl, .int .u32 (m : Int)] 30)) := (Below.refl _ _).alloc (Nat.le_refl _) _
  have hbx := heap_alloc_new w (.cells #[.int .i64 k, .int .i64 n, .bool true, .slice ka keep.length kc, sv nl, .int .u32 (m : Int)] 30)
  have hsz : w.heap.size < (w.alloc (.cells #[.int .i64 k, .int .i64 n, .bool true, .slice ka keep.length kc, sv nl, .int .u32 (m : Int)] 30)).heap.size := by simp
  generalize w.alloc (.cells #[.int .i64 k, .int .i64 n, .bool true, .slice ka keep.length kc, sv nl, .int .u32 (m : Int)] 30) = W0 at *
  refine (HO.out W0).mono ?_
  rintro e w1 ⟨rfl, hb1⟩
  have hx1 := (hb1.block _ hsz).trans hbx
  have c0 : w1.cell? ⟨w.heap.size, 0, none⟩ = some (.int .i64 k) := cell_of_row _ _ 0 _ _ _ hx1
  have HS := Lib.hid (LineAt.start (hs := #[.bool true, .bool true, .bool false, .bool false]) (Below.next0 hb0 hb1) hx1 (word k))
  have hs1 : w.heap.size < w1.heap.size := Nat.lt_of_lt_of_le hsz hb1.size
  have EZ := Lib.hid (show (w1.alloc (.cells #[.bool true, .bool true, .bool false, .bool false] 47)).heap.size = w1.heap.size + 1 by simp)
  clear hb0 hbx hsz hb1 hx1
  go_wp2_with fail
  refine (HW.out _).mono ?_
  rintro e w' ⟨rfl, rfl⟩
  clear c0
  have L0 := Lib.hid HS.out.1
  have R0 := Lib.hid HS.out.2
  rw [EZ.out] at R0
  clear HS
  have d0 : ((w1.alloc (.cells #[.bool true, .bool true, .bool false, .bool false] 47)).alloc (.cells #[sv (word k)] 9)).cell? ⟨w1.heap.size, 0, none⟩ = some (.bool true) := L0.out.its rfl
  have d1 : ((w1.alloc (.cells #[.bool true, .bool true, .bool false, .bool false] 47)).alloc (.cells #[sv (word k)] 9)).cell? ⟨w1.heap.size, 1, none⟩ = some (.bool true) := L0.out.its rfl
  have d2 : ((w1.alloc (.cells #[.bool true, .bool true, .bool false, .bool false] 47)).alloc (.cells #[sv (word k)] 9)).cell? ⟨w1.heap.size, 2, none⟩ = some (.bool false) := L0.out.its rfl
  have d3 : ((w1.alloc (.cells #[.bool true, .bool true, .bool false, .bool false] 47)).alloc (.cells #[sv (word k)] 9)).cell? ⟨w1.heap.size, 3, none⟩ = some (.bool false) := L0.out.its rfl
  have c1 : ((w1.alloc (.cells #[.bool true, .bool true, .bool false, .bool false] 47)).alloc (.cells #[sv (word k)] 9)).cell? ⟨w.heap.size, 1, none⟩ = some (.int .i64 n) := L0.out.act rfl
  have c2 : ((w1.alloc (.cells #[.bool true, .bool true, .bool false, .bool false] 47)).alloc (.cells #[sv (word k)] 9)).cell? ⟨w.heap.size, 2, none⟩ = some (.bool true) := L0.out.act rfl
  have c3 : ((w1.alloc (.cells #[.bool true, .bool true, .bool false, .bool false] 47)).alloc (.cells #[sv (word k)] 9)).cell? ⟨w.heap.size, 3, none⟩ = some (.slice ka keep.length kc) := L0.out.act rfl
  have c4 : ((w1.alloc (.cells #[.bool true, .bool true, .bool false, .bool false] 47)).alloc (.cells #[sv (word k)] 9)).cell? ⟨w.heap.size, 4, none⟩ = some (sv nl) := L0.out.act rfl
  have c5 : ((w1.alloc (.cells #[.bool true, .bool true, .bool false, .bool false] 47)).alloc (.cells #[sv (word k)] 9)).cell? ⟨w.heap.size, 5, none⟩ = some (.int .u32 (m : Int)) := L0.out.act rfl
  unfold sv at d0 d1 d2 d3 c1 c2 c3 c4 c5
  go_wp2_with (first | (refine (itoa_any n _ h0 h1b (HL.out.below L0.out.bel)).mono ?_; rintro e v0 ⟨rfl, hb⟩; have LC := Lib.hid (L0.out.call hb); have RC := Lib.hid (R0.out.call hb); clear hb d0 d1 d2 d3 c1 c2 c3 c4 c5 L0 R0) | (at_builtin; refine wpList_append_s rfl (.tmp 27) (.tmp 31) rfl w _ w.heap.size (LC.out.alloc _).bel (LC.out.alloc _).bel.size (some ⟨w1.heap.size + 1, 0, none⟩) 1 1 ([word k]) rfl (RC.out.alloc _) _ (dec n.toNat) rfl (cell_new1 _ _ _ _ (by first | rfl | simp)) (by omega) ?_; intro a1 c1' W1 hr hb2 hk2; have L1 := Lib.hid ((LC.out.alloc _).keep hb2 hk2); have R1 := Lib.hid hr; clear hr hb2 hk2 LC RC; have d0 : W1.cell? ⟨w1.heap.size, 0, none⟩ = some (.bool true) := L1.out.its rfl; have d1 : W1.cell? ⟨w1.heap.size, 1, none⟩ = some (.bool true) := L1.out.its rfl; have d2 : W1.cell? ⟨w1.heap.size, 2, none⟩ = some (.bool false) := L1.out.its rfl; have d3 : W1.cell? ⟨w1.heap.size, 3, none⟩ = some (.bool false) := L1.out.its rfl; have c1 : W1.cell? ⟨w.heap.size, 1, none⟩ = some (.int .i64 n) := L1.out.act rfl; have c2 : W1.cell? ⟨w.heap.size, 2, none⟩ = some (.bool true) := L1.out.act rfl; have c3 : W1.cell? ⟨w.heap.size, 3, none⟩ = some (.slice ka keep.length kc) := L1.out.act rfl; have c4 : W1.cell? ⟨w.heap.size, 4, none⟩ = some (sv nl) := L1.out.act rfl; have c5 : W1.cell? ⟨w.heap.size, 5, none⟩ = some (.int .u32 (m : Int)) := L1.out.act rfl) | (at_builtin; refine wpList_append_s rfl (.tmp 40) (.tmp 41) rfl w _ w.heap.size (L1.out.alloc _).bel (L1.out.alloc _).bel.size a1 2 c1' ([word k] ++ [dec n.toNat]) rfl (R1.out.alloc _) _ (doneW) rfl (cell_new1 _ _ _ _ (by first | rfl | simp)) (by omega) ?_; intro a2 c2' W2 hr hb2 hk2; have L2 := Lib.hid ((L1.out.alloc _).keep hb2 hk2); have R2 := Lib.hid hr; clear hr hb2 hk2 L1 R1 d0 d1 d2 d3 c1 c2 c3 c4 c5; have d0 : W2.cell? ⟨w1.heap.size, 0, none⟩ = some (.bool true) := L2.out.its rfl; have d1 : W2.cell? ⟨w1.heap.size, 1, none⟩ = some (.bool true) := L2.out.its rfl; have d2 : W2.cell? ⟨w1.heap.size, 2, none⟩ = some (.bool false) := L2.out.its rfl; have d3 : W2.cell? ⟨w1.heap.size, 3, none⟩ = some (.bool false) := L2.out.its rfl; have c1 : W2.cell? ⟨w.heap.size, 1, none⟩ = some (.int .i64 n) := L2.out.act rfl; have c2 : W2.cell? ⟨w.heap.size, 2, none⟩ = some (.bool true) := L2.out.act rfl; have c3 : W2.cell? ⟨w.heap.size, 3, none⟩ = some (.slice ka keep.length kc) := L2.out.act rfl; have c4 : W2.cell? ⟨w.heap.size, 4, none⟩ = some (sv nl) := L2.out.act rfl; have c5 : W2.cell? ⟨w.heap.size, 5, none⟩ = some (.int .u32 (m : Int)) := L2.out.act rfl))
  clear d0 d1 d2 d3 c1 c2 c4 c5 c3
  go_loopw [5, 62] (fun l i wr => ∃ (j : Nat) (ao : Option Addr) (co : Nat), j ≤ keep.length ∧ i = .int .i64 (j : Int) ∧ l = .slice ao (3 + j) co ∧ Row wr w.heap.size 9 1 ao (3 + j) co (((word k :: [dec n.toNat, doneW]) ++ (keep.take j).map fun k => dec k.toNat).map sv) ∧ LineAt w wr w1.heap.size #[.int .i64 k, .int .i64 n, .bool true, .slice ka keep.length kc, sv nl, .int .u32 (m : Int)] #[.bool true, .bool true, .bool false, .bool false]) (fun _ i _ => keep.length - (intOf i).toNat)
  case atStart => exact ⟨0, _, _, Nat.zero_le _, rfl, rfl, R2.out, L2.out⟩
  case round =>
    clear L2 R2
    obtain ⟨j, ao, co, hj, rfl, rfl, hrow, hlat⟩ := hrel
    have LI := Lib.hid hlat
    have RI := Lib.hid hrow
    clear hlat hrow
    by_cases hlt : j < keep.length
    · obtain ⟨b, o, y, rfl, hbk, hy, hcy⟩ := HRD.out.at_ hlt
      have hcy' : wr.cell? ⟨b, o + j, none⟩ = some (.int .u8 (y.toNat : Int)) := (LI.out.bel.cell (by exact hbk)).trans hcy
      have HT := Lib.hid (take_dec keep j y hy (word k :: [dec n.toNat, doneW]))
      have hy0 : (0 : Int) ≤ (y.toNat : Int) := by omega
      have hy1 : (y.toNat : Int) ≤ 9223372036854775807 := by have := y.toNat_lt; omega
      clear hcy hy
      go_wp2_with (first | (refine (itoa_any (y.toNat : Int) _ hy0 hy1 (HL.out.below LI.out.bel)).mono ?_; rintro e v9 ⟨rfl, hb⟩; have LC := Lib.hid (LI.out.call hb); have RC := Lib.hid (RI.out.call hb); clear hb LI RI hcy') | (at_builtin; refine wpList_append_s rfl (.tmp 66) (.tmp 70) rfl w _ w.heap.size (LC.out.alloc _).bel (LC.out.alloc _).bel.size ao (3 + j) co ((word k :: [dec n.toNat, doneW]) ++ (keep.take j).map fun k => dec k.toNat) rfl (RC.out.alloc _) _ (dec (y.toNat : Int).toNat) rfl (cell_new1 _ _ _ _ (by first | rfl | simp)) (by omega) ?_; intro a9 c9 W9 hr hb2 hk2; have LD := Lib.hid ((LC.out.alloc _).keep hb2 hk2); have RD := Lib.hid hr; clear hr hb2 hk2 LC RC))
      go_roundw
      case rel => exact ⟨j + 1, a9, c9, by omega, by go_num, rfl, by rw [← HT.out]; exact RD.out, LD.out⟩
      case measure => simp [intOf]; omega
    · obtain rfl : j = keep.length := by omega
      have RJ := RI
      rw [List.take_length] at RJ
      clear RI hlt hj
      have hn47 : 3 + keep.length ≤ 140737488355328 := by omega
      go_wp2_with (refine (join_any ao (3 + keep.length) co _ _ w.heap.size RJ.out (by simp) (by rw [HG.out]; exact Nat.le_trans hlen (by decide)) hn47).mono ?_; rw [HG.out]; rintro e v9 ⟨rfl, hb⟩; have HB := Lib.hid (Below.next0 LI.out.bel hb); clear hb)
      go_ret
      exact ⟨congrArg (fun s => Ending.returned (Value.string s)) (line_text _), HB.out⟩
set_option maxRecDepth 100000 in
set_option maxHeartbeats 4000000 in
theorem line_lost (x : ActC) (keep : List UInt8) (w : World) (hk : x.kind = 5) (hdn : x.done = false) (h0 : 0 ≤ x.n) (h1 : x.n ≤ 999999) (hkl : keep.length = x.kn) (h8 : keep.length ≤ 8) (hrd : Rd w w.heap.size x.ka keep) (hlen : (shown (x.abs keep)).length ≤ 1000000) (hl : Laid w) :
    Calls Tryd.prog 26 #[.agg x.cells] w fun e w' => e = .returned (sv (ScriptM.line (x.abs keep))) ∧ Below w.heap.size w w' := by
  obtain ⟨k, n, dn, ka, kn, kc, nm, m⟩ := x
  obtain ⟨nl, rfl⟩ : ∃ nl : List UInt8, nm = ⟨nl.toArray⟩ := ⟨nm.data.toList, rfl⟩
  have HL := Lib.hid hl
  have HO := Lib.hid (of_any k)
  have HW := Lib.hid (word_any k)
  have h0 : 0 ≤ n := h0
  have h1 : n ≤ 999999 := h1
  have h1b : n ≤ 9223372036854775807 := by omega
  obtain rfl : dn = false := hdn
  have hf : hasC k = #[.bool true, .bool true, .bool false, .bool false] ∧ shown (ActC.abs ⟨k, n, false, ka, kn, kc, ⟨nl.toArray⟩, m⟩ keep) = glue ((word k :: [dec n.toNat, lostW]) ++ keep.map fun k => dec k.toNat) := by
    have h : k = _ := hk
    subst h
    exact ⟨rfl, rfl⟩
  rw [hf.1] at HO
  have HR := Lib.hid (show ScriptM.line (ActC.abs ⟨k, n, false, ka, kn, kc, ⟨nl.toArray⟩, m⟩ keep) = glue ((word k :: [dec n.toNat, lostW]) ++ keep.map fun k => dec k.toNat) ++ [10] by unfold ScriptM.line; rw [hf.2])
  rw [HR.out]
  rw [hf.2] at hlen
  obtain ⟨G, hG⟩ : ∃ G, glue ((word k :: [dec n.toNat, lostW]) ++ keep.map fun k => dec k.toNat) = G := ⟨_, rfl⟩
  have HG := Lib.hid hG
  rw [hG] at hlen ⊢
  have hrd : Rd w w.heap.size ka keep := hrd
  have HRD := Lib.hid hrd
  obtain rfl : keep.length = kn := hkl
  clear hk hf hl HR hrd hG
  unfold ActC.cells
  go_enter Tryd.func26, Tryd.ntmps26
  go_wp2_with fail
  have hb0 : Below w.heap.size w (w.alloc (.cells #[.int .i64 k, .int .i64 n, .bool false, .slice ka keep.length kc, sv nl, .int .u32 (m : Int)] 30)) := (Below.refl _ _).alloc (Nat.le_refl _) _
  have hbx := heap_alloc_new w (.cells #[.int .i64 k, .int .i64 n, .bool false, .slice ka keep.length kc, sv nl, .int .u32 (m : Int)] 30)
  have hsz : w.heap.size < (w.alloc (.cells #[.int .i64 k, .int .i64 n, .bool false, .slice ka keep.length kc, sv nl, .int .u32 (m : Int)] 30)).heap.size := by simp
  generalize w.alloc (.cells #[.int .i64 k, .int .i64 n, .bool false, .slice ka keep.length kc, sv nl, .int .u32 (m : Int)] 30) = W0 at *
  refine (HO.out W0).mono ?_
  rintro e w1 ⟨rfl, hb1⟩
  have hx1 := (hb1.block _ hsz).trans hbx
  have c0 : w1.cell? ⟨w.heap.size, 0, none⟩ = some (.int .i64 k) := cell_of_row _ _ 0 _ _ _ hx1
  have HS := Lib.hid (LineAt.start (hs := #[.bool true, .bool true, .bool false, .bool false]) (Below.next0 hb0 hb1) hx1 (word k))
  have hs1 : w.heap.size < w1.heap.size := Nat.lt_of_lt_of_le hsz hb1.size
  have EZ := Lib.hid (show (w1.alloc (.cells #[.bool true, .bool true, .bool false, .bool false] 47)).heap.size = w1.heap.size + 1 by simp)
  clear hb0 hbx hsz hb1 hx1
  go_wp2_with fail
  refine (HW.out _).mono ?_
  rintro e w' ⟨rfl, rfl⟩
  clear c0
  have L0 := Lib.hid HS.out.1
  have R0 := Lib.hid HS.out.2
  rw [EZ.out] at R0
  clear HS
  have d0 : ((w1.alloc (.cells #[.bool true, .bool true, .bool false, .bool false] 47)).alloc (.cells #[sv (word k)] 9)).cell? ⟨w1.heap.size, 0, none⟩ = some (.bool true) := L0.out.its rfl
  have d1 : ((w1.alloc (.cells #[.bool true, .bool true, .bool false, .bool false] 47)).alloc (.cells #[sv (word k)] 9)).cell? ⟨w1.heap.size, 1, none⟩ = some (.bool true) := L0.out.its rfl
  have d2 : ((w1.alloc (.cells #[.bool true, .bool true, .bool false, .bool false] 47)).alloc (.cells #[sv (word k)] 9)).cell? ⟨w1.heap.size, 2, none⟩ = some (.bool false) := L0.out.its rfl
  have d3 : ((w1.alloc (.cells #[.bool true, .bool true, .bool false, .bool false] 47)).alloc (.cells #[sv (word k)] 9)).cell? ⟨w1.heap.size, 3, none⟩ = some (.bool false) := L0.out.its rfl
  have c1 : ((w1.alloc (.cells #[.bool true, .bool true, .bool false, .bool false] 47)).alloc (.cells #[sv (word k)] 9)).cell? ⟨w.heap.size, 1, none⟩ = some (.int .i64 n) := L0.out.act rfl
  have c2 : ((w1.alloc (.cells #[.bool true, .bool true, .bool false, .bool false] 47)).alloc (.cells #[sv (word k)] 9)).cell? ⟨w.heap.size, 2, none⟩ = some (.bool false) := L0.out.act rfl
  have c3 : ((w1.alloc (.cells #[.bool true, .bool true, .bool false, .bool false] 47)).alloc (.cells #[sv (word k)] 9)).cell? ⟨w.heap.size, 3, none⟩ = some (.slice ka keep.length kc) := L0.out.act rfl
  have c4 : ((w1.alloc (.cells #[.bool true, .bool true, .bool false, .bool false] 47)).alloc (.cells #[sv (word k)] 9)).cell? ⟨w.heap.size, 4, none⟩ = some (sv nl) := L0.out.act rfl
  have c5 : ((w1.alloc (.cells #[.bool true, .bool true, .bool false, .bool false] 47)).alloc (.cells #[sv (word k)] 9)).cell? ⟨w.heap.size, 5, none⟩ = some (.int .u32 (m : Int)) := L0.out.act rfl
  unfold sv at d0 d1 d2 d3 c1 c2 c3 c4 c5
  go_wp2_with (first | (refine (itoa_any n _ h0 h1b (HL.out.below L0.out.bel)).mono ?_; rintro e v0 ⟨rfl, hb⟩; have LC := Lib.hid (L0.out.call hb); have RC := Lib.hid (R0.out.call hb); clear hb d0 d1 d2 d3 c1 c2 c3 c4 c5 L0 R0) | (at_builtin; refine wpList_append_s rfl (.tmp 27) (.tmp 31) rfl w _ w.heap.size (LC.out.alloc _).bel (LC.out.alloc _).bel.size (some ⟨w1.heap.size + 1, 0, none⟩) 1 1 ([word k]) rfl (RC.out.alloc _) _ (dec n.toNat) rfl (cell_new1 _ _ _ _ (by first | rfl | simp)) (by omega) ?_; intro a1 c1' W1 hr hb2 hk2; have L1 := Lib.hid ((LC.out.alloc _).keep hb2 hk2); have R1 := Lib.hid hr; clear hr hb2 hk2 LC RC; have d0 : W1.cell? ⟨w1.heap.size, 0, none⟩ = some (.bool true) := L1.out.its rfl; have d1 : W1.cell? ⟨w1.heap.size, 1, none⟩ = some (.bool true) := L1.out.its rfl; have d2 : W1.cell? ⟨w1.heap.size, 2, none⟩ = some (.bool false) := L1.out.its rfl; have d3 : W1.cell? ⟨w1.heap.size, 3, none⟩ = some (.bool false) := L1.out.its rfl; have c1 : W1.cell? ⟨w.heap.size, 1, none⟩ = some (.int .i64 n) := L1.out.act rfl; have c2 : W1.cell? ⟨w.heap.size, 2, none⟩ = some (.bool false) := L1.out.act rfl; have c3 : W1.cell? ⟨w.heap.size, 3, none⟩ = some (.slice ka keep.length kc) := L1.out.act rfl; have c4 : W1.cell? ⟨w.heap.size, 4, none⟩ = some (sv nl) := L1.out.act rfl; have c5 : W1.cell? ⟨w.heap.size, 5, none⟩ = some (.int .u32 (m : Int)) := L1.out.act rfl) | (at_builtin; refine wpList_append_s rfl (.tmp 46) (.tmp 47) rfl w _ w.heap.size (L1.out.alloc _).bel (L1.out.alloc _).bel.size a1 2 c1' ([word k] ++ [dec n.toNat]) rfl (R1.out.alloc _) _ (lostW) rfl (cell_new1 _ _ _ _ (by first | rfl | simp)) (by omega) ?_; intro a2 c2' W2 hr hb2 hk2; have L2 := Lib.hid ((L1.out.alloc _).keep hb2 hk2); have R2 := Lib.hid hr; clear hr hb2 hk2 L1 R1 d0 d1 d2 d3 c1 c2 c3 c4 c5; have d0 : W2.cell? ⟨w1.heap.size, 0, none⟩ = some (.bool true) := L2.out.its rfl; have d1 : W2.cell? ⟨w1.heap.size, 1, none⟩ = some (.bool true) := L2.out.its rfl; have d2 : W2.cell? ⟨w1.heap.size, 2, none⟩ = some (.bool false) := L2.out.its rfl; have d3 : W2.cell? ⟨w1.heap.size, 3, none⟩ = some (.bool false) := L2.out.its rfl; have c1 : W2.cell? ⟨w.heap.size, 1, none⟩ = some (.int .i64 n) := L2.out.act rfl; have c2 : W2.cell? ⟨w.heap.size, 2, none⟩ = some (.bool false) := L2.out.act rfl; have c3 : W2.cell? ⟨w.heap.size, 3, none⟩ = some (.slice ka keep.length kc) := L2.out.act rfl; have c4 : W2.cell? ⟨w.heap.size, 4, none⟩ = some (sv nl) := L2.out.act rfl; have c5 : W2.cell? ⟨w.heap.size, 5, none⟩ = some (.int .u32 (m : Int)) := L2.out.act rfl))
  clear d0 d1 d2 d3 c1 c2 c4 c5 c3
  go_loopw [5, 62] (fun l i wr => ∃ (j : Nat) (ao : Option Addr) (co : Nat), j ≤ keep.length ∧ i = .int .i64 (j : Int) ∧ l = .slice ao (3 + j) co ∧ Row wr w.heap.size 9 1 ao (3 + j) co (((word k :: [dec n.toNat, lostW]) ++ (keep.take j).map fun k => dec k.toNat).map sv) ∧ LineAt w wr w1.heap.size #[.int .i64 k, .int .i64 n, .bool false, .slice ka keep.length kc, sv nl, .int .u32 (m : Int)] #[.bool true, .bool true, .bool false, .bool false]) (fun _ i _ => keep.length - (intOf i).toNat)
  case atStart => exact ⟨0, _, _, Nat.zero_le _, rfl, rfl, R2.out, L2.out⟩
  case round =>
    clear L2 R2
    obtain ⟨j, ao, co, hj, rfl, rfl, hrow, hlat⟩ := hrel
    have LI := Lib.hid hlat
    have RI := Lib.hid hrow
    clear hlat hrow
    by_cases hlt : j < keep.length
    · obtain ⟨b, o, y, rfl, hbk, hy, hcy⟩ := HRD.out.at_ hlt
      have hcy' : wr.cell? ⟨b, o + j, none⟩ = some (.int .u8 (y.toNat : Int)) := (LI.out.bel.cell (by exact hbk)).trans hcy
      have HT := Lib.hid (take_dec keep j y hy (word k :: [dec n.toNat, lostW]))
      have hy0 : (0 : Int) ≤ (y.toNat : Int) := by omega
      have hy1 : (y.toNat : Int) ≤ 9223372036854775807 := by have := y.toNat_lt; omega
      clear hcy hy
      go_wp2_with (first | (refine (itoa_any (y.toNat : Int) _ hy0 hy1 (HL.out.below LI.out.bel)).mono ?_; rintro e v9 ⟨rfl, hb⟩; have LC := Lib.hid (LI.out.call hb); have RC := Lib.hid (RI.out.call hb); clear hb LI RI hcy') | (at_builtin; refine wpList_append_s rfl (.tmp 66) (.tmp 70) rfl w _ w.heap.size (LC.out.alloc _).bel (LC.out.alloc _).bel.size ao (3 + j) co ((word k :: [dec n.toNat, lostW]) ++ (keep.take j).map fun k => dec k.toNat) rfl (RC.out.alloc _) _ (dec (y.toNat : Int).toNat) rfl (cell_new1 _ _ _ _ (by first | rfl | simp)) (by omega) ?_; intro a9 c9 W9 hr hb2 hk2; have LD := Lib.hid ((LC.out.alloc _).keep hb2 hk2); have RD := Lib.hid hr; clear hr hb2 hk2 LC RC))
      go_roundw
      case rel => exact ⟨j + 1, a9, c9, by omega, by go_num, rfl, by rw [← HT.out]; exact RD.out, LD.out⟩
      case measure => simp [intOf]; omega
    · obtain rfl : j = keep.length := by omega
      have RJ := RI
      rw [List.take_length] at RJ
      clear RI hlt hj
      have hn47 : 3 + keep.length ≤ 140737488355328 := by omega
      go_wp2_with (refine (join_any ao (3 + keep.length) co _ _ w.heap.size RJ.out (by simp) (by rw [HG.out]; exact Nat.le_trans hlen (by decide)) hn47).mono ?_; rw [HG.out]; rintro e v9 ⟨rfl, hb⟩; have HB := Lib.hid (Below.next0 LI.out.bel hb); clear hb)
      go_ret
      exact ⟨congrArg (fun s => Ending.returned (Value.string s)) (line_text _), HB.out⟩
set_option maxRecDepth 100000 in
set_option maxHeartbeats 4000000 in
theorem line_crash (x : ActC) (keep : List UInt8) (w : World) (hk : x.kind = 6) (hkl : keep.length = x.kn) (h8 : keep.length ≤ 8) (hrd : Rd w w.heap.size x.ka keep) (hlen : (shown (x.abs keep)).length ≤ 1000000) (hl : Laid w) :
    Calls Tryd.prog 26 #[.agg x.cells] w fun e w' => e = .returned (sv (ScriptM.line (x.abs keep))) ∧ Below w.heap.size w w' := by
  obtain ⟨k, n, dn, ka, kn, kc, nm, m⟩ := x
  obtain ⟨nl, rfl⟩ : ∃ nl : List UInt8, nm = ⟨nl.toArray⟩ := ⟨nm.data.toList, rfl⟩
  have HL := Lib.hid hl
  have HO := Lib.hid (of_any k)
  have HW := Lib.hid (word_any k)
  have hf : hasC k = #[.bool false, .bool false, .bool true, .bool false] ∧ shown (ActC.abs ⟨k, n, dn, ka, kn, kc, ⟨nl.toArray⟩, m⟩ keep) = glue ((word k :: []) ++ keep.map fun k => dec k.toNat) := by
    have h : k = _ := hk
    subst h
    exact ⟨rfl, rfl⟩
  rw [hf.1] at HO
  have HR := Lib.hid (show ScriptM.line (ActC.abs ⟨k, n, dn, ka, kn, kc, ⟨nl.toArray⟩, m⟩ keep) = glue ((word k :: []) ++ keep.map fun k => dec k.toNat) ++ [10] by unfold ScriptM.line; rw [hf.2])
  rw [HR.out]
  rw [hf.2] at hlen
  obtain ⟨G, hG⟩ : ∃ G, glue ((word k :: []) ++ keep.map fun k => dec k.toNat) = G := ⟨_, rfl⟩
  have HG := Lib.hid hG
  rw [hG] at hlen ⊢
  have hrd : Rd w w.heap.size ka keep := hrd
  have HRD := Lib.hid hrd
  obtain rfl : keep.length = kn := hkl
  clear hk hf hl HR hrd hG
  unfold ActC.cells
  go_enter Tryd.func26, Tryd.ntmps26
  go_wp2_with fail
  have hb0 : Below w.heap.size w (w.alloc (.cells #[.int .i64 k, .int .i64 n, .bool dn, .slice ka keep.length kc, sv nl, .int .u32 (m : Int)] 30)) := (Below.refl _ _).alloc (Nat.le_refl _) _
  have hbx := heap_alloc_new w (.cells #[.int .i64 k, .int .i64 n, .bool dn, .slice ka keep.length kc, sv nl, .int .u32 (m : Int)] 30)
  have hsz : w.heap.size < (w.alloc (.cells #[.int .i64 k, .int .i64 n, .bool dn, .slice ka keep.length kc, sv nl, .int .u32 (m : Int)] 30)).heap.size := by simp
  generalize w.alloc (.cells #[.int .i64 k, .int .i64 n, .bool dn, .slice ka keep.length kc, sv nl, .int .u32 (m : Int)] 30) = W0 at *
  refine (HO.out W0).mono ?_
  rintro e w1 ⟨rfl, hb1⟩
  have hx1 := (hb1.block _ hsz).trans hbx
  have c0 : w1.cell? ⟨w.heap.size, 0, none⟩ = some (.int .i64 k) := cell_of_row _ _ 0 _ _ _ hx1
  have HS := Lib.hid (LineAt.start (hs := #[.bool false, .bool false, .bool true, .bool false]) (Below.next0 hb0 hb1) hx1 (word k))
  have hs1 : w.heap.size < w1.heap.size := Nat.lt_of_lt_of_le hsz hb1.size
  have EZ := Lib.hid (show (w1.alloc (.cells #[.bool false, .bool false, .bool true, .bool false] 47)).heap.size = w1.heap.size + 1 by simp)
  clear hb0 hbx hsz hb1 hx1
  go_wp2_with fail
  refine (HW.out _).mono ?_
  rintro e w' ⟨rfl, rfl⟩
  clear c0
  have L0 := Lib.hid HS.out.1
  have R0 := Lib.hid HS.out.2
  rw [EZ.out] at R0
  clear HS
  have d0 : ((w1.alloc (.cells #[.bool false, .bool false, .bool true, .bool false] 47)).alloc (.cells #[sv (word k)] 9)).cell? ⟨w1.heap.size, 0, none⟩ = some (.bool false) := L0.out.its rfl
  have d1 : ((w1.alloc (.cells #[.bool false, .bool false, .bool true, .bool false] 47)).alloc (.cells #[sv (word k)] 9)).cell? ⟨w1.heap.size, 1, none⟩ = some (.bool false) := L0.out.its rfl
  have d2 : ((w1.alloc (.cells #[.bool false, .bool false, .bool true, .bool false] 47)).alloc (.cells #[sv (word k)] 9)).cell? ⟨w1.heap.size, 2, none⟩ = some (.bool true) := L0.out.its rfl
  have d3 : ((w1.alloc (.cells #[.bool false, .bool false, .bool true, .bool false] 47)).alloc (.cells #[sv (word k)] 9)).cell? ⟨w1.heap.size, 3, none⟩ = some (.bool false) := L0.out.its rfl
  have c1 : ((w1.alloc (.cells #[.bool false, .bool false, .bool true, .bool false] 47)).alloc (.cells #[sv (word k)] 9)).cell? ⟨w.heap.size, 1, none⟩ = some (.int .i64 n) := L0.out.act rfl
  have c2 : ((w1.alloc (.cells #[.bool false, .bool false, .bool true, .bool false] 47)).alloc (.cells #[sv (word k)] 9)).cell? ⟨w.heap.size, 2, none⟩ = some (.bool dn) := L0.out.act rfl
  have c3 : ((w1.alloc (.cells #[.bool false, .bool false, .bool true, .bool false] 47)).alloc (.cells #[sv (word k)] 9)).cell? ⟨w.heap.size, 3, none⟩ = some (.slice ka keep.length kc) := L0.out.act rfl
  have c4 : ((w1.alloc (.cells #[.bool false, .bool false, .bool true, .bool false] 47)).alloc (.cells #[sv (word k)] 9)).cell? ⟨w.heap.size, 4, none⟩ = some (sv nl) := L0.out.act rfl
  have c5 : ((w1.alloc (.cells #[.bool false, .bool false, .bool true, .bool false] 47)).alloc (.cells #[sv (word k)] 9)).cell? ⟨w.heap.size, 5, none⟩ = some (.int .u32 (m : Int)) := L0.out.act rfl
  unfold sv at d0 d1 d2 d3 c1 c2 c3 c4 c5
  go_wp2_with (fail)
  clear d0 d1 d2 d3 c1 c2 c4 c5 c3
  go_loopw [5, 62] (fun l i wr => ∃ (j : Nat) (ao : Option Addr) (co : Nat), j ≤ keep.length ∧ i = .int .i64 (j : Int) ∧ l = .slice ao (1 + j) co ∧ Row wr w.heap.size 9 1 ao (1 + j) co (((word k :: []) ++ (keep.take j).map fun k => dec k.toNat).map sv) ∧ LineAt w wr w1.heap.size #[.int .i64 k, .int .i64 n, .bool dn, .slice ka keep.length kc, sv nl, .int .u32 (m : Int)] #[.bool false, .bool false, .bool true, .bool false]) (fun _ i _ => keep.length - (intOf i).toNat)
  case atStart => exact ⟨0, _, _, Nat.zero_le _, rfl, rfl, R0.out, L0.out⟩
  case round =>
    clear L0 R0
    obtain ⟨j, ao, co, hj, rfl, rfl, hrow, hlat⟩ := hrel
    have LI := Lib.hid hlat
    have RI := Lib.hid hrow
    clear hlat hrow
    by_cases hlt : j < keep.length
    · obtain ⟨b, o, y, rfl, hbk, hy, hcy⟩ := HRD.out.at_ hlt
      have hcy' : wr.cell? ⟨b, o + j, none⟩ = some (.int .u8 (y.toNat : Int)) := (LI.out.bel.cell (by exact hbk)).trans hcy
      have HT := Lib.hid (take_dec keep j y hy (word k :: []))
      have hy0 : (0 : Int) ≤ (y.toNat : Int) := by omega
      have hy1 : (y.toNat : Int) ≤ 9223372036854775807 := by have := y.toNat_lt; omega
      clear hcy hy
      go_wp2_with (first | (refine (itoa_any (y.toNat : Int) _ hy0 hy1 (HL.out.below LI.out.bel)).mono ?_; rintro e v9 ⟨rfl, hb⟩; have LC := Lib.hid (LI.out.call hb); have RC := Lib.hid (RI.out.call hb); clear hb LI RI hcy') | (at_builtin; refine wpList_append_s rfl (.tmp 66) (.tmp 70) rfl w _ w.heap.size (LC.out.alloc _).bel (LC.out.alloc _).bel.size ao (1 + j) co ((word k :: []) ++ (keep.take j).map fun k => dec k.toNat) rfl (RC.out.alloc _) _ (dec (y.toNat : Int).toNat) rfl (cell_new1 _ _ _ _ (by first | rfl | simp)) (by omega) ?_; intro a9 c9 W9 hr hb2 hk2; have LD := Lib.hid ((LC.out.alloc _).keep hb2 hk2); have RD := Lib.hid hr; clear hr hb2 hk2 LC RC))
      go_roundw
      case rel => exact ⟨j + 1, a9, c9, by omega, by go_num, rfl, by rw [← HT.out]; exact RD.out, LD.out⟩
      case measure => simp [intOf]; omega
    · obtain rfl : j = keep.length := by omega
      have RJ := RI
      rw [List.take_length] at RJ
      clear RI hlt hj
      have hn47 : 1 + keep.length ≤ 140737488355328 := by omega
      go_wp2_with (refine (join_any ao (1 + keep.length) co _ _ w.heap.size RJ.out (by simp) (by rw [HG.out]; exact Nat.le_trans hlen (by decide)) hn47).mono ?_; rw [HG.out]; rintro e v9 ⟨rfl, hb⟩; have HB := Lib.hid (Below.next0 LI.out.bel hb); clear hb)
      go_ret
      exact ⟨congrArg (fun s => Ending.returned (Value.string s)) (line_text _), HB.out⟩
set_option maxRecDepth 100000 in
set_option maxHeartbeats 4000000 in
theorem line_flip (x : ActC) (keep : List UInt8) (w : World) (hk : x.kind = 8) (h0 : 0 ≤ x.n) (h1 : x.n ≤ 999999) (hm : x.mask < 4294967296) (hkl : keep.length = x.kn) (h8 : keep.length ≤ 8) (hrd : Rd w w.heap.size x.ka keep) (hlen : (shown (x.abs keep)).length ≤ 1000000) (hl : Laid w) :
    Calls Tryd.prog 26 #[.agg x.cells] w fun e w' => e = .returned (sv (ScriptM.line (x.abs keep))) ∧ Below w.heap.size w w' := by
  obtain ⟨k, n, dn, ka, kn, kc, nm, m⟩ := x
  obtain ⟨nl, rfl⟩ : ∃ nl : List UInt8, nm = ⟨nl.toArray⟩ := ⟨nm.data.toList, rfl⟩
  have HL := Lib.hid hl
  have HO := Lib.hid (of_any k)
  have HW := Lib.hid (word_any k)
  have h0 : 0 ≤ n := h0
  have h1 : n ≤ 999999 := h1
  have h1b : n ≤ 9223372036854775807 := by omega
  have hm : m < 4294967296 := hm
  have hf : hasC k = #[.bool true, .bool false, .bool false, .bool true] ∧ shown (ActC.abs ⟨k, n, dn, ka, kn, kc, ⟨nl.toArray⟩, m⟩ keep) = glue ((word k :: [nl, dec n.toNat, hexD m]) ++ keep.map fun k => dec k.toNat) := by
    have h : k = _ := hk
    subst h
    exact ⟨rfl, rfl⟩
  rw [hf.1] at HO
  have HR := Lib.hid (show ScriptM.line (ActC.abs ⟨k, n, dn, ka, kn, kc, ⟨nl.toArray⟩, m⟩ keep) = glue ((word k :: [nl, dec n.toNat, hexD m]) ++ keep.map fun k => dec k.toNat) ++ [10] by unfold ScriptM.line; rw [hf.2])
  rw [HR.out]
  rw [hf.2] at hlen
  obtain ⟨G, hG⟩ : ∃ G, glue ((word k :: [nl, dec n.toNat, hexD m]) ++ keep.map fun k => dec k.toNat) = G := ⟨_, rfl⟩
  have HG := Lib.hid hG
  rw [hG] at hlen ⊢
  have hrd : Rd w w.heap.size ka keep := hrd
  have HRD := Lib.hid hrd
  obtain rfl : keep.length = kn := hkl
  clear hk hf hl HR hrd hG
  unfold ActC.cells
  go_enter Tryd.func26, Tryd.ntmps26
  go_wp2_with fail
  have hb0 : Below w.heap.size w (w.alloc (.cells #[.int .i64 k, .int .i64 n, .bool dn, .slice ka keep.length kc, sv nl, .int .u32 (m : Int)] 30)) := (Below.refl _ _).alloc (Nat.le_refl _) _
  have hbx := heap_alloc_new w (.cells #[.int .i64 k, .int .i64 n, .bool dn, .slice ka keep.length kc, sv nl, .int .u32 (m : Int)] 30)
  have hsz : w.heap.size < (w.alloc (.cells #[.int .i64 k, .int .i64 n, .bool dn, .slice ka keep.length kc, sv nl, .int .u32 (m : Int)] 30)).heap.size := by simp
  generalize w.alloc (.cells #[.int .i64 k, .int .i64 n, .bool dn, .slice ka keep.length kc, sv nl, .int .u32 (m : Int)] 30) = W0 at *
  refine (HO.out W0).mono ?_
  rintro e w1 ⟨rfl, hb1⟩
  have hx1 := (hb1.block _ hsz).trans hbx
  have c0 : w1.cell? ⟨w.heap.size, 0, none⟩ = some (.int .i64 k) := cell_of_row _ _ 0 _ _ _ hx1
  have HS := Lib.hid (LineAt.start (hs := #[.bool true, .bool false, .bool false, .bool true]) (Below.next0 hb0 hb1) hx1 (word k))
  have hs1 : w.heap.size < w1.heap.size := Nat.lt_of_lt_of_le hsz hb1.size
  have EZ := Lib.hid (show (w1.alloc (.cells #[.bool true, .bool false, .bool false, .bool true] 47)).heap.size = w1.heap.size + 1 by simp)
  clear hb0 hbx hsz hb1 hx1
  go_wp2_with fail
  refine (HW.out _).mono ?_
  rintro e w' ⟨rfl, rfl⟩
  clear c0
  have L0 := Lib.hid HS.out.1
  have R0 := Lib.hid HS.out.2
  rw [EZ.out] at R0
  clear HS
  have d0 : ((w1.alloc (.cells #[.bool true, .bool false, .bool false, .bool true] 47)).alloc (.cells #[sv (word k)] 9)).cell? ⟨w1.heap.size, 0, none⟩ = some (.bool true) := L0.out.its rfl
  have d1 : ((w1.alloc (.cells #[.bool true, .bool false, .bool false, .bool true] 47)).alloc (.cells #[sv (word k)] 9)).cell? ⟨w1.heap.size, 1, none⟩ = some (.bool false) := L0.out.its rfl
  have d2 : ((w1.alloc (.cells #[.bool true, .bool false, .bool false, .bool true] 47)).alloc (.cells #[sv (word k)] 9)).cell? ⟨w1.heap.size, 2, none⟩ = some (.bool false) := L0.out.its rfl
  have d3 : ((w1.alloc (.cells #[.bool true, .bool false, .bool false, .bool true] 47)).alloc (.cells #[sv (word k)] 9)).cell? ⟨w1.heap.size, 3, none⟩ = some (.bool true) := L0.out.its rfl
  have c1 : ((w1.alloc (.cells #[.bool true, .bool false, .bool false, .bool true] 47)).alloc (.cells #[sv (word k)] 9)).cell? ⟨w.heap.size, 1, none⟩ = some (.int .i64 n) := L0.out.act rfl
  have c2 : ((w1.alloc (.cells #[.bool true, .bool false, .bool false, .bool true] 47)).alloc (.cells #[sv (word k)] 9)).cell? ⟨w.heap.size, 2, none⟩ = some (.bool dn) := L0.out.act rfl
  have c3 : ((w1.alloc (.cells #[.bool true, .bool false, .bool false, .bool true] 47)).alloc (.cells #[sv (word k)] 9)).cell? ⟨w.heap.size, 3, none⟩ = some (.slice ka keep.length kc) := L0.out.act rfl
  have c4 : ((w1.alloc (.cells #[.bool true, .bool false, .bool false, .bool true] 47)).alloc (.cells #[sv (word k)] 9)).cell? ⟨w.heap.size, 4, none⟩ = some (sv nl) := L0.out.act rfl
  have c5 : ((w1.alloc (.cells #[.bool true, .bool false, .bool false, .bool true] 47)).alloc (.cells #[sv (word k)] 9)).cell? ⟨w.heap.size, 5, none⟩ = some (.int .u32 (m : Int)) := L0.out.act rfl
  unfold sv at d0 d1 d2 d3 c1 c2 c3 c4 c5
  go_wp2_with (first | (at_builtin; refine wpList_append_s rfl (.tmp 20) (.tmp 23) rfl w _ w.heap.size (L0.out.alloc _).bel (L0.out.alloc _).bel.size (some ⟨w1.heap.size + 1, 0, none⟩) 1 1 ([word k]) rfl (R0.out.alloc _) _ (nl) rfl (cell_new1 _ _ _ _ (by first | rfl | simp)) (by omega) ?_; intro a1 c1' W1 hr hb2 hk2; have L1 := Lib.hid ((L0.out.alloc _).keep hb2 hk2); have R1 := Lib.hid hr; clear hr hb2 hk2 L0 R0 d0 d1 d2 d3 c1 c2 c3 c4 c5; have d0 : W1.cell? ⟨w1.heap.size, 0, none⟩ = some (.bool true) := L1.out.its rfl; have d1 : W1.cell? ⟨w1.heap.size, 1, none⟩ = some (.bool false) := L1.out.its rfl; have d2 : W1.cell? ⟨w1.heap.size, 2, none⟩ = some (.bool false) := L1.out.its rfl; have d3 : W1.cell? ⟨w1.heap.size, 3, none⟩ = some (.bool true) := L1.out.its rfl; have c1 : W1.cell? ⟨w.heap.size, 1, none⟩ = some (.int .i64 n) := L1.out.act rfl; have c2 : W1.cell? ⟨w.heap.size, 2, none⟩ = some (.bool dn) := L1.out.act rfl; have c3 : W1.cell? ⟨w.heap.size, 3, none⟩ = some (.slice ka keep.length kc) := L1.out.act rfl; have c4 : W1.cell? ⟨w.heap.size, 4, none⟩ = some (sv nl) := L1.out.act rfl; have c5 : W1.cell? ⟨w.heap.size, 5, none⟩ = some (.int .u32 (m : Int)) := L1.out.act rfl) | (refine (itoa_any n _ h0 h1b (HL.out.below L1.out.bel)).mono ?_; rintro e v1 ⟨rfl, hb⟩; have LC := Lib.hid (L1.out.call hb); have RC := Lib.hid (R1.out.call hb); clear hb d0 d1 d2 d3 c1 c2 c3 c4 c5 L1 R1) | (at_builtin; refine wpList_append_s rfl (.tmp 27) (.tmp 31) rfl w _ w.heap.size (LC.out.alloc _).bel (LC.out.alloc _).bel.size a1 2 c1' ([word k] ++ [nl]) rfl (RC.out.alloc _) _ (dec n.toNat) rfl (cell_new1 _ _ _ _ (by first | rfl | simp)) (by omega) ?_; intro a2 c2' W2 hr hb2 hk2; have L2 := Lib.hid ((LC.out.alloc _).keep hb2 hk2); have R2 := Lib.hid hr; clear hr hb2 hk2 LC RC; have d0 : W2.cell? ⟨w1.heap.size, 0, none⟩ = some (.bool true) := L2.out.its rfl; have d1 : W2.cell? ⟨w1.heap.size, 1, none⟩ = some (.bool false) := L2.out.its rfl; have d2 : W2.cell? ⟨w1.heap.size, 2, none⟩ = some (.bool false) := L2.out.its rfl; have d3 : W2.cell? ⟨w1.heap.size, 3, none⟩ = some (.bool true) := L2.out.its rfl; have c1 : W2.cell? ⟨w.heap.size, 1, none⟩ = some (.int .i64 n) := L2.out.act rfl; have c2 : W2.cell? ⟨w.heap.size, 2, none⟩ = some (.bool dn) := L2.out.act rfl; have c3 : W2.cell? ⟨w.heap.size, 3, none⟩ = some (.slice ka keep.length kc) := L2.out.act rfl; have c4 : W2.cell? ⟨w.heap.size, 4, none⟩ = some (sv nl) := L2.out.act rfl; have c5 : W2.cell? ⟨w.heap.size, 5, none⟩ = some (.int .u32 (m : Int)) := L2.out.act rfl) | (refine (hex_any m _ hm (HL.out.below L2.out.bel)).mono ?_; rintro e v2 ⟨rfl, hb⟩; have LC := Lib.hid (L2.out.call hb); have RC := Lib.hid (R2.out.call hb); clear hb d0 d1 d2 d3 c1 c2 c3 c4 c5 L2 R2) | (at_builtin; refine wpList_append_s rfl (.tmp 52) (.tmp 57) rfl w _ w.heap.size (LC.out.alloc _).bel (LC.out.alloc _).bel.size a2 3 c2' ([word k] ++ [nl] ++ [dec n.toNat]) rfl (RC.out.alloc _) _ (hexD m) rfl (cell_new1 _ _ _ _ (by first | rfl | simp)) (by omega) ?_; intro a3 c3' W3 hr hb2 hk2; have L3 := Lib.hid ((LC.out.alloc _).keep hb2 hk2); have R3 := Lib.hid hr; clear hr hb2 hk2 LC RC; have d0 : W3.cell? ⟨w1.heap.size, 0, none⟩ = some (.bool true) := L3.out.its rfl; have d1 : W3.cell? ⟨w1.heap.size, 1, none⟩ = some (.bool false) := L3.out.its rfl; have d2 : W3.cell? ⟨w1.heap.size, 2, none⟩ = some (.bool false) := L3.out.its rfl; have d3 : W3.cell? ⟨w1.heap.size, 3, none⟩ = some (.bool true) := L3.out.its rfl; have c1 : W3.cell? ⟨w.heap.size, 1, none⟩ = some (.int .i64 n) := L3.out.act rfl; have c2 : W3.cell? ⟨w.heap.size, 2, none⟩ = some (.bool dn) := L3.out.act rfl; have c3 : W3.cell? ⟨w.heap.size, 3, none⟩ = some (.slice ka keep.length kc) := L3.out.act rfl; have c4 : W3.cell? ⟨w.heap.size, 4, none⟩ = some (sv nl) := L3.out.act rfl; have c5 : W3.cell? ⟨w.heap.size, 5, none⟩ = some (.int .u32 (m : Int)) := L3.out.act rfl))
  clear d0 d1 d2 d3 c1 c2 c4 c5 c3
  go_loopw [5, 62] (fun l i wr => ∃ (j : Nat) (ao : Option Addr) (co : Nat), j ≤ keep.length ∧ i = .int .i64 (j : Int) ∧ l = .slice ao (4 + j) co ∧ Row wr w.heap.size 9 1 ao (4 + j) co (((word k :: [nl, dec n.toNat, hexD m]) ++ (keep.take j).map fun k => dec k.toNat).map sv) ∧ LineAt w wr w1.heap.size #[.int .i64 k, .int .i64 n, .bool dn, .slice ka keep.length kc, sv nl, .int .u32 (m : Int)] #[.bool true, .bool false, .bool false, .bool true]) (fun _ i _ => keep.length - (intOf i).toNat)
  case atStart => exact ⟨0, _, _, Nat.zero_le _, rfl, rfl, R3.out, L3.out⟩
  case round =>
    clear L3 R3
    obtain ⟨j, ao, co, hj, rfl, rfl, hrow, hlat⟩ := hrel
    have LI := Lib.hid hlat
    have RI := Lib.hid hrow
    clear hlat hrow
    by_cases hlt : j < keep.length
    · obtain ⟨b, o, y, rfl, hbk, hy, hcy⟩ := HRD.out.at_ hlt
      have hcy' : wr.cell? ⟨b, o + j, none⟩ = some (.int .u8 (y.toNat : Int)) := (LI.out.bel.cell (by exact hbk)).trans hcy
      have HT := Lib.hid (take_dec keep j y hy (word k :: [nl, dec n.toNat, hexD m]))
      have hy0 : (0 : Int) ≤ (y.toNat : Int) := by omega
      have hy1 : (y.toNat : Int) ≤ 9223372036854775807 := by have := y.toNat_lt; omega
      clear hcy hy
      go_wp2_with (first | (refine (itoa_any (y.toNat : Int) _ hy0 hy1 (HL.out.below LI.out.bel)).mono ?_; rintro e v9 ⟨rfl, hb⟩; have LC := Lib.hid (LI.out.call hb); have RC := Lib.hid (RI.out.call hb); clear hb LI RI hcy') | (at_builtin; refine wpList_append_s rfl (.tmp 66) (.tmp 70) rfl w _ w.heap.size (LC.out.alloc _).bel (LC.out.alloc _).bel.size ao (4 + j) co ((word k :: [nl, dec n.toNat, hexD m]) ++ (keep.take j).map fun k => dec k.toNat) rfl (RC.out.alloc _) _ (dec (y.toNat : Int).toNat) rfl (cell_new1 _ _ _ _ (by first | rfl | simp)) (by omega) ?_; intro a9 c9 W9 hr hb2 hk2; have LD := Lib.hid ((LC.out.alloc _).keep hb2 hk2); have RD := Lib.hid hr; clear hr hb2 hk2 LC RC))
      go_roundw
      case rel => exact ⟨j + 1, a9, c9, by omega, by go_num, rfl, by rw [← HT.out]; exact RD.out, LD.out⟩
      case measure => simp [intOf]; omega
    · obtain rfl : j = keep.length := by omega
      have RJ := RI
      rw [List.take_length] at RJ
      clear RI hlt hj
      have hn47 : 4 + keep.length ≤ 140737488355328 := by omega
      go_wp2_with (refine (join_any ao (4 + keep.length) co _ _ w.heap.size RJ.out (by simp) (by rw [HG.out]; exact Nat.le_trans hlen (by decide)) hn47).mono ?_; rw [HG.out]; rintro e v9 ⟨rfl, hb⟩; have HB := Lib.hid (Below.next0 LI.out.bel hb); clear hb)
      go_ret
      exact ⟨congrArg (fun s => Ending.returned (Value.string s)) (line_text _), HB.out⟩
end Go.Proofs.YtifdmgloheampaaDoor
namespace Go.Proofs.YtifdmgloheampaaDoor
open Go.RowKit DiskM ScriptM

theorem size_builder : (Tryd.prog.info? 56).map (·.size) = some 2 := by kernel_rfl
theorem lies_builder : liesAt Tryd.prog Tryd.prog.depth 56 (2 / Tryd.prog.cellsOf 56) 0 56 1 = true := by kernel_rfl
abbrev BuildAt (B b : Nat) (p : Value) (l : List UInt8) (w : World) : Prop := Lib.BuilderAt 56 5 B b p (Lib.byteCells l) w

set_option maxHeartbeats 1000000 in
set_option maxRecDepth 100000 in
theorem copy_used (b : Nat) (w : World) (h0 : w.cell? ⟨b, 0, none⟩ = some (.pointer (some ⟨b, 0, none⟩))) :
    Calls Tryd.prog 34 #[.pointer (some ⟨b, 0, none⟩)] w fun e w' => e = .returned (.tuple #[]) ∧ w = w' := by
  obtain ⟨j, hj, _⟩ := Option.map_eq_some_iff.1 size_builder
  go_enter Tryd.func34, Tryd.ntmps34
  go_wp2_with fail
  rw [Lib.run_neq_ptr_same w _ Tryd.underlying54 hj]
  go_wp2_with fail
  go_end0
  exact ⟨rfl, rfl⟩
set_option maxHeartbeats 1000000 in
set_option maxRecDepth 100000 in
theorem copy_fresh (b : Nat) (w : World) (h0 : w.cell? ⟨b, 0, none⟩ = some (.pointer none)) (hsh : w.shape? b = some (56, 2)) (hfz : w.frozen? ⟨b, 0, none⟩ = false) :
    Calls Tryd.prog 34 #[.pointer (some ⟨b, 0, none⟩)] w fun e w' => e = .returned (.tuple #[]) ∧ w' = w.setCell ⟨b, 0, none⟩ (.pointer (some ⟨b, 0, none⟩)) := by
  obtain ⟨j, hj, hjs⟩ := Option.map_eq_some_iff.1 size_builder
  go_enter Tryd.func34, Tryd.ntmps34
  go_wp2_with fail
  rw [Lib.run_to_unsafe w ⟨b, 0, none⟩ Tryd.underlying54 Tryd.underlying83 hj (by rw [hjs]; decide) hsh (Nat.zero_lt_succ 1)]
  simp only [Result.andThen]
  rw [Oper.upon_value]
  go_wp2_with fail
  rw [run_callFunc_extern Tryd.func47 (by kernel_rfl) (by kernel_rfl) (by kernel_rfl) (e := Extern.AbiNoEscape.same) (by kernel_rfl)]
  rw [Lib.run_noEscape]
  simp only [Result.andThen]
  rw [Oper.upon_value]
  go_wp2_with fail
  rw [Lib.run_from_unsafe w ⟨b, 0, none⟩ Tryd.underlying83 Tryd.underlying54 hj hsh lies_builder]
  simp only [Result.andThen]
  rw [Oper.upon_value]
  go_wp2_with fail
  go_end0
  exact ⟨rfl, rfl⟩
theorem copy_any (B b : Nat) (l : List UInt8) (w : World) (h : Lib.IsBuilder 56 5 B b (Lib.byteCells l) w) :
    Calls Tryd.prog 34 #[.pointer (some ⟨b, 0, none⟩)] w fun e w' => e = .returned (.tuple #[]) ∧ BuildAt B b (.pointer (some ⟨b, 0, none⟩)) l w' ∧ Below B w w' ∧ w'.heap.size = w.heap.size := by
  rcases h with h | h
  · refine (copy_fresh b w h.cell0 h.shape h.frozen0).mono ?_
    rintro e w' ⟨rfl, rfl⟩
    exact ⟨rfl, h.used _, (Below.refl B w).setCell (p := ⟨b, 0, none⟩) h.1 _, by simp⟩
  · refine (copy_used b w h.cell0).mono ?_
    rintro e w' ⟨rfl, rfl⟩
    exact ⟨rfl, h, Below.refl B _, rfl⟩
theorem byteCells_app (a b : List UInt8) : Lib.byteCells (a ++ b) = Lib.byteCells a ++ Lib.byteCells b := by simp [Lib.byteCells]

set_option maxHeartbeats 2000000 in
set_option maxRecDepth 100000 in
theorem write_any (B b : Nat) (l t : List UInt8) (w : World) (h : Lib.IsBuilder 56 5 B b (Lib.byteCells l) w) (hlen : l.length + t.length ≤ 140737488355328) (hBw : B ≤ w.heap.size) :
    Calls Tryd.prog 25 #[.pointer (some ⟨b, 0, none⟩), sv t] w fun e w' => e = .returned (.tuple #[.int .i64 (t.length : Int), .nilIface]) ∧ BuildAt B b (.pointer (some ⟨b, 0, none⟩)) (l ++ t) w' ∧ Below B w w' := by
  obtain ⟨i0, hi, hz0, hz1, hz2⟩ := info_parts info_u8
  have HI := Lib.hid h
  clear h
  go_enter Tryd.func25, Tryd.ntmps25
  go_wp2_with (refine (copy_any B b l _ HI.out).mono ?_)
  rintro e w1 ⟨rfl, h1, hb1, hsz⟩
  obtain ⟨hB, v, hbk, hown, hne⟩ := h1
  have hsz1 : B ≤ w1.heap.size := by omega
  have HSZ := Lib.hid hsz
  clear hsz
  have c0 : w1.cell? ⟨b, 0, none⟩ = some (.pointer (some ⟨b, 0, none⟩)) := by rw [Lib.cell_of_heap hbk]; rfl
  have c1 : w1.cell? ⟨b, 1, none⟩ = some v := by rw [Lib.cell_of_heap hbk]; rfl
  have hlt : b < w1.heap.size := (Array.getElem?_eq_some_iff.1 hbk).1
  have HBK := Lib.hid hbk
  have hcl : (Lib.byteCells l).length + (⟨t.toArray⟩ : ByteArray).size ≤ 140737488355328 := by rw [Lib.byteCells_length]; exact hlen
  have hcm : (Lib.byteCells l).length + (⟨t.toArray⟩ : ByteArray).size ≤ maxLen := by unfold maxLen; omega
  clear hbk
  go_wp2_with (at_builtin; refine Lib.wpList_append_own_string _ rfl _ _ 27 9 rfl B 5 i0 Tryd.underlying27 Tryd.underlying9 hi hz0 hz1 hz2 _ _ _ rfl hown ⟨t.toArray⟩ rfl hcm hcl hsz1 ?_)
  intro v' w2 hown' hgrow _
  have hb2 : w2.heap[b]? = some (.cells #[.pointer (some ⟨b, 0, none⟩), v] 56 (0, 0)) := by
    rw [hgrow.block b hlt (fun e => hne e.symm)]
    exact HBK.out
  have d0 : w2.cell? ⟨b, 0, none⟩ = some (.pointer (some ⟨b, 0, none⟩)) := by rw [Lib.cell_of_heap hb2]; rfl
  have d1 : w2.cell? ⟨b, 1, none⟩ = some v := by rw [Lib.cell_of_heap hb2]; rfl
  have f1 : w2.frozen? ⟨b, 1, none⟩ = false := Lib.frozen_of_heap hb2 1
  obtain ⟨ao, n', cap, rfl⟩ : ∃ ao n' cap, v' = .slice ao n' cap := by
    rcases hown'.2 with ⟨hv, _⟩ | ⟨g, cap, cur, hv, _⟩
    · exact ⟨_, _, _, hv⟩
    · exact ⟨_, _, _, hv⟩
  have HE := Lib.hid (And.intro hb2 (And.intro hown' (And.intro hgrow hb1)))
  clear hb2 hown' hgrow hb1 hcl hcm
  go_wp2_with fail
  go_ret2
  obtain ⟨hb2, hown', hgrow, hb1⟩ := HE.out
  refine ⟨rfl, ?_, ?_⟩
  · refine Lib.BuilderAt.put (T := 56) (e := 5) hB hb2 (bs' := Lib.byteCells (l ++ t)) ?_ (by decide)
    rw [byteCells_app]
    have e1 : Lib.strCells ⟨t.toArray⟩ = Lib.byteCells t := rfl
    rw [← e1, List.length_append, Lib.strCells_length]
    exact hown'
  · exact (hb1.grown hgrow (by omega) (fun k hk => (hown.lt k hk).1)).setCell (p := ⟨b, 1, none⟩) hB _

/-! ### a line's length; the line of any right act -/
theorem glue_len : ∀ xs : List (List UInt8), (∀ x ∈ xs, x.length ≤ 16) → (glue xs).length ≤ 17 * xs.length
  | [], _ => by simp [glue]
  | [x], h => by have := h x (by simp); simp only [glue, List.length_singleton]; omega
  | x :: y :: r, h => by
    have h1 := h x (by simp)
    have h2 := glue_len (y :: r) fun z hz => h z (by simp at hz ⊢; right; exact hz)
    show (x ++ 32 :: glue (y :: r)).length ≤ _
    simp only [List.length_append, List.length_cons] at h2 ⊢
    omega
theorem word_len (k : Int) : (word k).length ≤ 16 := by
  unfold word
  repeat (split; · decide)
  decide
theorem right_parts {a : ScriptM.Act} (h : right a = true) : a.keep.length ≤ 8 ∧ (a.kind = 1 ∨ a.kind = 2 ∨ a.kind = 3 ∨ a.kind = 7 → 0 ≤ a.n ∧ a.n ≤ 999999) ∧ (a.kind = 5 → 0 ≤ a.n ∧ a.n ≤ 999999) ∧ (a.kind = 8 → 0 ≤ a.n ∧ a.n ≤ 999999 ∧ a.name.length ≤ 16) ∧ (a.kind ≠ 6 → a.keep = []) := by
  unfold right at h
  have hn : ∀ l : List UInt8, named l = true → l.length ≤ 16 := by
    intro l hl
    unfold named at hl
    simp only [Bool.and_eq_true, decide_eq_true_eq] at hl
    omega
  split at h
  · rename_i hk
    simp only [Bool.and_eq_true, inN, decide_eq_true_eq] at h
    refine ⟨by rw [h.1.1.2]; simp, fun _ => h.1.1.1.1, fun e => by omega, fun e => by omega, fun _ => h.1.1.2⟩
  · split at h
    · rename_i hk
      simp only [Bool.and_eq_true, decide_eq_true_eq] at h
      refine ⟨by rw [h.1.1.2]; simp, fun e => by omega, fun e => by omega, fun e => by omega, fun _ => h.1.1.2⟩
    · split at h
      · rename_i hk
        simp only [Bool.and_eq_true, inN, decide_eq_true_eq] at h
        refine ⟨by rw [h.1.1.2]; simp, fun e => by omega, fun _ => h.1.1.1, fun e => by omega, fun _ => h.1.1.2⟩
      · split at h
        · rename_i hk
          simp only [Bool.and_eq_true, decide_eq_true_eq] at h
          refine ⟨h.2, fun e => by omega, fun e => by omega, fun e => by omega, fun e => absurd hk e⟩
        · split at h
          · rename_i hk
            simp only [Bool.and_eq_true, inN, decide_eq_true_eq] at h
            refine ⟨by rw [h.1.1.2]; simp, fun e => by omega, fun e => by omega, fun _ => ⟨h.1.1.1.1.1, h.1.1.1.1.2, hn _ h.1.2⟩, fun _ => h.1.1.2⟩
          · cases h
theorem shown_len {a : ScriptM.Act} (h : right a = true) (hm : a.mask < 4294967296) : (shown a).length ≤ 1000 := by
  obtain ⟨r1, r2, r3, r4, r5⟩ := right_parts h
  have hk := right_kind h
  have hlen : (fields a).length ≤ 13 := by
    simp only [fields, List.cons_append, List.length_cons, List.length_append, List.length_map]
    have : ∀ (c : Prop) [Decidable c] (x : List UInt8), (if c then [x] else []).length ≤ 1 := by intro c _ x; split <;> simp
    have h1 := this (a.kind = 8) a.name
    have h2 : (if hasN a.kind then [dec a.n.toNat] else []).length ≤ 1 := by split <;> simp
    have h3 := this (a.kind = 5) (if a.done then doneW else lostW)
    have h4 := this (a.kind = 8) (hexD a.mask)
    omega
  have hall : ∀ x ∈ fields a, x.length ≤ 16 := by
    intro x hx
    simp only [fields, List.cons_append, List.mem_cons, List.mem_append, List.mem_map] at hx
    rcases hx with rfl | (((hx | hx) | hx) | hx) | ⟨k, _, rfl⟩
    · exact word_len _
    · split at hx
      · rename_i e
        rw [List.mem_singleton] at hx; subst hx; exact (r4 e).2.2
      · cases hx
    · split at hx
      · rename_i e
        rw [List.mem_singleton] at hx; subst hx
        have hb : 0 ≤ a.n ∧ a.n ≤ 999999 := by
          have e' : a.kind = 1 ∨ a.kind = 2 ∨ a.kind = 3 ∨ a.kind = 7 ∨ a.kind = 5 ∨ a.kind = 8 := by simpa [hasN, or_assoc] using e
          rcases e' with e | e | e | e | e | e
          · exact r2 (.inl e)
          · exact r2 (.inr (.inl e))
          · exact r2 (.inr (.inr (.inl e)))
          · exact r2 (.inr (.inr (.inr e)))
          · exact r3 e
          · exact ⟨(r4 e).1, (r4 e).2.1⟩
        have := dec_len 6 a.n.toNat (by omega) (by omega)
        omega
      · cases hx
    · split at hx
      · rw [List.mem_singleton] at hx; subst hx
        split <;> decide
      · cases hx
    · split at hx
      · rw [List.mem_singleton] at hx; subst hx
        have := hexD_len 8 a.mask (by omega) (by omega)
        omega
      · cases hx
    · have := k.toNat_lt
      have := dec_len 3 k.toNat (by omega) (by omega)
      omega
  have := glue_len (fields a) hall
  show (glue (fields a)).length ≤ _
  omega
theorem sline_any (x : ActC) (keep : List UInt8) (w : World) (hr : right (x.abs keep) = true) (hm : x.mask < 4294967296) (hkl : keep.length = x.kn) (hrd : Rd w w.heap.size x.ka keep) (hl : Laid w) :
    Calls Tryd.prog 26 #[.agg x.cells] w fun e w' => e = .returned (sv (ScriptM.line (x.abs keep))) ∧ Below w.heap.size w w' := by
  have hlen := Nat.le_trans (shown_len hr hm) (by decide : 1000 ≤ 1000000)
  have hk : 1 ≤ x.kind ∧ x.kind ≤ 8 := right_kind hr
  obtain ⟨r1, r2, r3, r4, r5⟩ := right_parts hr
  have r1 : keep.length ≤ 8 := r1
  by_cases h1 : x.kind = 1 ∨ x.kind = 2 ∨ x.kind = 3 ∨ x.kind = 7
  · exact line_n x keep w h1 (r2 h1).1 (r2 h1).2 hkl r1 hrd hlen hl
  by_cases h4 : x.kind = 4
  · exact line_open x keep w h4 hkl r1 hrd hlen hl
  by_cases h5 : x.kind = 5
  · cases hd : x.done with
    | true => exact line_arm x keep w h5 hd (r3 h5).1 (r3 h5).2 hkl r1 hrd hlen hl
    | false => exact line_lost x keep w h5 hd (r3 h5).1 (r3 h5).2 hkl r1 hrd hlen hl
  by_cases h6 : x.kind = 6
  · exact line_crash x keep w h6 hkl r1 hrd hlen hl
  have h8 : x.kind = 8 := by omega
  exact line_flip x keep w h8 (r4 h8).1 (r4 h8).2.1 hm hkl r1 hrd hlen hl
end Go.Proofs.YtifdmgloheampaaDoor
