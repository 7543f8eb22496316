/- The document's numbers as rows of 32 bits: how such a row lies in memory; the walks of trim, Part, Decimal. Condition: they lie so; lengths are small. -/
/- The walk of the document's Decimal: the decimal digits of a natural number. Condition: it lies as a row of 32 bits; its length is small. -/
import Derived.Test.YtmocmkfpblakbaaDoorNatM
import Derived.Test.YtmocmkfpblakbaaDoorNumR
import Derived.Deep.LoopGhost
import Derived.Deep.OwnRows
import Derived.Deep.RegionHeldLaw
import Derived.Deep.DrawnRows
namespace Go.Proofs.YtmocmkfpblakbaaDoor
open Go.RowKit NatM

/-- a number as a value of a kind -/
abbrev nv3 (k : IntKind) (m : Nat) : Value := .int k (m : Int)
/-- a slice that begins at a reads as these numbers, below block B -/
def RdN (k : IntKind) (w : World) (B : Nat) (a : Option Addr) (ms : List Nat) : Prop := ms = [] ∨ ∃ b o, a = some ⟨b, o, none⟩ ∧ b < B ∧ ∀ (j : Nat) m, ms[j]? = some m → w.cell? ⟨b, o + j, none⟩ = some (nv3 k m)
section
variable {k : IntKind} {w w' : World} {B B' : Nat} {a : Option Addr} {ms : List Nat}
theorem RdN.at_ (h : RdN k w B a ms) {j m : Nat} (hm : ms[j]? = some m) : ∃ b o, a = some ⟨b, o, none⟩ ∧ b < B ∧ w.cell? ⟨b, o + j, none⟩ = some (.int k (m : Int)) := by
  rcases h with rfl | ⟨b, o, rfl, hb, hc⟩
  · simp at hm
  · exact ⟨b, o, rfl, hb, hc j m hm⟩
theorem RdN.below (h : RdN k w B a ms) (hb : Below B w w') : RdN k w' B a ms := by
  rcases h with rfl | ⟨b, o, rfl, hl, hc⟩
  · exact .inl rfl
  · exact .inr ⟨b, o, rfl, hl, fun j m hm => (hb.cell (p := ⟨b, o + j, none⟩) hl).trans (hc j m hm)⟩
theorem RdN.more (h : RdN k w B a ms) (hB : B ≤ B') : RdN k w B' a ms := by
  rcases h with rfl | ⟨b, o, rfl, hl, hc⟩
  · exact .inl rfl
  · exact .inr ⟨b, o, rfl, by omega, hc⟩
theorem RdN.step (h : RdN k w w.heap.size a ms) (hb : Below w.heap.size w w') : RdN k w' w'.heap.size a ms := (h.below hb).more hb.size
theorem RdN.take (h : RdN k w B a ms) (n : Nat) : RdN k w B a (ms.take n) := by
  rcases h with rfl | ⟨b, o, rfl, hl, hc⟩
  · exact .inl (by simp)
  · refine .inr ⟨b, o, rfl, hl, fun j m hm => hc j m ?_⟩
    rw [List.getElem?_take] at hm
    split at hm
    · exact hm
    · cases hm
end
/-- a text's value -/
abbrev sv (l : List UInt8) : Value := .string ⟨l.toArray⟩
theorem RdI.rdN {k : IntKind} {w : World} {B : Nat} {a : Option Addr} {ms : List Nat} (h : RdI k w B a ms) : RdN k w B a ms := h
theorem RdN.rdI {k : IntKind} {w : World} {B : Nat} {a : Option Addr} {ms : List Nat} (h : RdN k w B a ms) : RdI k w B a ms := h
theorem Row.rdN {k : IntKind} {w : World} {B : Nat} {e : TypeId} {a : Option Addr} {n c : Nat} {ms : List Nat} (h : Row w B e 1 a n c (ms.map (nv3 k))) : RdN k w w.heap.size a ms := by
  by_cases h0 : ms = []
  · exact .inl h0
  · obtain ⟨m, hm⟩ : ∃ m, ms[0]? = some m := by
      cases ms with
      | nil => exact absurd rfl h0
      | cons m r => exact ⟨m, rfl⟩
    obtain ⟨g, rfl, _, hg, _⟩ := h.at_ (j := 0) (x := nv3 k m) (by rw [List.getElem?_map, hm]; rfl)
    refine .inr ⟨g, 0, rfl, hg, fun j x hx => ?_⟩
    obtain ⟨g', e, _, _, hc⟩ := h.at_ (j := j) (x := nv3 k x) (by rw [List.getElem?_map, hx]; rfl)
    injection e with e; injection e with e
    subst e
    rw [Nat.zero_add]; exact hc
theorem slice_hm32 (w : World) (a : Option Addr) (n c k : Nat) (h : k ≤ c) : (Instr.slice 32 (.slice a n c) none (some (.int .i64 (k : Int))) (some (.int .i64 (k : Int)))).run Tryd.prog w = .ok (.slice a k k) w := by
  have ht : Tryd.prog.underlying 32 = some (.slice (Tryd.prog.elem 32)) := by kernel_rfl
  have hs : (sizeOf (Tryd.prog.elem 32)).run Tryd.prog w = .ok 1 w := by kernel_rfl
  rw [run_slice_hm w _ a n c ht .i64 .i64 (k : Int) (k : Int) (by omega) (by omega) (by omega), hs]
  show Result.ok (Value.slice (cutA a ((k : Int).toNat) 0 1) _ _) w = _
  rw [cutA_zero, Int.toNat_natCast, Nat.sub_zero]
set_option maxRecDepth 100000 in
theorem reftrim_any (a : Option Addr) (n c : Nat) (ms : List Nat) (w : World) {B : Nat} (hn : ms.length = n) (hc : n ≤ c) (hc' : c ≤ 9223372036854775807) (h : RdN .u32 w B a ms) :
    Calls Tryd.prog 22 #[.slice a n c] w fun e w' => e = .returned (.slice a (trimL ms).length (trimL ms).length) ∧ w = w' := by
  have H := Lib.hid h
  have HN := Lib.hid hn
  clear h hn
  go_enter Tryd.func22, Tryd.ntmps22
  go_wp2_with fail
  go_loop [3] (fun v => ∃ i : Nat, v = .int .i64 (i : Int) ∧ i ≤ n ∧ trimL ms = trimL (ms.take i)) (fun v => (intOf v).toNat)
  case atStart => exact ⟨n, rfl, Nat.le_refl _, by rw [List.take_of_length_le (by rw [HN.out]; exact Nat.le_refl _)]⟩
  case round =>
    obtain ⟨i, rfl, hi, ht⟩ := hrel
    rcases Nat.eq_zero_or_pos i with rfl | hi0
    · have HT := Lib.hid (show (trimL ms).length = 0 by rw [ht]; rfl)
      have hsl := fun w => slice_hm32 w a n c 0 (by omega)
      clear ht
      go_wp2_with fail
      go_ret
      rw [HT.out]; exact ⟨rfl, rfl⟩
    · obtain ⟨i, rfl⟩ : ∃ i', i = i' + 1 := ⟨i - 1, by omega⟩
      obtain ⟨m, hm⟩ : ∃ m, ms[i]? = some m := ⟨_, List.getElem?_eq_getElem (by rw [HN.out]; omega)⟩
      obtain ⟨b, o, rfl, hb, hcell⟩ := H.out.at_ hm
      have htk : ms.take (i + 1) = ms.take i ++ [m] := by rw [List.take_add_one, hm]; rfl
      have h0 : (0 : Int) ≤ (i : Int) := by omega
      have h1 : (i : Int) < (n : Int) := by omega
      by_cases hz : m = 0
      · subst hz
        have HT := Lib.hid (show trimL ms = trimL (ms.take i) by rw [ht, htk, trim_snoc_zero])
        clear ht htk hm
        go_wp2_with fail
        go_round
        case rel => exact ⟨i, by go_num, by omega, HT.out⟩
        case measure => simp [intOf]
      · have HT := Lib.hid (show (trimL ms).length = i + 1 by rw [ht, htk, trim_snoc m hz, List.length_append, List.length_take_of_le (by rw [HN.out]; omega)]; rfl)
        have hz' : ((m : Int) == 0) = false := by rw [beq_eq_false_iff_ne]; omega
        have hz2 : ¬ ((m : Int) = 0) := by omega
        have hsl := fun w => slice_hm32 w (some ⟨b, o, none⟩) n c (i + 1) (by omega)
        clear ht htk hm
        go_wp2_with fail
        go_ret
        rw [HT.out]; exact ⟨rfl, rfl⟩

theorem info_u32 : (Tryd.prog.info? 23).map (fun i => (i.zero, i.size, i.bytes)) = some (some (.int .u32 0), 1, 4) := by kernel_rfl
theorem and32 (v : Nat) (h : v < 18446744073709551616) : bits BinOp.and IntKind.u64 (v : Int) 4294967295 = ((v % 4294967296 : Nat) : Int) :=
  bits_mask .u64 64 (by decide) (fun n h0 h1 => by rw [IntKind.wrap_u64]; omega) 32 (by decide) (v : Int) (by omega) (by omega)
theorem halves_snoc (ws : List Nat) (i w : Nat) (h : ws[i]? = some w) : halves (ws.take (i + 1)) = halves (ws.take i) ++ [w % 4294967296, w / 4294967296] := by
  rw [List.take_add_one, h]; simp [halves]
set_option maxRecDepth 100000 in
set_option maxHeartbeats 4000000 in
theorem refpart_any (a : Option Addr) (n c : Nat) (ws : List Nat) (w : World) (hn : ws.length = n) (hm : n ≤ 1000000) (h : RdN .u64 w w.heap.size a ws) (hw : ∀ x ∈ ws, x < 18446744073709551616) :
    Calls Tryd.prog 11 #[.slice a n c] w fun e w' => ∃ a' n' c', e = .returned (.slice a' n' c') ∧ n' = (trimL (halves ws)).length ∧ n' ≤ c' ∧ c' ≤ 9223372036854775807 ∧ RdN .u32 w' w'.heap.size a' (trimL (halves ws)) ∧ Below w.heap.size w w' := by
  have H := Lib.hid h
  have HN := Lib.hid hn
  have HWS := Lib.hid hw
  clear h hn hw
  obtain ⟨i0, hi0, hz0, hz1, hz2⟩ := info_parts info_u32
  go_enter Tryd.func11, Tryd.ntmps11
  go_wp2_with fail
  go_loopw [3, 4] (fun v iv wr => ∃ (i : Nat) (ao : Option Addr) (co : Nat), iv = .int .i64 (i : Int) ∧ i ≤ n ∧ v = .slice ao (2 * i) co ∧ Row wr w.heap.size 23 1 ao (2 * i) co ((halves (ws.take i)).map (nv3 .u32)) ∧ Below w.heap.size w wr) (fun _ iv _ => n - (intOf iv).toNat)
  case atStart => exact ⟨0, none, 0, rfl, Nat.zero_le _, rfl, Row.nil_ _ _ _ _, Below.refl _ _⟩
  case round =>
    obtain ⟨i, ao, co, rfl, hi, rfl, hrow, hbel⟩ := hrel
    by_cases hlt : i < n
    · obtain ⟨x, hx⟩ : ∃ x, ws[i]? = some x := ⟨_, List.getElem?_eq_getElem (by rw [HN.out]; omega)⟩
      have hx64 := HWS.out x (List.mem_of_getElem? hx)
      obtain ⟨b, o, rfl, hb, hcell⟩ := (H.out.below hbel).at_ hx
      have HS := Lib.hid (halves_snoc ws i x hx)
      have HB := Lib.hid hbel
      have HR := Lib.hid hrow
      have hown : wr.ownsRow w.heap.size 23 1 (.slice ao (2 * i) co) (2 * i) ((halves (ws.take i)).map (nv3 .u32)) := hrow
      have h0 : (0 : Int) ≤ (i : Int) := by omega
      have h1 : (i : Int) < (n : Int) := by omega
      have hand := and32 x hx64
      have hlow : (((x % 4294967296 : Nat) : Int)) < 4294967296 := by omega
      have hsz := hbel.size
      have e1 : IntKind.u32.wrap ((x : Int) % 4294967296) = (x : Int) % 4294967296 := by rw [IntKind.wrap_u32]; omega
      have e2 : IntKind.u32.wrap ((x : Int) / 4294967296) = (x : Int) / 4294967296 := by rw [IntKind.wrap_u32]; omega
      clear hx hrow hbel
      go_wp2_with fail
      go_region_held_law (fun w' => w'.cell? ⟨b, o + i, none⟩ = some (.int .u64 (x : Int))) (first | go_keep | (rw [hgrow.cell_far _ (by simp; omega) (by rcases Row.form HR.out with ⟨h, _⟩ | ⟨g, cur, h, hg, _⟩ <;> (rw [h]; simp [Value.ownBlock]; try omega))]; assumption))
        ((refine step_append_lies _ (by rfl) _ _ _ (by rfl) w.heap.size 23 i0 _ 1 4 Tryd.underlying32 hi0 hz0 hz1 hz2 rfl (by omega) (.slice ao (2 * i) co) (2 * i) _ (by rfl) ((hown.alloc _).drew)
            ⟨wr.heap.size, 0, none⟩ 2 2 [.int .u32 ((x : Int) % 4294967296), .int .u32 ((x : Int) / 4294967296)] (by rfl) (by rfl) (World.news_of_block (cs := #[.int .u32 ((x : Int) % 4294967296), .int .u32 ((x : Int) / 4294967296)]) (t := 23) (fr := (0, 0)) (heap_alloc_new wr _)) (by simp [Value.oneCell'])
            (by omega) (by unfold maxLen; omega) (by omega) (by simp; omega) (wr.heap.size + 1) (by simp) ?_; intro gg cap w1 hown1 hgrow hat hlt))
      have HO := Lib.hid (And.intro hown1 (And.intro hgrow hat))
      clear hown hown1 hgrow hat e1 e2 hand hlow
      go_wp2_with fail
      go_roundw
      case rel =>
        obtain ⟨g1, g2, g3⟩ := HO.out
        refine ⟨i + 1, some ⟨gg, 0, none⟩, cap, by go_num, by omega, rfl, ?_, ?_⟩
        · rw [HS.out, List.map_append]
          exact g1
        · refine Below.grown (HB.out.alloc hsz _).drew g2 (by simp; omega) fun k hk => ?_
          rcases Row.form HR.out with ⟨h, _⟩ | ⟨g, cur, h, hg, _⟩
          · rw [h] at hk; cases hk
          · rw [h] at hk; simp [Value.ownBlock] at hk; omega
      case measure => simp [intOf]; omega
    · obtain rfl : i = n := by omega
      rw [List.take_of_length_le (by rw [HN.out]; exact Nat.le_refl _)] at hrow
      have hlen : (halves ws).length = 2 * i := by rw [halves_len, HN.out]
      have hcap := hrow.cap
      have hco : co ≤ 9223372036854775807 := hcap.2
      have HB := Lib.hid (And.intro hbel (And.intro hcap.1 hco))
      have HTR := Lib.hid (fun wx (hx : wx = wr) => reftrim_any ao (2 * i) co (halves ws) wx (B := wr.heap.size) hlen hcap.1 hco (by subst hx; exact Row.rdN hrow))
      have HRD := Lib.hid ((Row.rdN hrow).take (trimL (halves ws)).length)
      have HLE := Lib.hid (trim_take (halves ws))
      clear hrow hbel hcap hlen hi hlt hco
      go_wp2_with (refine (HTR.out _ rfl).mono ?_; rintro e w' ⟨rfl, rfl⟩)
      go_ret
      refine ⟨ao, _, _, rfl, rfl, Nat.le_refl _, ?_, ?_, HB.out.1⟩
      · have := trim_len (halves ws)
        rw [halves_len, HN.out] at this
        omega
      · have h2 := HRD.out
        rw [← HLE.out] at h2
        exact h2
end Go.Proofs.YtmocmkfpblakbaaDoor
namespace Go.Proofs.YtmocmkfpblakbaaDoor
open Go.RowKit NatM

theorem or32 (c m : Nat) (hc : c < 4294967296) (hm : m < 4294967296) : bits BinOp.or IntKind.u64 ((c * 4294967296 : Nat) : Int) (m : Int) = ((c * 4294967296 + m : Nat) : Int) := by
  rw [u64_or_nat _ _ (by omega) (by omega)]
  have := Nat.shiftLeft_add_eq_or_of_lt (a := c) (i := 32) (b := m) hm
  rw [Nat.shiftLeft_eq] at this
  rw [show c * 4294967296 = c * 2 ^ 32 from rfl, ← this]
theorem cons_text (d : UInt8) (t : List UInt8) : Value.string ((⟨#[d]⟩ : ByteArray) ++ ⟨t.toArray⟩) = sv (d :: t) := by
  refine congrArg Value.string (ByteArray.ext ?_)
  simp [ByteArray.data_append]
/-- one cell more ahead -/
theorem row_store {w0 w : World} {H j n B : Nat} {T : TypeId} {cs : Array Value} {xs : List Value} (hh : w.heap[H]? = some (.cells cs T (0, 0))) (hs : cs.size = n) (hc : cs.toList.drop (j + 1) = xs) (hj : j < n) (v : Value) (hb : Below B w0 w) (hB : B ≤ H) :
    ∃ cs', (w.setCell ⟨H, j, none⟩ v).heap[H]? = some (.cells cs' T (0, 0)) ∧ cs'.size = n ∧ cs'.toList.drop j = v :: xs ∧ Below B w0 (w.setCell ⟨H, j, none⟩ v) := by
  refine ⟨cs.setIfInBounds j v, heap_setCell_same _ _ _ _ _ _ hh, by simpa using hs, ?_, hb.setCell hB _⟩
  rw [Array.toList_setIfInBounds, List.drop_eq_getElem_cons (by simp; omega), List.getElem_set_self, ← hc]
  rw [List.drop_set_of_lt (by omega)]
theorem drop_one {α : Type} (l : List α) (i : Nat) (m : α) (h : l[i]? = some m) : l.drop i = m :: l.drop (i + 1) := by
  obtain ⟨hi, rfl⟩ := List.getElem?_eq_some_iff.1 h
  exact List.drop_eq_getElem_cons hi
set_option maxRecDepth 100000 in
set_option maxHeartbeats 4000000 in
theorem refdec_any (a : Option Addr) (n c : Nat) (ms : List Nat) (w : World) (hn : ms.length = n) (hm : n ≤ 1000000) (hc : n ≤ c) (hc' : c ≤ 9223372036854775807) (h : RdN .u32 w w.heap.size a ms) (hs : small ms) :
    Calls Tryd.prog 9 #[.slice a n c] w fun e w' => e = .returned (sv (Lib.decDigits (val ms))) ∧ Below w.heap.size w w' := by
  rcases Nat.eq_zero_or_pos n with rfl | hn0
  · obtain rfl : ms = [] := List.length_eq_zero_iff.1 hn
    clear h hs hn
    have HD := Lib.hid (show Lib.decDigits (val []) = [48] by simp [val, Lib.decDigits])
    go_enter Tryd.func9, Tryd.ntmps9
    go_wp2_with fail
    go_ret
    rw [HD.out]
    exact ⟨rfl, Below.refl _ _⟩
  have hn0' : ((n : Int) == 0) = false := by rw [beq_eq_false_iff_ne]; omega
  have hn0'' : ¬ (n : Int) = 0 := by omega
  have H := Lib.hid (And.intro h (And.intro hs hn))
  clear h hs hn
  go_enter Tryd.func9, Tryd.ntmps9
  go_wp2_with fail
  go_loopg [0, 3] (2 * val ms + 1) (fun g mv tv wr => ∃ (k : Nat) (cc : Nat) (ao : Option Addr) (ls : List Nat) (t : List UInt8), mv = .slice ao k cc ∧ tv = sv t ∧ ls.length = k ∧ k ≤ n ∧ k ≤ cc ∧ cc ≤ 9223372036854775807 ∧ RdN .u32 wr wr.heap.size ao ls ∧ small ls ∧ (ls = [] → val ls = 0) ∧
    Lib.decDigits (val ms) = (if ls = [] then [] else Lib.decDigits (val ls)) ++ t ∧ g = 2 * val ls + (if ls = [] then 0 else 1) ∧ Below w.heap.size w wr)
  case atStart =>
    obtain ⟨h, hs, hn⟩ := H.out
    have hne : ms ≠ [] := by intro e; rw [e] at hn; simp at hn; omega
    exact ⟨n, c, a, ms, [], rfl, rfl, hn, Nat.le_refl _, hc, hc', h, hs, fun e => absurd e hne, by rw [if_neg hne]; simp, by rw [if_neg hne], Below.refl _ _⟩
  case round =>
    obtain ⟨k, cc, ao, ls, t, rfl, rfl, hl, hk, hcc, hcc', hrd, hsm, _, hdec, hg, hbel⟩ := hrel
    generalize wr = W1 at *
    rcases Nat.eq_zero_or_pos k with rfl | hk0
    · obtain rfl : ls = [] := List.length_eq_zero_iff.1 hl
      have HD := Lib.hid (show Lib.decDigits (val ms) = t by rw [hdec]; simp)
      have HB := Lib.hid hbel
      clear hdec hg hbel hrd hsm hl
      go_wp2_with fail
      go_ret
      rw [HD.out]; exact ⟨rfl, HB.out⟩
    · have hk0' : (0 : Int) < (k : Int) := by omega
      have HE := Lib.hid (And.intro hrd (And.intro hsm (And.intro hl (And.intro hdec (And.intro hg hbel)))))
      have hmk := run_make_row' (P := Tryd.prog) 32 23 (.int .u32 0) 4 Tryd.underlying32 info_u32 rfl .i64 .i64 k (by omega) (by omega)
      clear hrd hsm hl hdec hg hbel
      go_wp2_with fail
      go_loopw [5, 6] (fun cv iv wx => ∃ (i : Nat) (cs : Array Value), iv = .int .i64 ((i : Int) - 1) ∧ cv = .int .u64 ((div10 (ls.drop i)).2 : Int) ∧ i ≤ k ∧ wx.heap[W1.heap.size]? = some (.cells cs 23 (0, 0)) ∧ cs.size = k ∧ cs.toList.drop i = (div10 (ls.drop i)).1.map (nv3 .u32) ∧ Below W1.heap.size W1 wx) (fun _ iv _ => (intOf iv + 1).toNat)
      case atStart =>
        have hl := HE.out.2.2.1
        refine ⟨k, _, rfl, ?_, Nat.le_refl _, heap_alloc_new _ _, ?_, ?_, (Below.refl _ _).alloc (Nat.le_refl _) _⟩
        · rw [List.drop_eq_nil_of_le (by omega)]; rfl
        · exact size_madeCells _ _
        · rw [List.drop_eq_nil_of_le (by rw [Array.length_toList, size_madeCells]; omega), List.drop_eq_nil_of_le (by omega)]; rfl
      case round =>
        obtain ⟨i, cs, rfl, rfl, hi, hh, hcs, hd, hb⟩ := hrel
        rcases Nat.eq_zero_or_pos i with rfl | hi0
        · obtain ⟨hrd, hsm, hl, hdec, hg, hbel⟩ := HE.out
          have e0 : ls.drop 0 = ls := List.drop_zero
          rw [e0, List.drop_zero] at hd
          rw [e0]
          have hlen := div10_len ls
          have hC10 := div10_rest ls
          have hval := div10_val ls
          have hqs := div10_small hsm
          obtain ⟨⟨qs, C⟩, hq⟩ : ∃ p, div10 ls = p := ⟨_, rfl⟩
          rw [hq] at hd hlen hC10 hval hqs ⊢
          have hd : cs.toList = qs.map (nv3 .u32) := hd
          have hlen : qs.length = ls.length := hlen
          have hC10 : C < 10 := hC10
          have hval : val ls = 10 * val qs + C := hval
          have hqs : small qs := hqs
          have htl : t.length ≤ 10 * n + 1 := by
            obtain ⟨h, hs, hn⟩ := H.out
            have h1 := dec_val_len hs
            rw [hdec, List.length_append, hn] at h1
            omega
          have hrq : ∀ wx, Below wr.heap.size wr wx → RdN .u32 wx wx.heap.size (some ⟨W1.heap.size, 0, none⟩) qs := by
            intro wx hbx
            have hlt := (Array.getElem?_eq_some_iff.1 hh).1
            refine .inr ⟨W1.heap.size, 0, rfl, Nat.lt_of_lt_of_le hlt hbx.size, fun j x hx => ?_⟩
            rw [cell_of_row _ _ _ _ _ _ ((hbx.block _ hlt).trans hh), ← Array.getElem?_toList, hd, List.getElem?_map, Nat.zero_add, hx]
            rfl
          have HH := Lib.hid (And.intro hdec (And.intro hg (And.intro hbel (And.intro hl (And.intro hlen (And.intro hval (And.intro hqs (And.intro hrq hb))))))))
          have HTR := Lib.hid (fun wx (hbx : Below wr.heap.size wr wx) => reftrim_any (some ⟨W1.heap.size, 0, none⟩) k k qs wx (B := wx.heap.size) (by omega) (Nat.le_refl _) (by omega) (hrq wx hbx))
          have hC : (C : Int) < 10 := by omega
          obtain ⟨d, hde⟩ : ∃ d, UInt8.ofNat (48 + C) = d := ⟨_, rfl⟩
          have HD := Lib.hid hde
          clear hrd hsm hl hdec hg hbel hlen hval hqs hrq hb hd hh hcs hq hde
          go_wp2_with fail
          rw [run_string_b _ (wr.heap.size + 1) _ 1 _ [d] ?_ rfl]
          · go_wp2_with (refine (HTR.out _ ((Below.refl _ _).alloc (Nat.le_refl _) _)).mono ?_; rintro e w' ⟨rfl, rfl⟩)
            obtain ⟨hdec, hg, hbel, hl, hlen, hval, hqs, hrq, hb⟩ := HH.out
            have hlsne : ls ≠ [] := by intro e; rw [e] at hl; simp at hl; omega
            rw [if_neg hlsne] at hdec hg
            have hturn := dec_turn (val ms) (val ls) t hdec
            have hmod : val ls % 10 = C := by omega
            have hdiv : val ls / 10 = val qs := by omega
            rw [hmod, hdiv, HD.out] at hturn
            have htz := trim_zero qs
            have hv := val_trim qs
            go_roundg (2 * val (trimL qs) + (if trimL qs = [] then 0 else 1))
            case measure =>
              rw [hv]
              by_cases h0 : trimL qs = []
              · rw [if_pos h0, htz.1 h0]; omega
              · rw [if_neg h0]
                have : val qs ≠ 0 := fun e => h0 (htz.2 e)
                omega
            case rel =>
              refine ⟨(trimL qs).length, (trimL qs).length, _, trimL qs, d :: t, rfl, cons_text d t, rfl, ?_, Nat.le_refl _, ?_, ?_, trim_small hqs, fun e => by rw [e]; rfl, ?_, rfl, ?_⟩
              · have := trim_len qs; omega
              · have := trim_len qs; omega
              · have := (hrq _ ((Below.refl wr.heap.size wr).alloc (Nat.le_refl _) (.cells #[.int .u8 (48 + (C : Int))] 5))).take (trimL qs).length
                rw [← trim_take] at this
                exact this
              · rw [hturn, hv]
                by_cases h0 : trimL qs = []
                · rw [if_pos (htz.1 h0), if_pos h0]
                · rw [if_neg (fun e => h0 (htz.2 e)), if_neg h0]
              · exact (Below.next0 hbel hb).alloc (Nat.le_trans hbel.size hb.size) _
          · refine .inr ⟨wr.heap.size, 0, rfl, by omega, fun j x hx => ?_⟩
            cases j with
            | zero =>
              have hx : some d = some x := hx
              injection hx with hx
              subst hx
              rw [cell_of_row _ _ _ _ _ _ (heap_alloc_new _ _)]
              have : d.toNat = 48 + C := by rw [← HD.out, UInt8.toNat_ofNat']; omega
              unfold bv
              rw [this]
              rfl
            | succ j => cases hx
        · obtain ⟨i, rfl⟩ : ∃ j, i = j + 1 := ⟨i - 1, by omega⟩
          obtain ⟨hrd, hsm, hl, hdec, hg, hbel⟩ := HE.out
          obtain ⟨m, hm⟩ : ∃ m, ls[i]? = some m := ⟨_, List.getElem?_eq_getElem (by omega)⟩
          have hm32 : m < 4294967296 := hsm m (List.mem_of_getElem? hm)
          obtain ⟨b, o, rfl, hbk, hcell0⟩ := hrd.at_ hm
          have hcell : wr.cell? ⟨b, o + i, none⟩ = some (.int .u32 (m : Int)) := (hb.cell (p := ⟨b, o + i, none⟩) hbk).trans hcell0
          have hC10 := div10_rest (ls.drop (i + 1))
          have hstep : div10 (ls.drop i) = (((div10 (ls.drop (i + 1))).2 * base32 + m) / 10 :: (div10 (ls.drop (i + 1))).1, ((div10 (ls.drop (i + 1))).2 * base32 + m) % 10) := by rw [drop_one ls i m hm, div10]
          have hor := or32 (div10 (ls.drop (i + 1))).2 m (by omega) hm32
          obtain ⟨cs', k1, k2, k3, k4⟩ := row_store hh hcs hd (by omega) (.int .u32 (((((div10 (ls.drop (i + 1))).2 * 4294967296 + m) / 10 : Nat) : Int))) hb (Nat.le_refl _)
          obtain ⟨x0, hx0⟩ : ∃ x0, cs[i]? = some x0 := ⟨cs[i]'(by omega), Array.getElem?_eq_getElem (by omega)⟩
          have hcq : wr.cell? ⟨W1.heap.size, i, none⟩ = some x0 := by rw [cell_of_row _ _ i _ _ _ hh]; exact hx0
          have hfr : wr.frozen? ⟨W1.heap.size, i, none⟩ = false := frozen_of_row _ _ _ _ _ hh
          obtain ⟨C, hC⟩ : ∃ C, (div10 (ls.drop (i + 1))).2 = C := ⟨_, rfl⟩
          rw [hC] at hC10 hstep hor k1 k3 k4 ⊢
          have hstep : div10 (ls.drop i) = ((C * 4294967296 + m) / 10 :: (div10 (ls.drop (i + 1))).1, (C * 4294967296 + m) % 10) := hstep
          have hT : C * 4294967296 + m < 42949672960 := by omega
          obtain ⟨T, hTe⟩ : ∃ T, C * 4294967296 + m = T := ⟨_, rfl⟩
          rw [hTe] at hstep hor k1 k3 k4 hT
          have hor : bits BinOp.or IntKind.u64 ((C : Int) * 4294967296) (m : Int) = (T : Int) := by rw [← hor]; congr 1
          have eT : ((T / 10 : Nat) : Int) = (T : Int) / 10 := by omega
          rw [eT] at k1 k3 k4
          have HS := Lib.hid (And.intro hstep (And.intro k1 (And.intro k2 (And.intro k3 k4))))
          have hi0 : (0 : Int) ≤ (i : Int) := by omega
          have hi1 : (i : Int) < (k : Int) := by omega
          have hT1 : (T : Int) / 10 < 4294967296 := by omega
          have hT2 : (0 : Int) ≤ (T : Int) / 10 := by omega
          clear hrd hsm hl hdec hg hbel hm hcell0 hstep k1 k2 k3 k4 hh hcs hd hb hx0 hC hTe eT
          go_wp2_with fail
          go_roundw
          case rel =>
            obtain ⟨g1, g2, g3, g4, g5⟩ := HS.out
            refine ⟨i, cs', rfl, ?_, by omega, g2, g3, ?_, g5⟩
            · rw [g1]
              exact congrArg (Value.int .u64) (by omega)
            · rw [g4, g1]
              exact congrArg (· :: _) (congrArg (Value.int .u32) (by omega))
          case measure => simp [intOf]
end Go.Proofs.YtmocmkfpblakbaaDoor
