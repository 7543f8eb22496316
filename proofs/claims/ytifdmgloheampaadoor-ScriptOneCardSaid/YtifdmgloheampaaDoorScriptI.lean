/- Acts of a script as they lie in memory; the walk of the script's Show. Condition: they lie so; the world is laid. -/
import Derived.Test.YtifdmgloheampaaDoorScriptH
import Derived.Test.YtifdmgloheampaaDoorScriptC
namespace Go.Proofs.YtifdmgloheampaaDoor
open Go.RowKit DiskM ScriptM

/-- an act as a value, and what its Keep reads as -/
structure ActV where
  x : ActC
  keep : List UInt8
def ActV.abs (v : ActV) : ScriptM.Act := v.x.abs v.keep
structure ActV.Ok (v : ActV) (w : World) (B : Nat) : Prop where
  kind : -9223372036854775808 ≤ v.x.kind ∧ v.x.kind ≤ 9223372036854775807
  n : -9223372036854775808 ≤ v.x.n ∧ v.x.n ≤ 9223372036854775807
  len : v.keep.length = v.x.kn
  most : v.x.kn ≤ 9223372036854775807
  nm : v.x.nm.size ≤ 9223372036854775807
  rd : Rd w B v.x.ka v.keep
  mask : v.x.mask < 4294967296
theorem ActV.Ok.below {v : ActV} {w w' : World} {B : Nat} (h : v.Ok w B) (hb : Below B w w') : v.Ok w' B := ⟨h.kind, h.n, h.len, h.most, h.nm, h.rd.below hb, h.mask⟩
theorem ActV.Ok.up {v : ActV} {w : World} {B B' : Nat} (h : v.Ok w B) (hB : B ≤ B') : v.Ok w B' := ⟨h.kind, h.n, h.len, h.most, h.nm, h.rd.more hB, h.mask⟩
theorem ActV.Ok.call {v : ActV} {w w' : World} (h : v.Ok w w.heap.size) (hb : Below w.heap.size w w') : v.Ok w' w'.heap.size := (h.below hb).up hb.size
/-- a slice of acts -/
def RdV (w : World) (B : Nat) (a : Option Addr) (xs : List ActV) : Prop := xs = [] ∨ ∃ b o, a = some ⟨b, o, none⟩ ∧ b < B ∧ ∀ (j : Nat) v, xs[j]? = some v → (∀ (i : Nat) u, v.x.cells[i]? = some u → w.cell? ⟨b, o + j * 6 + i, none⟩ = some u) ∧ v.Ok w B
section
variable {w w' : World} {B B' : Nat} {a : Option Addr} {xs : List ActV}
theorem RdV.at_ (h : RdV w B a xs) {j : Nat} {v : ActV} (hx : xs[j]? = some v) : ∃ b o, a = some ⟨b, o, none⟩ ∧ b < B ∧ (∀ (i : Nat) u, v.x.cells[i]? = some u → w.cell? ⟨b, o + j * 6 + i, none⟩ = some u) ∧ v.Ok w B := by
  rcases h with rfl | ⟨b, o, rfl, hb, hc⟩
  · simp at hx
  · exact ⟨b, o, rfl, hb, (hc j v hx).1, (hc j v hx).2⟩
theorem RdV.below (h : RdV w B a xs) (hb : Below B w w') : RdV w' B a xs := by
  rcases h with rfl | ⟨b, o, rfl, hl, hc⟩
  · exact .inl rfl
  · refine .inr ⟨b, o, rfl, hl, fun j x hx => ?_⟩
    obtain ⟨h1, h2⟩ := hc j x hx
    exact ⟨fun i v hv => (hb.cell (p := ⟨b, o + j * 6 + i, none⟩) hl).trans (h1 i v hv), h2.below hb⟩
theorem RdV.more (h : RdV w B a xs) (hB : B ≤ B') : RdV w B' a xs := by
  rcases h with rfl | ⟨b, o, rfl, hl, hc⟩
  · exact .inl rfl
  · exact .inr ⟨b, o, rfl, by omega, fun j x hx => ⟨(hc j x hx).1, (hc j x hx).2.up hB⟩⟩
theorem RdV.step (h : RdV w w.heap.size a xs) (hb : Below w.heap.size w w') : RdV w' w'.heap.size a xs := (h.below hb).more hb.size
end
theorem BuildAt.call {B b : Nat} {p : Value} {l : List UInt8} {w w' : World} (h : BuildAt B b p l w) (hb : Below w.heap.size w w') : BuildAt B b p l w' := by
  obtain ⟨hB, v, hbk, hown, hne⟩ := h
  refine ⟨hB, v, (hb.block _ (Array.getElem?_eq_some_iff.1 hbk).1).trans hbk, ⟨hown.1, ?_⟩, hne⟩
  rcases hown.2 with h2 | ⟨g, cap, cur, hv, hg, hh, hr⟩
  · exact .inl h2
  · exact .inr ⟨g, cap, cur, hv, hg, (hb.block g (Array.getElem?_eq_some_iff.1 hh).1).trans hh, hr⟩
/-- a builder of the call's own -/
def Build (B b : Nat) (l : List UInt8) (w : World) : Prop := Lib.IsBuilder 56 5 B b (Lib.byteCells l) w
theorem Build.call {B b : Nat} {l : List UInt8} {w w' : World} (h : Build B b l w) (hb : Below w.heap.size w w') : Build B b l w' := by
  rcases h with h | h
  · exact .inl (BuildAt.call h hb)
  · exact .inr (BuildAt.call h hb)
theorem Build.new (B : Nat) (w : World) (hB : B ≤ w.heap.size) : Build B w.heap.size [] (w.alloc (.cells #[.pointer none, .slice none 0 0] 56)) :=
  .inl ⟨hB, _, heap_alloc_new _ _, ⟨rfl, .inl ⟨rfl, rfl⟩⟩, by simp [Value.ownBlock]⟩
/-- a script's text -/
def showM (xs : List ScriptM.Act) : List UInt8 := if xs.all right = true then (xs.map ScriptM.line).flatten else []
theorem line_len {a : ScriptM.Act} (h : right a = true) (hm : a.mask < 4294967296) : (ScriptM.line a).length ≤ 1001 := by
  have := shown_len h hm
  unfold ScriptM.line
  simp only [List.length_append, List.length_singleton]; omega
theorem lines_snoc (xs : List ActV) (j : Nat) (v : ActV) (h : xs[j]? = some v) : ((xs.take (j + 1)).map fun v => ScriptM.line v.abs).flatten = ((xs.take j).map fun v => ScriptM.line v.abs).flatten ++ ScriptM.line v.abs := by
  rw [List.take_add_one, h]; simp
theorem show_false (xs : List ActV) (j : Nat) (v : ActV) (h : xs[j]? = some v) (hr : right v.abs = false) : showM (xs.map ActV.abs) = [] := by
  unfold showM
  rw [if_neg]
  intro hall
  have := List.all_eq_true.1 hall v.abs (List.mem_map_of_mem (List.mem_of_getElem? h))
  rw [hr] at this; cases this
theorem show_true (xs : List ActV) (h : ∀ v ∈ xs, right v.abs = true) : showM (xs.map ActV.abs) = (xs.map fun v => ScriptM.line v.abs).flatten := by
  unfold showM
  rw [if_pos]
  · rw [List.map_map]; rfl
  · rw [List.all_eq_true]
    intro a ha
    obtain ⟨v, hv, rfl⟩ := List.mem_map.1 ha
    exact h v hv
set_option maxRecDepth 100000 in
set_option maxHeartbeats 4000000 in
theorem show_any (a : Option Addr) (n c : Nat) (xs : List ActV) (w : World) (hn : xs.length = n) (hm : n ≤ 1000000) (h : RdV w w.heap.size a xs) (hl : Laid w) :
    Calls Tryd.prog 14 #[.slice a n c] w fun e w' => e = .returned (sv (showM (xs.map ActV.abs))) ∧ Below w.heap.size w w' := by
  have H := Lib.hid h
  have HN := Lib.hid hn
  have HL := Lib.hid hl
  clear h hn hl
  go_enter Tryd.func14, Tryd.ntmps14
  go_wp2_with fail
  go_loopw [8] (fun i wr => ∃ (j : Nat), j ≤ n ∧ i = .int .i64 (j : Int) ∧ (∀ v ∈ xs.take j, right v.abs = true) ∧ Build w.heap.size w.heap.size (((xs.take j).map fun v => ScriptM.line v.abs).flatten) wr ∧ (((xs.take j).map fun v => ScriptM.line v.abs).flatten).length ≤ 1001 * j ∧ Below w.heap.size w wr) (fun i _ => n - (intOf i).toNat)
  case atStart => exact ⟨0, Nat.zero_le _, rfl, by simp, Build.new _ _ (Nat.le_refl _), by simp, (Below.refl _ _).alloc (Nat.le_refl _) _⟩
  case round =>
    obtain ⟨j, hj, rfl, hall, hbu, hlen, hbel⟩ := hrel
    by_cases hlt : j < n
    · obtain ⟨v, hv⟩ : ∃ v, xs[j]? = some v := ⟨_, List.getElem?_eq_getElem (by rw [HN.out]; exact hlt)⟩
      obtain ⟨b, o, rfl, hb, hc, hok⟩ := (H.out.below hbel).at_ hv
      obtain ⟨⟨kd, vn, dn, ka, kn, kc, nm, m⟩, keep⟩ := v
      have k0 : wr.cell? ⟨b, o + j * 6, none⟩ = some (.int .i64 kd) := hc 0 _ rfl
      have k1 : wr.cell? ⟨b, o + j * 6 + 1, none⟩ = some (.int .i64 vn) := hc 1 _ rfl
      have k2 : wr.cell? ⟨b, o + j * 6 + 2, none⟩ = some (.bool dn) := hc 2 _ rfl
      have k3 : wr.cell? ⟨b, o + j * 6 + 3, none⟩ = some (.slice ka kn kc) := hc 3 _ rfl
      have k4 : wr.cell? ⟨b, o + j * 6 + 4, none⟩ = some (.string nm) := hc 4 _ rfl
      have k5 : wr.cell? ⟨b, o + j * 6 + 5, none⟩ = some (.int .u32 (m : Int)) := hc 5 _ rfl
      have HH := Lib.hid (And.intro hall (And.intro hbu (And.intro hbel (And.intro hok hv))))
      have hlt' : (j : Int) < (n : Int) := by omega
      clear hall hbu hbel hok hv hc
      obtain ⟨X, hX⟩ : ∃ X : ActC, X = ⟨kd, vn, dn, ka, kn, kc, nm, m⟩ := ⟨_, rfl⟩
      have hcells : X.cells = #[.int .i64 kd, .int .i64 vn, .bool dn, .slice ka kn kc, .string nm, .int .u32 (m : Int)] := by rw [hX]; rfl
      rw [← hX] at HH
      obtain ⟨hall, hbu, hbel, hok, hv⟩ := HH.out
      have hrw : rightB X = right (ActV.abs ⟨X, keep⟩) := rightB_right X keep hok.len
      have hw1 : wr.heap.size < (wr.alloc (.cells X.cells 30)).heap.size := by simp
      have hbx : (wr.alloc (.cells X.cells 30)).heap[wr.heap.size]? = some (.cells X.cells 30 (0, 0)) := heap_alloc_new _ _
      have HBX := Lib.hid (And.intro hw1 hbx)
      have HO := Lib.hid hok
      rw [hcells] at HBX
      have hrt := fun w => sright_any X w hok.nm hok.most
      rw [hcells] at hrt
      clear hw1 hbx hall hbu hbel hv hX
      cases hR : rightB X with
      | false =>
        have hrd : right (ActV.abs ⟨X, keep⟩) = false := by rw [← hrw]; exact hR
        rw [hR] at hrt
        have HRT := Lib.hid hrt
        have HS := Lib.hid (show_false xs j ⟨X, keep⟩ HH.out.2.2.2.2 hrd)
        clear hrd hrw hrt hR hok hcells
        go_wp2_with (refine (HRT.out _).mono ?_; rintro e w1 ⟨rfl, hb1⟩)
        go_ret
        refine ⟨by rw [HS.out]; rfl, Below.next0 HH.out.2.2.1 (((Below.refl _ _).alloc (Nat.le_refl _) _).trans (hb1.mono ?_))⟩
        exact Nat.le_of_lt HBX.out.1
      | true =>
        have hrd : right (ActV.abs ⟨X, keep⟩) = true := by rw [← hrw]; exact hR
        rw [hR] at hrt
        have HRT := Lib.hid hrt
        have HRD := Lib.hid hrd
        have hla : ∀ w1, Below wr.heap.size wr w1 → Calls Tryd.prog 26 #[.agg X.cells] w1 fun e w' => e = .returned (sv (ScriptM.line (ActV.abs ⟨X, keep⟩))) ∧ Below w1.heap.size w1 w' := fun w1 hb1 =>
          sline_any X keep w1 hrd hok.mask hok.len ((hok.up HH.out.2.2.1.size).call hb1).rd (HL.out.below (Below.next0 HH.out.2.2.1 hb1))
        rw [hcells] at hla
        have HLA := Lib.hid hla
        have HLL := Lib.hid (line_len hrd hok.mask)
        have HSN := Lib.hid (lines_snoc xs j ⟨X, keep⟩ HH.out.2.2.2.2)
        clear hrd hrw hrt hR hla hok
        go_wp2_with (first | (refine (HRT.out _).mono ?_; rintro e w1 ⟨rfl, hb1⟩; have hb2 : Below wr.heap.size wr w1 := ((Below.refl _ _).alloc (Nat.le_refl _) _).trans (hb1.mono (Nat.le_of_lt HBX.out.1)); have hx2 := (hb1.block _ HBX.out.1).trans HBX.out.2; have q0 : w1.cell? ⟨wr.heap.size, 0, none⟩ = some (.int .i64 kd) := cell_of_row _ _ 0 _ _ _ hx2; have q1 : w1.cell? ⟨wr.heap.size, 1, none⟩ = some (.int .i64 vn) := cell_of_row _ _ 1 _ _ _ hx2; have q2 : w1.cell? ⟨wr.heap.size, 2, none⟩ = some (.bool dn) := cell_of_row _ _ 2 _ _ _ hx2; have q3 : w1.cell? ⟨wr.heap.size, 3, none⟩ = some (.slice ka kn kc) := cell_of_row _ _ 3 _ _ _ hx2; have q4 : w1.cell? ⟨wr.heap.size, 4, none⟩ = some (.string nm) := cell_of_row _ _ 4 _ _ _ hx2; have q5 : w1.cell? ⟨wr.heap.size, 5, none⟩ = some (.int .u32 (m : Int)) := cell_of_row _ _ 5 _ _ _ hx2; have HB2 := Lib.hid hb2; clear hb1 hb2 hx2 k0 k1 k2 k3 k4 k5) | (refine (HLA.out _ HB2.out).mono ?_; rintro e w2 ⟨rfl, hb3⟩; have hb4 : Below wr.heap.size wr w2 := Below.next0 HB2.out hb3; have hbu2 := HH.out.2.1.call hb4; have hbel2 := Below.next0 HH.out.2.2.1 hb4; have HB4 := Lib.hid (And.intro hbu2 hbel2); have h48 : (((xs.take j).map fun v => ScriptM.line v.abs).flatten).length + (ScriptM.line (ActV.abs ⟨X, keep⟩)).length ≤ 140737488355328 := (by have := HLL.out; omega); clear hb3 hb4 hbu2 hbel2 q0 q1 q2 q3 q4 q5) | (refine (write_any w.heap.size w.heap.size _ _ _ HB4.out.1 h48 HB4.out.2.size).mono ?_; rintro e w3 ⟨rfl, hbw, hb5⟩))
        go_roundw
        case rel =>
          refine ⟨j + 1, by omega, by go_num, ?_, ?_, ?_, HB4.out.2.trans hb5⟩
          · intro v hv
            rw [List.take_add_one, HH.out.2.2.2.2] at hv
            rcases List.mem_append.1 hv with hv | hv
            · exact HH.out.1 v hv
            · rw [Option.toList_some, List.mem_singleton] at hv
              rw [hv]; exact HRD.out
          · rw [HSN.out]; exact .inr hbw
          · rw [HSN.out, List.length_append]
            have := HLL.out
            omega
        case measure => simp [intOf]; omega
    · obtain rfl : j = n := by omega
      rw [List.take_of_length_le (by rw [HN.out]; exact Nat.le_refl _)] at hall hbu
      have HS := Lib.hid (show_true xs hall)
      have HB := Lib.hid (And.intro hbu hbel)
      clear hall hbu hbel hlen
      go_wp2_with (refine (Tryd.Builder_String_any w.heap.size w.heap.size _ _ HB.out.1 HB.out.2.size).mono ?_; rintro e w3 ⟨rfl, hb5⟩)
      go_ret
      exact ⟨by rw [HS.out]; rfl, HB.out.2.trans hb5⟩
end Go.Proofs.YtifdmgloheampaaDoor
