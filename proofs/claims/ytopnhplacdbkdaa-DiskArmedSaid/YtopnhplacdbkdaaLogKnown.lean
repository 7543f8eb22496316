/- The walk of the log statements' known answer. No condition. -/
import Derived.Test.YtopnhplacdbkdaaLogWhole
import Derived.Test.YtopnhplacdbkdaaLogHelp
import Derived.Test.YtopnhplacdbkdaaLogMath2
import Derived.Test.YtopnhplacdbkdaaOwnIn
namespace Go.Proofs.Ytopnhplacdbkdaa
open Go.RowKit Go.Shelf
attribute [local go_sem] Oper.semAt_some

theorem put_nil : LogM.put [] = [0, 0, 0, 0, 28, 223, 68, 33, 0, 0, 0, 0] := by decide +kernel
theorem next_put5 : LogM.next (LogM.put [] ++ [5]) = ([], 12, 0) := LogM.next_put [] [5] (by decide)
theorem scan_two : LogM.scan (LogM.put [] ++ LogM.put []) = [(0, []), (12, [])] := by
  have := LogM.scan_cat [[], []] (by simp) [] (by rw [LogM.next_nil]; simp)
  simpa [LogM.catB, LogM.posB] using this

theorem Rd.turned {w w' : World} {B : Nat} {a : Option Addr} {bs : List UInt8} (h : Rd w B a bs) {row : Option Nat} (hg : w.grownBy w' row) (hr : ∀ r, row = some r → ∃ o : Obj, w.heap[r]? = some o ∧ o.isCells = false) : Rd w' B a bs := by
  rcases h with rfl | ⟨b, o, rfl, hb, hc⟩
  · exact .inl rfl
  · exact .inr ⟨b, o, rfl, hb, fun j x hx => cell_kept (hc j x hx) hg hr⟩
theorem known_at {P : List UInt8} (hs : LogM.scan (P ++ P) = [(0, []), (12, [])]) {pre : List Rec} {x : Rec} {W : World} (h : RecOk (P ++ P) pre x W) : x.at_ = 12 * pre.length ∧ x.x = [] ∧ pre.length < 2 := by
  obtain ⟨⟨r, hr⟩, _⟩ := h
  rw [hs] at hr
  rcases pre with _ | ⟨p, pre⟩
  · simp [Rec.pair] at hr
    obtain ⟨⟨h1, h2⟩, _⟩ := hr
    exact ⟨by simpa using h1, h2, by simp⟩
  · rcases pre with _ | ⟨q, pre⟩
    · simp [Rec.pair] at hr
      obtain ⟨_, ⟨h1, h2⟩, _⟩ := hr
      exact ⟨by simp only [List.length_cons, List.length_nil]; omega, h2, by simp⟩
    · have := congrArg List.length hr
      simp at this

set_option maxRecDepth 100000 in
set_option maxHeartbeats 4000000 in
theorem logknown_any (w : World) : Calls Try.prog 24 #[] w fun e w' => e = .returned (.bool true) ∧ Below w.heap.size w w' := by
  refine (callsIn_wide (n := 6)).1 ?_
  refine callsIn_of_wp_marks Try.func24 rfl trivial ?_ rfl
  simp only [Try.ntmps24, List.size_toArray, List.length_nil, Nat.reduceSub, Array.replicate_succ, Array.replicate_zero, List.push_toArray, List.append_toArray, List.nil_append, List.cons_append]
  have hb0 : Below w.heap.size w (w.alloc (.cells #[.bool false] 4)) := (Below.refl _ _).alloc (Nat.le_refl _) _
  have hc0 : (w.alloc (.cells #[.bool false] 4)).cell? ⟨w.heap.size, 0, none⟩ = some (.bool false) := by rw [cell_of_row _ _ _ _ _ _ (heap_alloc_new _ _)]; rfl
  have hf0 : (w.alloc (.cells #[.bool false] 4)).frozen? ⟨w.heap.size, 0, none⟩ = false := frozen_of_row _ _ _ _ _ (heap_alloc_new _ _)
  gi_wp2_with fail
  refine ⟨trivial, ?_⟩
  refine (callsIn_wide.2 (put_any none 0 0 [] _ rfl (by omega) (.inl rfl))).mono ?_
  rintro e w1 ⟨a1, c1, rfl, ho1, hb1⟩
  have hc1 := (hb1.cell (p := ⟨w.heap.size, 0, none⟩) (by simp)).trans hc0
  have hf1 := (hb1.frozen (p := ⟨w.heap.size, 0, none⟩) (by simp)).trans hf0
  have hB1 := Below.next0 hb0 hb1
  have hr1 := ho1.rd
  have hs1 : w.heap.size < w1.heap.size := by have := hb1.size; simp at this; omega
  have hcap1 := ho1.cap
  have hL : (LogM.put []).length = 12 := LogM.put_length []
  have HS2 := Lib.hid scan_two
  have HN5 := Lib.hid next_put5
  have HPN := Lib.hid put_nil
  generalize LogM.put [] = P at *
  have HL := Lib.hid hL
  clear hc0 hf0 hb1 hb0 hL
  -- append onto an empty row, then one byte more
  have hlit := Own.lit (B := w1.heap.size) (bs := []) w1 (Nat.le_refl _) #[] rfl (by simp)
  have hbl : Below w1.heap.size w1 (w1.alloc (.cells #[] 5)) := (Below.refl _ _).alloc (Nat.le_refl _) _
  have hrl := hr1.below hbl
  gi_wp2_with (first
    | (gi_at_builtin; refine wpListIn_append_b rfl (.tmp 17) (.tmp 18) rfl w1 _ w1.heap.size hbl hbl.size _ 0 0 [] rfl hlit _ a1 12 c1 P rfl hrl HL.out 12 (by omega) (by omega) ?_; intro a2 c2 w2 ho2 hg2 hb2 hat2; have ho2a := ho2.alloc (.cells #[.int .u8 5] 5); have hr5 := Rd.new w2 #[.int .u8 5] 5 (0, 0) [5] rfl; have hb2a := hb2.alloc hb2.size (.cells #[.int .u8 5] 5))
    | (gi_at_builtin; refine wpListIn_append_b rfl (.tmp 19) (.tmp 20) rfl w1 _ w1.heap.size hb2a hb2a.size _ 12 c2 ([] ++ P) rfl ho2a _ (some ⟨w2.heap.size, 0, none⟩) 1 1 [5] rfl hr5 rfl 13 (by omega) (by omega) ?_; intro a3 c3 w3 ho3 hg3 hb3 hat3; have hr3 := ho3.rd; have hc3 := ho3.cap; have hl3 := ho3.len; have HL3 := Lib.hid hl3; clear hl3))
  refine ⟨trivial, ?_⟩
  unfold maxLen at hc3 hcap1
  rw [List.nil_append] at hr3 HL3
  refine (callsIn_wide.2 (lognext_any a3 13 c3 (P ++ [5]) w3 HL3.out (by omega) hc3.1 hc3.2 hr3)).mono ?_
  rw [HN5.out]
  rintro e w4 ⟨a4, c4, rfl, ho4, hb4⟩
  have hB4 : Below w1.heap.size w1 w4 := Below.next0 hb3 hb4
  clear ho4 hb4 hb3 hr3 HL3 ho3 hg3 hat3 hb2a hr5 ho2a hg2 hb2 hat2 ho2 hrl hbl hlit
  gi_wp2_with fail
  refine ⟨trivial, ?_⟩
  refine (callsIn_wide.2 (lognext_any none 0 0 [] w4 rfl (by omega) (by omega) (by omega) (.inl rfl))).mono ?_
  rw [LogM.next_nil]
  rintro e w5 ⟨a5, c5, rfl, ho5, hb5⟩
  have hB5 : Below w1.heap.size w1 w5 := Below.next0 hB4 hb5
  clear ho5 hb5 hB4
  -- the counter's box
  have hcK : (w5.alloc (.cells #[.int .i64 0] 3)).cell? ⟨w5.heap.size, 0, none⟩ = some (.int .i64 0) := by rw [cell_of_row _ _ _ _ _ _ (heap_alloc_new _ _)]; rfl
  have hfK : (w5.alloc (.cells #[.int .i64 0] 3)).frozen? ⟨w5.heap.size, 0, none⟩ = false := frozen_of_row _ _ _ _ _ (heap_alloc_new _ _)
  have hbK : Below w1.heap.size w1 (w5.alloc (.cells #[.int .i64 0] 3)) := hB5.alloc hB5.size _
  have hlit : Own ((w5.alloc (.cells #[.int .i64 0] 3)).alloc (.cells #[] 5)) (w5.heap.size + 1) (some ⟨w5.heap.size + 1, 0, none⟩) 0 0 [] := by
    have := Own.lit (B := w5.heap.size + 1) (bs := []) (w5.alloc (.cells #[.int .i64 0] 3)) (by simp) #[] rfl (by simp)
    rwa [World.size_alloc] at this
  have hbl : Below (w5.heap.size + 1) (w5.alloc (.cells #[.int .i64 0] 3)) ((w5.alloc (.cells #[.int .i64 0] 3)).alloc (.cells #[] 5)) := (Below.refl _ _).alloc (by simp) _
  have hr6 : Rd (w5.alloc (.cells #[.int .i64 0] 3)) w1.heap.size a1 P := hr1.below hbK
  have h15 : w1.heap.size ≤ w5.heap.size := hB5.size
  have hr6m : Rd (w5.alloc (.cells #[.int .i64 0] 3)) (w5.heap.size + 1) a1 P := hr6.more (by omega)
  have hrl := hr6m.below hbl
  gi_wp2_with (first
    | (gi_at_builtin; refine wpListIn_append_b rfl (.tmp 38) (.tmp 39) rfl (w5.alloc (.cells #[.int .i64 0] 3)) _ (w5.heap.size + 1) hbl (by simp) _ 0 0 [] rfl hlit _ a1 12 c1 P rfl hrl HL.out 12 (by omega) (by omega) ?_; intro a7 c7 w7 ho7 hg7 hb7 hat7; have hr7 := hr6m.below hb7; have hs7 := hb7.size; rw [World.size_alloc] at hs7)
    | (gi_at_builtin; refine wpListIn_append_b rfl (.tmp 40) (.tmp 41) rfl (w5.alloc (.cells #[.int .i64 0] 3)) _ (w5.heap.size + 1) hb7 hs7 _ 12 c7 ([] ++ P) rfl ho7 _ a1 12 c1 P rfl hr7 HL.out 24 (by omega) (by omega) ?_; intro a8 c8 w8 ho8 hg8 hb8 hat8; have hr8 := ho8.rd; have hl8 := ho8.len; have HL8 := Lib.hid hl8; clear hl8))
  refine ⟨trivial, ?_⟩
  rw [List.nil_append] at hr8 HL8
  refine (callsIn_wide.2 (all_any a8 24 c8 (P ++ P) w8 HL8.out (by omega) hr8)).mono ?_
  rintro e w9 ⟨a9, c9, rfl, hbx, ho9, hb9, hsz9⟩
  have hs8 := hb8.size
  rw [World.size_alloc] at hs8
  have hB9 : Below (w5.heap.size + 1) (w5.alloc (.cells #[.int .i64 0] 3)) w9 := hb8.trans (hb9.mono hs8)
  have hcK9 := (hB9.cell (p := ⟨w5.heap.size, 0, none⟩) (by simp)).trans hcK
  have hfK9 := (hB9.frozen (p := ⟨w5.heap.size, 0, none⟩) (by simp)).trans hfK
  have hB9w : Below w1.heap.size w1 w9 := hbK.trans (hB9.mono (by omega))
  have hr9 : Rd w9 w1.heap.size a1 P := hr1.below hB9w
  have hcR := (hB9w.cell (p := ⟨w.heap.size, 0, none⟩) hs1).trans hc1
  have hfR := (hB9w.frozen (p := ⟨w.heap.size, 0, none⟩) hs1).trans hf1
  have hBw : Below w.heap.size w w9 := Below.next0 hB1 hB9w
  have hk89 : w5.heap.size < w8.heap.size := by omega
  have hs9 : w8.heap.size ≤ w9.heap.size := hb9.size
  clear hlit hbl hrl hr6 hr6m ho7 hg7 hb7 hat7 hr7 ho8 hg8 hat8 hr8 hcK hfK hbK hb9
  gi_wp2_with fail
  refine wpIn_range_ok rfl (by omega) (gf := 67) (lb := #[.pointer (some ⟨w8.heap.size, 0, none⟩)]) rfl trivial (enters_of Try.func67 (by kernel_rfl) rfl)
    (all_stops _ (by omega) w8.heap.size a9 c9 (P ++ P) (by rw [HL8.out]; omega) w9 hbx ho9 hsz9) (fun h k => h.trans k) (fun W l o o' hl _ _ => Stays.turn W l o' hl) (fun pre x W l o o' hk _ hl hoc => hk.turn hl hoc) (Below.refl _ _) (fun _ => rfl)
    (fun pre W => ((W.cell? ⟨w5.heap.size, 0, none⟩ = some (.int .i64 (pre.length : Nat)) ∧ W.frozen? ⟨w5.heap.size, 0, none⟩ = false) ∧ (W.cell? ⟨w.heap.size, 0, none⟩ = some (.bool false) ∧ W.frozen? ⟨w.heap.size, 0, none⟩ = false) ∧ Rd W w1.heap.size a1 P) ∧ Below w.heap.size w W)
    (fun _ _ _ => False)
    (OwnFrom.and (Own.from (fun s A B row hs hg hr => ⟨⟨cell_kept hs.1.1 hg hr, (frozen_kept hs.1.1 hg hr).trans hs.1.2⟩, ⟨cell_kept hs.2.1.1 hg hr, (frozen_kept hs.2.1.1 hg hr).trans hs.2.1.2⟩, hs.2.2.turned hg hr⟩) _) (ownFrom_below (Nat.le_refl _) (by omega)))
    (fun _ _ _ _ _ hs _ _ => hs)
    ⟨⟨⟨hcK9, hfK9⟩, ⟨hcR, hfR⟩, hr9⟩, hBw⟩
    ?a1 ?assign ?body ?done ?stop
  case assign =>
    intro l x W K hK
    simp only [Rec.encs]
    gi_wp2
    exact hK
  case stop =>
    rintro D c pre W _ _ h _
    exact h.elim
  case body =>
    rintro l pre x W ⟨⟨⟨hc, hf⟩, ⟨hcR, hfR⟩, hrW⟩, hB⟩ hok
    have hat : x.at_ = 12 * pre.length ∧ x.x = [] ∧ pre.length < 2 := known_at HS2.out hok
    obtain ⟨e1, e2, hlt⟩ := hat
    have E1 := Lib.hid e1
    have hx0 : x.x.length = 0 := by rw [e2]; rfl
    have t1 : ((x.at_ : Int) != 12 * ((pre.length : Nat) : Int)) = false := by
      rw [e1]; simp
    clear e1 e2
    gi_wp2
    refine ⟨(KeepsOthers.setCell _ _ _).from _, (Stays.refl _ _ _).setCell (.inl hk89) _, ⟨⟨⟨?_, by rw [World.frozen?_setCell]; exact hf⟩, ⟨(World.cell?_setCell_other _ _ _ _ (by intro h; simp at h; try omega)).trans hcR, by rw [World.frozen?_setCell]; exact hfR⟩, hrW.setCell h15 _⟩, hB.setCell (by simp; omega) _⟩⟩
    rw [World.cell?_setCell_same' _ _ _ (by rw [hc]; rfl)]
    simp
  case done =>
    rintro D ys W hD hys ⟨⟨⟨hc, hf⟩, ⟨hcR, hfR⟩, hrW⟩, hB⟩ hK
    have hy2 : ys.length = 2 := by have := congrArg List.length hys; rw [HS2.out] at this; simpa using this
    rw [hy2] at hc
    have hstr := run_string_b W _ a1 12 c1 P hrW HL.out
    rw [HPN.out] at hstr
    gi_wp2_with fail
    refine ⟨trivial, ?_⟩
    have hD1 : w1.heap.size ≤ W.heap.size := by have := (Array.getElem?_eq_some_iff.1 hK).1; omega
    have hT11 : (P.take 11).length = 11 := by rw [List.length_take, HL.out]; rfl
    have hw11 : LogM.whole (P.take 11) = 0 := by rw [HPN.out]; decide +kernel
    have hw12 : LogM.whole P = 12 := by rw [HPN.out]; decide +kernel
    have HW12 := Lib.hid hw12
    clear hw12
    refine (callsIn_wide.2 (whole_any a1 11 c1 (P.take 11) W hT11 (by omega) ((hrW.front _).more hD1))).mono ?_
    rw [hw11]
    rintro e W1 ⟨rfl, hBW⟩
    have hrW1 := (hrW.more hD1).below hBW
    have hD2 := hBW.size
    gi_wp2_with fail
    refine ⟨trivial, ?_⟩
    refine (callsIn_wide.2 (whole_any a1 12 c1 P W1 HL.out (by omega) (hrW1.more hD2))).mono ?_
    rw [HW12.out]
    rintro e W2 ⟨rfl, hBW2⟩
    gi_wp2_with fail
    refine ⟨trivial, ?_⟩
    refine (callsIn_wide.2 (size_any 3 W2)).mono ?_
    rw [show max (min (3 : Int) 65536) 0 + 12 = 15 by decide]
    rintro e W3 ⟨rfl, rfl⟩
    have hBW' : Below W.heap.size W W2 := hBW.trans (hBW2.mono hD2)
    have hcR2 := (hBW'.cell (p := ⟨w.heap.size, 0, none⟩) (by simp; omega)).trans hcR
    have hfR2 := (hBW'.frozen (p := ⟨w.heap.size, 0, none⟩) (by simp; omega)).trans hfR
    have hK2 := (hBW'.block D (by have := (Array.getElem?_eq_some_iff.1 hK).1; omega)).trans hK
    have hBw2 : Below w.heap.size w W2 := hB.trans (hBW'.mono (by omega))
    gi_wp2_with fail
    have hK' := (KeepsOthers.setCell W2 ⟨w.heap.size, 0, none⟩ (.bool true)).same D _ hK2 rfl
    refine ⟨by simp, .inl ⟨_, _, rfl, run_takeDeferred hK', ?_⟩⟩
    have hc5 := cell_kept (World.cell?_setCell_same' W2 ⟨w.heap.size, 0, none⟩ (.bool true) (by rw [hcR2]; rfl)) (grownBy_putObj' _ D (.deferred none)) (fun r e => by cases e; exact ⟨_, hK', rfl⟩)
    refine ⟨.bool true, ?_, rfl, (hBw2.setCell (p := ⟨w.heap.size, 0, none⟩) (by simp) _).trans (belowK_b (w := w) (Nat.le_refl _) _ D _ _ (by omega) hK' rfl rfl)⟩
    simp [results, go_sem, hc5]
end Go.Proofs.Ytopnhplacdbkdaa
