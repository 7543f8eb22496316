/- The walk of log.Whole: how many bytes the records at the beginning have together. Condition: the slice reads as bytes. -/
import Derived.Test.YtopnhplacdbkdaaLogAll
namespace Go.Proofs.Ytopnhplacdbkdaa
open Go.RowKit Go.Shelf
attribute [local go_sem] Oper.semAt_some

theorem pairs_le (f at_ : Nat) (b : List UInt8) : ∀ r ∈ LogM.pairs f at_ b, r.2.length ≤ 65536 ∧ r.1 + (r.2.length + 12) ≤ at_ + b.length := by
  induction f generalizing at_ b with
  | zero => intro r hr; simp [LogM.pairs] at hr
  | succ f ih =>
    intro r hr
    simp only [LogM.pairs] at hr
    split at hr
    · next h0 =>
      have hl := LogM.next_len b h0
      unfold LogM.most at hl
      rcases List.mem_cons.1 hr with rfl | hr
      · exact ⟨hl.2.2.1, by show at_ + ((LogM.next b).1.length + 12) ≤ at_ + b.length; omega⟩
      · have := ih _ _ r hr
        rw [List.length_drop] at this
        exact ⟨this.1, by omega⟩
    · cases hr
theorem RecOk.le {bs : List UInt8} {pre : List Rec} {r : Rec} {W : World} (h : RecOk bs pre r W) : r.x.length ≤ 65536 ∧ r.at_ + (r.x.length + 12) ≤ bs.length := by
  have hm : r.pair ∈ LogM.scan bs := h.1.subset (by simp)
  have := pairs_le _ _ _ _ hm
  rw [Nat.zero_add] at this
  exact this
/-- where the last of them ends -/
def endRec (pre : List Rec) : Nat := pre.foldl (fun _ r => r.at_ + (r.x.length + 12)) 0
theorem endRec_snoc (pre : List Rec) (r : Rec) : endRec (pre ++ [r]) = r.at_ + (r.x.length + 12) := by simp [endRec]
theorem endRec_scan {xs : List Rec} {bs : List UInt8} (h : xs.map Rec.pair = LogM.scan bs) : endRec xs = LogM.whole bs := by
  have := LogM.scan_whole bs
  rw [← h, List.foldl_map] at this
  exact this
theorem RecOk.turn {bs : List UInt8} {pre : List Rec} {r : Rec} {W : World} (h : RecOk bs pre r W) {l : Nat} {o o' : Obj} (hl : W.heap[l]? = some o) (ho : o.isCells = false) : RecOk bs pre r (W.putObj l o') := by
  refine ⟨h.1, ?_⟩
  rcases h.2 with hr | ⟨b, off, ha, hb, hc⟩
  · exact .inl hr
  · exact .inr ⟨b, off, ha, by simpa using hb, fun j x hx => cell_kept (hc j x hx) (grownBy_putObj' W l o') (fun r e => by cases e; exact ⟨o, hl, ho⟩)⟩

set_option maxRecDepth 100000 in
set_option maxHeartbeats 2000000 in
theorem whole_any (a : Option Addr) (n c : Nat) (bs : List UInt8) (w : World) (hn : bs.length = n) (hm : n ≤ 140737488355328) (h : Rd w w.heap.size a bs) :
    Calls Try.prog 31 #[.slice a n c] w fun e w' => e = .returned (.int .i64 (LogM.whole bs : Nat)) ∧ Below w.heap.size w w' := by
  refine (callsIn_wide (n := 6)).1 ?_
  refine callsIn_of_wp_marks Try.func31 rfl trivial ?_ rfl
  simp only [Try.ntmps31, List.size_toArray, List.length_cons, List.length_nil, Nat.reduceAdd, Nat.reduceSub, Array.replicate_succ, Array.replicate_zero, List.push_toArray, List.append_toArray, List.nil_append, List.cons_append]
  obtain ⟨hs, hhs⟩ : ∃ hs, hs = w.heap.size := ⟨_, rfl⟩
  have hb0 : Below w.heap.size w (w.alloc (.cells #[.int .i64 0] 3)) := (Below.refl _ _).alloc (Nat.le_refl _) _
  have hr0 := (h.below hb0).more hb0.size
  have hc0 : (w.alloc (.cells #[.int .i64 0] 3)).cell? ⟨w.heap.size, 0, none⟩ = some (.int .i64 0) := by rw [cell_of_row _ _ _ _ _ _ (heap_alloc_new _ _)]; rfl
  have hf0 : (w.alloc (.cells #[.int .i64 0] 3)).frozen? ⟨w.heap.size, 0, none⟩ = false := frozen_of_row _ _ _ _ _ (heap_alloc_new _ _)
  have HN := Lib.hid hn
  clear hn hhs hs
  gi_wp2_with fail
  refine ⟨trivial, ?_⟩
  refine (callsIn_wide.2 (all_any a n c bs _ HN.out hm hr0)).mono ?_
  rintro e w1 ⟨a', c', rfl, hbx, ho, hb1, hsz⟩
  have hc1 := (hb1.cell (p := ⟨w.heap.size, 0, none⟩) (by simp)).trans hc0
  have hf1 := (hb1.frozen (p := ⟨w.heap.size, 0, none⟩) (by simp)).trans hf0
  have hB1 := Below.next0 hb0 hb1
  simp only [World.size_alloc] at hbx ho hsz ⊢
  clear hc0 hf0 hb1 hr0
  gi_wp2_with fail
  refine wpIn_range_ok rfl (by omega) (gf := 67) (lb := #[.pointer (some ⟨w.heap.size + 1, 0, none⟩)]) rfl trivial (enters_of Try.func67 (by kernel_rfl) rfl)
    (all_stops _ (by omega) (w.heap.size + 1) a' c' bs (by rw [HN.out]; exact hm) w1 hbx ho hsz) (fun h k => h.trans k) (fun W l o o' hl _ _ => Stays.turn W l o' hl) (fun pre x W l o o' hk _ hl hoc => hk.turn hl hoc) (Below.refl _ _) (fun _ => rfl)
    (fun pre W => (W.cell? ⟨w.heap.size, 0, none⟩ = some (.int .i64 (endRec pre : Nat)) ∧ W.frozen? ⟨w.heap.size, 0, none⟩ = false) ∧ Below w.heap.size w W)
    (fun _ _ _ => False)
    (OwnFrom.and (Own.from (fun s A B row hs hg hr => ⟨cell_kept hs.1 hg hr, (frozen_kept hs.1 hg hr).trans hs.2⟩) _) (ownFrom_below (Nat.le_refl _) (by omega)))
    (fun _ _ _ _ _ hs _ _ => hs)
    ⟨⟨hc1, hf1⟩, hB1⟩
    (fun x => { tmps := #[.slice a n c, undef, .int .i64 0, .pointer (some ⟨w.heap.size, 0, none⟩), .int .i64 (x.at_ : Int), .slice x.a x.x.length x.c, .slice a n c, .func (.func 67) #[] #[.pointer (some ⟨w.heap.size + 1, 0, none⟩)], .int .i64 (x.at_ : Int), .slice x.a x.x.length x.c, undef, undef, undef, undef, undef, undef], defers := [] }) ?assign ?body ?done ?stop
  case assign =>
    intro l x W K hK
    simp only [Rec.encs]
    gi_wp2
    exact hK
  case body =>
    rintro l pre x W ⟨⟨hc, hf⟩, hB⟩ hok
    have hle := hok.le
    have hle3 : x.at_ + (x.x.length + 12) ≤ 140737488355328 := by have := HN.out; omega
    have hsum : max (min ((x.x.length : Nat) : Int) 65536) 0 + 12 = ((x.x.length + 12 : Nat) : Int) := by omega
    gi_wp2_with (refine ⟨trivial, ?_⟩; gi_at_call 27; refine (CallsIn.inRound l (callsIn_wide.2 (size_any _ _))).mono ?_; rintro e w2 ⟨rfl, rfl⟩; rw [hsum])
    have e : ((x.at_ : Int) + ((x.x.length : Int) + 12)) = ((x.at_ + (x.x.length + 12) : Nat) : Int) := by omega
    rw [e]
    refine ⟨(KeepsOthers.setCell _ _ _).from _, (Stays.refl _ _ _).setCell (.inl (by show w.heap.size < w.heap.size + 1; omega)) _, ⟨⟨?_, by rw [World.frozen?_setCell]; exact hf⟩, hB.setCell (p := ⟨w.heap.size, 0, none⟩) (Nat.le_refl _) _⟩⟩
    rw [endRec_snoc]
    exact World.cell?_setCell_same' _ _ _ (by rw [hc]; rfl)
  case done =>
    rintro D ys W hD hys ⟨⟨hc, _⟩, hB⟩ hK
    rw [endRec_scan hys] at hc
    gi_wp2
    refine ⟨by simp, .inl ⟨_, _, rfl, run_takeDeferred hK, ?_⟩⟩
    exact ⟨_, results_tmp rfl _ _ _, rfl, hB.trans (belowK_b (w := w) (Nat.le_refl _) W D _ _ (by omega) hK rfl rfl)⟩
  case stop =>
    rintro D c pre W _ _ h _
    exact h.elim
end Go.Proofs.Ytopnhplacdbkdaa
