/- log.All: the iterator's maker, and what its closure promises: the records with their places, in order, as the bytes have them. Condition: the slice reads as bytes. -/
import Derived.Test.YtopnhplacdbkdaaLogNext
import Derived.Test.YtopnhplacdbkdaaRange
import Derived.RangeFuncBox
import Derived.Shelf.Abstract
import Derived.Shelf.RegionOpen
import Derived.OwnWalkIn
import Derived.TacticsInMore
import Derived.LoopNIn
import Derived.LoopIn
import Derived.Laws.EntriesVeiled
namespace Go.Proofs.Ytopnhplacdbkdaa
open Go.RowKit Go.Shelf
attribute [local go_sem] Oper.semAt_some

/-- what log.All hands back: a closure over a box that holds a slice of the bytes -/
def AllIs (w : World) (bs : List UInt8) (e : Ending) (w' : World) : Prop :=
  ∃ a' c', e = .returned (.func (.func 67) #[] #[.pointer (some ⟨w.heap.size, 0, none⟩)]) ∧ w'.cell? ⟨w.heap.size, 0, none⟩ = some (.slice a' bs.length c') ∧
    Own w' (w.heap.size + 1) a' bs.length c' bs ∧ Below w.heap.size w w' ∧ w.heap.size < w'.heap.size

set_option maxRecDepth 100000 in
set_option maxHeartbeats 1000000 in
theorem all_any (a : Option Addr) (n c : Nat) (bs : List UInt8) (w : World) (hn : bs.length = n) (hm : n ≤ 140737488355328) (h : Rd w w.heap.size a bs) :
    Calls Try.prog 32 #[.slice a n c] w (AllIs w bs) := by
  have hb0 : Below w.heap.size w (w.alloc (.cells #[.slice a n c] 23)) := (Below.refl _ _).alloc (Nat.le_refl _) _
  have hr0 := (h.below hb0).more hb0.size
  have hc0 : (w.alloc (.cells #[.slice a n c] 23)).cell? ⟨w.heap.size, 0, none⟩ = some (.slice a n c) := by rw [cell_of_row _ _ _ _ _ _ (heap_alloc_new _ _)]; rfl
  have hf0 : (w.alloc (.cells #[.slice a n c] 23)).frozen? ⟨w.heap.size, 0, none⟩ = false := frozen_of_row _ _ _ _ _ (heap_alloc_new _ _)
  have HN := Lib.hid hn
  clear hn
  go_enter Try.func32, Try.ntmps32
  go_wp2_with fail
  refine (clone_any a n c bs _ HN.out hm hr0).mono ?_
  rintro e w1 ⟨a', c', rfl, ho, hb1⟩
  have hsz : w.heap.size < w1.heap.size := by have := hb1.size; simp at this; omega
  have hc1 := (hb1.cell (p := ⟨w.heap.size, 0, none⟩) (by simp)).trans hc0
  have hf1 := (hb1.frozen (p := ⟨w.heap.size, 0, none⟩) (by simp)).trans hf0
  clear hc0 hf0
  go_wp2_with fail
  go_ret
  unfold AllIs
  rw [HN.out]
  refine ⟨a', c', rfl, World.cell?_setCell_same' _ _ _ (by rw [hc1]; rfl), ?_, ?_, by simpa [World.setCell] using hsz⟩
  · have ho : Own w1 (w.heap.size + 1) a' n c' bs := ho.lower (by simp)
    refine Own.far ho (fun x hx => ?_) _
    rcases ho.form with ⟨h0, _⟩ | ⟨g, cur, e, hB, _⟩
    · rw [h0] at hx; cases hx
    · rw [e] at hx; injection hx with hx; subst hx
      show g ≠ w.heap.size
      omega
  · exact (hb0.trans (hb1.mono (by simp))).setCell (p := ⟨w.heap.size, 0, none⟩) (Nat.le_refl _) _

/-- what yield is handed: a place, a record's bytes, where these lie -/
structure Rec where
  at_ : Nat
  x : List UInt8
  a : Option Addr
  c : Nat
def Rec.pair (r : Rec) : Nat × List UInt8 := (r.at_, r.x)
def Rec.encs (r : Rec) : Array Value := #[.int .i64 (r.at_ : Int), .slice r.a r.x.length r.c]
def RecOk (bs : List UInt8) (pre : List Rec) (r : Rec) (W : World) : Prop := (pre.map Rec.pair ++ [r.pair]) <+: LogM.scan bs ∧ Rd W W.heap.size r.a r.x

theorem noGoto_normal (Q : Exit → Act → World → Prop) (a : Act) (w : World) : Exit.noGoto Q .normal a w = Q .normal a w := by unfold Exit.noGoto; rfl
theorem grown_below {w w' : World} (h : Below w.heap.size w w') (row : Option Nat) : w.grownBy w' row := ⟨h.os, h.tape, h.output, h.size, fun k hk _ => h.block k hk⟩

theorem Rd.stay {W W' : World} {a : Option Addr} {bs : List UInt8} (h : Rd W W.heap.size a bs) (hk : ∀ x, a = some x → W'.heap[x.block]? = W.heap[x.block]?) (hs : W.heap.size ≤ W'.heap.size) : Rd W' W'.heap.size a bs := by
  rcases h with rfl | ⟨b, o, rfl, hb, hc⟩
  · exact .inl rfl
  · exact .inr ⟨b, o, rfl, by omega, fun j x hx => (World.cell?_of_block (w := W) (w' := W') (a := ⟨b, o + j, none⟩) (hk ⟨b, o, none⟩ rfl)).trans (hc j x hx)⟩

set_option maxRecDepth 100000 in
set_option maxHeartbeats 2000000 in
theorem all1_in (n : Nat) (hn1 : 1 ≤ n) (l Bx B2 : Nat) (a' : Option Addr) (c' : Nat) (bs : List UInt8) (hm : bs.length ≤ 140737488355328) (J Jx : List Rec → World → Prop) (W : World)
    (hJ : AbidesFrom W.heap.size J)
    (hY : ∀ pre x W1, J pre W1 → RecOk bs pre x W1 → YieldAt Fence.wide (n - 1) Try.prog l (Rec.encs x) W1 fun e W' =>
      (e = .returned (.bool true) ∧ J (pre ++ [x]) W' ∧ Stays Bx B2 W1 W') ∨ (e = .returned (.bool false) ∧ Jx (pre ++ [x]) W'))
    (hbx : W.cell? ⟨Bx, 0, none⟩ = some (.slice a' bs.length c')) (ho : Own W (Bx + 1) a' bs.length c' bs) (hB : Bx < B2) (hB2 : B2 ≤ W.heap.size) (hown : ∀ x, a' = some x → x.block < B2) (h0 : J [] W) :
    CallsIn Fence.wide n Try.prog 67 #[.func (.yield l) #[] #[], .pointer (some ⟨Bx, 0, none⟩)] W fun e W' => (∃ v, e = .returned v) ∧
      ((∃ ys, (ys.map Rec.pair = LogM.scan bs) ∧ J ys W') ∨ (∃ pre, (pre.map Rec.pair <+: LogM.scan bs) ∧ Jx pre W')) := by
  refine callsIn_of_wp Try.func67 rfl trivial ?_ rfl
  simp only [Try.ntmps67, List.size_toArray, List.length_cons, List.length_nil, Nat.reduceAdd, Nat.reduceSub, Array.replicate_succ, Array.replicate_zero, List.push_toArray, List.append_toArray, List.nil_append, List.cons_append]
  refine wpIn_scope ?_
  gi_wp2
  refine wpIn_label ?_
  gi_wp2
  gi_loopw [3] (fun v wr => ∃ (p : Nat) (pre : List Rec), v = .int .i64 p ∧ p ≤ bs.length ∧ (pre.map Rec.pair ++ LogM.from_ bs p = LogM.scan bs) ∧ J pre wr ∧ Stays Bx B2 W wr) (fun v _ => bs.length - (intOf v).toNat)
  case atStart => exact ⟨0, [], rfl, Nat.zero_le _, by simp [LogM.from_zero], h0, Stays.refl _ _ _⟩
  case round =>
    obtain ⟨p, pre, rfl, hp, hsc, hJs, hst⟩ := hrel
    have hc := (World.cell?_of_block (w := W) (w' := wr) (a := ⟨Bx, 0, none⟩) (hst.2 Bx (Nat.le_refl _) hB)).trans hbx
    have hrd : Rd wr wr.heap.size a' bs := Rd.stay ho.rd (fun x hx => hst.2 _ (by
      rcases ho.form with ⟨h1, _⟩ | ⟨g, cur, h1, h2, _⟩
      · rw [h1] at hx; cases hx
      · rw [h1] at hx; injection hx with hx; subst hx; exact Nat.le_trans (Nat.le_succ _) h2) (hown x hx)) hst.1
    have hsl := fun U => slice_l_b U a' bs.length c' .i64 (p : Int) (by omega) (by omega)
    have hcap := ho.cap
    unfold maxLen at hcap
    have hcut := hrd.cutA (p := p) (c := c') hcap.1
    have hcap1 : bs.length - p ≤ c' - p := by omega
    have hcap2 : c' - p ≤ 9223372036854775807 := by omega
    have HSC := Lib.hid hsc
    clear hsc hcap ho hbx h0 hown
    gi_wp2_with fail
    refine ⟨trivial, ?_⟩
    refine (callsIn_wide.2 (lognext_any _ _ _ (bs.drop p) wr (by rw [List.length_drop]) (by omega) hcap1 hcap2 hcut)).mono ?_
    generalize hr : LogM.next (bs.drop p) = r
    obtain ⟨x, N, E⟩ := r
    rintro e w2 ⟨a2, c2, rfl, ho2, hb2⟩
    have HR := Lib.hid hr
    have hJ2 : J pre w2 := hJ pre wr w2 none hJs (grown_below hb2 none) (fun r e => by cases e)
    have hst2 : Stays Bx B2 W w2 := hst.trans (Stays.below hb2 (Nat.le_trans hB2 hst.1))
    have hr2 := ho2.rd
    by_cases hE : E = 0
    · subst hE
      have hy1 := LogM.from_yes bs p hp (by rw [hr])
      rw [hr] at hy1
      obtain ⟨hf, hle, h12⟩ := hy1
      have hok : RecOk bs pre ⟨p, x, a2, c2⟩ w2 := ⟨⟨LogM.from_ bs (p + N), by rw [← HSC.out, hf]; simp [Rec.pair]⟩, hr2⟩
      obtain ⟨fn, tmps, assign, body, hy, hR⟩ := hY pre ⟨p, x, a2, c2⟩ w2 hJ2 hok
      simp only [Rec.encs] at hy
      have HF := Lib.hid hf
      clear hr hf hok hY hJ hr2 ho2 hb2 hcut hsl hrd hc hJ2 hJs
      gi_wp2
      refine hR.mono ?_
      rintro e W3 (⟨rfl, hJ3, hk3⟩ | ⟨rfl, hJx3⟩)
      · gi_wp2
        go_roundw
        case rel => exact ⟨p + N, pre ++ [⟨p, x, a2, c2⟩], by go_num, hle, by rw [← HSC.out, HF.out]; simp [Rec.pair], hJ3, hst2.trans hk3⟩
        case measure => simp [intOf]; omega
      · gi_wp2
        rw [noGoto_normal]
        go_end0
        exact ⟨⟨_, rfl⟩, .inr ⟨pre ++ [⟨p, x, a2, c2⟩], ⟨LogM.from_ bs (p + N), by rw [← HSC.out, HF.out]; simp [Rec.pair]⟩, hJx3⟩⟩
    · have hne : ((E : Int) != 0) = true := by rw [bne_iff_ne]; omega
      have hf := LogM.from_no bs p (by rw [hr]; exact hE)
      have HF := Lib.hid hf
      have HE := Lib.hid hE
      clear hr hf hY hJ hr2 ho2 hb2 hcut hsl hrd hc hJs hE
      gi_wp2
      refine ⟨fun _ h => (by cases h), ?_⟩
      gi_wp2
      rw [noGoto_normal]
      go_end0
      exact ⟨⟨_, rfl⟩, .inl ⟨pre, by rw [← HSC.out, HF.out, List.append_nil], hJ2⟩⟩

/-- log.All's value keeps its promise in every later world -/
theorem all_stops (n : Nat) (hn1 : 1 ≤ n) (Bx : Nat) (a' : Option Addr) (c' : Nat) (bs : List UInt8) (hm : bs.length ≤ 140737488355328) (w : World)
    (hbx : w.cell? ⟨Bx, 0, none⟩ = some (.slice a' bs.length c')) (ho : Own w (Bx + 1) a' bs.length c' bs) (hB : Bx < w.heap.size) :
    SeqOk Fence.wide n Try.prog 67 #[.pointer (some ⟨Bx, 0, none⟩)] Rec.encs (RecOk bs) (Stays Bx w.heap.size) (fun ys => ys.map Rec.pair = LogM.scan bs) (fun pre => pre.map Rec.pair <+: LogM.scan bs) w :=
  fun l J Jx W hW hJ _ hY h0 => by
    have h := all1_in n hn1 l Bx w.heap.size a' c' bs hm J Jx W hJ hY ((hW.cell (p := ⟨Bx, 0, none⟩) hB).trans hbx) (ho.call hW) hB hW.size (fun x hx => by
      rcases ho.form with ⟨h1, _⟩ | ⟨g, cur, h1, _, h2, _⟩
      · rw [h1] at hx; cases hx
      · rw [h1] at hx; injection hx with hx; subst hx; exact h2) h0
    exact h
end Go.Proofs.Ytopnhplacdbkdaa
