/- The script's lines: the iterator's maker, and what its closure promises: the lines with their places, in order. Condition: the text is short. -/
import Derived.Test.YtifdmgloheampaaDoorScriptS
import Derived.Test.YtifdmgloheampaaDoorBoxes
import Derived.Test.YtifdmgloheampaaDoorRange
import Derived.Test.YtifdmgloheampaaDoorQuietRound
import Derived.RangeFuncBox
import Derived.Shelf.Abstract
import Derived.Shelf.RegionOpen
import Derived.OwnWalkIn
import Derived.TacticsInMore
import Derived.LoopNIn
import Derived.LoopIn
import Derived.Laws.EntriesVeiled
import Derived.Lib.IndexBytes
namespace Go.Proofs.YtifdmgloheampaaDoor
open Go.RowKit Go.Shelf DiskM ScriptM
attribute [local go_sem] Oper.semAt_some

/-- what lines hands back: a closure over a box that holds the text -/
def LinesIs (w : World) (s : ByteArray) (e : Ending) (w' : World) : Prop :=
  e = .returned (.func (.func 42) #[] #[.pointer (some ⟨w.heap.size, 0, none⟩)]) ∧ w'.cell? ⟨w.heap.size, 0, none⟩ = some (.string s) ∧ Below w.heap.size w w' ∧ w.heap.size < w'.heap.size
set_option maxRecDepth 100000 in
theorem lines_any (s : ByteArray) (w : World) : Calls Tryd.prog 32 #[.string s] w (LinesIs w s) := by
  have hb0 : Below w.heap.size w (w.alloc (.cells #[.string s] 9)) := (Below.refl _ _).alloc (Nat.le_refl _) _
  have hc0 : (w.alloc (.cells #[.string s] 9)).cell? ⟨w.heap.size, 0, none⟩ = some (.string s) := by rw [cell_of_row _ _ _ _ _ _ (heap_alloc_new _ _)]; rfl
  go_enter Tryd.func32, Tryd.ntmps32
  go_wp2_with fail
  go_ret
  exact ⟨rfl, hc0, hb0, by simp⟩

/-- what yield is handed: a place, a line -/
structure Ln where
  at_ : Nat
  t : ByteArray
def Ln.encs (r : Ln) : Array Value := #[.int .i64 (r.at_ : Int), .string r.t]
/-- where the lines behind these begin -/
def endLn (pre : List Ln) : Nat := match pre.getLast? with | none => 0 | some x => x.at_ + x.t.size
theorem endLn_snoc (pre : List Ln) (x : Ln) : endLn (pre ++ [x]) = x.at_ + x.t.size := by unfold endLn; simp
def LnOk (s : ByteArray) (pre : List Ln) (r : Ln) : Prop := r.at_ = endLn pre ∧ r.at_ < s.size ∧ r.t.data.toList = (s.data.toList.drop r.at_).take (nl (s.data.toList.drop r.at_))
theorem nl_index : ∀ l : List UInt8, (Lib.indexByte l 10 = -1 ∧ nl l = l.length) ∨ (0 ≤ Lib.indexByte l 10 ∧ (nl l : Int) = Lib.indexByte l 10 + 1)
  | [] => .inl ⟨rfl, rfl⟩
  | c :: r => by
    have hg := Lib.indexByte_ge r 10
    simp only [nl, Lib.indexByte]
    by_cases h : c = 10
    · right
      subst h
      simp
    · have h1 : (c == 10) = false := by rw [beq_eq_false_iff_ne]; exact h
      rw [h1, if_neg h]
      rcases nl_index r with ⟨h2, h3⟩ | ⟨h2, h3⟩
      · left
        rw [h2, h3]
        exact ⟨rfl, by simp⟩
      · right
        have h4 : (Lib.indexByte r 10 == -1) = false := by rw [beq_eq_false_iff_ne]; omega
        rw [h4]
        simp only [Bool.false_eq_true, if_false]
        omega

set_option maxRecDepth 100000 in
set_option maxHeartbeats 2000000 in
theorem lines1_in (n : Nat) (hn1 : 1 ≤ n) (l Bx B2 : Nat) (s : ByteArray) (hm : s.size ≤ 1000000) (J Jx : List Ln → World → Prop) (W : World)
    (_hJ : AbidesFrom W.heap.size J)
    (hY : ∀ pre x W1, J pre W1 → LnOk s pre x → YieldAt Fence.wide (n - 1) Tryd.prog l (Ln.encs x) W1 fun e W' =>
      (e = .returned (.bool true) ∧ J (pre ++ [x]) W' ∧ Stays Bx B2 W1 W') ∨ (e = .returned (.bool false) ∧ Jx (pre ++ [x]) W'))
    (hbx : W.cell? ⟨Bx, 0, none⟩ = some (.string s)) (hB : Bx < B2) (_hB2 : B2 ≤ W.heap.size) (h0 : J [] W) :
    CallsIn Fence.wide n Tryd.prog 42 #[.func (.yield l) #[] #[], .pointer (some ⟨Bx, 0, none⟩)] W fun e W' => (∃ v, e = .returned v) ∧
      ((∃ ys, (endLn ys = s.size) ∧ J ys W') ∨ (∃ pre, True ∧ Jx pre W')) := by
  refine callsIn_of_wp Tryd.func42 rfl trivial ?_ rfl
  simp only [Tryd.ntmps42, List.size_toArray, List.length_cons, List.length_nil, Nat.reduceAdd, Nat.reduceSub, Array.replicate_succ, Array.replicate_zero, List.push_toArray, List.append_toArray, List.nil_append, List.cons_append]
  gi_wp2
  gi_loopw [3] (fun v wr => ∃ (p : Nat) (pre : List Ln), v = .int .i64 p ∧ p ≤ s.size ∧ endLn pre = p ∧ J pre wr ∧ Stays Bx B2 W wr) (fun v _ => s.size - (intOf v).toNat)
  case atStart => exact ⟨0, [], rfl, Nat.zero_le _, rfl, h0, Stays.refl _ _ _⟩
  case round =>
    obtain ⟨p, pre, rfl, hp, hend, hJs, hst⟩ := hrel
    have hc := (World.cell?_of_block (w := W) (w' := wr) (a := ⟨Bx, 0, none⟩) (hst.2 Bx (Nat.le_refl _) hB)).trans hbx
    have HE := Lib.hid hend
    clear hbx h0 hend
    by_cases hlt : p < s.size
    · have hlt' : (p : Int) < (s.size : Int) := by omega
      have hD : (s.extract p s.size).data.toList = s.data.toList.drop p := Lib.extract_to_end s p
      have hlen : (s.data.toList.drop p).length = s.size - p := by rw [List.length_drop]; rfl
      obtain ⟨N, hN⟩ : ∃ N, nl (s.data.toList.drop p) = N := ⟨_, rfl⟩
      have hN1 : 1 ≤ N := by
        rw [← hN]
        cases hd : s.data.toList.drop p with
        | nil => rw [hd] at hlen; simp at hlen; omega
        | cons c r => exact nl_pos c r
      have hNl : p + N ≤ s.size := by have := nl_le (s.data.toList.drop p); omega
      have hsz : (s.extract p (p + N)).size = N := by rw [ByteArray.size_extract]; omega
      have hok : LnOk s pre ⟨p, s.extract p (p + N)⟩ := ⟨HE.out.symm, hlt, by
        show (s.extract p (p + N)).data.toList = _
        rw [Lib.extract_data, hN]; congr 1; omega⟩
      obtain ⟨fn, tmps, assign, body, hy, hR⟩ := hY pre ⟨p, s.extract p (p + N)⟩ wr hJs hok
      simp only [Ln.encs] at hy
      have hni := nl_index (s.data.toList.drop p)
      rw [hN] at hni
      have HP := Lib.hid (And.intro hN1 (And.intro hNl hsz))
      have HST := Lib.hid hst
      obtain ⟨I, hI⟩ : ∃ I, Lib.indexByte (s.extract p s.size).data.toList (10 : Int).toNat.toUInt8 = I := ⟨_, rfl⟩
      have hI2 : Lib.indexByte (s.data.toList.drop p) 10 = I := by rw [← hI, hD]; rfl
      rw [hI2] at hni
      clear hD hsz hok hY hJs hst hI2 hN hN1
      rcases hni with ⟨hi, hn⟩ | ⟨hi, hn⟩
      · subst hi
        obtain rfl : N = s.size - p := by omega
        clear hn hlen
        have hpp : (p : Int) + (s.size - p : Int) = s.size := by omega
        have hpn : p + (s.size - p) = s.size := by omega
        rw [hpn] at hy HP hR
        have hple : (p : Int) ≤ (s.size : Int) := by omega
        gi_wp2_with fail
        refine ⟨trivial, ?_⟩
        refine (callsIn_wide.2 (Tryd.strings_IndexByte (s.extract p s.size) 10 wr)).mono ?_
        rintro e w2 ⟨rfl, rfl⟩
        rw [hI]
        gi_wp2_with fail
        refine hR.mono ?_
        rintro e W3 (⟨rfl, hJ3, hk3⟩ | ⟨rfl, hJx3⟩)
        · gi_wp2
          go_roundw
          case rel => exact ⟨s.size, pre ++ [⟨p, s.extract p s.size⟩], by go_num, Nat.le_refl _, by rw [endLn_snoc]; show p + (s.extract p s.size).size = _; rw [HP.out.2.2]; exact hpn, hJ3, HST.out.trans hk3⟩
          case measure => simp [intOf]; omega
        · gi_wp2
          exact ⟨rfl, _, by simp [results, go_sem]; rfl, ⟨_, rfl⟩, .inr ⟨_, trivial, hJx3⟩⟩
      · obtain rfl : I = (N : Int) - 1 := by omega
        have hii : (N : Int) ≠ 0 := by omega
        have hii1 : (N : Int) - 1 + 1 = N := by omega
        obtain ⟨M, hM⟩ : ∃ M, p + N = M := ⟨_, rfl⟩
        have hpM : (p : Int) + (N : Int) = (M : Int) := by omega
        have hpM1 : (p : Int) ≤ (M : Int) := by omega
        have hpM2 : (M : Int) ≤ (s.size : Int) := by omega
        rw [hM] at hy HP hR
        clear hn hlen hi
        gi_wp2_with fail
        refine ⟨trivial, ?_⟩
        refine (callsIn_wide.2 (Tryd.strings_IndexByte (s.extract p s.size) 10 wr)).mono ?_
        rintro e w2 ⟨rfl, rfl⟩
        rw [hI]
        gi_wp2_with fail
        refine hR.mono ?_
        rintro e W3 (⟨rfl, hJ3, hk3⟩ | ⟨rfl, hJx3⟩)
        · gi_wp2
          go_roundw
          case rel => exact ⟨M, pre ++ [⟨p, s.extract p M⟩], by go_num, HP.out.2.1, by rw [endLn_snoc]; show p + (s.extract p M).size = _; rw [HP.out.2.2]; exact hM, hJ3, HST.out.trans hk3⟩
          case measure => simp [intOf]; omega
        · gi_wp2
          exact ⟨rfl, _, by simp [results, go_sem]; rfl, ⟨_, rfl⟩, .inr ⟨_, trivial, hJx3⟩⟩
    · have hlt' : ¬ ((p : Int) < (s.size : Int)) := by omega
      obtain rfl : p = s.size := by omega
      gi_wp2_with fail
      go_end0
      exact ⟨⟨_, rfl⟩, .inl ⟨pre, HE.out, hJs⟩⟩

/-- lines' value keeps its promise in every later world -/
theorem lines_stops (n : Nat) (hn1 : 1 ≤ n) (Bx : Nat) (s : ByteArray) (hm : s.size ≤ 1000000) (w : World)
    (hbx : w.cell? ⟨Bx, 0, none⟩ = some (.string s)) (hB : Bx < w.heap.size) :
    SeqOk Fence.wide n Tryd.prog 42 #[.pointer (some ⟨Bx, 0, none⟩)] Ln.encs (fun pre x _ => LnOk s pre x) (Stays Bx w.heap.size) (fun ys => endLn ys = s.size) (fun _ => True) w :=
  fun l J Jx W hW hJ _ hY h0 => lines1_in n hn1 l Bx w.heap.size s hm J Jx W hJ hY ((hW.cell (p := ⟨Bx, 0, none⟩) hB).trans hbx) hB hW.size h0
end Go.Proofs.YtifdmgloheampaaDoor
