/- The walks of slices.Clone, slices.Grow at nil, slices.Concat at bytes, and log.Put. Condition: slices read as bytes; the lengths are small. -/
import Derived.Test.YtopnhplacdbkdaaGreatLogA
import Derived.Lib.AppendZerosOnto
import Derived.Lib.SliceRun
import Derived.WalkSpells
namespace Go.Proofs.YtopnhplacdbkdaaGreat
open Go.RowKit

theorem append_zeros_nil (w : World) (ty : TypeId) (k : Nat) (h0 : 0 < k) (h : k ≤ 140737488355328) :
    ∃ c O, k ≤ c ∧ c ≤ maxLen ∧ (Builtin.append_ #[30, 3] ty #[.slice none 0 0, .int .i64 (k : Int)]).run Tryz.prog w = .ok (.slice (some ⟨w.heap.size, 0, none⟩) k c) (w.drew.alloc (.cells O 5)) ∧ O.size = c := by
  obtain ⟨i0, hi, hz0, hz1, hz2⟩ := info_parts info_u8
  have hr := Lib.run_append_grow_zeros (P := Tryz.prog) w 30 3 ty 5 i0 (.int .u8 0) .i64 .i64 Tryz.underlying30 Tryz.underlying3 hi hz0 none 0 0 []
    (by rw [hz1]; simp [Builtin.firstCells]) k h0 (by omega) (by omega) (by omega) (by rw [hz2]; omega) (by rw [hz2]; exact growslice_fits (by omega) (by omega))
  rw [Nat.zero_add] at hr
  have hc1 : k ≤ grownCap w k 0 5 := grownCap_ge w _ _ _
  have hc2 : grownCap w k 0 5 ≤ maxLen := grownCap_le_maxLen w _ _ _ (by unfold maxLen; omega)
  refine ⟨_, _, hc1, hc2, hr, ?_⟩
  simp [size_zeroCells, Value.cells]
  omega

set_option maxRecDepth 100000 in
theorem grow_nil (k : Nat) (w : World) (h : k ≤ 140737488355328) :
    Calls Tryz.prog 89 #[.slice none 0 0, .int .i64 (k : Int)] w fun e w' => ∃ a c, e = .returned (.slice a 0 c) ∧ Own w' w.heap.size a 0 c [] ∧ Below w.heap.size w w' := by
  by_cases h0 : k = 0
  · subst h0
    go_enter Tryz.func89, Tryz.ntmps89
    go_wp2_with fail
    go_ret
    exact ⟨_, _, rfl, Own.nil_ _ _, Below.refl _ _⟩
  · have hk : (0 : Int) < (k : Int) := by omega
    have hnn : ¬ ((k : Int) < 0) := by omega
    obtain ⟨c, O, hc1, hc2, hr, hO⟩ := append_zeros_nil w 30 k (by omega) h
    have hsl := fun W => slice_h_b W (some ⟨w.heap.size, 0, none⟩) k c .i64 0 (by omega) (by omega)
    have HC1 := Lib.hid hc1
    have HO := Lib.hid hO
    have hown : Own (w.drew.alloc (.cells O 5)) w.heap.size (some ⟨w.heap.size, 0, none⟩) 0 c [] :=
      ⟨rfl, .inr ⟨w.heap.size, c, O, rfl, Nat.le_refl _, heap_alloc_new _ _, Nat.zero_le _, hc2, by omega, by simp⟩⟩
    have hbel : Below w.heap.size w (w.drew.alloc (.cells O 5)) := (Below.refl _ _).drew.alloc (Nat.le_refl _) _
    have HR := Lib.hid hr
    clear hc1 hO hr
    go_enter Tryz.func89, Tryz.ntmps89
    go_wp2_with (at_builtin; refine wpList_append_run rfl (.tmp 20) (.tmp 21) _ _ rfl _ _ rfl rfl _ _ HR.out ?_)
    go_ret
    exact ⟨_, _, rfl, hown, hbel⟩

theorem clone_any (a : Option Addr) (n c : Nat) (bs : List UInt8) (w : World) (hn : bs.length = n) (hm : n ≤ 140737488355328) (h : Rd w w.heap.size a bs) :
    Calls Tryz.prog 62 #[.slice a n c] w fun e w' => ∃ a' c', e = .returned (.slice a' n c') ∧ Own w' w.heap.size a' n c' bs ∧ Below w.heap.size w w' := by
  have hnil := fun W => Lib.run_eql_slice_nil (P := Tryz.prog) W 30 5 a n c 0 0 Tryz.underlying30
  rcases a with _ | ad
  · have hb : bs = [] := by rcases h with h | ⟨_, _, h, _⟩ <;> first | exact h | cases h
    subst hb
    obtain rfl : n = 0 := by simpa using hn.symm
    clear hn
    go_enter Tryz.func62, Tryz.ntmps62
    go_wp2_with fail
    go_ret
    exact ⟨_, _, rfl, Own.nil_ _ _, Below.refl _ _⟩
  · have hlit := Own.lit (B := w.heap.size) (bs := []) w (Nat.le_refl _) #[] rfl (by simp)
    have hbl : Below w.heap.size w (w.alloc (.cells #[] 5)) := (Below.refl _ _).alloc (Nat.le_refl _) _
    have hrl := h.below hbl
    have HN := Lib.hid hn
    clear hn
    go_enter Tryz.func62, Tryz.ntmps62
    go_wp2_with (at_builtin; refine wpList_append_b rfl (.tmp 5) (.tmp 6) rfl w _ w.heap.size hbl hbl.size _ 0 0 [] rfl hlit _ _ n c bs rfl hrl HN.out n (by omega) (by omega) ?_; intro a1 c1 w1 hown1 hg1 hb1 hat1)
    go_ret
    exact ⟨_, _, rfl, hown1, hb1⟩

def partsLen (ps : List Part) : Nat := (ps.map (·.n)).sum
def partsAll (ps : List Part) : List UInt8 := ps.flatMap (·.bs)
theorem partsLen_snoc {ps : List Part} {k : Nat} {p : Part} (h : ps[k]? = some p) : partsLen (ps.take (k + 1)) = partsLen (ps.take k) + p.n := by
  unfold partsLen
  rw [List.take_add_one, h]
  simp
theorem partsAll_snoc {ps : List Part} {k : Nat} {p : Part} (h : ps[k]? = some p) : partsAll (ps.take (k + 1)) = partsAll (ps.take k) ++ p.bs := by
  unfold partsAll
  rw [List.take_add_one, h]
  simp
theorem partsLen_le (ps : List Part) (k : Nat) : partsLen (ps.take k) ≤ partsLen ps := by
  unfold partsLen
  have h := List.take_append_drop k ps
  have : (ps.map (·.n)).sum = ((ps.take k).map (·.n)).sum + ((ps.drop k).map (·.n)).sum := by
    rw [← List.sum_append, ← List.map_append, h]
  omega

set_option maxRecDepth 100000 in
set_option maxHeartbeats 1000000 in
theorem concat_any (b o n c : Nat) (ps : List Part) (w : World) (hn : ps.length = n) (hm : n ≤ 1000000) (hb : b < w.heap.size) (h : PartsAt w w.heap.size b o ps) (hs : partsLen ps ≤ 140737488355328) :
    Calls Tryz.prog 65 #[.slice (some ⟨b, o, none⟩) n c] w fun e w' => ∃ a' c', e = .returned (.slice a' (partsLen ps) c') ∧ Own w' w.heap.size a' (partsLen ps) c' (partsAll ps) ∧ Below w.heap.size w w' := by
  have HN := Lib.hid hn
  clear hn
  go_enter Tryz.func65, Tryz.ntmps65
  go_wp2_with fail
  go_loop [3, 11] (fun s i => ∃ k : Nat, k ≤ n ∧ i = .int .i64 k ∧ s = .int .i64 (partsLen (ps.take k) : Nat)) (fun _ i => n - (intOf i).toNat)
  case atStart => exact ⟨0, Nat.zero_le _, rfl, rfl⟩
  case round =>
    obtain ⟨k, hk, rfl, rfl⟩ := hrel
    by_cases hlt : k < n
    · obtain ⟨p, hp⟩ : ∃ p, ps[k]? = some p := ⟨_, List.getElem?_eq_getElem (by rw [HN.out]; exact hlt)⟩
      obtain ⟨hc, hl, _⟩ := h k p hp
      have hsn := partsLen_snoc hp
      have hle := partsLen_le ps (k + 1)
      have HS := Lib.hid hsn
      have hle2 : partsLen (ps.take k) + p.n ≤ 140737488355328 := by omega
      generalize partsLen (ps.take k) = L at hle2 ⊢ HS
      clear hsn hp hl hle h
      go_wp2_with fail
      go_round
      case rel => exact ⟨k + 1, by omega, by go_num, by rw [HS.out]; go_num⟩
      case measure => simp [intOf]; omega
    · obtain rfl : k = n := by omega
      have htk : ps.take k = ps := List.take_of_length_le (by rw [HN.out]; exact Nat.le_refl _)
      rw [htk]
      clear htk
      go_wp2_with fail
      refine (grow_nil (partsLen ps) _ hs).mono ?_
      rintro e w1 ⟨a0, c0, rfl, hown0, hb0⟩
      go_wp2_with fail
      go_loopw [6, 27] (fun v i wr => ∃ (j : Nat) (a' : Option Addr) (c' : Nat), j ≤ k ∧ i = .int .i64 j ∧ v = .slice a' (partsLen (ps.take j)) c' ∧ Own wr w.heap.size a' (partsLen (ps.take j)) c' (partsAll (ps.take j)) ∧ Below w.heap.size w wr) (fun _ i _ => k - (intOf i).toNat)
      case atStart => exact ⟨0, a0, c0, Nat.zero_le _, rfl, rfl, hown0, hb0⟩
      case round =>
        obtain ⟨j, a1, c1, hj, rfl, rfl, hown, hbel⟩ := hrel
        by_cases hlt : j < k
        · obtain ⟨p, hp⟩ : ∃ p, ps[j]? = some p := ⟨_, List.getElem?_eq_getElem (by rw [HN.out]; exact hlt)⟩
          obtain ⟨hc, hl, hr⟩ := h j p hp
          have hc' := (hbel.cell (p := ⟨b, o + j, none⟩) hb).trans hc
          have hr' := hr.below hbel
          have HS := Lib.hid (partsLen_snoc hp)
          have HA := Lib.hid (partsAll_snoc hp)
          have HL := Lib.hid hl
          have hle := partsLen_le ps (j + 1)
          have hle2 : partsLen (ps.take j) + p.n ≤ 140737488355328 := by rw [← HS.out]; omega
          generalize partsLen (ps.take j) = L at hle2 hown ⊢ HS
          generalize partsAll (ps.take j) = X at hown HA
          clear hp hl hle h hr hc hown0 hb0
          go_wp2_with (at_builtin; refine wpList_append_b rfl (.tmp 31) (.tmp 32) rfl w _ w.heap.size hbel hbel.size _ _ _ _ rfl hown _ _ p.n p.c p.bs rfl hr' HL.out (L + p.n) rfl hle2 ?_; intro a2 c2 w2 hown2 hg2 hb2 hat2)
          go_roundw
          case rel => exact ⟨j + 1, a2, c2, by omega, by go_num, by rw [HS.out], by rw [HS.out, HA.out]; exact hown2, hb2⟩
          case measure => simp [intOf]; omega
        · obtain rfl : j = k := by omega
          have htk : ps.take j = ps := List.take_of_length_le (by rw [HN.out]; exact Nat.le_refl _)
          rw [htk] at hown ⊢
          clear htk
          go_wp2_with fail
          go_ret
          exact ⟨_, _, rfl, hown, hbel⟩
end Go.Proofs.YtopnhplacdbkdaaGreat
