/- The walks of the log statements' own few and all. Condition: the argument reads as slices of bytes. -/
import Derived.Test.YtopnhplacdbkdaaLogPut
namespace Go.Proofs.Ytopnhplacdbkdaa
open Go.RowKit

/-- few short texts -/
def fewB (ps : List Part) : Bool := decide (ps.length ≤ 20) && ps.all fun p => decide (p.n ≤ 300)
theorem few_yes {ps : List Part} (h : fewB ps = true) : ps.length ≤ 20 ∧ ∀ p ∈ ps, p.n ≤ 300 := by
  simp only [fewB, Bool.and_eq_true, decide_eq_true_eq, List.all_eq_true] at h
  exact h

theorem ret_bool {a b : Bool} (h : a = b) : Ending.returned (.bool a) = .returned (.bool b) := by rw [h]

set_option maxRecDepth 100000 in
set_option maxHeartbeats 1000000 in
theorem few_any (a : Option Addr) (n c : Nat) (ps : List Part) (w : World) (hn : ps.length = n) (hm : n ≤ 9223372036854775807) (h : RdP w w.heap.size a ps) (hp : ∀ p ∈ ps, p.n ≤ 9223372036854775807) :
    Calls Try.prog 28 #[.slice a n c] w fun e w' => e = .returned (.bool (fewB ps)) ∧ w = w' := by
  by_cases h20 : 20 < n
  · have e : fewB ps = false := by simp [fewB]; intro h; omega
    rw [e]
    clear h hp hn e
    go_enter Try.func28, Try.ntmps28
    go_wp2_with fail
    go_ret
    exact ⟨rfl, rfl⟩
  · have HN := Lib.hid hn
    have HP := Lib.hid hp
    clear hn hp
    go_enter Try.func28, Try.ntmps28
    go_wp2_with fail
    go_loop [3] (fun i => ∃ k : Nat, k ≤ n ∧ i = .int .i64 k ∧ ((ps.take k).all fun p => decide (p.n ≤ 300)) = true) (fun i => n - (intOf i).toNat)
    case atStart => exact ⟨0, Nat.zero_le _, rfl, by simp⟩
    case round =>
      obtain ⟨k, hk, rfl, hall⟩ := hrel
      have HA := Lib.hid hall
      clear hall
      by_cases hlt : k < n
      · obtain ⟨b, o, p, rfl, hb, hpk, hc, _, _⟩ := h.at_ (show k < ps.length by rw [HN.out]; exact hlt)
        have hpl := HP.out p (List.mem_of_getElem? hpk)
        have HPK := Lib.hid hpk
        clear hpk h
        by_cases h3 : p.n ≤ 300
        · go_wp2_with fail
          go_round
          case rel => exact ⟨k + 1, by omega, by go_num, by rw [List.take_add_one, HPK.out]; simp only [Option.toList_some, List.all_append, HA.out, List.all_cons, List.all_nil, Bool.and_true, Bool.true_and]; exact decide_eq_true h3⟩
          case measure => simp [intOf]; omega
        · go_wp2_with fail
          go_ret
          have e : fewB ps = false := by
            simp only [fewB, Bool.and_eq_false_iff, List.all_eq_false]
            exact .inr ⟨p, List.mem_of_getElem? HPK.out, by simpa using h3⟩
          exact ⟨ret_bool e.symm, rfl⟩
      · obtain rfl : k = n := by omega
        clear h
        go_wp2_with fail
        go_ret
        have e : fewB ps = true := by
          have := HA.out
          rw [List.take_of_length_le (by rw [HN.out]; exact Nat.le_refl _)] at this
          simp only [fewB, this, Bool.and_true, decide_eq_true_eq]
          rw [HN.out]; omega
        exact ⟨ret_bool e.symm, rfl⟩

/-- all records, one behind the other -/
def catP (ps : List Part) : List UInt8 := (ps.map fun p => LogM.put p.bs).flatten
theorem catP_snoc {ps : List Part} {k : Nat} {p : Part} (h : ps[k]? = some p) : catP (ps.take (k + 1)) = catP (ps.take k) ++ LogM.put p.bs := by
  unfold catP
  rw [List.take_add_one, h]
  simp
theorem catP_le (ps : List Part) (k : Nat) (h : ∀ p ∈ ps, p.bs.length ≤ 300) : (catP (ps.take k)).length ≤ 312 * k := by
  induction k with
  | zero => simp [catP]
  | succ k ih =>
    cases hp : ps[k]? with
    | none =>
      have : ps.take (k + 1) = ps.take k := by rw [List.take_add_one, hp]; simp
      rw [this]; omega
    | some p =>
      have := h p (List.mem_of_getElem? hp)
      rw [catP_snoc hp, List.length_append, LogM.put_length]
      omega

set_option maxRecDepth 100000 in
set_option maxHeartbeats 1000000 in
theorem alls_any (a : Option Addr) (n c : Nat) (ps : List Part) (w : World) (hn : ps.length = n) (hf : n ≤ 20) (h : RdP w w.heap.size a ps) (hp : ∀ p ∈ ps, p.n ≤ 300) (hpl : ∀ p ∈ ps, p.bs.length = p.n) :
    Calls Try.prog 29 #[.slice a n c] w fun e w' => ∃ a' c', e = .returned (.tuple #[.slice a' (catP ps).length c', .bool true]) ∧ Own w' w.heap.size a' (catP ps).length c' (catP ps) ∧ Below w.heap.size w w' := by
  have HN := Lib.hid hn
  have HP := Lib.hid hp
  have HPL := Lib.hid hpl
  clear hn hp hpl
  go_enter Try.func29, Try.ntmps29
  go_wp2_with fail
  go_loopw [4, 5] (fun v i wr => ∃ (k : Nat) (a' : Option Addr) (c' : Nat), k ≤ n ∧ i = .int .i64 k ∧ v = .slice a' (catP (ps.take k)).length c' ∧ Own wr w.heap.size a' (catP (ps.take k)).length c' (catP (ps.take k)) ∧ Below w.heap.size w wr) (fun _ i _ => n - (intOf i).toNat)
  case atStart => exact ⟨0, none, 0, Nat.zero_le _, rfl, rfl, Own.nil_ _ _, Below.refl _ _⟩
  case round =>
    obtain ⟨k, a1, c1, hk, rfl, rfl, hown, hbel⟩ := hrel
    by_cases hlt : k < n
    · obtain ⟨b, o, p, rfl, hb, hpk, hc, hl, hr⟩ := (h.keep (w' := wr) (fun q hq => hbel.cell hq)).at_ (show k < ps.length by rw [HN.out]; exact hlt)
      have hp3 := HP.out p (List.mem_of_getElem? hpk)
      have hr' := hr.more hbel.size
      have HS := Lib.hid (catP_snoc hpk)
      have HL := Lib.hid hl
      have hle := catP_le ps k (fun q hq => by rw [HPL.out q hq]; exact HP.out q hq)
      have hsm : (catP (ps.take k)).length ≤ 6240 := by omega
      have HLen : Hid ((catP (ps.take (k + 1))).length = (catP (ps.take k)).length + (p.n + 12)) := Lib.hid (by rw [HS.out, List.length_append, LogM.put_length, HL.out])
      generalize (catP (ps.take k)).length = N at hown hsm ⊢ HLen
      generalize catP (ps.take k) = X at hown HS
      clear hl hpk hle hr h
      go_wp2_with fail
      refine (put_any _ _ _ p.bs _ HL.out (by omega) hr').mono ?_
      rintro e w2 ⟨a2, c2, rfl, ho2, hb2⟩
      have hown2 := hown.call hb2
      have hr2 := ho2.rd
      have hl2 := ho2.len
      have HL2 := Lib.hid hl2
      have hbel2 := Below.next0 hbel hb2
      clear hl2 hown hb2 ho2 hr' hbel
      go_wp2_with (at_builtin; refine wpList_append_b rfl (.tmp 24) (.tmp 25) rfl w _ w.heap.size hbel2 hbel2.size _ _ _ _ rfl hown2 _ _ (p.n + 12) c2 (LogM.put p.bs) rfl hr2 HL2.out (N + (p.n + 12)) rfl (by omega) ?_; intro a3 c3 w3 hown3 hg3 hb3 hat3)
      go_roundw
      case rel => exact ⟨k + 1, a3, c3, by omega, by go_num, by rw [HLen.out], by rw [HLen.out, HS.out]; exact hown3, hb3⟩
      case measure => simp [intOf]; omega
    · obtain rfl : k = n := by omega
      have htk : ps.take k = ps := List.take_of_length_le (by rw [HN.out]; exact Nat.le_refl _)
      rw [htk] at hown ⊢
      clear htk h
      go_wp2_with fail
      go_ret2
      exact ⟨_, _, rfl, hown, hbel⟩
end Go.Proofs.Ytopnhplacdbkdaa
