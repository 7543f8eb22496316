/- The acts of a statement of layer 25 as they lie in memory; light. Condition: they lie so. -/
import Derived.Test.YtopnhplacdbkdaaGreatDo25
namespace Go.Proofs.YtopnhplacdbkdaaGreat
open Go.RowKit DiskM

structure Act25.Ok (x : Act25) (w : World) (B : Nat) : Prop where
  kind : x.kind < 256
  nm : x.nm.size ≤ 9223372036854775807
  len : x.bs.length = x.n
  most : x.n ≤ 9223372036854775807
  rd : Rd w B x.a x.bs
  at_ : x.bs = [] ∨ ∀ ad, x.a = some ad → ad.block < B
  num0 : -9223372036854775808 ≤ x.num
  num1 : x.num ≤ 9223372036854775807
def light5 (x : Act25) : Bool := decide (x.n ≤ 200) && decide (x.nm.size ≤ 40)
def lightE (xs : List Act25) : Bool := decide (xs.length ≤ 40) && xs.all light5
theorem Act25.Ok.fine {x : Act25} {w : World} {B : Nat} (h : x.Ok w B) (hl : light5 x = true) : x.Fine w B := by
  unfold light5 at hl
  simp only [Bool.and_eq_true, decide_eq_true_eq] at hl
  exact ⟨h.kind, hl.2, h.len, hl.1, h.rd, h.at_, h.num0, h.num1⟩
/-- a slice of acts -/
def RdE (w : World) (B : Nat) (a : Option Addr) (xs : List Act25) : Prop := xs = [] ∨ ∃ b o, a = some ⟨b, o, none⟩ ∧ b < B ∧ ∀ (j : Nat) x, xs[j]? = some x → (∀ (i : Nat) v, x.cells[i]? = some v → w.cell? ⟨b, o + j * 5 + i, none⟩ = some v) ∧ x.Ok w B
theorem RdE.at_ {w : World} {B : Nat} {a : Option Addr} {xs : List Act25} (h : RdE w B a xs) {j : Nat} {x : Act25} (hx : xs[j]? = some x) : ∃ b o, a = some ⟨b, o, none⟩ ∧ b < B ∧ (∀ (i : Nat) v, x.cells[i]? = some v → w.cell? ⟨b, o + j * 5 + i, none⟩ = some v) ∧ x.Ok w B := by
  rcases h with rfl | ⟨b, o, rfl, hb, hc⟩
  · simp at hx
  · exact ⟨b, o, rfl, hb, (hc j x hx).1, (hc j x hx).2⟩

theorem RdE.below {w w' : World} {a : Option Addr} {xs : List Act25} (h : RdE w w.heap.size a xs) (hb : Below w.heap.size w w') : RdE w' w.heap.size a xs := by
  rcases h with rfl | ⟨b, o, rfl, hl, hc⟩
  · exact .inl rfl
  · refine .inr ⟨b, o, rfl, hl, fun j x hx => ?_⟩
    obtain ⟨h1, h2⟩ := hc j x hx
    exact ⟨fun i v hv => (hb.cell (p := ⟨b, o + j * 5 + i, none⟩) hl).trans (h1 i v hv), ⟨h2.kind, h2.nm, h2.len, h2.most, h2.rd.below hb, h2.at_, h2.num0, h2.num1⟩⟩
theorem Act25.Fine.up {x : Act25} {w : World} {B B' : Nat} (h : x.Fine w B) (hB : B ≤ B') : x.Fine w B' :=
  ⟨h.kind, h.nm, h.len, h.most, h.rd.more hB, h.at_.imp id fun h ad ha => Nat.lt_of_lt_of_le (h ad ha) hB, h.num0, h.num1⟩

set_option maxRecDepth 100000 in
set_option maxHeartbeats 2000000 in
theorem light25_any (w : World) {B : Nat} (a : Option Addr) (n c : Nat) (xs : List Act25) (hn : xs.length = n) (hm : n ≤ 9223372036854775807) (h : RdE w B a xs) :
    Calls Tryz.prog 5 #[.slice a n c] w fun e w' => e = .returned (.bool (lightE xs)) ∧ w = w' := by
  have H := Lib.hid h
  have HN := Lib.hid hn
  clear h hn
  by_cases h40 : 40 < n
  · have HF := Lib.hid (show lightE xs = false by unfold lightE; rw [HN.out, decide_eq_false (by omega), Bool.false_and])
    have h40' : (40 : Int) < (n : Int) := by omega
    go_enter Tryz.func5, Tryz.ntmps5
    go_wp2_with fail
    go_ret
    exact ⟨ret_bool' HF.out.symm, rfl⟩
  have h40' : ¬ ((40 : Int) < (n : Int)) := by omega
  go_enter Tryz.func5, Tryz.ntmps5
  go_wp2_with fail
  go_loop [3] (fun v => ∃ k : Nat, v = .int .i64 k ∧ k ≤ n ∧ (xs.take k).all light5 = true) (fun v => n - (intOf v).toNat)
  case atStart => exact ⟨0, rfl, Nat.zero_le _, rfl⟩
  case round =>
    obtain ⟨k, rfl, hk, hall⟩ := hrel
    by_cases hlt : k < n
    · obtain ⟨x, hx⟩ : ∃ x, xs[k]? = some x := ⟨_, List.getElem?_eq_getElem (by rw [HN.out]; exact hlt)⟩
      obtain ⟨b, o, rfl, hb, hc, hok⟩ := H.out.at_ hx
      have g1 := hc 1 (.string x.nm) rfl
      have g2 := hc 2 (.slice x.a x.n x.c) rfl
      have hlt' : (k : Int) < (n : Int) := by omega
      have hAll := Lib.hid hall
      have HX := Lib.hid hx
      clear hall hx hc
      have step : (xs.take (k + 1)).all light5 = light5 x := by
        rw [List.take_add_one, HX.out, List.all_append, hAll.out]; simp
      have STEP := Lib.hid step
      clear step
      have hno : light5 x = false → lightE xs = false := fun hf => by
        unfold lightE
        have : xs.all light5 = false := by
          rw [List.all_eq_false]
          exact ⟨x, List.mem_of_getElem? HX.out, by rw [hf]; decide⟩
        rw [this, Bool.and_false]
      have HNO := Lib.hid hno
      clear hno
      by_cases h3 : 200 < x.n
      · have HF := Lib.hid (HNO.out (by unfold light5; rw [decide_eq_false (by omega), Bool.false_and]))
        have h3' : (200 : Int) < (x.n : Int) := by omega
        go_wp2_with fail
        go_ret
        exact ⟨ret_bool' HF.out.symm, rfl⟩
      have h3' : ¬ ((200 : Int) < (x.n : Int)) := by omega
      by_cases h4 : 40 < x.nm.size
      · have HF := Lib.hid (HNO.out (by unfold light5; rw [decide_eq_false (show ¬ x.nm.size ≤ 40 by omega), Bool.and_false]))
        have h4' : (40 : Int) < (x.nm.size : Int) := by omega
        go_wp2_with fail
        go_ret
        exact ⟨ret_bool' HF.out.symm, rfl⟩
      have h4' : ¬ ((40 : Int) < (x.nm.size : Int)) := by omega
      have HL := Lib.hid (show light5 x = true by unfold light5; rw [decide_eq_true (by omega), decide_eq_true (by omega)]; rfl)
      go_wp2_with fail
      go_round
      case rel => exact ⟨k + 1, by go_num, by omega, by rw [STEP.out]; exact HL.out⟩
      case measure => simp [intOf]; omega
    · obtain rfl : n = k := by omega
      have HF := Lib.hid (show lightE xs = true by
        rw [List.take_of_length_le (by rw [HN.out]; omega)] at hall
        unfold lightE
        rw [hall, HN.out, decide_eq_true (by omega)]; rfl)
      clear hall
      go_wp2_with fail
      go_ret
      exact ⟨ret_bool' HF.out.symm, rfl⟩
end Go.Proofs.YtopnhplacdbkdaaGreat
