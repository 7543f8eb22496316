/- The walks of the words' cut, Right, Bits, Zeros. Condition: the argument lies as a slice of words. -/
import Derived.Test.YtmocmkfpblakbaaDoorNumR
import Derived.BigQuiet
import Derived.Test.YtmocmkfpblakbaaDoorShelf
namespace Go.Proofs.YtmocmkfpblakbaaDoor
open Go.RowKit WordsM

theorem under_u64s : Tryd.prog.underlying 26 = some (.slice (Tryd.prog.elem 26)) := by kernel_rfl
theorem size_u64 (w : World) : (sizeOf (Tryd.prog.elem 26)).run Tryd.prog w = .ok 1 w := by kernel_rfl
theorem slice_h_u (w : World) (a : Option Addr) (len cap : Nat) (kh : IntKind) (h : Int) (h0 : 0 ≤ h) (h2 : h ≤ cap) :
    (Instr.slice 26 (.slice a len cap) none (some (.int kh h)) none).run Tryd.prog w = .ok (.slice a h.toNat cap) w := by
  rw [run_slice_h w _ a len cap under_u64s kh h h0 h2, size_u64]
  have := cutA_zero a cap 1
  show Result.ok (Value.slice (cutA a cap 0 1) _ _) w = _
  rw [this, Nat.sub_zero, Nat.sub_zero]
/-- the words that a slice argument has -/
structure WordsIn (w : World) (a : Option Addr) (n c : Nat) (ls : List Nat) : Prop where
  len : ls.length = n
  cap : n ≤ c
  most : c ≤ 9223372036854775807
  low : Low (2 ^ 64) ls
  rd : RdI .u64 w w.heap.size a ls
theorem WordsIn.step {w w' : World} {a : Option Addr} {n c : Nat} {ls : List Nat} (h : WordsIn w a n c ls) (hb : Below w.heap.size w w') : WordsIn w' a n c ls := ⟨h.len, h.cap, h.most, h.low, h.rd.step hb⟩
theorem WordsIn.trim {w : World} {a : Option Addr} {n c : Nat} {ls : List Nat} (h : WordsIn w a n c ls) : WordsIn w a (trimL ls).length c (trimL ls) := by
  have h1 := trim_len ls
  have h2 := h.len
  have h3 := h.cap
  refine ⟨rfl, by omega, h.most, trim_low h.low, ?_⟩
  rw [← trim_take ls]
  exact h.rd.front _
set_option maxRecDepth 100000 in
theorem cut_any (a : Option Addr) (n c : Nat) (ls : List Nat) (w : World) (h : WordsIn w a n c ls) :
    Calls Tryd.prog 36 #[.slice a n c] w fun e w' => e = .returned (.slice a (trimL ls).length c) ∧ Below w.heap.size w w' := by
  have hcap := h.cap
  have hmost := h.most
  have H := Lib.hid h
  clear h
  go_enter Tryd.func36, Tryd.ntmps36
  go_wp2_with fail
  go_loopw [3] (fun v wr => ∃ k : Nat, k ≤ n ∧ v = .int .i64 (k : Int) ∧ trimL ls = trimL (ls.take k) ∧ Below w.heap.size w wr) (fun v _ => (intOf v).toNat)
  case atStart => exact ⟨n, Nat.le_refl _, rfl, by rw [List.take_of_length_le (by rw [H.out.len]; exact Nat.le_refl _)], Below.refl _ _⟩
  case round =>
    obtain ⟨k, hk, rfl, htr, hb⟩ := hrel
    have HB := Lib.hid hb
    clear hb
    cases k with
    | zero =>
      have hsl := fun W => slice_h_u W a n c .i64 0 (by omega) (by omega)
      have hl : (trimL ls).length = 0 := by rw [htr]; rfl
      have HLE := Lib.hid hl
      clear hl htr
      go_wp2_with fail
      go_ret
      exact ⟨by rw [HLE.out]; rfl, HB.out⟩
    | succ m =>
      obtain ⟨x, hx⟩ : ∃ x, ls[m]? = some x := ⟨_, List.getElem?_eq_getElem (by rw [H.out.len]; omega)⟩
      obtain ⟨b, o, rfl, hbl, hcell⟩ := (H.out.step HB.out).rd.at_ hx
      have hm0 : (0 : Int) < (m : Int) + 1 := by omega
      have htk : ls.take (m + 1) = ls.take m ++ [x] := by rw [List.take_add_one, hx]; rfl
      by_cases h0 : x = 0
      · subst h0
        have ht2 : trimL ls = trimL (ls.take m) := by rw [htr, htk, trimL_snoc_zero]
        have HT := Lib.hid ht2
        clear htr ht2 htk
        go_wp2_with fail
        exact ⟨⟨m, by omega, rfl, HT.out, HB.out⟩, by simp only [intOf]; omega⟩
      · have hl : (trimL ls).length = m + 1 := by rw [htr, htk, trimL_snoc _ h0]; simp; have := H.out.len; omega
        have HLE := Lib.hid hl
        clear hl htr htk
        have hx0 : ((x : Int) == 0) = false := by simp; omega
        have hsl := fun W => slice_h_u W (some ⟨b, o, none⟩) n c .i64 ((m : Int) + 1) (by omega) (by omega)
        go_wp2_with fail
        go_ret
        exact ⟨by rw [HLE.out]; rfl, HB.out⟩
set_option maxRecDepth 100000 in
theorem natright_any (a : Option Addr) (n c : Nat) (ls : List Nat) (w : World) (h : WordsIn w a n c ls) :
    Calls Tryd.prog 39 #[.slice a n c] w fun e w' => e = .returned (.bool (decide ((trimL ls).length = n))) ∧ Below w.heap.size w w' := by
  have hc := cut_any a n c ls w h
  have HC := Lib.hid hc
  clear hc
  go_enter Tryd.func39, Tryd.ntmps39
  go_wp2_with (refine HC.out.mono ?_; rintro e w1 ⟨rfl, hb1⟩; have HB1 := Lib.hid hb1; clear hb1)
  go_ret
  refine ⟨?_, HB1.out⟩
  show Ending.returned (.bool _) = _
  congr 2
  by_cases h : (trimL ls).length = n
  · simp [h]
  · have h2 : ¬ (((trimL ls).length : Int) = (n : Int)) := by omega
    simp [h, h2]
theorem bitLenAux_le : ∀ f x, Lib.bitLenAux f x ≤ f
  | 0, x => by simp [Lib.bitLenAux]
  | f + 1, x => by
    have := bitLenAux_le f (x / 2)
    rw [Lib.bitLenAux]
    split <;> omega
theorem bitLen_zero (x : Nat) : Lib.bitLen x = 0 ↔ x = 0 := by
  unfold Lib.bitLen
  rw [Lib.bitLenAux]
  split <;> simp_all
set_option maxRecDepth 100000 in
theorem bits_any (a : Option Addr) (n c : Nat) (ls : List Nat) (w : World) (h : WordsIn w a n c ls) (hn : n ≤ 1000000) :
    Calls Tryd.prog 23 #[.slice a n c] w fun e w' => (∃ k : Nat, e = .returned (.int .i64 (k : Int)) ∧ (k = 0 ↔ val (2 ^ 64) ls = 0)) ∧ Below w.heap.size w w' := by
  have hc := cut_any a n c ls w h
  have HC := Lib.hid hc
  have ht := h.trim
  have hv : val (2 ^ 64) (trimL ls) = val (2 ^ 64) ls := val_trim ls
  have hla := trim_last ls
  have htl := trim_len ls
  have hln := h.len
  obtain ⟨ts, hts⟩ : ∃ ts, trimL ls = ts := ⟨_, rfl⟩
  rw [hts] at hv hla htl ht HC
  have HT := Lib.hid (And.intro ht (And.intro hv hla))
  clear hc ht hv hla hts h
  by_cases h0 : ts.length = 0
  · have hnil := List.length_eq_zero_iff.1 h0
    subst hnil
    go_enter Tryd.func23, Tryd.ntmps23
    go_wp2_with (refine HC.out.mono ?_; rintro e w1 ⟨rfl, hb1⟩; have HB1 := Lib.hid hb1; clear hb1)
    go_ret
    exact ⟨⟨0, rfl, by rw [← HT.out.2.1]; simp [val]⟩, HB1.out⟩
  · obtain ⟨m, hm⟩ : ∃ m, ts.length = m + 1 := ⟨ts.length - 1, by omega⟩
    obtain ⟨x, hx⟩ : ∃ x, ts[m]? = some x := ⟨_, List.getElem?_eq_getElem (by omega)⟩
    have hx0 : x ≠ 0 := HT.out.2.2 x (by rw [List.getLast?_eq_getElem?, hm]; exact hx)
    have hxl : x < 2 ^ 64 := HT.out.1.low x (List.mem_of_getElem? hx)
    have hxl : x < 18446744073709551616 := hxl
    have hlen := fun W => Tryd.bits_Len64 (x : Int) W (by omega) (by omega)
    have hbl : 1 ≤ Lib.bitLen x := Nat.pos_of_ne_zero fun e => hx0 ((bitLen_zero x).1 e)
    have hbu : Lib.bitLen x ≤ 64 := bitLenAux_le 64 x
    have hvne : val (2 ^ 64) ls ≠ 0 := fun e => by
      have h1 := dig_val (B := 2 ^ 64) (by decide) ts HT.out.1.low HT.out.2.2
      rw [HT.out.2.1, e, dig_zero] at h1
      rw [← h1] at hm; cases hm
    rw [Int.toNat_natCast] at hlen
    generalize Lib.bitLen x = L at hlen hbl hbu
    have HLN := Lib.hid (And.intro hlen hvne)
    rw [hm] at HC
    clear hlen hvne h0
    go_enter Tryd.func23, Tryd.ntmps23
    go_wp2_with (first
      | (refine HC.out.mono ?_; rintro e w1 ⟨rfl, hb1⟩; (obtain ⟨b, o, rfl, hbk, hcell⟩ := (HT.out.1.step hb1).rd.at_ hx); have HB1 := Lib.hid hb1; clear hb1)
      | (refine (HLN.out.1 _).mono ?_; rintro e w2 ⟨rfl, rfl⟩))
    go_ret
    exact ⟨⟨64 * m + L, rfl, ⟨fun e => by omega, fun e => absurd e HLN.out.2⟩⟩, HB1.out⟩
end Go.Proofs.YtmocmkfpblakbaaDoor
