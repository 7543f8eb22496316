/- The walk of the library's ParseUint at base 16, 32 bits, for any text. Condition: the world is laid. -/
import Derived.Test.YtifdmgloheampaaDoorScriptE
import Derived.Lib.ConvBytes
import Derived.Lib.AtoiAllMem
import Derived.Laws.Closers25
import Derived.Laws.Closers25b
import Derived.BigCall
import Derived.BigGuard
namespace Go.Proofs.YtifdmgloheampaaDoor
open Go.RowKit DiskM ScriptM

/-- the number and how it ends: 0 well, 1 out of range, 2 no numeral -/
def puE (n : Nat) : List UInt8 → Nat × Nat
  | [] => (n, 0)
  | c :: r => match hexV c with
    | none => (0, 2)
    | some d => if 4294967295 < n * 16 + d then (4294967295, 1) else puE (n * 16 + d) r
theorem puE_from : ∀ (l : List UInt8) (n : Nat), (puE n l).1 = puFrom n l
  | [], n => rfl
  | c :: r, n => by
    simp only [puE, puFrom]
    cases hexV c with
    | none => rfl
    | some d =>
      simp only
      split
      · rfl
      · exact puE_from r _
def pu16E (l : List UInt8) : Nat × Nat := if l = [] then (0, 2) else puE 0 l
theorem pu16E_val (l : List UInt8) : (pu16E l).1 = pu16 l := by
  unfold pu16E pu16
  split
  · rfl
  · exact puE_from l 0
def errV (c : Nat) : Value := if c = 0 then .nilIface else .iface 114 (.int .i64 (c : Int))
def low (c : UInt8) : Nat := c.toNat ||| 32
theorem hexV_low : ∀ c : UInt8, ¬ (48 ≤ c.toNat ∧ c.toNat ≤ 57) → hexV c = if 97 ≤ low c ∧ low c ≤ 102 then some (low c - 87) else none := by
  have : ∀ n : Fin 256, ¬ (48 ≤ (UInt8.ofNat n.val).toNat ∧ (UInt8.ofNat n.val).toNat ≤ 57) → hexV (UInt8.ofNat n.val) = if 97 ≤ low (UInt8.ofNat n.val) ∧ low (UInt8.ofNat n.val) ≤ 102 then some (low (UInt8.ofNat n.val) - 87) else none := by decide +kernel
  intro c
  have h := this ⟨c.toNat, c.toNat_lt⟩
  rwa [show UInt8.ofNat (Fin.val (⟨c.toNat, c.toNat_lt⟩ : Fin 256)) = c from UInt8.ofNat_toNat] at h
theorem low_lt (c : UInt8) : low c < 256 := Nat.or_lt_two_pow (n := 8) c.toNat_lt (by decide)
theorem lower_any (c : UInt8) (w : World) : Calls Tryd.prog 91 #[.int .u8 (c.toNat : Int)] w fun e w' => e = .returned (.int .u8 (low c : Int)) ∧ w = w' := by
  refine (Tryd.internal_strconv_lower _ w).mono ?_
  rintro e w' ⟨rfl, rfl⟩
  refine ⟨congrArg (fun v => Ending.returned (Value.int .u8 v)) ?_, rfl⟩
  exact u8_or_nat c.toNat 32 c.toNat_lt (by decide)

set_option maxHeartbeats 32000000 in
set_option maxRecDepth 100000 in
theorem pui16 (t : ByteArray) (w : World) (hne : t.size ≠ 0) (hmax : t.size ≤ 9223372036854775806) : Calls Tryd.prog 75 #[.string t, .int .i64 16, .int .i64 32] w fun e w' => e = .returned (.tuple #[.int .u64 ((puE 0 t.data.toList).1 : Int), errV (puE 0 t.data.toList).2]) ∧ Below w.heap.size w w' := by
  have hemp : t.toList.isEmpty = false := by
    rw [← decide_eq_emptyBytes]
    exact decide_eq_false (fun h => hne (by rw [h]; rfl))
  have hcv := Lib.run_convert_string_bytes (P := Tryd.prog) w 9 27 5 t (u := .string) Tryd.underlying9 Tryd.underlying27 Tryd.underlying5
  have hB : ∀ j, j < t.size → (Lib.bytesWorld w 5 t).cell? ⟨w.heap.size, j, none⟩ = some (.int .u8 (t.data.toList.getD j 0).toNat) := fun j hj => Lib.bytesWorld_cell w 5 t j hj
  have HBW := Lib.hid (Joins.below_bytesWorld w.heap.size w 5 t (Nat.le_refl _))
  obtain ⟨W1, hW1⟩ : ∃ W1, W1 = Lib.bytesWorld w 5 t := ⟨_, rfl⟩
  rw [← hW1] at hcv hB HBW
  clear hW1
  obtain ⟨bs, hL⟩ : ∃ bs, bs = t.data.toList := ⟨_, rfl⟩
  have hLn : bs.length = t.size := by rw [hL, Lib.size_eq]
  rw [← hL] at hB ⊢
  have HLN := Lib.hid hLn
  clear hL hLn
  go_enter Tryd.func75, Tryd.ntmps75
  go_wp2_with fail
  go_loop [12, 13, 101] (fun vu vn vi => ∃ (k acc : Nat) (a : Int), vu = .bool false ∧ vn = .int .u64 a ∧ vi = .int .i64 k ∧ k ≤ t.size ∧ Hid (a = (acc : Int) ∧ acc ≤ 4294967295 ∧ puE 0 bs = puE acc (bs.drop k)))
    (fun _ _ vi => t.size - (intOf vi).toNat)
  case atStart => exact ⟨0, 0, 0, rfl, rfl, rfl, by omega, rfl, by omega, rfl⟩
  case round =>
    obtain ⟨k, acc, a, rfl, rfl, rfl, hk, hh⟩ := hrel
    obtain ⟨ha, hacc, hdec⟩ := hh.out
    clear hh
    have a0 : 0 ≤ a := by omega
    have a1 : a ≤ 4294967295 := by omega
    by_cases hkn : k < t.size
    · have hc := hB k hkn
      have hkb : k < bs.length := by rw [HLN.out]; exact hkn
      have hdrop : bs.drop k = bs[k]'hkb :: bs.drop (k + 1) := List.drop_eq_getElem_cons hkb
      have hget : bs.getD k 0 = bs[k]'hkb := by simp [List.getD, List.getElem?_eq_getElem hkb]
      rw [hdrop] at hdec
      rw [hget] at hc
      generalize bs[k]'hkb = c at hc hdec
      have hc256 : c.toNat < 256 := c.toNat_lt
      have hlo := low_lt c
      clear hB hdrop hget
      -- a digit d
      by_cases hdig : 48 ≤ c.toNat ∧ c.toNat ≤ 57
      · have hv : hexV c = some (c.toNat - 48) := by unfold hexV; rw [if_pos hdig]
        obtain ⟨hd0, hd1⟩ := hdig
        have hF : puE acc (c :: bs.drop (k + 1)) = if 4294967295 < acc * 16 + (c.toNat - 48) then (4294967295, 1) else puE (acc * 16 + (c.toNat - 48)) (bs.drop (k + 1)) := by simp only [puE, hv]
        rw [hF] at hdec
        by_cases hov : 4294967295 < acc * 16 + (c.toNat - 48)
        · rw [if_pos hov] at hdec
          have HD := Lib.hid hdec
          have iov : 4294967295 < a * 16 + ((c.toNat : Int) - 48) := by omega
          clear hacc hF hov ha hdec hv
          go_wp2_with fail
          go_ret2
          rw [HD.out]
          exact ⟨rfl, HBW.out⟩
        · rw [if_neg hov] at hdec
          have HN : Hid (a * 16 + ((c.toNat : Int) - 48) = ((acc * 16 + (c.toNat - 48) : Nat) : Int) ∧ acc * 16 + (c.toNat - 48) ≤ 4294967295 ∧ puE 0 bs = puE (acc * 16 + (c.toNat - 48)) (bs.drop (k + 1))) := Lib.hid ⟨by omega, by omega, hdec⟩
          have iov : a * 16 + ((c.toNat : Int) - 48) ≤ 4294967295 := by omega
          clear hacc hF hov hdec ha hv
          go_wp2_with fail
          go_round
          case rel => exact ⟨k + 1, acc * 16 + (c.toNat - 48), a * 16 + ((c.toNat : Int) - 48), rfl, rfl, by go_num, by omega, HN⟩
          case measure => simp [intOf]; omega
      · have hv := hexV_low c hdig
        have HLW := Lib.hid (lower_any c)
        have h95 : c.toNat = 95 → low c = 127 := fun e => by unfold low; rw [e]; rfl
        obtain ⟨L, hLe⟩ : ∃ L, low c = L := ⟨_, rfl⟩
        rw [hLe] at hv HLW hlo h95
        have hnd : (c.toNat : Int) < 48 ∨ 57 < (c.toNat : Int) := by omega
        by_cases hhex : 97 ≤ L ∧ L ≤ 102
        · rw [if_pos hhex] at hv
          have hu : ((c.toNat : Int) == 95) = false := by
            rw [beq_eq_false_iff_ne]
            intro e
            have := h95 (by omega)
            omega
          have hu2 : ¬ (c.toNat : Int) = 95 := by
            intro e
            have := h95 (by omega)
            omega
          obtain ⟨hd0, hd1⟩ := hhex
          have g0 : 97 ≤ (L : Int) := by omega
          have g1 : (L : Int) ≤ 102 := by omega
          have hF : puE acc (c :: bs.drop (k + 1)) = if 4294967295 < acc * 16 + (L - 87) then (4294967295, 1) else puE (acc * 16 + (L - 87)) (bs.drop (k + 1)) := by simp only [puE, hv]
          rw [hF] at hdec
          clear h95 hLe hlo
          by_cases hov : 4294967295 < acc * 16 + (L - 87)
          · rw [if_pos hov] at hdec
            have HD := Lib.hid hdec
            have iov : 4294967295 < a * 16 + ((L : Int) - 97 + 10) := by omega
            clear hacc hF hov ha hdec hv hd0 hd1
            rcases hnd with hnd | hnd
            all_goals
              go_wp2_with (refine (HLW.out _).mono ?_; rintro e w' ⟨rfl, rfl⟩)
              go_ret2
              rw [HD.out]
              exact ⟨rfl, HBW.out⟩
          · rw [if_neg hov] at hdec
            have HN : Hid (a * 16 + ((L : Int) - 97 + 10) = ((acc * 16 + (L - 87) : Nat) : Int) ∧ acc * 16 + (L - 87) ≤ 4294967295 ∧ puE 0 bs = puE (acc * 16 + (L - 87)) (bs.drop (k + 1))) := Lib.hid ⟨by omega, by omega, hdec⟩
            have iov : a * 16 + ((L : Int) - 97 + 10) ≤ 4294967295 := by omega
            clear hacc hF hov hdec ha hv hd0 hd1
            rcases hnd with hnd | hnd
            all_goals
              go_wp2_with (refine (HLW.out _).mono ?_; rintro e w' ⟨rfl, rfl⟩)
              go_round
              case rel => exact ⟨k + 1, acc * 16 + (L - 87), a * 16 + ((L : Int) - 97 + 10), rfl, rfl, by go_num, by omega, HN⟩
              case measure => simp [intOf]; omega
        · rw [if_neg hhex] at hv
          have hF : puE acc (c :: bs.drop (k + 1)) = (0, 2) := by simp only [puE, hv]
          rw [hF] at hdec
          have HD := Lib.hid hdec
          clear hacc hF ha hdec hv
          by_cases hu : c.toNat = 95
          · have hL := h95 hu
            subst hL
            rw [hu] at hc HLW
            clear hhex hdig hLe hlo h95 hnd hc256 hu
            have HLW2 : Hid (∀ w, Calls Tryd.prog 91 #[.int .u8 95] w fun e w' => e = .returned (.int .u8 127) ∧ w = w') := Lib.hid HLW.out
            have hc' : W1.cell? ⟨w.heap.size, k, none⟩ = some (.int .u8 95) := hc
            clear hc HLW
            go_wp2_with (refine (HLW2.out _).mono ?_; rintro e w' ⟨rfl, rfl⟩)
            go_ret2
            rw [HD.out]
            exact ⟨rfl, HBW.out⟩
          · have hu1 : ((c.toNat : Int) == 95) = false := by rw [beq_eq_false_iff_ne]; omega
            have hu2 : ¬ (c.toNat : Int) = 95 := by omega
            have hL3 : (L : Int) < 97 ∨ 122 < (L : Int) ∨ (103 ≤ (L : Int) ∧ (L : Int) ≤ 122) := by omega
            have hlo' : (L : Int) < 256 := by omega
            clear hhex hdig hLe h95 hu hlo
            rcases hnd with hnd | hnd <;> rcases hL3 with hL3 | hL3 | ⟨hL3, hL4⟩
            all_goals
              go_wp2_with (refine (HLW.out _).mono ?_; rintro e w' ⟨rfl, rfl⟩)
              go_ret2
              rw [HD.out]
              exact ⟨rfl, HBW.out⟩
    · have hkk : k = t.size := by omega
      subst hkk
      have hF : puE acc (bs.drop t.size) = (acc, 0) := by rw [List.drop_eq_nil_of_le (by rw [HLN.out]; exact Nat.le_refl _)]; rfl
      rw [hF] at hdec
      have HD := Lib.hid hdec
      subst ha
      clear hacc hF a0 a1 hdec
      go_wp2_with fail
      go_ret2
      rw [HD.out]
      exact ⟨rfl, HBW.out⟩
end Go.Proofs.YtifdmgloheampaaDoor
