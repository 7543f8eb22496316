/- The walks of the document's decimal, hex. Condition: the number is not negative; lies below 2^32. -/
import Derived.Test.YtifdmgloheampaaDoorRefDec
import Derived.Test.YtifdmgloheampaaDoorScriptH
namespace Go.Proofs.YtifdmgloheampaaDoor
open Go.RowKit NatM DiskM ScriptM

set_option maxRecDepth 100000 in
theorem rdecimal_any (n : Int) (w : World) (h0 : 0 ≤ n) (h1 : n ≤ 9223372036854775807) : Calls Tryd.prog 39 #[.int .i64 n] w fun e w' => e = .returned (sv (dec n.toNat)) ∧ Below w.heap.size w w' := by
  obtain ⟨N, rfl⟩ : ∃ N : Nat, n = (N : Int) := ⟨n.toNat, by omega⟩
  rw [Int.toNat_natCast]
  go_enter Tryd.func39, Tryd.ntmps39
  go_wp2_with fail
  have hb0 : Below w.heap.size w (w.alloc (.cells #[.int .u64 (N : Int)] 65)) := (Below.refl _ _).alloc (Nat.le_refl _) _
  have hr0 : RdN .u64 (w.alloc (.cells #[.int .u64 (N : Int)] 65)) (w.alloc (.cells #[.int .u64 (N : Int)] 65)).heap.size (some ⟨w.heap.size, 0, none⟩) [N] := by
    refine .inr ⟨w.heap.size, 0, rfl, by simp, fun j m hm => ?_⟩
    cases j with
    | zero =>
      have hm : some N = some m := hm
      injection hm with hm
      subst hm
      rw [cell_of_row _ _ _ _ _ _ (heap_alloc_new _ _)]; rfl
    | succ j => cases hm
  generalize w.alloc (.cells #[.int .u64 (N : Int)] 65) = W0 at *
  have HB := Lib.hid hb0
  have HR := Lib.hid hr0
  have hlt : ∀ x ∈ [N], x < 18446744073709551616 := by intro x hx; rw [List.mem_singleton] at hx; subst hx; omega
  have HLT := Lib.hid hlt
  have HV := Lib.hid (show val (trimL (halves [N])) = N by rw [val_trim, halves_one])
  clear hb0 hr0 hlt
  refine (refpart_any (some ⟨w.heap.size, 0, none⟩) 1 1 [N] W0 rfl (by decide) HR.out HLT.out).mono ?_
  rintro e w1 ⟨a', n', c', rfl, hn', hc1, hc2, hr1, hb1⟩
  have HE := Lib.hid (And.intro hn' (And.intro hr1 (Below.next0 HB.out hb1)))
  have hn2 : n' ≤ 1000000 := by
    rw [hn']
    have := trim_len (halves [N])
    rw [halves_len] at this
    simp only [List.length_singleton] at this
    omega
  have hsm := trim_small (halves_small HLT.out)
  have HSM := Lib.hid hsm
  clear hn' hr1 hb1 hsm
  go_wp2_with (refine (refdec_any a' n' c' _ w1 HE.out.1.symm hn2 hc1 hc2 HE.out.2.1 HSM.out).mono ?_; rw [HV.out]; rintro e w2 ⟨rfl, hb2⟩)
  go_ret
  exact ⟨rfl, Below.next0 HE.out.2.2 hb2⟩

def lowS : ByteArray := ⟨#[48, 49, 50, 51, 52, 53, 54, 55, 56, 57, 97, 98, 99, 100, 101, 102]⟩
theorem lowS_at : ∀ d, d < 16 → lowS.extract d (d + 1) = ⟨#[hexc d]⟩ := by decide
theorem and15b (v : Nat) (h : v < 4294967296) : bits BinOp.and IntKind.u32 (v : Int) 15 = ((v % 16 : Nat) : Int) :=
  bits_mask .u32 32 (by decide) (fun n h0 h1 => by rw [IntKind.wrap_u32]; omega) 4 (by decide) (v : Int) (by omega) (by omega)
theorem slice_low (d : Nat) (hd : d < 16) (w : World) : (Instr.slice 9 (.string ⟨#[48, 49, 50, 51, 52, 53, 54, 55, 56, 57, 97, 98, 99, 100, 101, 102]⟩) (some (.int .u32 (d : Int))) (some (.int .u32 ((d : Int) + 1))) none).run Tryd.prog w = .ok (.string ⟨#[hexc d]⟩) w := by
  rw [run_slice_string w 9 _ .u32 .u32 (d : Int) ((d : Int) + 1) Tryd.underlying9 (by omega) (by omega) (by show (d : Int) + 1 ≤ ((16 : Nat) : Int); omega)]
  have e : ((d : Int) + 1).toNat = d + 1 := by omega
  rw [Int.toNat_natCast, e]
  exact congrArg (fun s => Result.ok (Value.string s) w) (lowS_at d hd)
set_option maxRecDepth 100000 in
theorem rhex_any (u : Nat) (w : World) (hu : u < 4294967296) (h1 : 1 ≤ u) : Calls Tryd.prog 40 #[.int .u32 (u : Int)] w fun e w' => e = .returned (sv (hexD u)) ∧ w = w' := by
  go_enter Tryd.func40, Tryd.ntmps40
  go_wp2_with fail
  go_loop [0, 3] (fun x s => ∃ (v : Nat) (t : List UInt8), x = .int .u32 (v : Int) ∧ s = sv t ∧ v < 4294967296 ∧ hexD u = (if v = 0 then [] else hexD v) ++ t) (fun x _ => (intOf x).toNat)
  case atStart => exact ⟨u, [], rfl, rfl, hu, by rw [if_neg (by omega)]; simp⟩
  case round =>
    obtain ⟨v, t, rfl, rfl, hv, hd⟩ := hrel
    have htl : t.length ≤ 8 := by
      have := hexD_len 8 u (by omega) (by omega)
      rw [hd, List.length_append] at this
      omega
    rcases Nat.eq_zero_or_pos v with rfl | hv0
    · have HD := Lib.hid (show hexD u = t by rw [hd]; simp)
      clear hd
      go_wp2_with fail
      go_ret
      rw [HD.out]; exact ⟨rfl, rfl⟩
    · have hv0' : (0 : Int) < (v : Int) := by omega
      have hand := and15b v hv
      have hm : v % 16 < 16 := by omega
      have hturn : hexD u = (if v / 16 = 0 then [] else hexD (v / 16)) ++ hexc (v % 16) :: t := by
        rw [hd, if_neg (by omega), hexD]
        split
        · rename_i h
          rw [if_pos (by omega), Nat.mod_eq_of_lt h]; rfl
        · rw [if_neg (by omega)]; simp
      obtain ⟨d, hde⟩ : ∃ d, v % 16 = d := ⟨_, rfl⟩
      rw [hde] at hand hm hturn
      have HT := Lib.hid hturn
      clear hd hturn hde
      have hsl := slice_low d hm
      go_wp2_with fail
      go_round
      case rel => exact ⟨v / 16, hexc d :: t, rfl, cons_text _ _, by omega, HT.out⟩
      case measure => simp [intOf]; omega
end Go.Proofs.YtifdmgloheampaaDoor
