/- The walk of ScriptSpoilt. Condition: the arguments lie as they say; the world is laid. -/
import Derived.Test.YtifdmgloheampaaDoorSeat
import Derived.Test.YtifdmgloheampaaDoorScriptKnw
import Derived.Test.YtifdmgloheampaaDoorScriptZ
namespace Go.Proofs.YtifdmgloheampaaDoor
open Go.RowKit DiskM ScriptM

set_option maxRecDepth 100000 in
set_option maxHeartbeats 4000000 in
theorem walkScriptSpoilt (a : Option Addr) (n c : Nat) (ls : List Nat) (at_ by_ how : Nat) (w : World) (hln : ls.length = n) (hn : n ≤ 9223372036854775807) (hrd : RdU w w.heap.size a ls) (hx : ∀ x ∈ ls, x < 18446744073709551616)
    (hat : at_ < 65536) (hby : by_ < 256) (hhow : how < 256) (hl : Laid w) :
    Calls Tryd.prog 7 #[.slice a n c, .int .u16 (at_ : Int), .int .u8 (by_ : Int), .int .u8 (how : Int)] w fun e w' => e = .returned (.bool true) ∧ Below w.heap.size w w' := by
  have hk := scriptknown_any w hl
  have HL := Lib.hid (And.intro hl (And.intro hrd hx))
  have HK := Lib.hid hk
  clear hl hk hrd hx
  go_enter Tryd.func7, Tryd.ntmps7
  go_wp2_with (first
    | (refine HK.out.mono ?_; rintro e w1 ⟨rfl, hb1⟩; have HB1 := Lib.hid hb1; clear hb1)
    | (refine (deckof_any a n c ls _ hln hn ((HL.out.2.1.keep fun p hp => HB1.out.cell hp).more HB1.out.size) HL.out.2.2).mono ?_; rintro e w2 ⟨rfl, hd2, hb2⟩; have HD2 := Lib.hid (And.intro hd2 hb2); clear hd2 hb2)
    | (refine (script_any _ 0 6 _ HD2.out.1 (by decide) (by decide)).mono ?_; rintro e w3 ⟨vs, sa, sc, j, rfl, hvl, hs⟩; have HS := Lib.hid hs; have HB3 := Lib.hid (Below.next0 HB1.out (hs.below HD2.out.2 (Nat.le_refl _))); clear hs))
  have HL3 := Lib.hid (HL.out.1.below HB3.out)
  have hlen := show_len HS.out.drawn HS.out.masks
  have hsho := show_any sa vs.length sc vs w3 rfl (by omega) HS.out.acts.rdv HL3.out
  obtain ⟨T, hT⟩ : ∃ T, showM (vs.map ActV.abs) = T := ⟨_, rfl⟩
  rw [hT] at hsho hlen
  obtain ⟨s, hs⟩ : ∃ s : ByteArray, s = ⟨T.toArray⟩ := ⟨_, rfl⟩
  have hss : s.size ≤ 520 := by rw [hs, sv_size]; omega
  have hsv : sv T = .string s := by rw [hs]
  rw [hsv] at hsho
  have HSH := Lib.hid hsho
  clear hsho hT hs hsv hlen
  refine HSH.out.mono ?_
  rintro e w4 ⟨rfl, hb4⟩
  have HB4 := Lib.hid (Below.next0 HB3.out hb4)
  have HL4 := Lib.hid (HL3.out.below hb4)
  clear hb4
  by_cases h0 : s = ⟨#[]⟩
  · subst h0
    go_wp2_with (refine (reads_any _ w4 (by omega) HL4.out).mono ?_; rintro e w5 ⟨rfl, hb5⟩; have HB5 := Lib.hid (Below.next0 HB4.out hb5); clear hb5)
    go_ret
    exact ⟨rfl, HB5.out⟩
  · have hs1 : 0 < s.size := by
      rcases Nat.eq_zero_or_pos s.size with h | h
      · exact absurd (ByteArray.ext (Array.eq_empty_of_size_eq_zero h)) h0
      · exact h
    have he : s.toList.isEmpty = false := by
      rw [Lib.toList_data]
      cases hd : s.data.toList with
      | nil => have h1 := congrArg List.length hd; have h2 : s.data.toList.length = s.size := by rw [Array.length_toList]; rfl
               rw [h2, List.length_nil] at h1; omega
      | cons _ _ => rfl
    have hq : by_ % 16 < (⟨#[48, 49, 50, 51, 52, 53, 54, 55, 56, 57, 32, 10, 97, 103, 111, 120]⟩ : ByteArray).size := Nat.lt_of_lt_of_eq (Nat.mod_lt _ (by decide)) rfl
    obtain ⟨x, hx⟩ : ∃ x : UInt8, (⟨#[48, 49, 50, 51, 52, 53, 54, 55, 56, 57, 32, 10, 97, 103, 111, 120]⟩ : ByteArray)[by_ % 16]'hq = x := ⟨_, rfl⟩
    have hcv : (convert 27 9 (.slice (some ⟨w4.heap.size, 0, none⟩) 1 1)).run Tryd.prog (w4.alloc (.cells #[.int .u8 (x.toNat : Int)] 5)) = .ok (.string ⟨#[x]⟩) (w4.alloc (.cells #[.int .u8 (x.toNat : Int)] 5)) :=
      run_string_b _ _ _ 1 1 [x] (Own.lit (B := 0) (bs := [x]) w4 (Nat.zero_le _) #[.int .u8 (x.toNat : Int)] rfl (by show 1 ≤ maxLen; decide)).rd rfl
    have hB5 : Below w.heap.size w (w4.alloc (.cells #[.int .u8 (x.toNat : Int)] 5)) := HB4.out.alloc HB4.out.size _
    have HB5 := Lib.hid (And.intro hB5 (HL4.out.below ((Below.refl _ _).alloc (Nat.le_refl _) _ : Below w4.heap.size w4 (w4.alloc (.cells #[.int .u8 (x.toNat : Int)] 5)))))
    clear hB5
    have hi : at_ % s.size < s.size := Nat.mod_lt _ hs1
    have hI : ((at_ : Int) % (s.size : Int)) = ((at_ % s.size : Nat) : Int) := by norm_cast
    generalize at_ % s.size = i at hi hI
    obtain h3 | h3 | h3 : how % 3 = 0 ∨ how % 3 = 1 ∨ how % 3 = 2 := by omega
    · have h3' : (how : Int) % 3 = 0 := by omega
      go_wp2_with fail
      go_quiet (fail)
      go_wp2_with fail
      have hsz : (s.extract 0 i ++ ⟨#[x]⟩ ++ s.extract i s.size).size ≤ 1000 := by
        simp only [ByteArray.size_append, ByteArray.size_extract, show (⟨#[x]⟩ : ByteArray).size = 1 from rfl]
        omega
      have hB6 : Below w.heap.size w ((w4.alloc (.cells #[.int .u8 (x.toNat : Int)] 5)).drewN nq) := ⟨HB5.out.1.os, HB5.out.1.tape, HB5.out.1.output, HB5.out.1.size, HB5.out.1.block⟩
      have hL6 : Laid ((w4.alloc (.cells #[.int .u8 (x.toNat : Int)] 5)).drewN nq) := ⟨HB5.out.2.tab, HB5.out.2.syn, HB5.out.2.rng, HB5.out.2.max, HB5.out.2.bru, HB5.out.2.big⟩
      have hre := reads_any _ _ hsz hL6
      have HRE := Lib.hid (And.intro hre hB6)
      clear hre hB6 hL6 hsz
      refine HRE.out.1.mono ?_
      rintro e w5 ⟨rfl, hb5⟩
      have HB7 := Lib.hid (Below.next0 HRE.out.2 hb5)
      clear hb5
      go_wp2_with fail
      go_ret
      exact ⟨rfl, HB7.out⟩
    · have h3' : (how : Int) % 3 = 1 := by omega
      go_wp2_with fail
      go_quiet (fail)
      go_wp2_with fail
      have hsz : (s.extract 0 i ++ s.extract (i + 1) s.size).size ≤ 1000 := by
        simp only [ByteArray.size_append, ByteArray.size_extract]
        omega
      have hB6 : Below w.heap.size w ((w4.alloc (.cells #[.int .u8 (x.toNat : Int)] 5)).drewN nq) := ⟨HB5.out.1.os, HB5.out.1.tape, HB5.out.1.output, HB5.out.1.size, HB5.out.1.block⟩
      have hL6 : Laid ((w4.alloc (.cells #[.int .u8 (x.toNat : Int)] 5)).drewN nq) := ⟨HB5.out.2.tab, HB5.out.2.syn, HB5.out.2.rng, HB5.out.2.max, HB5.out.2.bru, HB5.out.2.big⟩
      have hre := reads_any _ _ hsz hL6
      have HRE := Lib.hid (And.intro hre hB6)
      clear hre hB6 hL6 hsz
      refine HRE.out.1.mono ?_
      rintro e w5 ⟨rfl, hb5⟩
      have HB7 := Lib.hid (Below.next0 HRE.out.2 hb5)
      clear hb5
      go_wp2_with fail
      go_ret
      exact ⟨rfl, HB7.out⟩
    · have h3' : (how : Int) % 3 = 2 := by omega
      go_wp2_with fail
      go_quiet (fail)
      go_wp2_with fail
      have hsz : (s.extract 0 i ++ ⟨#[x]⟩ ++ s.extract (i + 1) s.size).size ≤ 1000 := by
        simp only [ByteArray.size_append, ByteArray.size_extract, show (⟨#[x]⟩ : ByteArray).size = 1 from rfl]
        omega
      have hB6 : Below w.heap.size w ((w4.alloc (.cells #[.int .u8 (x.toNat : Int)] 5)).drewN nq) := ⟨HB5.out.1.os, HB5.out.1.tape, HB5.out.1.output, HB5.out.1.size, HB5.out.1.block⟩
      have hL6 : Laid ((w4.alloc (.cells #[.int .u8 (x.toNat : Int)] 5)).drewN nq) := ⟨HB5.out.2.tab, HB5.out.2.syn, HB5.out.2.rng, HB5.out.2.max, HB5.out.2.bru, HB5.out.2.big⟩
      have hre := reads_any _ _ hsz hL6
      have HRE := Lib.hid (And.intro hre hB6)
      clear hre hB6 hL6 hsz
      refine HRE.out.1.mono ?_
      rintro e w5 ⟨rfl, hb5⟩
      have HB7 := Lib.hid (Below.next0 HRE.out.2 hb5)
      clear hb5
      go_wp2_with fail
      go_ret
      exact ⟨rfl, HB7.out⟩
end Go.Proofs.YtifdmgloheampaaDoor
