/- The walk of DigitsSpoilt. Condition: the numbers lie as a slice of numbers; the library's tables lie. -/
import Derived.Test.YtmocmkfpblakbaaGreatDoorLaw4C
import Derived.Test.YtmocmkfpblakbaaGreatDoorDigitsBackW
import Derived.BigQuiet
namespace Go.Proofs.YtmocmkfpblakbaaGreatDoor
open Go.RowKit WordsM DecM

theorem text_pos {neg : Bool} {exp : Int} {ls : List Nat} (hn : IsNum neg exp ls) : 0 < (textOut neg exp ls).length := by
  have h1 := dec_len_pos (val (2 ^ 64) ls)
  rw [textOut, if_pos hn]
  generalize val (2 ^ 64) ls = v at h1 ⊢
  unfold textN
  simp only [List.length_append]
  omega
theorem spoil_size (s x : ByteArray) (i j : Nat) (hs : s.size ≤ 2000) (hx : x.size ≤ 1) : (s.extract 0 i ++ x ++ s.extract j s.size).size ≤ 281474976710656 := by
  simp only [ByteArray.size_append, ByteArray.size_extract]
  omega
theorem spoil_size' (s : ByteArray) (i j : Nat) (hs : s.size ≤ 2000) : (s.extract 0 i ++ s.extract j s.size).size ≤ 281474976710656 := by
  simp only [ByteArray.size_append, ByteArray.size_extract]
  omega
theorem Laid.drewN {w : World} (h : Laid w) (n : Nat) : Laid (w.drewN n) := ⟨h.tab, h.tz, h.big⟩
set_option maxRecDepth 100000 in
set_option maxHeartbeats 8000000 in
theorem walkDigitsSpoilt (a : Option Addr) (n c : Nat) (ls : List Nat) (at_ by_ how : Nat) (w : World) (hln : ls.length = n) (hn : n ≤ 9223372036854775807) (hrd : RdU w w.heap.size a ls) (hx : ∀ x ∈ ls, x < 18446744073709551616)
    (hat : at_ < 256) (hby : by_ < 256) (hhow : how < 256) (hl : Laid w) :
    Calls Tryz.prog 4 #[.slice a n c, .int .u8 (at_ : Int), .int .u8 (by_ : Int), .int .u8 (how : Int)] w fun e w' => e = .returned (.bool true) ∧ Below w.heap.size w w' := by
  have hk := known_any w hl
  have HL := Lib.hid (fun W (hb : Below w.heap.size w W) => hl.below hb)
  have HRD := Lib.hid (And.intro hrd hx)
  have HK := Lib.hid hk
  clear hk hl hrd hx
  go_enter Tryz.func4, Tryz.ntmps4
  go_wp2_with (first
    | (refine HK.out.mono ?_; rintro e w1 ⟨rfl, hb1⟩; have HB1 := Lib.hid hb1; clear hb1)
    | (refine (deckof_any a n c ls w1 hln hn ((RdI.below (K := .u64) HRD.out.1 HB1.out).more HB1.out.size) HRD.out.2).mono ?_; rintro e w2 ⟨rfl, hd, hb2⟩; have HB2 := Lib.hid (And.intro hd hb2); clear hd hb2)
    | (refine (decknum_any w1.heap.size 0 w2 HB2.out.1 (by decide)).mono ?_; rintro e w3 ⟨⟨neg, ex, a3, n3, c3, L, rfl, hnum, hW3⟩, ht3⟩; have hb3 := Below.turn HB2.out.2 ht3 HB2.out.2.size (fun k e => by omega);
       have HB3 := Lib.hid (And.intro hW3 (And.intro hnum (Below.next0 HB1.out hb3))); clear hW3 hnum hb3 ht3))
  have hex := HB3.out.2.1.exp
  have htx := text_any neg ex a3 n3 c3 L w3 HB3.out.1 (by omega) (by omega) (HL.out _ HB3.out.2.2).tabs
  have hTl := text_len (neg := neg) (exp := ex) HB3.out.1
  have hTp := text_pos HB3.out.2.1
  obtain ⟨T, hT⟩ : ∃ T, textOut neg ex L = T := ⟨_, rfl⟩
  rw [hT] at htx hTl hTp
  obtain ⟨s, hs⟩ : ∃ s : ByteArray, s = ⟨T.toArray⟩ := ⟨_, rfl⟩
  have hsz0 : s.size = T.length := by rw [hs]; simp [ByteArray.size]
  have hsv : sv T = .string s := by rw [hs]
  rw [hsv] at htx
  have hs1 : 0 < s.size := by rw [hsz0]; exact hTp
  have hss : s.size ≤ 2000 := by rw [hsz0]; exact hTl
  have HSH := Lib.hid htx
  clear htx hT hs hsv hsz0 hTl hTp hex
  refine HSH.out.mono ?_
  rintro e w4 ⟨rfl, hb4⟩
  have HB4 := Lib.hid (Below.next0 HB3.out.2.2 hb4)
  clear hb4
  have hq : by_ % 16 < (⟨#[48, 49, 50, 51, 52, 53, 54, 55, 56, 57, 112, 45, 43, 46, 32, 120]⟩ : ByteArray).size := Nat.lt_of_lt_of_eq (Nat.mod_lt _ (by decide)) rfl
  obtain ⟨x, hx⟩ : ∃ x : UInt8, (⟨#[48, 49, 50, 51, 52, 53, 54, 55, 56, 57, 112, 45, 43, 46, 32, 120]⟩ : ByteArray)[by_ % 16]'hq = x := ⟨_, rfl⟩
  have hcv : (convert 31 9 (.slice (some ⟨w4.heap.size, 0, none⟩) 1 1)).run Tryz.prog (w4.alloc (.cells #[.int .u8 (x.toNat : Int)] 5)) = .ok (.string ⟨#[x]⟩) (w4.alloc (.cells #[.int .u8 (x.toNat : Int)] 5)) :=
    run_string_b _ _ _ 1 1 [x] (Own.lit (B := 0) (bs := [x]) w4 (Nat.zero_le _) #[.int .u8 (x.toNat : Int)] rfl (by show 1 ≤ maxLen; decide)).rd rfl
  have hB5 : Below w.heap.size w (w4.alloc (.cells #[.int .u8 (x.toNat : Int)] 5)) := HB4.out.alloc HB4.out.size _
  have HB5 := Lib.hid (And.intro hB5 (HL.out _ hB5))
  clear hB5
  have hi : at_ % s.size < s.size := Nat.mod_lt _ hs1
  have hI : ((at_ : Int) % (s.size : Int)) = ((at_ % s.size : Nat) : Int) := by norm_cast
  generalize at_ % s.size = i at hi hI
  obtain h3 | h3 | h3 : how % 3 = 0 ∨ how % 3 = 1 ∨ how % 3 = 2 := by omega
  · have h3' : (how : Int) % 3 = 0 := by omega
    go_wp2_with fail
    go_quiet (fail)
    go_wp2_with fail
    have hsz := spoil_size s ⟨#[x]⟩ i i hss (Nat.le_refl 1)
    have hB6 : Below w.heap.size w ((w4.alloc (.cells #[.int .u8 (x.toNat : Int)] 5)).drewN nq) := below_drewN HB5.out.1 nq
    have hL6 : Laid ((w4.alloc (.cells #[.int .u8 (x.toNat : Int)] 5)).drewN nq) := HB5.out.2.drewN nq
    have hre := reads_any _ _ hsz hL6
    have HRE := Lib.hid (And.intro hre hB6)
    clear hre hB6 hL6 hsz
    refine HRE.out.1.mono ?_
    rintro e w5 ⟨rfl, hb5⟩
    have HB7 := Lib.hid (Below.next0 HRE.out.2 hb5)
    clear hb5
    go_wp2_with fail
    go_ret
    exact ⟨rfl, HB7.out⟩
  · have h3' : (how : Int) % 3 = 1 := by omega
    go_wp2_with fail
    go_quiet (fail)
    go_wp2_with fail
    have hsz := spoil_size' s i (i + 1) hss
    have hB6 : Below w.heap.size w ((w4.alloc (.cells #[.int .u8 (x.toNat : Int)] 5)).drewN nq) := below_drewN HB5.out.1 nq
    have hL6 : Laid ((w4.alloc (.cells #[.int .u8 (x.toNat : Int)] 5)).drewN nq) := HB5.out.2.drewN nq
    have hre := reads_any _ _ hsz hL6
    have HRE := Lib.hid (And.intro hre hB6)
    clear hre hB6 hL6 hsz
    refine HRE.out.1.mono ?_
    rintro e w5 ⟨rfl, hb5⟩
    have HB7 := Lib.hid (Below.next0 HRE.out.2 hb5)
    clear hb5
    go_wp2_with fail
    go_ret
    exact ⟨rfl, HB7.out⟩
  · have h3' : (how : Int) % 3 = 2 := by omega
    go_wp2_with fail
    go_quiet (fail)
    go_wp2_with fail
    have hsz := spoil_size s ⟨#[x]⟩ i (i + 1) hss (Nat.le_refl 1)
    have hB6 : Below w.heap.size w ((w4.alloc (.cells #[.int .u8 (x.toNat : Int)] 5)).drewN nq) := below_drewN HB5.out.1 nq
    have hL6 : Laid ((w4.alloc (.cells #[.int .u8 (x.toNat : Int)] 5)).drewN nq) := HB5.out.2.drewN nq
    have hre := reads_any _ _ hsz hL6
    have HRE := Lib.hid (And.intro hre hB6)
    clear hre hB6 hL6 hsz
    refine HRE.out.1.mono ?_
    rintro e w5 ⟨rfl, hb5⟩
    have HB7 := Lib.hid (Below.next0 HRE.out.2 hb5)
    clear hb5
    go_wp2_with fail
    go_ret
    exact ⟨rfl, HB7.out⟩
end Go.Proofs.YtmocmkfpblakbaaGreatDoor
