/- An act of layer 25: its words, its names, the lengths. No condition. -/
import Derived.Test.YtopnhplacdbkdaaGreatDoM
import Derived.Test.YtopnhplacdbkdaaGreatRefSnap
namespace Go.Proofs.YtopnhplacdbkdaaGreat
open Go.RowKit DiskM

namespace DiskM
theorem turn_len (k : Nm) (b : List UInt8) (i : Nat) (d : DS) : (DiskM.turn k b i d).2.files.length ≤ d.files.length + 1 := by
  unfold DiskM.turn
  split
  · have := clr_len d (fr k); omega
  · split
    · exact append_len _ _ _
    · split
      · exact sync_len _ _
      · exact rename_len _ _ _
theorem replFrom_len (k : Nm) (b : List UInt8) : ∀ (q : Nat) (d : DS), (replFrom k b q d).2.files.length ≤ d.files.length + q
  | 0, d => Nat.le_refl _
  | q + 1, d => by
    have h1 := turn_len k b (3 - q) d
    have h2 := clr_len (DiskM.turn k b (3 - q) d).2 (fr k)
    have h3 := replFrom_len k b q (DiskM.turn k b (3 - q) d).2
    show (if (DiskM.turn k b (3 - q) d).1 = 14 then (if (clr (DiskM.turn k b (3 - q) d).2 (fr k)).1 = 15 then 15 else 14, (clr (DiskM.turn k b (3 - q) d).2 (fr k)).2) else if (DiskM.turn k b (3 - q) d).1 = 0 then replFrom k b q (DiskM.turn k b (3 - q) d).2 else DiskM.turn k b (3 - q) d).2.files.length ≤ _
    split
    · show (clr (DiskM.turn k b (3 - q) d).2 (fr k)).2.files.length ≤ _; omega
    · split
      · omega
      · omega
theorem save_len (d : DS) (k : Nm) (b : List UInt8) : (save d k b).2.files.length ≤ d.files.length + 4 := by
  unfold save
  split
  · show d.files.length ≤ _; omega
  · split
    · show d.files.length ≤ _; omega
    · exact replFrom_len _ _ 4 d
theorem cleanL_len : ∀ (l : List Nm) (d : DS), (cleanL l d).2.files.length ≤ d.files.length
  | [], d => Nat.le_refl _
  | x :: l, d => by
    have h1 := remove_len d x
    have h2 := cleanL_len l (remove d x).2
    have h3 := cleanL_len l d
    show (if suf x then (if (remove d x).1 = 0 then cleanL l (remove d x).2 else remove d x) else cleanL l d).2.files.length ≤ _
    split
    · split
      · omega
      · exact h1
    · exact h3
theorem clean_len (d : DS) : (clean d).2.files.length ≤ d.files.length := by
  unfold clean
  split
  · exact Nat.le_refl _
  · exact cleanL_len _ _
end DiskM
def DoIs25 (w : World) (B : Nat) (S : Nat → Prop) (p r : Nat) (d : DS) (e : Ending) (w' : World) : Prop := e = .returned (.bool true) ∧ ∃ d', Both w' B S p r d' ∧ Turn (off B S) w w' ∧ d'.files.length ≤ d.files.length + 4
structure Act25 where
  kind : Nat
  nm : ByteArray
  a : Option Addr
  n : Nat
  c : Nat
  bs : List UInt8
  num : Int
  done : Bool
def Act25.cells (x : Act25) : Array Value := #[.int .u8 (x.kind : Int), .string x.nm, .slice x.a x.n x.c, .int .i64 x.num, .bool x.done]
structure Act25.Fine (x : Act25) (w : World) (B : Nat) : Prop where
  kind : x.kind < 256
  nm : x.nm.size ≤ 40
  len : x.bs.length = x.n
  most : x.n ≤ 200
  rd : Rd w B x.a x.bs
  at_ : x.bs = [] ∨ ∀ ad, x.a = some ad → ad.block < B
  num0 : -9223372036854775808 ≤ x.num
  num1 : x.num ≤ 9223372036854775807
theorem Act25.Fine.turn {x : Act25} {w w' : World} {B : Nat} {S : Nat → Prop} (h : x.Fine w B) (ht : Turn (off B S) w w') (hB : B ≤ w.heap.size) : x.Fine w' B :=
  ⟨h.kind, h.nm, h.len, h.most, rd_or h.rd ht hB (h.at_.imp id fun h ad ha hb => by have := h ad ha; have := hb.1; omega), h.at_, h.num0, h.num1⟩
/-- one of few names, as a rule -/
def pick25 (s : ByteArray) : ByteArray := if s.size = 1 then (match (s.data.toList.getD 0 0).toNat % 4 with | 0 => ⟨#[97]⟩ | 1 => ⟨#[98]⟩ | 2 => ⟨#[97, 46, 110, 101, 119]⟩ | _ => ⟨#[108, 111, 103]⟩) else s
theorem pick25_size (s : ByteArray) (h : s.size ≤ 40) : (pick25 s).size ≤ 40 := by
  unfold pick25
  split
  · split <;> (show _ ≤ 40) <;> decide
  · exact h
set_option maxRecDepth 100000 in
theorem pick25_any (s : ByteArray) (w : World) : Calls Tryz.prog 18 #[.string s] w fun e w' => e = .returned (.string (pick25 s)) ∧ Below w.heap.size w w' := by
  by_cases h1 : s.size = 1
  · obtain ⟨c, hc⟩ : ∃ c, s[0]'(by omega) = c := ⟨_, rfl⟩
    have hd : s.data.toList.getD 0 0 = c := by
      rw [← hc]
      have : s.data.toList[0]? = some (s[0]'(by omega)) := by rw [Array.getElem?_toList, Array.getElem?_eq_getElem (by show 0 < s.size; omega)]; rfl
      rw [List.getD_eq_getElem?_getD, this]; rfl
    have hm : c.toNat % 4 < 4 := Nat.mod_lt _ (by omega)
    have hcl : c.toNat < 256 := c.toNat_lt
    have hp : pick25 s = (match c.toNat % 4 with | 0 => ⟨#[97]⟩ | 1 => ⟨#[98]⟩ | 2 => ⟨#[97, 46, 110, 101, 119]⟩ | _ => ⟨#[108, 111, 103]⟩) := by unfold pick25; rw [if_pos h1, hd]
    have h1' : (s.size : Int) = 1 := by omega
    obtain ⟨M, hM⟩ : ∃ M, c.toNat % 4 = M := ⟨_, rfl⟩
    have hM' : (c.toNat : Int) % 4 = (M : Int) := by omega
    rw [hM] at hp
    have HP := Lib.hid hp
    have hcz : (0 : Nat) < s.size := by omega
    rcases (by omega : M = 0 ∨ M = 1 ∨ M = 2 ∨ M = 3) with rfl | rfl | rfl | rfl
    all_goals
      clear hp hd hM hm
      go_enter Tryz.func18, Tryz.ntmps18
      go_wp2_with fail
      go_ret
      refine ⟨?_, (Below.refl _ _).alloc (Nat.le_refl _) _⟩
      rw [HP.out]
      rfl
  · have HP := Lib.hid (show pick25 s = s by unfold pick25; rw [if_neg h1])
    have h1' : ((s.size : Int) == 1) = false := by rw [beq_eq_false_iff_ne]; omega
    have h2' : ¬ ((s.size : Int) = 1) := by omega
    clear h1
    go_enter Tryz.func18, Tryz.ntmps18
    go_wp2_with fail
    go_ret
    rw [HP.out]
    exact ⟨rfl, Below.refl _ _⟩
end Go.Proofs.YtopnhplacdbkdaaGreat
