/- What is done to both disks: plain words, lengths, the end of an act. No condition. -/
import Derived.Test.YtopnhplacdbkdaaFiles
namespace Go.Proofs.Ytopnhplacdbkdaa
open Go.RowKit DiskM

namespace DiskM
theorem setF_len (d : DS) (k : Nm) (v : List UInt8 × Nat) : (setF d k v).files.length ≤ d.files.length + 1 := put_length _ _ _
theorem gone_len (d : DS) : (gone d).files.length = d.files.length := by rw [(gone_files d).1]
theorem write_len {d : DS} {n : Nat} {f g : DS → DS} (hf : ∀ e : DS, (f e).files.length ≤ e.files.length + 1) (hg : ∀ e : DS, (g e).files.length ≤ e.files.length + 1) : (write d n f g).2.files.length ≤ d.files.length + 1 := by
  have h1 := hf (gone d)
  have h2 := hg (gone d)
  rw [gone_len] at h1 h2
  unfold write
  split
  · show d.files.length ≤ _; omega
  · split
    · show d.files.length ≤ _; omega
    · split
      · exact h1
      · split
        · exact h1
        · exact h2
theorem id_len (e : DS) : (id e).files.length ≤ e.files.length + 1 := by show e.files.length ≤ _; omega
theorem append_len (d : DS) (k : Nm) (b : List UInt8) : (append d k b).2.files.length ≤ d.files.length + 1 := write_len (fun _ => setF_len _ _ _) (fun _ => setF_len _ _ _)
theorem sync_len (d : DS) (k : Nm) : (sync d k).2.files.length ≤ d.files.length + 1 := write_len (fun _ => setF_len _ _ _) id_len
theorem rename_len (d : DS) (k t : Nm) : (rename d k t).2.files.length ≤ d.files.length + 1 := write_len (fun e => by
  show (put t (old e k) (del k e.files)).length ≤ _
  have := put_length t (old e k) (del k e.files)
  have := del_length k e.files
  omega) id_len
theorem remove_len' (d : DS) (k : Nm) : (remove d k).2.files.length ≤ d.files.length + 1 := write_len (fun e => by
  show (del k e.files).length ≤ _
  have := del_length k e.files
  omega) id_len
theorem arm_len (d : DS) (z : Int) (b : Bool) : (arm d z b).files.length ≤ d.files.length + 1 := by
  unfold arm
  split
  · omega
  · show d.files.length ≤ _; omega
theorem grow_len (d : DS) (z : Int) : (grow d z).files.length ≤ d.files.length + 1 := by show d.files.length ≤ _; omega
theorem crash_len (d : DS) (b : List UInt8) : (crash d b).files.length ≤ d.files.length + 1 := by
  show (cutTo b d.files.length d.files).length ≤ _
  rw [cutTo_length]; omega
end DiskM
theorem flipR_len (d : DS) (k : Nm) (z : Int) (m : Nat) : (flipR d k z m).2.files.length ≤ d.files.length + 1 := by
  unfold flipR
  split
  · exact DiskM.setF_len _ _ _
  · show d.files.length ≤ _; omega

/-- an act is over -/
def DoIs (w : World) (B : Nat) (S : Nat → Prop) (p r : Nat) (d : DS) (e : Ending) (w' : World) : Prop := e = .returned (.bool true) ∧ ∃ d', Both w' B S p r d' ∧ Turn (off B S) w w' ∧ d'.files.length ≤ d.files.length + 1
theorem do_end {w1 w2 w3 : World} {B p r : Nat} {d d' : DS} {fq S S1 : Nat → Prop} (h1 : RefAt w1 fq r d) (hq : ∀ k, fq k → B ≤ k ∧ ¬ S k) (hS : ∀ k, fq k ∨ S k → S1 k) (hk : DK w2 B S1 p d') (ht : Turn (off B S1) w1 w2)
    (href : ∃ fq', RefAt w3 fq' r d' ∧ (∀ k, fq' k → fq k ∨ w2.heap.size ≤ k) ∧ Turn fq w2 w3) : Both w3 B S p r d' ∧ Turn (off B S) w1 w3 :=
  both_after h1 hq (hk.less hS) (ht.more fun k _ h => off_less hS k h) fun _ => href
theorem ref_still {w1 w2 : World} {B r : Nat} {d : DS} {fq S : Nat → Prop} (h1 : RefAt w1 fq r d) (hS : ∀ k, fq k → S k) (ht : Turn (off B S) w1 w2) : RefAt w2 fq r d := h1.turn ht fun k hk hf => hf.2 (hS k hk)
theorem cell_still {w1 w2 : World} {B : Nat} {S : Nat → Prop} {x : Addr} {v : Value} (ht : Turn (off B S) w1 w2) (hs : S x.block) (hx : w1.cell? x = some v) : w2.cell? x = some v := (ht.cell (block_lt_of_cell hx) fun h => h.2 hs).trans hx
/-- what an act is made of -/
structure Act21 where
  kind : Nat
  nm : ByteArray
  other : ByteArray
  a : Option Addr
  n : Nat
  c : Nat
  bs : List UInt8
  num : Int
  done : Bool
  mask : Nat
def Act21.cells (x : Act21) : Array Value := #[.int .u8 (x.kind : Int), .string x.nm, .string x.other, .slice x.a x.n x.c, .int .i64 x.num, .bool x.done, .int .u32 (x.mask : Int)]
structure Act21.Fine (x : Act21) (w : World) (B : Nat) : Prop where
  kind : x.kind < 256
  nm : x.nm.size ≤ 40
  other : x.other.size ≤ 40
  len : x.bs.length = x.n
  most : x.n ≤ 300
  rd : Rd w B x.a x.bs
  at_ : x.bs = [] ∨ ∀ ad, x.a = some ad → ad.block < B
  num0 : -9223372036854775808 ≤ x.num
  num1 : x.num ≤ 9223372036854775807
  mask : x.mask < 4294967296
theorem Act21.Fine.turn {x : Act21} {w w' : World} {B : Nat} {S : Nat → Prop} (h : x.Fine w B) (ht : Turn (off B S) w w') (hB : B ≤ w.heap.size) : x.Fine w' B :=
  ⟨h.kind, h.nm, h.other, h.len, h.most, rd_or h.rd ht hB (h.at_.imp id fun h ad ha hb => by have := h ad ha; have := hb.1; omega), h.at_, h.num0, h.num1, h.mask⟩
/-- one of few names, as a rule -/
def pick21 (s : ByteArray) : ByteArray := if s.size = 1 then (match (s.data.toList.getD 0 0).toNat % 4 with | 0 => ⟨#[97]⟩ | 1 => ⟨#[98]⟩ | 2 => ⟨#[108, 111, 103]⟩ | _ => ⟨#[108, 111, 103, 46, 110, 101, 119]⟩) else s
theorem pick21_size (s : ByteArray) (h : s.size ≤ 40) : (pick21 s).size ≤ 40 := by
  unfold pick21
  split
  · split <;> (show _ ≤ 40) <;> decide
  · exact h
set_option maxRecDepth 100000 in
theorem pick21_any (s : ByteArray) (w : World) : Calls Try.prog 85 #[.string s] w fun e w' => e = .returned (.string (pick21 s)) ∧ Below w.heap.size w w' := by
  by_cases h1 : s.size = 1
  · obtain ⟨c, hc⟩ : ∃ c, s[0]'(by omega) = c := ⟨_, rfl⟩
    have hd : s.data.toList.getD 0 0 = c := by
      rw [← hc]
      have : s.data.toList[0]? = some (s[0]'(by omega)) := by rw [Array.getElem?_toList, Array.getElem?_eq_getElem (by show 0 < s.size; omega)]; rfl
      rw [List.getD_eq_getElem?_getD, this]; rfl
    have hm : c.toNat % 4 < 4 := Nat.mod_lt _ (by omega)
    have hcl : c.toNat < 256 := c.toNat_lt
    have hp : pick21 s = (match c.toNat % 4 with | 0 => ⟨#[97]⟩ | 1 => ⟨#[98]⟩ | 2 => ⟨#[108, 111, 103]⟩ | _ => ⟨#[108, 111, 103, 46, 110, 101, 119]⟩) := by unfold pick21; rw [if_pos h1, hd]
    have h1' : (s.size : Int) = 1 := by omega
    obtain ⟨M, hM⟩ : ∃ M, c.toNat % 4 = M := ⟨_, rfl⟩
    have hM' : (c.toNat : Int) % 4 = (M : Int) := by omega
    rw [hM] at hp
    have HP := Lib.hid hp
    have hcz : (0 : Nat) < s.size := by omega
    rcases (by omega : M = 0 ∨ M = 1 ∨ M = 2 ∨ M = 3) with rfl | rfl | rfl | rfl
    all_goals
      clear hp hd hM hm
      go_enter Try.func85, Try.ntmps85
      go_wp2_with fail
      go_ret
      refine ⟨?_, (Below.refl _ _).alloc (Nat.le_refl _) _⟩
      rw [HP.out]
      rfl
  · have HP := Lib.hid (show pick21 s = s by unfold pick21; rw [if_neg h1])
    have h1' : ((s.size : Int) == 1) = false := by rw [beq_eq_false_iff_ne]; omega
    have h2' : ¬ ((s.size : Int) = 1) := by omega
    clear h1
    go_enter Try.func85, Try.ntmps85
    go_wp2_with fail
    go_ret
    rw [HP.out]
    exact ⟨rfl, Below.refl _ _⟩
end Go.Proofs.Ytopnhplacdbkdaa
