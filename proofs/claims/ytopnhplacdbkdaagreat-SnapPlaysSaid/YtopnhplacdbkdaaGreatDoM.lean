/- What is done to both disks: plain words, lengths, the end of an act. No condition. -/
import Derived.Test.YtopnhplacdbkdaaGreatFiles
namespace Go.Proofs.YtopnhplacdbkdaaGreat
open Go.RowKit DiskM

namespace DiskM
theorem setF_len (d : DS) (k : Nm) (v : List UInt8 × Nat) : (setF d k v).files.length ≤ d.files.length + 1 := put_length _ _ _
theorem gone_len (d : DS) : (gone d).files.length = d.files.length := by rw [(gone_files d).1]
theorem write_len {d : DS} {n : Nat} {f g : DS → DS} (hf : ∀ e : DS, (f e).files.length ≤ e.files.length + 1) (hg : ∀ e : DS, (g e).files.length ≤ e.files.length + 1) : (write d n f g).2.files.length ≤ d.files.length + 1 := by
  have h1 := hf (gone d)
  have h2 := hg (gone d)
  rw [gone_len] at h1 h2
  unfold write
  split
  · show d.files.length ≤ _; omega
  · split
    · show d.files.length ≤ _; omega
    · split
      · exact h1
      · split
        · exact h1
        · exact h2
theorem id_len (e : DS) : (id e).files.length ≤ e.files.length + 1 := by show e.files.length ≤ _; omega
theorem append_len (d : DS) (k : Nm) (b : List UInt8) : (append d k b).2.files.length ≤ d.files.length + 1 := write_len (fun _ => setF_len _ _ _) (fun _ => setF_len _ _ _)
theorem sync_len (d : DS) (k : Nm) : (sync d k).2.files.length ≤ d.files.length + 1 := write_len (fun _ => setF_len _ _ _) id_len
theorem rename_len (d : DS) (k t : Nm) : (rename d k t).2.files.length ≤ d.files.length + 1 := write_len (fun e => by
  show (put t (old e k) (del k e.files)).length ≤ _
  have := put_length t (old e k) (del k e.files)
  have := del_length k e.files
  omega) id_len
theorem remove_len' (d : DS) (k : Nm) : (remove d k).2.files.length ≤ d.files.length + 1 := write_len (fun e => by
  show (del k e.files).length ≤ _
  have := del_length k e.files
  omega) id_len
theorem arm_len (d : DS) (z : Int) (b : Bool) : (arm d z b).files.length ≤ d.files.length + 1 := by
  unfold arm
  split
  · omega
  · show d.files.length ≤ _; omega
theorem grow_len (d : DS) (z : Int) : (grow d z).files.length ≤ d.files.length + 1 := by show d.files.length ≤ _; omega
theorem crash_len (d : DS) (b : List UInt8) : (crash d b).files.length ≤ d.files.length + 1 := by
  show (cutTo b d.files.length d.files).length ≤ _
  rw [cutTo_length]; omega
end DiskM
/-- an act is over -/
def DoIs (w : World) (B : Nat) (S : Nat → Prop) (p r : Nat) (d : DS) (e : Ending) (w' : World) : Prop := e = .returned (.bool true) ∧ ∃ d', Both w' B S p r d' ∧ Turn (off B S) w w' ∧ d'.files.length ≤ d.files.length + 1
theorem do_end {w1 w2 w3 : World} {B p r : Nat} {d d' : DS} {fq S S1 : Nat → Prop} (h1 : RefAt w1 fq r d) (hq : ∀ k, fq k → B ≤ k ∧ ¬ S k) (hS : ∀ k, fq k ∨ S k → S1 k) (hk : DK w2 B S1 p d') (ht : Turn (off B S1) w1 w2)
    (href : ∃ fq', RefAt w3 fq' r d' ∧ (∀ k, fq' k → fq k ∨ w2.heap.size ≤ k) ∧ Turn fq w2 w3) : Both w3 B S p r d' ∧ Turn (off B S) w1 w3 :=
  both_after h1 hq (hk.less hS) (ht.more fun k _ h => off_less hS k h) fun _ => href
theorem ref_still {w1 w2 : World} {B r : Nat} {d : DS} {fq S : Nat → Prop} (h1 : RefAt w1 fq r d) (hS : ∀ k, fq k → S k) (ht : Turn (off B S) w1 w2) : RefAt w2 fq r d := h1.turn ht fun k hk hf => hf.2 (hS k hk)
theorem cell_still {w1 w2 : World} {B : Nat} {S : Nat → Prop} {x : Addr} {v : Value} (ht : Turn (off B S) w1 w2) (hs : S x.block) (hx : w1.cell? x = some v) : w2.cell? x = some v := (ht.cell (block_lt_of_cell hx) fun h => h.2 hs).trans hx
end Go.Proofs.YtopnhplacdbkdaaGreat
