/- The disk's functions, said of a disk whose blocks lie from B on and off some set of blocks: so worlds can be strung together. Condition: the disk is kept so. -/
import Derived.Test.YtopnhplacdbkdaaGreatDiskCrash
namespace Go.Proofs.YtopnhplacdbkdaaGreat
open Go.RowKit DiskM Go.Shelf

def blk (a : Option Addr) (k : Nat) : Prop := ∃ ad : Addr, a = some ad ∧ k = ad.block
theorem Own.blk_lt {w : World} {B : Nat} {a : Option Addr} {n c : Nat} {bs : List UInt8} (h : Own w B a n c bs) : ∀ k, blk a k → B ≤ k ∧ k < w.heap.size := by
  rintro k ⟨ad, rfl, rfl⟩
  rcases h.form with ⟨h0, _⟩ | ⟨g, cur, e, h1, h2, _⟩
  · cases h0
  · injection e with e; subst e; exact ⟨h1, h2⟩

def off (B : Nat) (S : Nat → Prop) (k : Nat) : Prop := B ≤ k ∧ ¬ S k
/-- the disk, whose blocks lie from B on and off S -/
def DK (w : World) (B : Nat) (S : Nat → Prop) (p : Nat) (d : DS) : Prop := (∃ fp, DiskAt w fp p d ∧ ∀ k, fp k → off B S k) ∧ (∀ k, S k → k < w.heap.size) ∧ B ≤ w.heap.size
section
variable {w w1 w' : World} {B : Nat} {S S' : Nat → Prop} {p : Nat} {d d' : DS}
theorem DK.ok (h : DK w B S p d) : d.Ok := by
  obtain ⟨⟨fp, h, _⟩, _⟩ := h
  exact h.ok
theorem DK.below (h : DK w B S p d) (hb : Below w.heap.size w w') : DK w' B S p d := by
  obtain ⟨⟨fp, h, hf⟩, hs, hB⟩ := h
  exact ⟨⟨fp, h.below hb, hf⟩, fun k hk => Nat.lt_of_lt_of_le (hs k hk) hb.size, Nat.le_trans hB hb.size⟩
theorem DK.less (h : DK w B S p d) (hs : ∀ k, S' k → S k) : DK w B S' p d := by
  obtain ⟨⟨fp, h, hf⟩, h2, hB⟩ := h
  exact ⟨⟨fp, h, fun k hk => ⟨(hf k hk).1, fun h => (hf k hk).2 (hs k h)⟩⟩, fun k hk => h2 k (hs k hk), hB⟩
theorem off_less (hs : ∀ k, S' k → S k) : ∀ k, off B S k → off B S' k := fun k h => ⟨h.1, fun h' => h.2 (hs k h')⟩
/-- blocks that were laid since are kept off -/
theorem DK.more (h : DK w B S p d) (hb : Below w.heap.size w w') (hs : ∀ k, S' k → S k ∨ (w.heap.size ≤ k ∧ k < w'.heap.size)) : DK w' B S' p d := by
  obtain ⟨⟨fp, h, hf⟩, h2, hB⟩ := h
  refine ⟨⟨fp, h.below hb, fun k hk => ⟨(hf k hk).1, fun h' => ?_⟩⟩, fun k hk => ?_, Nat.le_trans hB hb.size⟩
  · rcases hs k h' with h' | h'
    · exact (hf k hk).2 h'
    · have := h.lt k hk; omega
  · rcases hs k hk with h' | h'
    · exact Nat.lt_of_lt_of_le (h2 k h') hb.size
    · exact h'.2
/-- the cells of a block that is kept off, or not the disk's, are turned -/
theorem DK.turn {fq : Nat → Prop} (h : DK w B S p d) (ht : Turn fq w w') (hq : ∀ k, k < w.heap.size → fq k → S k ∨ k < B) : DK w' B S p d := by
  obtain ⟨⟨fp, h, hf⟩, h2, hB⟩ := h
  refine ⟨⟨fp, h.keep (fun k hk => ht.block k (h.lt k hk) fun hq' => ?_) ht.size, hf⟩, fun k hk => Nat.lt_of_lt_of_le (h2 k hk) ht.size, Nat.le_trans hB ht.size⟩
  rcases hq k (h.lt k hk) hq' with h' | h'
  · exact (hf k hk).2 h'
  · have := (hf k hk).1; omega
theorem DK.drewN (h : DK w B S p d) (k : Nat) : DK (w.drewN k) B S p d := h.below ⟨rfl, rfl, rfl, Nat.le_refl _, fun _ _ => rfl⟩

/-- what a write promises, so said -/
def WroteK (w : World) (B : Nat) (S : Nat → Prop) (p : Nat) (r : Nat × DS) (e : Ending) (w' : World) : Prop := e = .returned (.int .i64 (r.1 : Nat)) ∧ DK w' B S p r.2 ∧ Turn (off B S) w w'
def PutK (w : World) (B : Nat) (S : Nat → Prop) (p : Nat) (d : DS) (e : Ending) (w' : World) : Prop := e = .returned (.tuple #[]) ∧ DK w' B S p d ∧ Turn (off B S) w w'
theorem kept_of {fp fp' : Nat → Prop} (hf : ∀ k, fp k → off B S k) (hs : ∀ k, S k → k < w.heap.size) (hB : B ≤ w.heap.size) (h : DiskAt w' fp' p d') (h2 : ∀ k, fp' k → fp k ∨ w.heap.size ≤ k) (ht : Turn fp w w') : DK w' B S p d' ∧ Turn (off B S) w w' := by
  refine ⟨⟨⟨fp', h, fun k hk => ?_⟩, fun k hk => Nat.lt_of_lt_of_le (hs k hk) ht.size, Nat.le_trans hB ht.size⟩, ht.more fun k _ hk => hf k hk⟩
  rcases h2 k hk with h | h
  · exact hf k h
  · exact ⟨by omega, fun h' => by have := hs k h'; omega⟩
theorem write_k (h : DK w B S p d) {f : Nat} {args : Array Value} {r : Nat × DS} (hc : ∀ fp, DiskAt w fp p d → (∀ k, fp k → off B S k) → Calls Tryz.prog f args w (WriteIs w fp p r)) : Calls Tryz.prog f args w (WroteK w B S p r) := by
  obtain ⟨⟨fp, h, hf⟩, hs, hB⟩ := h
  refine (hc fp h hf).mono ?_
  rintro e w' ⟨rfl, fp', h1, h2, h3⟩
  obtain ⟨k1, k2⟩ := kept_of hf hs hB h1 h2 h3
  exact ⟨rfl, k1, k2⟩
theorem put_k (h : DK w B S p d) {f : Nat} {args : Array Value} {d' : DS} (hc : ∀ fp, DiskAt w fp p d → (∀ k, fp k → off B S k) → Calls Tryz.prog f args w fun e w' => e = .returned (.tuple #[]) ∧ ∃ fp', DiskAt w' fp' p d' ∧ (∀ k, fp' k → fp k ∨ w.heap.size ≤ k) ∧ Turn fp w w') : Calls Tryz.prog f args w (PutK w B S p d') := by
  obtain ⟨⟨fp, h, hf⟩, hs, hB⟩ := h
  refine (hc fp h hf).mono ?_
  rintro e w' ⟨rfl, fp', h1, h2, h3⟩
  obtain ⟨k1, k2⟩ := kept_of hf hs hB h1 h2 h3
  exact ⟨rfl, k1, k2⟩
theorem new_k (room : Int) (w : World) (B : Nat) (S : Nat → Prop) (hB : B ≤ w.heap.size) (hS : ∀ k, S k → k < w.heap.size) : Calls Tryz.prog 6 #[.int .i64 room] w fun e w' => ∃ p, e = .returned (.pointer (some ⟨p, 0, none⟩)) ∧ DK w' B S p (fresh room) ∧ Below w.heap.size w w' := by
  refine (new_any room w).mono ?_
  rintro e w' ⟨p, fp, rfl, h1, h2, h3⟩
  exact ⟨p, rfl, ⟨⟨fp, h1, fun k hk => ⟨Nat.le_trans hB (h2 k hk), fun hs => by have := hS k hs; have := h2 k hk; omega⟩⟩, fun k hk => Nat.lt_of_lt_of_le (hS k hk) h3.size, Nat.le_trans hB h3.size⟩, h3⟩
theorem append_k (h : DK w B S p d) (s : ByteArray) (hs : s.size ≤ maxLen) (a : Option Addr) (n c : Nat) (bs : List UInt8) (hn : bs.length = n) (hrd : Rd w w.heap.size a bs) (hna : bs = [] ∨ ∀ x, a = some x → S x.block ∨ x.block < B) (hfew : d.files.length < 1000000) :
    Calls Tryz.prog 12 #[.pointer (some ⟨p, 0, none⟩), .string s, .slice a n c] w (WroteK w B S p (append d s.data.toList bs)) :=
  write_k h fun fp h' hf => append_any h' s hs a n c bs hn hrd (hna.imp id fun hna x hx hfx => by
    obtain ⟨h1, h2⟩ := hf _ hfx
    rcases hna x hx with h3 | h3
    · exact h2 h3
    · omega) hfew
/-- the bytes lie in a block that was laid since -/
theorem append_new (h : DK w B S p d) (hb : Below w.heap.size w w1) (s : ByteArray) (hs : s.size ≤ maxLen) (a : Option Addr) (n c : Nat) (bs : List UInt8) (hn : bs.length = n) (hrd : Rd w1 w1.heap.size a bs) (hna : ∀ x, a = some x → w.heap.size ≤ x.block ∧ x.block < w1.heap.size) (hfew : d.files.length < 1000000) :
    Calls Tryz.prog 12 #[.pointer (some ⟨p, 0, none⟩), .string s, .slice a n c] w1 (WroteK w1 B S p (append d s.data.toList bs)) := by
  refine (append_k (h.more (S' := fun k => S k ∨ (w.heap.size ≤ k ∧ k < w1.heap.size)) hb fun k hk => hk) s hs a n c bs hn hrd (.inr fun x hx => .inl (.inr (hna x hx))) hfew).mono ?_
  rintro e w' ⟨rfl, h1, h2⟩
  exact ⟨rfl, h1.less fun k hk => .inl hk, h2.more fun k _ hk => off_less (fun k hk => .inl hk) k hk⟩
theorem crash_k (h : DK w B S p d) (a : Option Addr) (n c : Nat) (bs : List UInt8) (hn : bs.length = n) (hrd : Rd w w.heap.size a bs) (hna : bs = [] ∨ ∀ x, a = some x → S x.block ∨ x.block < B) :
    Calls Tryz.prog 25 #[.pointer (some ⟨p, 0, none⟩), .slice a n c] w (PutK w B S p (crash d bs)) :=
  put_k h fun fp h' hf => crash_any h' a n c bs hn hrd (hna.imp id fun hna x hx hfx => by
    obtain ⟨h1, h2⟩ := hf _ hfx
    rcases hna x hx with h3 | h3
    · exact h2 h3
    · omega)
theorem crash_new (h : DK w B S p d) (hb : Below w.heap.size w w1) (a : Option Addr) (n c : Nat) (bs : List UInt8) (hn : bs.length = n) (hrd : Rd w1 w1.heap.size a bs) (hna : ∀ x, a = some x → w.heap.size ≤ x.block ∧ x.block < w1.heap.size) :
    Calls Tryz.prog 25 #[.pointer (some ⟨p, 0, none⟩), .slice a n c] w1 (PutK w1 B S p (crash d bs)) := by
  refine (crash_k (h.more (S' := fun k => S k ∨ (w.heap.size ≤ k ∧ k < w1.heap.size)) hb fun k hk => hk) a n c bs hn hrd (.inr fun x hx => .inl (.inr (hna x hx)))).mono ?_
  rintro e w' ⟨rfl, h1, h2⟩
  exact ⟨rfl, h1.less fun k hk => .inl hk, h2.more fun k _ hk => off_less (fun k hk => .inl hk) k hk⟩
theorem sync_k (h : DK w B S p d) (s : ByteArray) (hs : s.size ≤ maxLen) : Calls Tryz.prog 71 #[.pointer (some ⟨p, 0, none⟩), .string s] w (WroteK w B S p (sync d s.data.toList)) := write_k h fun _ h' _ => sync_any h' s hs
theorem remove_k (h : DK w B S p d) (s : ByteArray) (hs : s.size ≤ maxLen) : Calls Tryz.prog 47 #[.pointer (some ⟨p, 0, none⟩), .string s] w (WroteK w B S p (remove d s.data.toList)) := write_k h fun _ h' _ => remove_any h' s hs
theorem rename_k (h : DK w B S p d) (s t : ByteArray) (hs : s.size ≤ maxLen) (ht : t.size ≤ maxLen) : Calls Tryz.prog 73 #[.pointer (some ⟨p, 0, none⟩), .string s, .string t] w (WroteK w B S p (rename d s.data.toList t.data.toList)) := write_k h fun _ h' _ => rename_any h' s t hs ht
theorem arm_k (h : DK w B S p d) (calls : Int) (hc0 : -9223372036854775808 ≤ calls) (hc1 : calls ≤ 9223372036854775807) (done : Bool) : Calls Tryz.prog 23 #[.pointer (some ⟨p, 0, none⟩), .int .i64 calls, .bool done] w (PutK w B S p (DiskM.arm d calls done)) :=
  put_k h fun fp h' _ => (arm_any h' calls hc0 hc1 done).mono fun _ _ ⟨h1, h2, h3⟩ => ⟨h1, fp, h2, fun _ h => .inl h, h3⟩
theorem grow_k (h : DK w B S p d) (room : Int) : Calls Tryz.prog 27 #[.pointer (some ⟨p, 0, none⟩), .int .i64 room] w (PutK w B S p (DiskM.grow d room)) :=
  put_k h fun fp h' _ => (grow_any h' room).mono fun _ _ ⟨h1, h2, h3⟩ => ⟨h1, fp, h2, fun _ h => .inl h, h3⟩
theorem room_k (h : DK w B S p d) : Calls Tryz.prog 33 #[.pointer (some ⟨p, 0, none⟩)] w fun e w' => e = .returned (.int .i64 (d.room : Int)) ∧ w = w' := by
  obtain ⟨⟨fp, h, _⟩, _⟩ := h
  exact room_any h
theorem down_k (h : DK w B S p d) : Calls Tryz.prog 34 #[.pointer (some ⟨p, 0, none⟩)] w fun e w' => e = .returned (.bool d.down) ∧ w = w' := by
  obtain ⟨⟨fp, h, _⟩, _⟩ := h
  exact down_any h
theorem sure_k (h : DK w B S p d) (s : ByteArray) (hs : s.size ≤ maxLen) : Calls Tryz.prog 15 #[.pointer (some ⟨p, 0, none⟩), .string s] w fun e w' => e = .returned (.int .i64 ((DiskM.old d s.data.toList).2 : Nat)) ∧ w = w' := by
  obtain ⟨⟨fp, h, _⟩, _⟩ := h
  exact sure_any h s hs
theorem used_k (h : DK w B S p d) : Calls Tryz.prog 31 #[.pointer (some ⟨p, 0, none⟩)] w fun e w' => e = .returned (.int .i64 (used d.files : Nat)) ∧ Below w.heap.size w w' := by
  obtain ⟨⟨fp, h, _⟩, _⟩ := h
  exact used_any h
theorem read_k (h : DK w B S p d) (s : ByteArray) (hs : s.size ≤ maxLen) : Calls Tryz.prog 42 #[.pointer (some ⟨p, 0, none⟩), .string s] w (BytesIs w (DiskM.read d s.data.toList)) := by
  obtain ⟨⟨fp, h, _⟩, _⟩ := h
  exact read_any h s hs
theorem list_k (h : DK w B S p d) : Calls Tryz.prog 14 #[.pointer (some ⟨p, 0, none⟩)] w (NamesIs w (namesOf d)) := by
  obtain ⟨⟨fp, h, _⟩, _⟩ := h
  exact list_any h
end
end Go.Proofs.YtopnhplacdbkdaaGreat
