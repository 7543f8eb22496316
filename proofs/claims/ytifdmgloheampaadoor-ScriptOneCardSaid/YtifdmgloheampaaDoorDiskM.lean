/- Plain law of the disk: files by name in rising order, what each write does. No condition. -/
import Derived.Maps.OwnSet
import Derived.Sort.KeysCollected
namespace Go.Proofs.YtifdmgloheampaaDoor.DiskM

abbrev Nm := List UInt8
def lt (a b : Nm) : Bool := bytesBefore a b
def ins {α : Type} (x : Nm × α) : List (Nm × α) → List (Nm × α)
  | [] => [x]
  | y :: r => if lt x.1 y.1 then x :: y :: r else y :: ins x r
def del {α : Type} (k : Nm) (l : List (Nm × α)) : List (Nm × α) := l.filter fun p => !(p.1 == k)
def put {α : Type} (k : Nm) (v : α) (l : List (Nm × α)) : List (Nm × α) := ins (k, v) (del k l)
def look {α : Type} (k : Nm) (l : List (Nm × α)) : Option α := (l.find? fun p => p.1 == k).map (·.2)
def onV {α β : Type} (f : α → β) (p : Nm × α) : Nm × β := (p.1, f p.2)

section
variable {α β : Type}
theorem ins_map (f : α → β) (x : Nm × α) (l : List (Nm × α)) : (ins x l).map (onV f) = ins (onV f x) (l.map (onV f)) := by
  induction l with
  | nil => rfl
  | cons y r ih =>
    simp only [ins, List.map_cons]
    by_cases h : lt x.1 y.1 = true
    · rw [if_pos h, if_pos (by exact h)]; rfl
    · rw [if_neg h, if_neg (by exact h), List.map_cons, ih]
theorem del_map (f : α → β) (k : Nm) (l : List (Nm × α)) : (del k l).map (onV f) = del k (l.map (onV f)) := by
  unfold del
  rw [List.filter_map]
  congr 1
theorem put_map (f : α → β) (k : Nm) (v : α) (l : List (Nm × α)) : (put k v l).map (onV f) = put k (f v) (l.map (onV f)) := by
  unfold put
  rw [ins_map, del_map]; rfl
theorem look_map (f : α → β) (k : Nm) (l : List (Nm × α)) : look k (l.map (onV f)) = (look k l).map f := by
  unfold look
  rw [List.find?_map]
  have e : ((fun p : Nm × β => p.1 == k) ∘ onV f) = fun p : Nm × α => p.1 == k := rfl
  rw [e]
  cases l.find? (fun p => p.1 == k) <;> rfl
theorem mem_ins {x y : Nm × α} {l : List (Nm × α)} : y ∈ ins x l ↔ y = x ∨ y ∈ l := by
  induction l with
  | nil => simp [ins]
  | cons z r ih =>
    simp only [ins]
    split
    · simp
    · simp only [List.mem_cons, ih]
      constructor
      · rintro (h | h | h)
        · exact .inr (.inl h)
        · exact .inl h
        · exact .inr (.inr h)
      · rintro (h | h | h)
        · exact .inr (.inl h)
        · exact .inl h
        · exact .inr (.inr h)
theorem mem_del {k : Nm} {x : Nm × α} {l : List (Nm × α)} : x ∈ del k l ↔ x ∈ l ∧ x.1 ≠ k := by
  simp [del]
theorem mem_put {k : Nm} {v : α} {x : Nm × α} {l : List (Nm × α)} : x ∈ put k v l ↔ x = (k, v) ∨ (x ∈ l ∧ x.1 ≠ k) := by
  unfold put; rw [mem_ins, mem_del]
theorem ins_length (x : Nm × α) (l : List (Nm × α)) : (ins x l).length = l.length + 1 := by
  induction l with
  | nil => rfl
  | cons y r ih => simp only [ins]; split <;> simp [ih]
theorem del_length (k : Nm) (l : List (Nm × α)) : (del k l).length ≤ l.length := List.length_filter_le _ _
theorem put_length (k : Nm) (v : α) (l : List (Nm × α)) : (put k v l).length ≤ l.length + 1 := by
  unfold put; rw [ins_length]; have := del_length k l; omega
theorem look_mem {k : Nm} {v : α} {l : List (Nm × α)} (h : look k l = some v) : (k, v) ∈ l := by
  unfold look at h
  cases hf : l.find? (fun p => p.1 == k) with
  | none => rw [hf] at h; cases h
  | some p =>
    rw [hf] at h
    simp only [Option.map_some, Option.some.injEq] at h
    have h1 := List.find?_some hf
    have h2 := List.mem_of_find?_eq_some hf
    obtain ⟨a, b⟩ := p
    simp only at h h1
    rw [← h, ← (by simpa using h1 : a = k)]; exact h2
theorem look_none {k : Nm} {l : List (Nm × α)} (h : look k l = none) : ∀ x ∈ l, x.1 ≠ k := by
  intro x hx
  unfold look at h
  rw [Option.map_eq_none_iff, List.find?_eq_none] at h
  simpa using h x hx
theorem look_of_mem {k : Nm} {v : α} {l : List (Nm × α)} (hd : l.Pairwise fun p q => p.1 ≠ q.1) (h : (k, v) ∈ l) : look k l = some v := by
  induction l with
  | nil => cases h
  | cons y r ih =>
    obtain ⟨h1, h2⟩ := List.pairwise_cons.1 hd
    unfold look
    rcases List.mem_cons.1 h with rfl | h
    · simp
    · have hne : ¬ (y.1 == k) = true := by simpa using h1 _ h
      rw [List.find?_cons_of_neg (p := fun p : Nm × α => p.1 == k) hne]
      exact ih h2 h
end

/-- the order on names: whole, transitive, never back -/
theorem lt_irrefl (a : Nm) : lt a a = false := by
  have := WideShapes.before_irrefl (Lit.string a)
  simpa [lt, Lit.before] using this
theorem lt_trans {a b c : Nm} (h : lt a b = true) (k : lt b c = true) : lt a c = true := by
  have := WideShapes.before_trans (a := Lit.string a) (b := .string b) (c := .string c) (by simpa [Lit.before, lt] using h) (by simpa [Lit.before, lt] using k)
  simpa [Lit.before, lt] using this
theorem lt_total {a b : Nm} (h : a ≠ b) : lt a b = true ∨ lt b a = true := by
  have := ChangeMaps.before_total (a := Lit.string a) (b := .string b) ⟨_, rfl⟩ ⟨_, rfl⟩ (by simpa using h)
  simpa [Lit.before, lt] using this
def Rising {α : Type} (l : List (Nm × α)) : Prop := l.Pairwise fun p q => lt p.1 q.1 = true
section
variable {α β : Type}
theorem Rising.apart {l : List (Nm × α)} (h : Rising l) : l.Pairwise fun p q => p.1 ≠ q.1 := h.imp fun hl e => by rw [e, lt_irrefl] at hl; cases hl
theorem Rising.map {l : List (Nm × α)} {f : α → β} : Rising (l.map (onV f)) ↔ Rising l := by
  unfold Rising
  rw [List.pairwise_map]; rfl
theorem Rising.del {l : List (Nm × α)} (h : Rising l) (k : Nm) : Rising (del k l) := List.Pairwise.filter _ h
theorem Rising.ins {l : List (Nm × α)} (h : Rising l) {x : Nm × α} (hx : ∀ y ∈ l, y.1 ≠ x.1) : Rising (ins x l) := by
  induction l with
  | nil => simp [Rising, DiskM.ins]
  | cons y r ih =>
    obtain ⟨h1, h2⟩ := List.pairwise_cons.1 h
    simp only [DiskM.ins]
    split
    · next hl =>
      refine List.pairwise_cons.2 ⟨fun z hz => ?_, h⟩
      rcases List.mem_cons.1 hz with rfl | hz
      · exact hl
      · exact lt_trans hl (h1 z hz)
    · next hl =>
      refine List.pairwise_cons.2 ⟨fun z hz => ?_, ih h2 fun z hz => hx z (by simp [hz])⟩
      rcases mem_ins.1 hz with rfl | hz
      · exact (lt_total (hx y (by simp)).symm).resolve_left hl
      · exact h1 z hz
theorem Rising.put {l : List (Nm × α)} (h : Rising l) (k : Nm) (v : α) : Rising (put k v l) := (h.del k).ins fun _ hy => (mem_del.1 hy).2
end

/-- a disk's contents: each file's bytes, and how many are sure -/
abbrev Files := List (Nm × (List UInt8 × Nat))
def used (l : Files) : Nat := (l.map fun p => p.2.1.length).sum
theorem used_nil : used [] = 0 := rfl
theorem used_cons (p : Nm × (List UInt8 × Nat)) (l : Files) : used (p :: l) = p.2.1.length + used l := rfl
theorem used_ins (x : Nm × (List UInt8 × Nat)) (l : Files) : used (ins x l) = x.2.1.length + used l := by
  induction l with
  | nil => rfl
  | cons y r ih =>
    simp only [ins]
    split
    · rfl
    · rw [used_cons, ih, used_cons]; omega
theorem used_del {l : Files} (hd : l.Pairwise fun p q => p.1 ≠ q.1) (k : Nm) : used (del k l) + ((look k l).map fun x => x.1.length).getD 0 = used l := by
  induction l with
  | nil => rfl
  | cons y r ih =>
    obtain ⟨h1, h2⟩ := List.pairwise_cons.1 hd
    by_cases hk : y.1 = k
    · have e : del k (y :: r) = del k r := by unfold del; rw [List.filter_cons_of_neg (by simp [hk])]
      have e2 : del k r = r := by
        unfold del
        refine List.filter_eq_self.2 fun z hz => ?_
        have := h1 z hz
        simp only [Bool.not_eq_true', beq_eq_false_iff_ne]
        exact fun e => this (hk.trans e.symm)
      have e3 : look k (y :: r) = some y.2 := by unfold look; rw [List.find?_cons_of_pos (by simpa using hk)]; rfl
      rw [e, e2, e3, used_cons]
      simp; omega
    · have e : del k (y :: r) = y :: del k r := by unfold del; rw [List.filter_cons_of_pos (by simpa using hk)]
      have e3 : look k (y :: r) = look k r := by unfold look; rw [List.find?_cons_of_neg (p := fun p : Nm × (List UInt8 × Nat) => p.1 == k) (by simpa using hk)]
      rw [e, e3, used_cons, used_cons, ← ih h2]
      omega
theorem used_put {l : Files} (hd : l.Pairwise fun p q => p.1 ≠ q.1) (k : Nm) (v : List UInt8 × Nat) : used (put k v l) + ((look k l).map fun x => x.1.length).getD 0 = v.1.length + used l := by
  have h1 : used (put k v l) = v.1.length + used (del k l) := used_ins _ _
  have := used_del hd k
  omega

theorem del_length_some {α : Type} {l : List (Nm × α)} (hd : l.Pairwise fun p q => p.1 ≠ q.1) {k : Nm} (h : (look k l).isSome = true) : (del k l).length + 1 = l.length := by
  induction l with
  | nil => simp [look] at h
  | cons y r ih =>
    obtain ⟨h1, h2⟩ := List.pairwise_cons.1 hd
    by_cases hk : y.1 = k
    · have e : del k (y :: r) = del k r := by unfold del; rw [List.filter_cons_of_neg (by simp [hk])]
      have e2 : del k r = r := by
        unfold del
        refine List.filter_eq_self.2 fun z hz => ?_
        have := h1 z hz
        simp only [Bool.not_eq_true', beq_eq_false_iff_ne]
        exact fun e => this (hk.trans e.symm)
      rw [e, e2]; rfl
    · have e : del k (y :: r) = y :: del k r := by unfold del; rw [List.filter_cons_of_pos (by simpa using hk)]
      have e3 : look k (y :: r) = look k r := by unfold look; rw [List.find?_cons_of_neg (p := fun p : Nm × α => p.1 == k) (by simpa using hk)]
      rw [e3] at h
      rw [e, List.length_cons, List.length_cons, ih h2 h]
theorem put_length_some {α : Type} {l : List (Nm × α)} (hd : l.Pairwise fun p q => p.1 ≠ q.1) {k : Nm} (h : (look k l).isSome = true) (v : α) : (put k v l).length = l.length := by
  unfold put; rw [ins_length, del_length_some hd h]

structure DS where
  files : Files
  room : Nat
  left : Int
  done : Bool
  down : Bool
structure DS.Ok (d : DS) : Prop where
  room : d.room ≤ 16777216
  used : DiskM.used d.files ≤ 16777216
  left0 : -1 ≤ d.left
  left1 : d.left ≤ 9223372036854775807
  sure : ∀ x ∈ d.files, x.2.2 ≤ x.2.1.length
  name : ∀ x ∈ d.files, x.1.length ≤ 16
  few : d.files.length ≤ 1000000
  rising : Rising d.files

def held (room : Int) : Nat := (max (min room 16777216) 0).toNat
theorem held_le (room : Int) : held room ≤ 16777216 := by unfold held; omega
def okByte (c : UInt8) : Bool := c == 46 || (decide (97 ≤ c.toNat) && decide (c.toNat ≤ 122)) || (decide (48 ≤ c.toNat) && decide (c.toNat ≤ 57))
def named (s : Nm) : Bool := s.all okByte && decide (1 ≤ s.length) && decide (s.length ≤ 16)

def fresh (room : Int) : DS := ⟨[], held room, -1, false, false⟩
/-- a write that has no error: does it go? -/
def goes (d : DS) : Bool := decide (d.left ≠ 0)
def gone (d : DS) : DS := if d.left < 0 then d else if 0 < d.left then { d with left := d.left - 1 } else { d with left := -1, down := true }
def write (d : DS) (asked : Nat) (do_ half : DS → DS) : Nat × DS :=
  if d.down then (15, d) else if asked ≠ 0 then (asked, d) else if goes d then (0, do_ (gone d)) else if d.done then (15, do_ (gone d)) else (15, half (gone d))
def old (d : DS) (k : Nm) : List UInt8 × Nat := (look k d.files).getD ([], 0)
def has (d : DS) (k : Nm) : Nat := if (look k d.files).isSome then 0 else 12
def setF (d : DS) (k : Nm) (v : List UInt8 × Nat) : DS := { d with files := put k v d.files }
def dropF (d : DS) (k : Nm) : DS := { d with files := del k d.files }
def appendDo (k : Nm) (b : List UInt8) (d : DS) : DS := setF d k ((old d k).1 ++ b, (old d k).2)
def appendAsk (d : DS) (k : Nm) (b : List UInt8) : Nat := if named k then (if d.room < b.length + used d.files then 14 else 0) else 1
def append (d : DS) (k : Nm) (b : List UInt8) : Nat × DS := write d (appendAsk d k b) (appendDo k b) (appendDo k b)
def syncDo (k : Nm) (d : DS) : DS := setF d k ((old d k).1, (old d k).1.length)
def sync (d : DS) (k : Nm) : Nat × DS := write d (has d k) (syncDo k) id
def renameDo (k k2 : Nm) (d : DS) : DS := setF (dropF d k) k2 (old d k)
def renameAsk (d : DS) (k k2 : Nm) : Nat := if has d k = 0 then (if named k2 then 0 else 1) else 12
def rename (d : DS) (k k2 : Nm) : Nat × DS := write d (renameAsk d k k2) (renameDo k k2) id
def removeDo (k : Nm) (d : DS) : DS := dropF d k
def remove (d : DS) (k : Nm) : Nat × DS := write d (has d k) (removeDo k) id
def read (d : DS) (k : Nm) : List UInt8 × Nat := if d.down then ([], 15) else if has d k = 0 then ((old d k).1, 0) else ([], 12)
def arm (d : DS) (calls : Int) (done : Bool) : DS := if d.down then d else { d with left := max calls (-1), done := done }
def grow (d : DS) (room : Int) : DS := { d with room := held room }
def cutF (keep : List UInt8) (i : Nat) (v : List UInt8 × Nat) : List UInt8 × Nat :=
  let n := v.2 + (match keep[i]? with | some c => c.toNat % (v.1.length - v.2 + 1) | none => 0)
  (v.1.take n, n)
def cutTo (keep : List UInt8) (i : Nat) (fs : Files) : Files := fs.mapIdx fun j p => if j < i then (p.1, cutF keep j p.2) else p
def crashTo (d : DS) (keep : List UInt8) (i : Nat) : DS := { d with files := cutTo keep i d.files }
def crash (d : DS) (keep : List UInt8) : DS := { d with files := cutTo keep d.files.length d.files, left := -1, down := false }

theorem gone_files (d : DS) : (gone d).files = d.files ∧ (gone d).room = d.room ∧ (gone d).done = d.done := by
  unfold gone
  split
  · exact ⟨rfl, rfl, rfl⟩
  · split <;> exact ⟨rfl, rfl, rfl⟩
theorem fresh_ok (room : Int) : (fresh room).Ok := ⟨held_le _, by simp [fresh, used], by simp [fresh], by simp [fresh], by simp [fresh], by simp [fresh], by simp [fresh], by simp [fresh, Rising]⟩
theorem gone_ok {d : DS} (h : d.Ok) : (gone d).Ok := by
  have h0 := h.left0
  have h1 := h.left1
  unfold gone
  split
  · exact h
  · split
    · exact ⟨h.room, h.used, by show -1 ≤ d.left - 1; omega, by show d.left - 1 ≤ _; omega, h.sure, h.name, h.few, h.rising⟩
    · exact ⟨h.room, h.used, by show (-1 : Int) ≤ -1; omega, by show (-1 : Int) ≤ _; omega, h.sure, h.name, h.few, h.rising⟩
theorem old_le {d : DS} (h : d.Ok) (k : Nm) : (old d k).2 ≤ (old d k).1.length := by
  unfold old
  cases hl : look k d.files with
  | none => simp
  | some v => simpa using h.sure _ (look_mem hl)
theorem old_used {d : DS} (h : d.Ok) (k : Nm) : (old d k).1.length ≤ used d.files := by
  have := used_del h.rising.apart k
  unfold old
  cases hl : look k d.files with
  | none => simp
  | some v => rw [hl] at this; simp at this ⊢; omega
theorem setF_ok {d : DS} (h : d.Ok) {k : Nm} {v : List UInt8 × Nat} (hk : k.length ≤ 16) (hv : v.2 ≤ v.1.length) (hu : v.1.length + used d.files ≤ 16777216 + (old d k).1.length) (hf : (put k v d.files).length ≤ 1000000) : (setF d k v).Ok := by
  refine ⟨h.room, ?_, h.left0, h.left1, ?_, ?_, hf, h.rising.put _ _⟩
  · show used (put k v d.files) ≤ _
    have := used_put h.rising.apart k v
    unfold old at hu
    cases hl : look k d.files with
    | none => rw [hl] at this hu; simp at this hu; omega
    | some x => rw [hl] at this hu; simp at this hu; omega
  · intro x hx
    rcases mem_put.1 hx with rfl | ⟨hx, _⟩
    · exact hv
    · exact h.sure x hx
  · intro x hx
    rcases mem_put.1 hx with rfl | ⟨hx, _⟩
    · exact hk
    · exact h.name x hx
theorem dropF_ok {d : DS} (h : d.Ok) (k : Nm) : (dropF d k).Ok := by
  refine ⟨h.room, ?_, h.left0, h.left1, ?_, ?_, Nat.le_trans (del_length _ _) h.few, h.rising.del _⟩
  · show used (del k d.files) ≤ _
    have := used_del h.rising.apart k
    have := h.used
    omega
  · intro x hx; exact h.sure x (mem_del.1 hx).1
  · intro x hx; exact h.name x (mem_del.1 hx).1

theorem put_set {α : Type} {l : List (Nm × α)} (hr : Rising l) {i : Nat} {k : Nm} {x : α} (hi : l[i]? = some (k, x)) (v : α) : put k v l = l.set i (k, v) := by
  induction l generalizing i with
  | nil => simp at hi
  | cons y r ih =>
    obtain ⟨h1, h2⟩ := List.pairwise_cons.1 hr
    cases i with
    | zero =>
      simp only [List.getElem?_cons_zero, Option.some.injEq] at hi
      subst hi
      have e : del k ((k, x) :: r) = r := by
        unfold del
        rw [List.filter_cons_of_neg (by simp)]
        refine List.filter_eq_self.2 fun z hz => ?_
        have hl := h1 z hz
        simp only [Bool.not_eq_true', beq_eq_false_iff_ne]
        intro e
        rw [e, lt_irrefl] at hl; cases hl
      unfold put
      rw [e, List.set_cons_zero]
      cases r with
      | nil => rfl
      | cons z t =>
        have hl := h1 z (by simp)
        simp only [ins]
        rw [if_pos hl]
    | succ i =>
      simp only [List.getElem?_cons_succ] at hi
      have hm := List.mem_of_getElem? hi
      have hl := h1 _ hm
      have hne : y.1 ≠ k := by intro e; rw [e] at hl; simp only [lt_irrefl] at hl; cases hl
      have e : del k (y :: r) = y :: del k r := by unfold del; rw [List.filter_cons_of_pos (by simpa using hne)]
      have hn : ¬ lt k y.1 = true := fun h => by
        have := lt_trans h hl
        simp only [lt_irrefl] at this; cases this
      have e2 : put k v (y :: r) = y :: put k v r := by
        unfold put
        rw [e]
        show ins (k, v) (y :: del k r) = _
        simp only [ins]
        rw [if_neg hn]
      rw [e2, List.set_cons_succ, ih h2 hi]
theorem cutTo_length (keep : List UInt8) (i : Nat) (fs : Files) : (cutTo keep i fs).length = fs.length := by simp [cutTo]
theorem cutTo_get (keep : List UInt8) (i j : Nat) (fs : Files) : (cutTo keep i fs)[j]? = fs[j]?.map fun p => if j < i then (p.1, cutF keep j p.2) else p := by simp [cutTo]
theorem cutTo_zero (keep : List UInt8) (fs : Files) : cutTo keep 0 fs = fs := by
  refine List.ext_getElem? fun j => ?_
  rw [cutTo_get]
  cases fs[j]? <;> simp
theorem cutTo_names (keep : List UInt8) (i : Nat) (fs : Files) : (cutTo keep i fs).map (·.1) = fs.map (·.1) := by
  refine List.ext_getElem? fun j => ?_
  rw [List.getElem?_map, cutTo_get, List.getElem?_map]
  cases fs[j]? with
  | none => rfl
  | some p => simp only [Option.map_some]; congr 1; split <;> rfl
theorem cutTo_succ (keep : List UInt8) (i : Nat) (fs : Files) {p : Nm × (List UInt8 × Nat)} (h : fs[i]? = some p) : cutTo keep (i + 1) fs = (cutTo keep i fs).set i (p.1, cutF keep i p.2) := by
  refine List.ext_getElem? fun j => ?_
  rw [List.getElem?_set, cutTo_get, cutTo_get, cutTo_length]
  by_cases hj : i = j
  · subst hj
    have hl := (List.getElem?_eq_some_iff.1 h).1
    rw [if_pos rfl, if_pos hl, h]
    simp
  · rw [if_neg hj]
    cases fs[j]? with
    | none => rfl
    | some q =>
      simp only [Option.map_some]
      congr 1
      by_cases h1 : j < i
      · rw [if_pos h1, if_pos (by omega)]
      · rw [if_neg h1, if_neg (by omega)]
theorem cutF_le (keep : List UInt8) (i : Nat) (v : List UInt8 × Nat) (h : v.2 ≤ v.1.length) : (cutF keep i v).2 ≤ v.1.length ∧ (cutF keep i v).1.length = (cutF keep i v).2 := by
  have h1 : (cutF keep i v).2 ≤ v.1.length := by
    unfold cutF
    simp only
    cases keep[i]? with
    | none => simpa using h
    | some c =>
      simp only
      have := Nat.mod_lt c.toNat (show 0 < v.1.length - v.2 + 1 by omega)
      omega
  refine ⟨h1, ?_⟩
  have e : (cutF keep i v).1 = v.1.take (cutF keep i v).2 := rfl
  rw [e, List.length_take]; omega
theorem look_at {α : Type} {l : List (Nm × α)} (hr : Rising l) {i : Nat} {p : Nm × α} (h : l[i]? = some p) : look p.1 l = some p.2 := look_of_mem hr.apart (List.mem_of_getElem? h)
theorem used_one (k : Nm) (v : List UInt8 × Nat) : used [(k, v)] = v.1.length := by simp [used]
theorem fresh_few (r : Int) : (fresh r).files.length < 1000000 := by show 0 < 1000000; omega
end Go.Proofs.YtifdmgloheampaaDoor.DiskM
