/- A plain model of the files that are there as a whole; what the known file comes to; what Save, Load, Clean come to on a disk with one file s, or none. Plain. -/
import Derived.Test.YtopnhplacdbkdaaGreatLogMath
import Derived.Test.YtopnhplacdbkdaaGreatDiskM
section
namespace Go.Proofs.YtopnhplacdbkdaaGreat
namespace DiskM
def ext : Nm := [46, 110, 101, 119]
def fr (k : Nm) : Nm := k ++ ext
def suf (k : Nm) : Bool := decide (4 ≤ k.length) && decide (k.drop (k.length - 4) = ext)
def isIn (d : DS) (k : Nm) : Bool := (look k d.files).isSome
def clr (d : DS) (k : Nm) : Nat × DS := if isIn d k then remove d k else (0, d)
def turn (k : Nm) (b : List UInt8) (i : Nat) (d : DS) : Nat × DS :=
  if i = 0 then clr d (fr k) else if i = 1 then append d (fr k) b else if i = 2 then sync d (fr k) else rename d (fr k) k
def replFrom (k : Nm) (b : List UInt8) : Nat → DS → Nat × DS
  | 0, d => (0, d)
  | r + 1, d =>
    let t := turn k b (3 - r) d
    if t.1 = 14 then (if (clr t.2 (fr k)).1 = 15 then 15 else 14, (clr t.2 (fr k)).2)
    else if t.1 = 0 then replFrom k b r t.2
    else t
def replace (d : DS) (k : Nm) (b : List UInt8) : Nat × DS := replFrom k b 4 d
def saves (k : Nm) : Bool := named k && named (fr k) && !suf k
def save (d : DS) (k : Nm) (b : List UInt8) : Nat × DS := if saves k = false then (1, d) else if d.down then (15, d) else replace d k (LogM.put b)
def loadOf (x : List UInt8) : List UInt8 × Nat := if (LogM.next x).2.2 = 0 ∧ ¬ (LogM.next x).2.1 < x.length then ((LogM.next x).1, 0) else ([], 11)
def load (d : DS) (k : Nm) : List UInt8 × Nat := if (read d k).2 = 0 then loadOf (read d k).1 else ([], (read d k).2)
def cleanL : List Nm → DS → Nat × DS
  | [], d => (0, d)
  | x :: l, d => if suf x then (if (remove d x).1 = 0 then cleanL l (remove d x).2 else remove d x) else cleanL l d
def clean (d : DS) : Nat × DS := if d.down then (15, d) else cleanL (d.files.map (·.1)) d
end DiskM
end Go.Proofs.YtopnhplacdbkdaaGreat
end

section
namespace Go.Proofs.YtopnhplacdbkdaaGreat
namespace DiskM
def sn0 : DS := fresh 100
def sn1 : DS := (save sn0 [115] [97, 98, 99]).2
def sn2 : DS := (append sn1 [120, 46, 110, 101, 119] [49]).2
def sn3 : DS := (clean sn2).2
theorem sn1_e : (save sn0 [115] [97, 98, 99]).1 = 0 := by decide +kernel
theorem sn1_l : load sn1 [115] = ([97, 98, 99], 0) := by decide +kernel
theorem sn2_e : (append sn1 [120, 46, 110, 101, 119] [49]).1 = 0 := by decide +kernel
theorem sn3_e : (clean sn2).1 = 0 := by decide +kernel
theorem sn3_l : load sn3 [116] = ([], 12) := by decide +kernel
theorem sn3_n : (sn3.files.map (·.1)).length = 1 := by decide +kernel
theorem sn3_s : (old sn3 [115]).2 = 15 := by decide +kernel
theorem sn3_f (b : List UInt8) : save sn3 [115, 46, 110, 101, 119] b = (1, sn3) := by
  unfold save
  rw [if_pos (by decide)]
theorem sn0_few : sn0.files.length < 1000000 := by decide
theorem sn1_few : sn1.files.length < 1000000 := by decide +kernel
theorem sn3_few : sn3.files.length < 1000000 := by decide +kernel
end DiskM
end Go.Proofs.YtopnhplacdbkdaaGreat
end

section
namespace Go.Proofs.YtopnhplacdbkdaaGreat
namespace DiskM
def frs : Nm := [115, 46, 110, 101, 119]
theorem fr_s : fr [115] = frs := rfl
def st : Option (List UInt8) → Files
  | none => []
  | some f => [([115], (f, f.length))]
def lenO : Option (List UInt8) → Nat
  | none => 0
  | some f => f.length
def st2 (A : Option (List UInt8)) (B : List UInt8) (s : Nat) : Files := st A ++ [(frs, (B, s))]
def ds (fs : Files) (r : Nat) (l : Int) (dn down : Bool) : DS := { files := fs, room := r, left := l, done := dn, down := down }
def dec (l : Int) : Int := if l < 0 then l else l - 1

theorem write_go {d : DS} (hd : d.down = false) (hl : d.left ≠ 0) (f g : DS → DS) : write d 0 f g = (0, f { d with left := dec d.left }) := by
  have hg : goes d = true := by unfold goes; exact decide_eq_true hl
  have hgo : gone d = { d with left := dec d.left } := by
    unfold gone dec
    by_cases h : d.left < 0
    · rw [if_pos h, if_pos h]
    · rw [if_neg h, if_neg h, if_pos (by omega)]
  unfold write
  rw [if_neg (by rw [hd]; decide), if_neg (by decide), if_pos hg, hgo]
theorem write_no {d : DS} (hd : d.down = false) (hl : d.left = 0) (f g : DS → DS) : write d 0 f g = (15, if d.done then f { d with left := -1, down := true } else g { d with left := -1, down := true }) := by
  have hg : goes d = false := by unfold goes; exact decide_eq_false (fun h => h hl)
  have hgo : gone d = { d with left := -1, down := true } := by
    unfold gone
    rw [if_neg (by omega), if_neg (by omega)]
  unfold write
  rw [if_neg (by rw [hd]; decide), if_neg (by decide), if_neg (by rw [hg]; decide), hgo]
  split <;> rfl
theorem write_err {d : DS} (hd : d.down = false) {a : Nat} (ha : a ≠ 0) (f g : DS → DS) : write d a f g = (a, d) := by
  unfold write
  rw [if_neg (by rw [hd]; decide), if_pos ha]

section
variable (A : Option (List UInt8)) (B : List UInt8) (r : Nat) (l : Int) (dn : Bool)
theorem used_st : used (st A) = lenO A := by cases A <;> simp [st, lenO, used]
theorem clr_st : clr (ds (st A) r l dn false) frs = (0, ds (st A) r l dn false) := by cases A <;> rfl
theorem ask_st (h : lenO A + B.length ≤ r) : appendAsk (ds (st A) r l dn false) frs B = 0 := by
  unfold appendAsk
  rw [if_pos (by decide), if_neg]
  show ¬ r < B.length + used (st A)
  rw [used_st]; omega
theorem ask_full (h : r < lenO A + B.length) : appendAsk (ds (st A) r l dn false) frs B = 14 := by
  unfold appendAsk
  rw [if_pos (by decide), if_pos]
  show r < B.length + used (st A)
  rw [used_st]; omega
theorem do_st (r : Nat) (l : Int) (dn down : Bool) : appendDo frs B (ds (st A) r l dn down) = ds (st2 A B 0) r l dn down := by cases A <;> rfl
theorem app_go (h : lenO A + B.length ≤ r) (hl : l ≠ 0) : append (ds (st A) r l dn false) frs B = (0, ds (st2 A B 0) r (dec l) dn false) := by
  unfold append
  rw [ask_st A B r l dn h, write_go rfl hl]
  exact congrArg _ (do_st A B r (dec l) dn false)
theorem app_no (h : lenO A + B.length ≤ r) : append (ds (st A) r 0 dn false) frs B = (15, ds (st2 A B 0) r (-1) dn true) := by
  unfold append
  rw [ask_st A B r 0 dn h, write_no rfl rfl]
  have e := do_st A B r (-1) dn true
  cases dn
  · exact congrArg _ e
  · exact congrArg _ e
theorem app_full (h : r < lenO A + B.length) : append (ds (st A) r l dn false) frs B = (14, ds (st A) r l dn false) := by
  unfold append
  rw [ask_full A B r l dn h, write_err rfl (by omega)]
theorem has_st2 (s : Nat) (down : Bool) : has (ds (st2 A B s) r l dn down) frs = 0 := by cases A <;> rfl
theorem sdo_st (s : Nat) (r : Nat) (l : Int) (dn down : Bool) : syncDo frs (ds (st2 A B s) r l dn down) = ds (st2 A B B.length) r l dn down := by cases A <;> rfl
theorem syn_go (s : Nat) (hl : l ≠ 0) : sync (ds (st2 A B s) r l dn false) frs = (0, ds (st2 A B B.length) r (dec l) dn false) := by
  unfold sync
  rw [has_st2, write_go rfl hl]
  exact congrArg _ (sdo_st A B s r (dec l) dn false)
theorem syn_no (s : Nat) : sync (ds (st2 A B s) r 0 dn false) frs = (15, ds (st2 A B (if dn then B.length else s)) r (-1) dn true) := by
  unfold sync
  rw [has_st2, write_no rfl rfl]
  have e := sdo_st A B s r (-1) dn true
  cases dn
  · rfl
  · exact congrArg _ e
theorem rask_st (s : Nat) (down : Bool) : renameAsk (ds (st2 A B s) r l dn down) frs [115] = 0 := by
  unfold renameAsk
  rw [if_pos (has_st2 A B r l dn s down), if_pos (by decide)]
theorem rdo_st (r : Nat) (l : Int) (dn down : Bool) : renameDo frs [115] (ds (st2 A B B.length) r l dn down) = ds (st (some B)) r l dn down := by cases A <;> rfl
theorem ren_go (hl : l ≠ 0) : rename (ds (st2 A B B.length) r l dn false) frs [115] = (0, ds (st (some B)) r (dec l) dn false) := by
  unfold rename
  rw [rask_st, write_go rfl hl]
  exact congrArg _ (rdo_st A B r (dec l) dn false)
theorem ren_no : rename (ds (st2 A B B.length) r 0 dn false) frs [115] = (15, ds (if dn then st (some B) else st2 A B B.length) r (-1) dn true) := by
  unfold rename
  rw [rask_st, write_no rfl rfl]
  have e := rdo_st A B r (-1) dn true
  cases dn
  · rfl
  · exact congrArg _ e
/-- Replace, turn by turn -/
theorem repl_next (k : Nm) (b : List UInt8) (q : Nat) (d d' : DS) (h : turn k b (3 - q) d = (0, d')) : replFrom k b (q + 1) d = replFrom k b q d' := by
  show (if (turn k b (3 - q) d).1 = 14 then _ else if (turn k b (3 - q) d).1 = 0 then replFrom k b q (turn k b (3 - q) d).2 else _) = _
  rw [h]; rfl
theorem repl_down (k : Nm) (b : List UInt8) (q : Nat) (d d' : DS) (h : turn k b (3 - q) d = (15, d')) : replFrom k b (q + 1) d = (15, d') := by
  show (if (turn k b (3 - q) d).1 = 14 then _ else if (turn k b (3 - q) d).1 = 0 then replFrom k b q (turn k b (3 - q) d).2 else turn k b (3 - q) d) = _
  rw [h]; rfl
theorem turn1 (d : DS) : turn [115] B 1 d = append d frs B := rfl
theorem turn2 (d : DS) : turn [115] B 2 d = sync d frs := rfl
theorem turn3 (d : DS) : turn [115] B 3 d = rename d frs [115] := rfl
theorem turn0 : turn [115] B 0 (ds (st A) r l dn false) = (0, ds (st A) r l dn false) := clr_st A r l dn
theorem saves_s : saves [115] = true := by decide
theorem save_repl : save (ds (st A) r l dn false) [115] B = replFrom [115] (LogM.put B) 4 (ds (st A) r l dn false) := by
  unfold save
  rw [if_neg (by rw [saves_s]; decide), if_neg (show ¬ ((ds (st A) r l dn false).down = true) by show ¬ (false = true); decide)]; rfl
/-- Save goes -/
theorem save_go (h : lenO A + (B.length + 12) ≤ r) (h1 : l ≠ 0) (h2 : dec l ≠ 0) (h3 : dec (dec l) ≠ 0) : save (ds (st A) r l dn false) [115] B = (0, ds (st (some (LogM.put B))) r (dec (dec (dec l))) dn false) := by
  have hp : (LogM.put B).length = B.length + 12 := by rw [LogM.put_length]
  rw [save_repl, repl_next _ _ 3 _ _ (turn0 A _ r l dn), repl_next _ _ 2 _ _ ((turn1 _ _).trans (app_go A (LogM.put B) r l dn (by omega) h1)),
    repl_next _ _ 1 _ _ ((turn2 _ _).trans (syn_go A (LogM.put B) r (dec l) dn 0 h2)), repl_next _ _ 0 _ _ ((turn3 _ _).trans (ren_go A (LogM.put B) r (dec (dec l)) dn h3))]
  rfl
/-- there is no room -/
theorem save_full (h : r < lenO A + (B.length + 12)) : save (ds (st A) r l dn false) [115] B = (14, ds (st A) r l dn false) := by
  have hp : (LogM.put B).length = B.length + 12 := by rw [LogM.put_length]
  have ht : turn [115] (LogM.put B) 1 (ds (st A) r l dn false) = (14, ds (st A) r l dn false) := app_full A (LogM.put B) r l dn (by omega)
  rw [save_repl, repl_next _ _ 3 _ _ (turn0 A _ r l dn)]
  show (if (turn [115] (LogM.put B) 1 (ds (st A) r l dn false)).1 = 14 then (if (clr (turn [115] (LogM.put B) 1 (ds (st A) r l dn false)).2 frs).1 = 15 then 15 else 14, (clr (turn [115] (LogM.put B) 1 (ds (st A) r l dn false)).2 frs).2) else _) = _
  rw [ht]
  show (if (14 : Nat) = 14 then (if (clr (ds (st A) r l dn false) frs).1 = 15 then 15 else 14, (clr (ds (st A) r l dn false) frs).2) else _) = _
  rw [clr_st]; rfl
/-- the power goes at the first, the second, the third write -/
theorem save_no0 (h : lenO A + (B.length + 12) ≤ r) : save (ds (st A) r 0 dn false) [115] B = (15, ds (st2 A (LogM.put B) 0) r (-1) dn true) := by
  have hp : (LogM.put B).length = B.length + 12 := by rw [LogM.put_length]
  rw [save_repl, repl_next _ _ 3 _ _ (turn0 A _ r 0 dn), repl_down _ _ 2 _ _ ((turn1 _ _).trans (app_no A (LogM.put B) r dn (by omega)))]
theorem save_no1 (h : lenO A + (B.length + 12) ≤ r) : save (ds (st A) r 1 dn false) [115] B = (15, ds (st2 A (LogM.put B) (if dn then (LogM.put B).length else 0)) r (-1) dn true) := by
  have hp : (LogM.put B).length = B.length + 12 := by rw [LogM.put_length]
  rw [save_repl, repl_next _ _ 3 _ _ (turn0 A _ r 1 dn), repl_next _ _ 2 _ _ ((turn1 _ _).trans (app_go A (LogM.put B) r 1 dn (by omega) (by decide))),
    show dec 1 = 0 from rfl, repl_down _ _ 1 _ _ ((turn2 _ _).trans (syn_no A (LogM.put B) r dn 0))]
theorem save_no2 (h : lenO A + (B.length + 12) ≤ r) : save (ds (st A) r 2 dn false) [115] B = (15, ds (if dn then st (some (LogM.put B)) else st2 A (LogM.put B) (LogM.put B).length) r (-1) dn true) := by
  have hp : (LogM.put B).length = B.length + 12 := by rw [LogM.put_length]
  rw [save_repl, repl_next _ _ 3 _ _ (turn0 A _ r 2 dn), repl_next _ _ 2 _ _ ((turn1 _ _).trans (app_go A (LogM.put B) r 2 dn (by omega) (by decide))),
    repl_next _ _ 1 _ _ ((turn2 _ _).trans (syn_go A (LogM.put B) r (dec 2) dn 0 (by decide))), show dec (dec 2) = 0 from rfl, repl_down _ _ 0 _ _ ((turn3 _ _).trans (ren_no A (LogM.put B) r dn))]
end
theorem load_one (b : List UInt8) (hb : b.length ≤ 65536) (r : Nat) (l : Int) (dn : Bool) : load (ds (st (some (LogM.put b))) r l dn false) [115] = (b, 0) := by
  have hr : read (ds (st (some (LogM.put b))) r l dn false) [115] = (LogM.put b, 0) := rfl
  have hn := LogM.next_put b [] hb
  rw [List.append_nil] at hn
  unfold load
  rw [hr]
  show (if (0 : Nat) = 0 then loadOf (LogM.put b) else _) = _
  rw [if_pos rfl]
  unfold loadOf
  rw [hn, if_pos ⟨rfl, by rw [LogM.put_length]; show ¬ (b.length + 12 < b.length + 12); omega⟩]
theorem grow_ds (fs : Files) (r : Nat) (l : Int) (dn down : Bool) (N : Nat) (h : N ≤ 16777216) : grow (ds fs r l dn down) (N : Int) = ds fs N l dn down := by
  unfold grow
  rw [show held (N : Int) = N by unfold held; omega]; rfl
theorem fresh_ds (r : Nat) (hr : r ≤ 16777216) : fresh (r : Int) = ds (st none) r (-1) false false := by
  have : held (r : Int) = r := by unfold held; omega
  unfold fresh
  rw [this]; rfl
end DiskM
end Go.Proofs.YtopnhplacdbkdaaGreat
end
