/- What the statement SnapAtomic's file comes to. Plain. -/
import Derived.Test.YtopnhplacdbkdaaSnapM
namespace Go.Proofs.Ytopnhplacdbkdaa
namespace DiskM
theorem cut_full (keep : List UInt8) (i : Nat) (f : List UInt8) : cutF keep i (f, f.length) = (f, f.length) := by
  have h : f.length + (match keep[i]? with | some c => c.toNat % (f.length - f.length + 1) | none => 0) = f.length := by
    split
    · rw [Nat.sub_self, Nat.zero_add, Nat.mod_one, Nat.add_zero]
    · rfl
  show (f.take (f.length + (match keep[i]? with | some c => c.toNat % (f.length - f.length + 1) | none => 0)), f.length + (match keep[i]? with | some c => c.toNat % (f.length - f.length + 1) | none => 0)) = _
  rw [h, List.take_length]
theorem crash_one (f : List UInt8) (r : Nat) (l : Int) (dn down : Bool) (keep : List UInt8) : crash (ds (st (some f)) r l dn down) keep = ds (st (some f)) r (-1) dn false := by
  show ({ files := [([115], cutF keep 0 (f, f.length))], room := r, left := -1, done := dn, down := false } : DS) = _
  rw [cut_full]; rfl
theorem crash_two (f B : List UInt8) (s : Nat) (hs : s ≤ B.length) (r : Nat) (l : Int) (dn down : Bool) (keep : List UInt8) : ∃ X, crash (ds (st2 (some f) B s) r l dn down) keep = ds (st2 (some f) X X.length) r (-1) dn false := by
  refine ⟨(cutF keep 1 (B, s)).1, ?_⟩
  have h := (cutF_le keep 1 (B, s) hs).2
  show ({ files := [([115], cutF keep 0 (f, f.length)), (frs, cutF keep 1 (B, s))], room := r, left := -1, done := dn, down := false } : DS) = _
  rw [cut_full, h]
  rfl
theorem clean_one (f : List UInt8) (r : Nat) (dn : Bool) : clean (ds (st (some f)) r (-1) dn false) = (0, ds (st (some f)) r (-1) dn false) := rfl
theorem rem_two (f X : List UInt8) (s : Nat) (r : Nat) (dn : Bool) : remove (ds (st2 (some f) X s) r (-1) dn false) frs = (0, ds (st (some f)) r (-1) dn false) := by
  unfold remove
  rw [has_st2, write_go rfl (by show (-1 : Int) ≠ 0; omega)]
  rfl
theorem clean_two (f X : List UInt8) (s : Nat) (r : Nat) (dn : Bool) : clean (ds (st2 (some f) X s) r (-1) dn false) = (0, ds (st (some f)) r (-1) dn false) := by
  unfold clean
  rw [if_neg (show ¬ ((ds (st2 (some f) X s) r (-1) dn false).down = true) by show ¬ (false = true); decide)]
  show cleanL [[115], frs] (ds (st2 (some f) X s) r (-1) dn false) = _
  show (if suf [115] then _ else cleanL [frs] (ds (st2 (some f) X s) r (-1) dn false)) = _
  rw [if_neg (by decide)]
  show (if suf frs then (if (remove (ds (st2 (some f) X s) r (-1) dn false) frs).1 = 0 then cleanL [] (remove (ds (st2 (some f) X s) r (-1) dn false) frs).2 else remove (ds (st2 (some f) X s) r (-1) dn false) frs) else _) = _
  rw [if_pos (by decide), rem_two, if_pos rfl]
  rfl
/-- whichever write finds the power gone -/
theorem atomic (a b : List UInt8) (ha : a.length ≤ 300) (hb : b.length ≤ 300) (c : Nat) (hc : c < 5) (dn : Bool) (keep : List UInt8) :
    ∃ (z : List UInt8), ((save (ds (st (some (LogM.put a))) 5000 (c : Int) dn false) [115] b).1 = 0 ∧ z = b ∨ (save (ds (st (some (LogM.put a))) 5000 (c : Int) dn false) [115] b).1 = 15 ∧ z = b ∨ (save (ds (st (some (LogM.put a))) 5000 (c : Int) dn false) [115] b).1 = 15 ∧ z = a) ∧
      clean (crash (save (ds (st (some (LogM.put a))) 5000 (c : Int) dn false) [115] b).2 keep) = (0, ds (st (some (LogM.put z))) 5000 (-1) dn false) := by
  have hl : lenO (some (LogM.put a)) + (b.length + 12) ≤ 5000 := by show (LogM.put a).length + _ ≤ _; rw [LogM.put_length]; omega
  rcases (by omega : c = 0 ∨ c = 1 ∨ c = 2 ∨ c = 3 ∨ c = 4) with rfl | rfl | rfl | rfl | rfl
  · rw [show ((0 : Nat) : Int) = 0 from rfl, save_no0 _ _ _ _ hl]
    obtain ⟨X, hX⟩ := crash_two (LogM.put a) (LogM.put b) 0 (Nat.zero_le _) 5000 (-1) dn true keep
    exact ⟨a, .inr (.inr ⟨rfl, rfl⟩), by rw [hX, clean_two]⟩
  · rw [show ((1 : Nat) : Int) = 1 from rfl, save_no1 _ _ _ _ hl]
    obtain ⟨X, hX⟩ := crash_two (LogM.put a) (LogM.put b) (if dn then (LogM.put b).length else 0) (by split <;> omega) 5000 (-1) dn true keep
    exact ⟨a, .inr (.inr ⟨rfl, rfl⟩), by rw [hX, clean_two]⟩
  · rw [show ((2 : Nat) : Int) = 2 from rfl, save_no2 _ _ _ _ hl]
    cases dn
    · obtain ⟨X, hX⟩ := crash_two (LogM.put a) (LogM.put b) (LogM.put b).length (Nat.le_refl _) 5000 (-1) false true keep
      refine ⟨a, .inr (.inr ⟨rfl, rfl⟩), ?_⟩
      show clean (crash (ds (st2 (some (LogM.put a)) (LogM.put b) (LogM.put b).length) 5000 (-1) false true) keep) = _
      rw [hX, clean_two]
    · refine ⟨b, .inr (.inl ⟨rfl, rfl⟩), ?_⟩
      show clean (crash (ds (st (some (LogM.put b))) 5000 (-1) true true) keep) = _
      rw [crash_one, clean_one]
  · rw [show ((3 : Nat) : Int) = 3 from rfl, save_go _ _ _ _ _ hl (by decide) (by decide) (by decide)]
    exact ⟨b, .inl ⟨rfl, rfl⟩, by rw [crash_one, clean_one]⟩
  · rw [show ((4 : Nat) : Int) = 4 from rfl, save_go _ _ _ _ _ hl (by decide) (by decide) (by decide)]
    exact ⟨b, .inl ⟨rfl, rfl⟩, by rw [crash_one, clean_one]⟩
end DiskM
end Go.Proofs.Ytopnhplacdbkdaa
