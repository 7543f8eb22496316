/- Plain law of the reference disk's put and drop: a file laid in its place, a file left out. No condition. -/
import Derived.Test.YtopnhplacdbkdaaGreatDiskM
namespace Go.Proofs.YtopnhplacdbkdaaGreat.DiskM

section
variable {α : Type}
theorem del_same {l : List (Nm × α)} {k : Nm} (h : ∀ x ∈ l, x.1 ≠ k) : del k l = l := by
  unfold del
  refine List.filter_eq_self.2 fun z hz => ?_
  simp only [Bool.not_eq_true', beq_eq_false_iff_ne]
  exact h z hz
theorem del_cons_ne {l : List (Nm × α)} {y : Nm × α} {k : Nm} (h : y.1 ≠ k) : del k (y :: l) = y :: del k l := by
  unfold del; rw [List.filter_cons_of_pos (by simpa using h)]
theorem put_at {l : List (Nm × α)} (hr : Rising l) (s : Nm) (v : α) (k : Nat) (hk : k ≤ l.length) (hlt : ∀ x ∈ l.take k, lt x.1 s = true) (hge : ∀ x, l[k]? = some x → lt x.1 s = false) :
    put s v l = l.take k ++ (s, v) :: l.drop (if (l[k]?.map (·.1)) = some s then k + 1 else k) := by
  induction l generalizing k with
  | nil =>
    obtain rfl : k = 0 := by simpa using hk
    simp [put, del, ins]
  | cons y r ih =>
    obtain ⟨h1, h2⟩ := List.pairwise_cons.1 hr
    cases k with
    | zero =>
      have hy := hge y rfl
      by_cases he : y.1 = s
      · have := put_set hr (i := 0) (k := s) (x := y.2) (by simp [← he]) v
        rw [this]
        simp [he]
      · have hl := (lt_total he).resolve_left (by rw [hy]; simp)
        have hd : del s (y :: r) = y :: r := del_same fun x hx => by
          rcases List.mem_cons.1 hx with rfl | hx
          · exact he
          · intro e
            have := lt_trans hl (h1 x hx)
            rw [e, lt_irrefl] at this; cases this
        unfold put
        rw [hd]
        simp [ins, hl, he]
    | succ k =>
      have hy := hlt y (by simp)
      have hne : y.1 ≠ s := by intro e; rw [e, lt_irrefl] at hy; cases hy
      have hn : ¬ lt s y.1 = true := fun h => by
        have := lt_trans h hy
        rw [lt_irrefl] at this; cases this
      have e : put s v (y :: r) = y :: put s v r := by
        unfold put
        rw [del_cons_ne hne]
        show ins (s, v) (y :: del s r) = _
        simp only [ins]
        rw [if_neg hn]
      rw [e, ih h2 k (by simpa using hk) (fun x hx => hlt x (by simp [hx])) (fun x hx => hge x (by simpa using hx))]
      simp only [List.getElem?_cons_succ, List.take_succ_cons, List.cons_append]
      split <;> simp
theorem del_take {l : List (Nm × α)} {k : Nm} {i : Nat} {x : Nm × α} (hx : l[i]? = some x) : del k (l.take (i + 1)) = del k (l.take i) ++ (if x.1 = k then [] else [x]) := by
  unfold del
  rw [List.take_add_one, hx, List.filter_append]
  congr 1
  by_cases h : x.1 = k <;> simp [h]
theorem del_twice (l : List (Nm × α)) (k : Nm) : del k (del k l) = del k l := del_same fun _ hx => (mem_del.1 hx).2
theorem put_again {l : List (Nm × α)} (hr : Rising l) {k : Nm} {v : α} (h : look k l = some v) : put k v (del k l) = l := by
  obtain ⟨i, hi, he⟩ := List.getElem_of_mem (look_mem h)
  have hg : l[i]? = some (k, v) := by rw [List.getElem?_eq_getElem hi, he]
  have e : put k v (del k l) = put k v l := by unfold put; rw [del_twice]
  rw [e, put_set hr hg]
  refine List.ext_getElem? fun j => ?_
  rw [List.getElem?_set]
  split
  · next hj => subst hj; simp [hi, he]
  · rfl
end
theorem old_some {d : DS} {k : Nm} {v : List UInt8 × Nat} (h : look k d.files = some v) : old d k = v := by unfold old; rw [h]; rfl
theorem rename_same {d : DS} (hok : d.Ok) {k : Nm} {v : List UInt8 × Nat} (h : look k d.files = some v) : renameDo k k d = d := by
  unfold renameDo setF dropF
  rw [old_some h]
  show ({ d with files := put k v (del k d.files) } : DS) = d
  rw [put_again hok.rising h]
theorem named_len {t : Nm} (h : named t = true) : t.length ≤ 16 := by
  unfold named at h
  simp only [Bool.and_eq_true, decide_eq_true_eq] at h
  exact h.2
theorem rename_ok {d : DS} (hok : d.Ok) {k t : Nm} {v : List UInt8 × Nat} (h : look k d.files = some v) (ht : named t = true) : (setF (dropF d k) t v).Ok := by
  have hu := used_del hok.rising.apart k
  rw [h] at hu
  simp only [Option.map_some, Option.getD_some] at hu
  have h2 := hok.used
  have h3 := old_le hok k
  rw [old_some h] at h3
  refine setF_ok (dropF_ok hok k) (named_len ht) h3 ?_ ?_
  · show v.1.length + used (del k d.files) ≤ _
    omega
  · show (put t v (del k d.files)).length ≤ _
    have h4 := put_length t v (del k d.files)
    have h5 := del_length_some hok.rising.apart (k := k) (by rw [h]; rfl)
    have := hok.few
    omega
theorem append_ok {d : DS} (hok : d.Ok) {k : Nm} {b : List UInt8} (hk : named k = true) (hr : b.length + used d.files ≤ d.room) (hf : d.files.length < 1000000) : (setF d k ((old d k).1 ++ b, (old d k).2)).Ok := by
  have h1 := hok.room
  have h3 := old_le hok k
  refine setF_ok hok (named_len hk) ?_ ?_ ?_
  · show (old d k).2 ≤ ((old d k).1 ++ b).length
    rw [List.length_append]; omega
  · show ((old d k).1 ++ b).length + _ ≤ _
    rw [List.length_append]; omega
  · have := put_length k ((old d k).1 ++ b, (old d k).2) d.files
    omega
theorem same_ok {d : DS} (hok : d.Ok) {k : Nm} {v v' : List UInt8 × Nat} (h : look k d.files = some v) (hl : v'.1.length ≤ v.1.length) (hs : v'.2 ≤ v'.1.length) : (setF d k v').Ok := by
  have h1 := hok.used
  have hm := look_mem h
  refine setF_ok hok (hok.name _ hm) hs ?_ ?_
  · rw [old_some h]; omega
  · rw [put_length_some hok.rising.apart (by rw [h]; rfl)]; exact hok.few
end Go.Proofs.YtopnhplacdbkdaaGreat.DiskM
