/- The walk of the disk's Used: the sum over the map, in whatever order. Condition: the disk lies behind the pointer. -/
import Derived.Test.YtopnhplacdbkdaaGreatDiskA
import Derived.Maps.RangeWalk
import Derived.Sort.KeysCollected
namespace Go.Proofs.YtopnhplacdbkdaaGreat
open Go.RowKit Go.Maps DiskM

/-- what is still to come -/
def sumLeft (left : Lit → Bool) (l : FVs) : Nat := ((l.filter fun p => left (.string p.1)).map fun p => p.2.n).sum
theorem sumLeft_cons (left : Lit → Bool) (x : Nm × FileV) (l : FVs) : sumLeft left (x :: l) = (if left (.string x.1) then x.2.n else 0) + sumLeft left l := by
  unfold sumLeft
  by_cases h : left (.string x.1) = true
  · rw [List.filter_cons_of_pos (p := fun p : Nm × FileV => left (.string p.1)) h, if_pos h]; rfl
  · rw [List.filter_cons_of_neg (p := fun p : Nm × FileV => left (.string p.1)) h, if_neg h]; simp
theorem sumLeft_none {left : Lit → Bool} (h : ∀ kl, left kl = false) (l : FVs) : sumLeft left l = 0 := by
  induction l with
  | nil => rfl
  | cons x r ih => rw [sumLeft_cons, h, ih]; simp
theorem sumLeft_other {left : Lit → Bool} {k : Nm} {l : FVs} (hk : ∀ x ∈ l, x.1 ≠ k) : sumLeft (fun z => left z && !z.sameKey (.string k)) l = sumLeft left l := by
  induction l with
  | nil => rfl
  | cons x r ih =>
    rw [sumLeft_cons, sumLeft_cons, ih fun y hy => hk y (by simp [hy])]
    have : (Lit.string x.1).sameKey (.string k) = false := by
      have := hk x (by simp)
      simpa [Lit.sameKey] using this
    simp [this]
theorem sumLeft_step {left : Lit → Bool} {k : Nm} {f : FileV} {l : FVs} (hd : Rising l) (hm : (k, f) ∈ l) (hl : left (.string k) = true) : sumLeft left l = f.n + sumLeft (fun z => left z && !z.sameKey (.string k)) l := by
  induction l with
  | nil => cases hm
  | cons x r ih =>
    obtain ⟨h1, h2⟩ := List.pairwise_cons.1 hd.apart
    rw [sumLeft_cons, sumLeft_cons]
    rcases List.mem_cons.1 hm with rfl | hm
    · have e : (Lit.string k).sameKey (.string k) = true := by simp [Lit.sameKey]
      simp only [hl, e]
      rw [sumLeft_other fun y hy => (h1 y hy).symm]
      simp
    · have hne : (Lit.string x.1).sameKey (.string k) = false := by
        have := h1 _ hm
        simpa [Lit.sameKey] using this
      rw [ih (List.pairwise_cons.1 hd).2 hm]
      simp only [hne]
      simp
      omega
theorem sumLeft_all (l : FVs) (D : DataW Value) (hD : D = .map (((l.map (onV FileV.val))).map entry)) : sumLeft (Maps.has D) l = ((l.map fun p => p.2.n).sum) := by
  have : ∀ m : FVs, (∀ x ∈ m, x ∈ l) → sumLeft (Maps.has D) m = ((m.map fun p => p.2.n).sum) := by
    intro m
    induction m with
    | nil => intro _; rfl
    | cons x r ih =>
      intro hx
      rw [sumLeft_cons, ih fun y hy => hx y (by simp [hy])]
      have : Maps.has D (.string x.1) = true := by
        rw [hD, has_entry, look_map]
        have hm := hx x (by simp)
        unfold DiskM.look
        cases hf : l.find? (fun p => p.1 == x.1) with
        | none => rw [List.find?_eq_none] at hf; exact absurd (hf x hm) (by simp)
        | some y => rfl
      rw [this]; rfl
  exact this l fun _ h => h
theorem used_fv {w : World} {fp : Nat → Prop} {p mb : Nat} {fv : FVs} {d : DS} (h : DiskRaw w fp p mb fv d) : ((fv.map fun p => p.2.n).sum) = used d.files := by
  unfold used
  rw [h.files, List.map_map]
  congr 1
  refine List.map_congr_left fun x hx => ?_
  exact (h.rows x hx).1.1.symm

theorem next_file {D : DataW Value} {fv : FVs} (hD : D = .map ((fv.map (onV FileV.val)).map entry)) {x : ByteArray} {c : Value} {kl : Lit} {yd : DataW Value} {yp : List MemPlace} (hkey : keyOf Tryz.prog 9 (.string x) = some kl) (hv : heldR c = some (yd, yp)) (hat : ∀ zd, D.atKey kl zd = yd) :
    ∃ k f, kl = .string k ∧ c = FileV.val f ∧ (k, f) ∈ fv := by
  obtain ⟨s, hs, rfl, _⟩ := Maps.keyOf_str Tryz.underlying9 hkey
  unfold heldR at hv
  injection hv with hv
  injection hv with hv _
  subst hv
  have h1 := hat .nil
  rw [hD, at_entry, look_map] at h1
  cases hl : DiskM.look s fv with
  | none => rw [hl] at h1; simp at h1
  | some f =>
    rw [hl] at h1
    simp at h1
    exact ⟨s, f, rfl, h1.symm, look_mem hl⟩

set_option maxRecDepth 100000 in
set_option maxHeartbeats 1000000 in
theorem used_any {w : World} {fp : Nat → Prop} {p : Nat} {d : DS} (h : DiskAt w fp p d) : Calls Tryz.prog 31 #[.pointer (some ⟨p, 0, none⟩)] w fun e w' => e = .returned (.int .i64 (used d.files : Nat)) ∧ Below w.heap.size w w' := by
  obtain ⟨mb, fv, h⟩ := h
  have hc := h.cell.1
  have hown : w.ownsMap Tryz.prog 9 heldR mb (fv.map (onV FileV.val)).length (.map ((fv.map (onV FileV.val)).map entry)) := h.map
  obtain ⟨D, hD⟩ : ∃ D, D = DataW.map ((fv.map (onV FileV.val)).map entry) := ⟨_, rfl⟩
  rw [← hD] at hown
  have hus := used_fv h
  have hall := sumLeft_all fv D hD
  rw [hus] at hall
  have hul := h.ok.used
  have HR := Lib.hid (Rising.map.1 h.map.rising)
  have HD := Lib.hid hD
  have HA := Lib.hid hall
  have hm0 : mb < w.heap.size := h.map.lt
  generalize used d.files = U at *
  clear hD hus hall h
  generalize (fv.map (onV FileV.val)).length = N at hown
  go_enter Tryz.func31, Tryz.ntmps31
  go_wp2_with (at_range; refine wpList_range_own _ rfl _ 44 rfl 9 70 keyS underM heldR mb N D rfl hown ?_; intro w0 hrg0 hg0 hs0)
  go_frame
  go_loopw [3] (fun n wr => ∃ (left : Lit → Bool) (cnt m : Nat), n = .int .i64 (m : Nat) ∧ m + sumLeft left fv = U ∧ wr.ranges Tryz.prog 9 heldR mb w.heap.size N D left cnt ∧ Below w.heap.size w wr) (fun _ wr => wr.rangeLeft mb w.heap.size)
  case atStart => exact ⟨_, _, 0, rfl, by rw [HA.out]; omega, hrg0, (Below.refl _ _).grown hg0 (Nat.le_refl _) (fun k hk => by cases hk)⟩
  case round =>
    obtain ⟨left, cnt, m, rfl, hsum, hrg, hB⟩ := hrel
    have hmU : m ≤ 16777216 := by omega
    have HS := Lib.hid hsum
    clear hsum
    go_wp2_with (at_next; refine wpList_next_ranges _ rfl _ rfl 9 keyS heldR Value.string id (fun key kl hk => by obtain ⟨x, hx, _⟩ := Maps.keyOf_str Tryz.underlying9 hk; exact ⟨_, hx⟩) (fun v y _ => ⟨v, rfl⟩) mb w.heap.size N D left cnt rfl hrg ?_ ?_)
    · intro _ hl0
      have hm : m = U := by have := HS.out; rw [sumLeft_none hl0] at this; omega
      subst hm
      go_wp2
      go_ret
      exact ⟨rfl, hB⟩
    · intro x c kl yd yp w1 cnt1 hkey hlk hv hat hrg1 hlt hg1 hs1 hen
      obtain ⟨k, f, rfl, rfl, hm⟩ := next_file HD.out hkey hv hat
      have hst := sumLeft_step HR.out hm hlk
      have HST := Lib.hid hst
      have hle : m + f.n ≤ 16777216 := by have := HS.out; omega
      have hB1 : Below w.heap.size w w1 := hB.grown hg1 (by exact hB.size) (fun j hj => by cases hj; exact Nat.le_refl _)
      have hrg1a := hrg1.alloc (.cells #[.slice f.a f.n f.c, .int .i64 (f.sure : Int)] 70)
      clear hst hs1 hv hat hkey hB hg1 hrg1
      simp only [FileV.val] at hen ⊢
      go_wp2
      go_roundw
      case rel => exact ⟨_, cnt1, m + f.n, by go_num, by have := HS.out; have := HST.out; omega, hrg1a, hB1.alloc hB1.size _⟩
      case measure => rw [hrg1a.left_eq, hrg.left_eq]; exact hlt
end Go.Proofs.YtopnhplacdbkdaaGreat
