/- The walk of the disk's write, over what is asked, done and half done. Condition: the disk lies behind the pointer; the three functions keep their promises. -/
import Derived.Test.YtopnhplacdbkdaaGreatDiskA
import Derived.Test.YtopnhplacdbkdaaGreatDiskUsed
namespace Go.Proofs.YtopnhplacdbkdaaGreat
open Go.RowKit DiskM

/-- a write's answer, the disk behind it -/
def WriteIs (w : World) (fp : Nat → Prop) (p : Nat) (r : Nat × DS) (e : Ending) (w' : World) : Prop :=
  e = .returned (.int .i64 (r.1 : Nat)) ∧ ∃ fp', DiskAt w' fp' p r.2 ∧ (∀ k, fp' k → fp k ∨ w.heap.size ≤ k) ∧ Turn fp w w'
/-- what a closure that does the write promises -/
def Does (w : World) (fp : Nat → Prop) (p : Nat) (d : DS) (f : DS → DS) (g : Nat) (args : Array Value) : Prop :=
  ∀ W, Turn fp w W → DiskAt W fp p (gone d) → Calls Tryz.prog g args W fun e W' => e = .returned (.tuple #[]) ∧ ∃ fp', DiskAt W' fp' p (f (gone d)) ∧ (∀ k, fp' k → fp k ∨ W.heap.size ≤ k) ∧ Turn fp W W'

set_option maxRecDepth 100000 in
set_option maxHeartbeats 1000000 in
theorem write_any {w : World} {fp : Nat → Prop} {p : Nat} {d : DS} (h : DiskAt w fp p d) (s : ByteArray) (ga : Nat) (pa la : Array Value) (gd : Nat) (pd ld : Array Value) (gh : Nat) (ph lh : Array Value) (asked : Nat) (do_ half : DS → DS)
    (hea : ∀ args w, (callFunc ga args).run Tryz.prog w = .ok (.enter ga args) w) (hed : ∀ args w, (callFunc gd args).run Tryz.prog w = .ok (.enter gd args) w) (heh : ∀ args w, (callFunc gh args).run Tryz.prog w = .ok (.enter gh args) w)
    (hask : d.down = false → Calls Tryz.prog ga (pa.push (.string s) ++ la) w fun e w' => e = .returned (.int .i64 (asked : Nat)) ∧ Below w.heap.size w w')
    (hdo : asked = 0 → Does w fp p d do_ gd (pd ++ ld)) (hhalf : asked = 0 → Does w fp p d half gh (ph ++ lh)) :
    Calls Tryz.prog 46 #[.pointer (some ⟨p, 0, none⟩), .string s, .func (.func ga) pa la, .func (.func gd) pd ld, .func (.func gh) ph lh] w (WriteIs w fp p (write d asked do_ half)) := by
  obtain ⟨mb, fv, hr⟩ := h
  have hc := hr.cell.2.2.2.2
  have HD := Lib.hid hdo
  have HH := Lib.hid hhalf
  have HA := Lib.hid hask
  clear hdo hhalf hask
  by_cases hdn : d.down = true
  · have HW := Lib.hid (show write d asked do_ half = (15, d) by unfold write; rw [if_pos hdn])
    rw [hdn] at hc
    clear hdn
    go_enter Tryz.func46, Tryz.ntmps46
    go_wp2_with fail
    go_ret
    rw [HW.out]
    exact ⟨rfl, fp, ⟨_, _, hr⟩, fun _ h => .inl h, Turn.refl _ _⟩
  have hdn' : d.down = false := by simpa using hdn
  rw [hdn'] at hc
  have HA' := Lib.hid (HA.out hdn')
  have HDN := Lib.hid hdn'
  clear hdn hdn' HA
  go_enter Tryz.func46, Tryz.ntmps46
  go_wp2_with fail
  refine HA'.out.mono ?_
  rintro e w1 ⟨rfl, hb1⟩
  have hr1 := hr.below hb1
  have ht1 := Turn.of_below hb1 fp
  by_cases h0 : asked = 0
  rotate_left
  · have HW := Lib.hid (show write d asked do_ half = (asked, d) by unfold write; rw [if_neg (by rw [HDN.out]; simp), if_pos h0])
    have hne : ((asked : Int) != 0) = true := by rw [bne_iff_ne]; omega
    clear h0
    go_wp2_with fail
    go_ret
    rw [HW.out]
    exact ⟨rfl, fp, ⟨_, _, hr1⟩, fun _ h => .inl h, ht1⟩
  subst h0
  go_wp2_with fail
  refine (goes_any ⟨_, _, hr1⟩).mono ?_
  rintro e w2 ⟨rfl, hd2, ht2⟩
  have ht12 := ht1.trans0 ht2
  have hs2 := ht12.size
  have fin : ∀ (n : Nat) (f : DS → DS) (w3 : World) (fp' : Nat → Prop), write d 0 do_ half = (n, f (gone d)) → DiskAt w3 fp' p (f (gone d)) → (∀ k, fp' k → fp k ∨ w2.heap.size ≤ k) → Turn fp w2 w3 →
      ∃ fp', DiskAt w3 fp' p (write d 0 do_ half).2 ∧ (∀ k, fp' k → fp k ∨ w.heap.size ≤ k) ∧ Turn fp w w3 := by
    intro n f w3 fp' he h3 hf ht
    rw [he]
    exact ⟨fp', h3, fun k hk => (hf k hk).imp id fun h => by omega, ht12.trans0 ht⟩
  have FIN := Lib.hid fin
  have hdone : w2.cell? ⟨p, 3, none⟩ = some (.bool d.done) := by
    obtain ⟨mb2, fv2, hr2⟩ := hd2
    have := hr2.cell.2.2.2.1
    rw [(gone_files d).2.2] at this; exact this
  clear fin
  by_cases hg : goes d = true
  · have HW := Lib.hid (show write d 0 do_ half = (0, do_ (gone d)) by unfold write; rw [if_neg (by rw [HDN.out]; simp), if_neg (by simp), if_pos hg])
    rw [hg]
    clear hg hdone
    go_wp2_with fail
    refine (HD.out trivial w2 ht12 hd2).mono ?_
    rintro e w3 ⟨rfl, fp', h3, hf, ht3⟩
    go_wp2_with fail
    go_ret
    exact ⟨by rw [HW.out]; rfl, FIN.out 0 do_ _ _ HW.out h3 hf ht3⟩
  have hg' : goes d = false := by simpa using hg
  by_cases hdo : d.done = true
  · have HW := Lib.hid (show write d 0 do_ half = (15, do_ (gone d)) by unfold write; rw [if_neg (by rw [HDN.out]; simp), if_neg (by simp), if_neg hg, if_pos hdo])
    rw [hg']
    rw [hdo] at hdone
    clear hg hg' hdo
    go_wp2_with fail
    refine (HD.out trivial w2 ht12 hd2).mono ?_
    rintro e w3 ⟨rfl, fp', h3, hf, ht3⟩
    go_wp2_with fail
    go_ret
    exact ⟨by rw [HW.out]; rfl, FIN.out 15 do_ _ _ HW.out h3 hf ht3⟩
  · have hdo' : d.done = false := by simpa using hdo
    have HW := Lib.hid (show write d 0 do_ half = (15, half (gone d)) by unfold write; rw [if_neg (by rw [HDN.out]; simp), if_neg (by simp), if_neg hg, if_neg hdo])
    rw [hg']
    rw [hdo'] at hdone
    clear hg hg' hdo hdo'
    go_wp2_with fail
    refine (HH.out trivial w2 ht12 hd2).mono ?_
    rintro e w3 ⟨rfl, fp', h3, hf, ht3⟩
    go_wp2_with fail
    go_ret
    exact ⟨by rw [HW.out]; rfl, FIN.out 15 half _ _ HW.out h3 hf ht3⟩
end Go.Proofs.YtopnhplacdbkdaaGreat
