/- The walk of the statement LogScans: what any bytes have at their beginning. Condition: the arguments read as bytes and slices of bytes. -/
import Derived.Test.YtopnhplacdbkdaaLogScan
namespace Go.Proofs.Ytopnhplacdbkdaa
open Go.RowKit

set_option maxRecDepth 100000 in
set_option maxHeartbeats 4000000 in
theorem walkLogScans (a : Option Addr) (n c : Nat) (bs : List UInt8) (a2 : Option Addr) (n2 c2 : Nat) (ps : List Part) (w : World) (hn : bs.length = n) (_hm : n ≤ 9223372036854775807) (h : Rd w w.heap.size a bs) (hc : n ≤ c) (hcm : c ≤ 9223372036854775807)
    (hn2 : ps.length = n2) (hm2 : n2 ≤ 9223372036854775807) (h2 : RdP w w.heap.size a2 ps) (hp : ∀ p ∈ ps, p.n ≤ 9223372036854775807 ∧ p.n ≤ p.c ∧ p.c ≤ 9223372036854775807) :
    Calls Try.prog 8 #[.slice a n c, .slice a2 n2 c2] w fun e w' => e = .returned (.bool true) ∧ Below w.heap.size w w' := by
  have HN := Lib.hid hn
  have HN2 := Lib.hid hn2
  clear hn hn2
  by_cases h5 : 500 < n
  · have h5' : (500 : Int) < (n : Int) := by omega
    go_enter Try.func8, Try.ntmps8
    go_wp2_with fail
    refine (logknown_any w).mono ?_
    rintro e w1 ⟨rfl, hB1⟩
    go_wp2_with fail
    go_ret
    exact ⟨rfl, hB1⟩
  have h5' : (n : Int) ≤ 500 := by omega
  go_enter Try.func8, Try.ntmps8
  go_wp2_with fail
  refine (logknown_any w).mono ?_
  rintro e w1 ⟨rfl, hB1⟩
  have hr1 := h.step hB1
  have hP1 := h2.step hB1
  clear h h2
  go_wp2_with fail
  refine (few_any a2 n2 c2 ps w1 HN2.out hm2 hP1 (fun p hpp => (hp p hpp).1)).mono ?_
  rintro e w2 ⟨rfl, rfl⟩
  by_cases hfew : fewB ps = true
  rotate_left
  · have hfe : fewB ps = false := by simpa using hfew
    rw [hfe]
    go_wp2_with fail
    go_ret
    exact ⟨rfl, hB1⟩
  obtain ⟨h20, h300⟩ := few_yes hfew
  rw [hfew]
  have hpl : ∀ p ∈ ps, p.bs.length = p.n := fun p hpp => by
    obtain ⟨j, hj, e⟩ := List.getElem_of_mem hpp
    obtain ⟨_, _, q, _, _, hq, _, hl, _⟩ := hP1.at_ hj
    rw [List.getElem?_eq_getElem hj, e] at hq
    injection hq with hq
    subst hq; exact hl
  have H20 := Lib.hid h20
  have H300 := Lib.hid h300
  have HPL := Lib.hid hpl
  have hT : (catP ps).length ≤ 6240 := catP_small ps h20 (fun p hpp => by rw [hpl p hpp]; exact h300 p hpp)
  clear hp hfew h20 h300 hpl
  go_wp2_with fail
  refine (alls_any a2 n2 c2 ps w1 HN2.out (by rw [← HN2.out]; exact H20.out) hP1 H300.out HPL.out).mono ?_
  rintro e w3 ⟨a3, c3, rfl, ho3, hb3⟩
  have hB3 : Below w.heap.size w w3 := Below.next0 hB1 hb3
  have hr3 := hr1.step hb3
  have hT3 := ho3.rd
  have hl3 := ho3.len
  generalize catP ps = T at *
  generalize hTN : T.length = TN at *
  have HT := Lib.hid hTN
  clear hb3 hr1 hB1 ho3 hTN hl3 hP1
  go_wp2_with fail
  refine (scans_any a n c bs w3 HN.out (by omega) hc hcm hr3).mono ?_
  rintro e w4 ⟨rfl, hb4⟩
  have hB4 : Below w.heap.size w w4 := Below.next0 hB3 hb4
  have hr4 := hr3.step hb4
  have hT4 := hT3.step hb4
  clear hb4 hr3 hT3 hB3
  have hbl : Below w4.heap.size w4 (w4.alloc (.cells #[] 5)) := (Below.refl _ _).alloc (Nat.le_refl _) _
  have hTl := hT4.below hbl
  have hsl : w4.heap.size ≤ (w4.alloc (.cells #[] 5)).heap.size := by simp
  go_wp2_with (first
    | (at_builtin; refine wpList_append_bw (.tmp 28) (.tmp 29) rfl w4 _ w4.heap.size hbl hsl _ 0 0 [] rfl (Own.lit (B := w4.heap.size) (bs := []) w4 (Nat.le_refl _) #[] rfl (by simp)) _ a3 TN c3 T rfl hTl HT.out TN (by omega) (by omega) rfl ?_; intro a5 c5 w5 ho5 hg5 hb5 hat5; have hr5 := hr4.below hb5)
    | (at_builtin; refine wpList_append_bw (.tmp 30) (.tmp 31) rfl w4 _ w4.heap.size hb5 hb5.size _ TN c5 _ rfl ho5 _ a n c bs rfl hr5 HN.out (TN + n) rfl (by omega) rfl ?_; intro a6 c6 w6 ho6 hg6 hb6 hat6))
  have hB6 := Below.next0 hB4 hb6
  have hcap := ho6.cap
  unfold maxLen at hcap
  refine (scans_any a6 (TN + n) c6 _ w6 ho6.len (by omega) hcap.1 hcap.2 ho6.rd).mono ?_
  rintro e w7 ⟨rfl, hb7⟩
  have hB7 := Below.next0 hB6 hb7
  go_wp2_with fail
  go_ret
  exact ⟨rfl, hB7⟩
end Go.Proofs.Ytopnhplacdbkdaa
