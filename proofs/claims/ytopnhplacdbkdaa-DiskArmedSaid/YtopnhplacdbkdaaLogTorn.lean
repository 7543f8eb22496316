/- The walk of the statement LogTorn: records cut off anywhere. Condition: the argument reads as slices of bytes. -/
import Derived.Test.YtopnhplacdbkdaaLogKnown
namespace Go.Proofs.Ytopnhplacdbkdaa
open Go.RowKit Go.Shelf
attribute [local go_sem] Oper.semAt_some

theorem catP_catB (ps : List Part) : catP ps = LogM.catB (ps.map (·.bs)) := by simp [catP, LogM.catB, Function.comp_def]
theorem catP_small (ps : List Part) (h20 : ps.length ≤ 20) (h : ∀ p ∈ ps, p.bs.length ≤ 300) : (catP ps).length ≤ 6240 := by
  have := catP_le ps ps.length h
  rw [List.take_length] at this
  omega
/-- the plain law: cut off at N, k whole records before -/
theorem torn_parts {ps : List Part} (hl : ∀ p ∈ ps, p.bs.length ≤ 300) {N k : Nat} (hk : k ≤ ps.length) (h1 : (catP (ps.take k)).length ≤ N) (h2 : ∀ p, ps[k]? = some p → N < (catP (ps.take k)).length + (p.bs.length + 12)) :
    LogM.whole ((catP ps).take N) = (catP (ps.take k)).length ∧ (LogM.scan ((catP ps).take N)).length = k ∧ (LogM.next (((catP ps).take N).drop (catP (ps.take k)).length)).2.2 = 10 := by
  have hm : ∀ b ∈ ps.map (·.bs), b.length ≤ LogM.most := by
    intro b hb
    obtain ⟨p, hp, rfl⟩ := List.mem_map.1 hb
    exact Nat.le_trans (hl p hp) (by decide)
  have e : catP (ps.take k) = LogM.catB ((ps.map (·.bs)).take k) := by rw [catP_catB, List.map_take]
  rw [e] at h1 h2 ⊢
  obtain ⟨r, hr, hn, hd⟩ := LogM.torn (ps.map (·.bs)) hm N k (by simpa using hk) h1 (by
    intro b hb
    rw [List.getElem?_map] at hb
    cases hp : ps[k]? with
    | none => rw [hp] at hb; cases hb
    | some p => rw [hp] at hb; injection hb with hb; subst hb; exact h2 p hp)
  have hm' : ∀ b ∈ (ps.map (·.bs)).take k, b.length ≤ LogM.most := fun b hb => hm b (List.mem_of_mem_take hb)
  rw [catP_catB, hd, hr]
  refine ⟨LogM.whole_cat _ hm' r (by omega), ?_, hn⟩
  rw [LogM.scan_cat _ hm' r (by omega), LogM.posB_length, List.length_take, List.length_map]
  omega

set_option maxRecDepth 100000 in
set_option maxHeartbeats 4000000 in
theorem walkLogTorn (a : Option Addr) (n c : Nat) (ps : List Part) (cut : Nat) (w : World) (hn : ps.length = n) (hm : n ≤ 9223372036854775807) (h : RdP w w.heap.size a ps) (hp : ∀ p ∈ ps, p.n ≤ 9223372036854775807 ∧ p.n ≤ p.c ∧ p.c ≤ 9223372036854775807) (hcut : cut < 65536) :
    Calls Try.prog 10 #[.slice a n c, .int .u16 cut] w fun e w' => e = .returned (.bool true) ∧ Below w.heap.size w w' := by
  refine (callsIn_wide (n := 6)).1 ?_
  refine callsIn_of_wp_marks Try.func10 rfl trivial ?_ rfl
  simp only [Try.ntmps10, List.size_toArray, List.length_cons, List.length_nil, Nat.reduceAdd, Nat.reduceSub, Array.replicate_succ, Array.replicate_zero, List.push_toArray, List.append_toArray, List.nil_append, List.cons_append]
  have HN := Lib.hid hn
  clear hn
  gi_wp2_with fail
  refine ⟨trivial, ?_⟩
  refine (callsIn_wide.2 (logknown_any w)).mono ?_
  rintro e w1 ⟨rfl, hB1⟩
  have h1 := h.step hB1
  clear h
  gi_wp2_with fail
  refine ⟨trivial, ?_⟩
  refine (callsIn_wide.2 (few_any a n c ps w1 HN.out hm h1 (fun p hpp => (hp p hpp).1))).mono ?_
  rintro e w2 ⟨rfl, rfl⟩
  by_cases hfew : fewB ps = true
  rotate_left
  · have hfe : fewB ps = false := by simpa using hfew
    rw [hfe]
    gi_wp2_with fail
    exact ⟨_, results_tmp rfl _ _ _, rfl, hB1⟩
  obtain ⟨h20, h300⟩ := few_yes hfew
  rw [hfew]
  have hpl : ∀ p ∈ ps, p.bs.length = p.n := fun p hpp => by
    obtain ⟨j, hj, e⟩ := List.getElem_of_mem hpp
    obtain ⟨_, _, q, _, _, hq, _, hl, _⟩ := h1.at_ hj
    rw [List.getElem?_eq_getElem hj, e] at hq
    injection hq with hq
    subst hq; exact hl
  have H20 := Lib.hid h20
  have H300 := Lib.hid h300
  have HPL := Lib.hid hpl
  have hT : (catP ps).length ≤ 6240 := catP_small ps h20 (fun p hpp => by rw [hpl p hpp]; exact h300 p hpp)
  clear hp hfew h20 h300 hpl
  gi_wp2_with fail
  refine ⟨trivial, ?_⟩
  refine (callsIn_wide.2 (alls_any a n c ps w1 HN.out (by rw [← HN.out]; exact H20.out) h1 H300.out HPL.out)).mono ?_
  rintro e w3 ⟨a3, c3, rfl, ho3, hb3⟩
  have hB3 : Below w.heap.size w w3 := Below.next0 hB1 hb3
  have h3 := h1.step hb3
  have hr3 := ho3.rd
  have hcap3 := ho3.cap
  unfold maxLen at hcap3
  clear hb3 h1 hB1 ho3
  obtain ⟨TL, hTL⟩ : ∃ TL, TL = (catP ps).length := ⟨_, rfl⟩
  have HTL := Lib.hid hTL
  rw [← hTL] at hT hcap3 ⊢
  clear hTL
  obtain ⟨N, hNe, hNle⟩ : ∃ N : Nat, (cut : Int).tmod ((TL : Int) + 1) = (N : Int) ∧ N ≤ TL := ⟨cut % (TL + 1), by rw [show ((TL : Int) + 1) = ((TL + 1 : Nat) : Int) by omega, ← Int.ofNat_tmod], by have := Nat.mod_lt cut (show 0 < TL + 1 by omega); omega⟩
  have HNe := Lib.hid hNe
  gi_wp2_with fail
  clear hNe
  gi_loop [8, 9] (fun i v => ∃ k : Nat, k ≤ n ∧ v = .int .i64 k ∧ i = .int .i64 ((catP (ps.take k)).length : Nat) ∧ (catP (ps.take k)).length ≤ N) (fun _ v => n - (intOf v).toNat)
  case atStart => exact ⟨0, Nat.zero_le _, rfl, rfl, Nat.zero_le _⟩
  case round =>
    obtain ⟨k, hk, rfl, rfl, hle⟩ := hrel
    have hWL : (catP (ps.take k)).length ≤ TL := by omega
    generalize hW : (catP (ps.take k)).length = W at hle hWL ⊢
    by_cases hgo : ∃ p, ps[k]? = some p ∧ W + (p.n + 12) ≤ N
    · obtain ⟨p', hp', hfit⟩ := hgo
      have hlt : k < n := by have := (List.getElem?_eq_some_iff.1 hp').1; rw [HN.out] at this; exact this
      obtain ⟨b, o, p, rfl, hb, hpk, hc, hl, _⟩ := h3.at_ (show k < ps.length by rw [HN.out]; exact hlt)
      obtain rfl : p' = p := by rw [hpk] at hp'; injection hp' with hp'; exact hp'.symm
      have hp3 := H300.out p' (List.mem_of_getElem? hpk)
      have hsum : max (min ((p'.n : Nat) : Int) 65536) 0 + 12 = ((p'.n + 12 : Nat) : Int) := by omega
      have HLen : Hid ((catP (ps.take (k + 1))).length = W + (p'.n + 12)) := Lib.hid (by rw [catP_snoc hpk, List.length_append, LogM.put_length, hl, hW])
      clear hl hpk hp'
      gi_wp2_with fail
      refine ⟨trivial, ?_⟩
      refine (callsIn_wide.2 (size_any _ _)).mono ?_
      rintro e w4 ⟨rfl, rfl⟩
      rw [hsum]
      have hfit' : (W : Int) + ((p'.n + 12 : Nat) : Int) ≤ (N : Int) := by omega
      gi_wp2_with fail
      refine ⟨trivial, ?_⟩
      refine (callsIn_wide.2 (size_any _ _)).mono ?_
      rintro e w4 ⟨rfl, rfl⟩
      rw [hsum]
      gi_wp2_with fail
      go_round
      case rel => exact ⟨k + 1, by omega, by go_num, by rw [HLen.out]; push_cast; rfl, by rw [HLen.out]; exact hfit⟩
      case measure => simp [intOf]; omega
    have hlaw := torn_parts (ps := ps) (N := N) (k := k) (fun p hpp => by rw [HPL.out p hpp]; exact H300.out p hpp) (by rw [HN.out]; exact hk) (by rw [hW]; exact hle) (fun p hp => by
      rw [hW, HPL.out p (List.mem_of_getElem? hp)]
      exact Nat.lt_of_not_le fun hh => hgo ⟨p, hp, hh⟩)
    rw [hW] at hlaw
    obtain ⟨hlw, hls, hln⟩ := hlaw
    have HLW := Lib.hid hlw
    have HLS := Lib.hid hls
    have HLN := Lib.hid hln
    clear hlw hls hln hW
    have hTN : ((catP ps).take N).length = N := by rw [List.length_take, ← HTL.out]; omega
    have HTN := Lib.hid hTN
    have hrN : Rd w3 w3.heap.size a3 ((catP ps).take N) := hr3.front N
    clear hTN hr3
    generalize (catP ps).take N = X at HLW HLS HLN HTN hrN
    by_cases hlt : k < n
    obtain ⟨b, o, p, rfl, hb, hpk, hc, hl, _⟩ := h3.at_ (show k < ps.length by rw [HN.out]; exact hlt)
    have hp3 := H300.out p (List.mem_of_getElem? hpk)
    have hsum : max (min ((p.n : Nat) : Int) 65536) 0 + 12 = ((p.n + 12 : Nat) : Int) := by omega
    have hnfit : ¬ W + (p.n + 12) ≤ N := fun hh => hgo ⟨p, hpk, hh⟩
    clear hl hpk hgo
    have hkn := Lib.hid (show ((k : Int) == (n : Int)) = false by rw [beq_eq_false_iff_ne]; omega)
    gi_wp2_with fail
    refine ⟨trivial, ?_⟩
    refine (callsIn_wide.2 (size_any _ _)).mono ?_
    rintro e w4 ⟨rfl, rfl⟩
    rw [hsum]
    have hfit' : ¬ (W : Int) + ((p.n + 12 : Nat) : Int) ≤ (N : Int) := by omega
    gi_wp2_with fail
    rotate_left
    have hkn := Lib.hid (show ((k : Int) == (n : Int)) = true by rw [beq_iff_eq]; omega)
    have hnlt : ¬ (k : Int) < (n : Int) := by omega
    clear hgo
    gi_wp2_with fail
    refine ⟨trivial, ?_⟩
    gi_wp2_with fail
    rotate_left
    all_goals (
      refine ⟨trivial, ?_⟩
      have hb4 : Below w3.heap.size w3 (w3.alloc (.cells #[.int .i64 0] 3)) := (Below.refl _ _).alloc (Nat.le_refl _) _
      have hc4 : (w3.alloc (.cells #[.int .i64 0] 3)).cell? ⟨w3.heap.size, 0, none⟩ = some (.int .i64 0) := by rw [cell_of_row _ _ _ _ _ _ (heap_alloc_new _ _)]; rfl
      have hf4 : (w3.alloc (.cells #[.int .i64 0] 3)).frozen? ⟨w3.heap.size, 0, none⟩ = false := frozen_of_row _ _ _ _ _ (heap_alloc_new _ _)
      have hr4 := (hrN.below hb4).more hb4.size
      have hB4 : Below w.heap.size w (w3.alloc (.cells #[.int .i64 0] 3)) := hB3.alloc hB3.size _
      refine (callsIn_wide.2 (all_any a3 N c3 X _ HTN.out (by omega) hr4)).mono ?_
      rintro e w5 ⟨a5, c5, rfl, hbx, ho5, hb5, hsz5⟩
      have hc5 := (hb5.cell (p := ⟨w3.heap.size, 0, none⟩) (by simp)).trans hc4
      have hf5 := (hb5.frozen (p := ⟨w3.heap.size, 0, none⟩) (by simp)).trans hf4
      have hb35 : Below w3.heap.size w3 w5 := Below.next0 hb4 hb5
      have hB5 : Below w.heap.size w w5 := Below.next0 hB3 hb35
      have hr5 : Rd w5 w3.heap.size a3 X := hrN.below hb35
      have hs35 := hb35.size
      have hs3 := hB3.size
      simp only [World.size_alloc] at hbx ho5 hsz5 ⊢
      clear hc4 hf4 hr4 hB4 hb5 hb4
      gi_wp2_with fail
      refine wpIn_range_ok rfl (by omega) (gf := 67) (lb := #[.pointer (some ⟨w3.heap.size + 1, 0, none⟩)]) rfl trivial (enters_of Try.func67 (by kernel_rfl) rfl)
        (all_stops _ (by omega) (w3.heap.size + 1) a5 c5 X (by rw [HTN.out]; omega) w5 hbx ho5 hsz5) (fun h k => h.trans k) (fun W l o o' hl _ _ => Stays.turn W l o' hl) (fun pre x W l o o' hk _ hl hoc => hk.turn hl hoc) (Below.refl _ _) (fun _ => rfl)
        (fun pre U => ((U.cell? ⟨w3.heap.size, 0, none⟩ = some (.int .i64 (pre.length : Nat)) ∧ U.frozen? ⟨w3.heap.size, 0, none⟩ = false) ∧ Rd U w3.heap.size a3 X) ∧ Below w.heap.size w U)
        (fun _ _ _ => False)
        (OwnFrom.and (Own.from (fun s A B row hs hg hr => ⟨⟨cell_kept hs.1.1 hg hr, (frozen_kept hs.1.1 hg hr).trans hs.1.2⟩, hs.2.turned hg hr⟩) _) (ownFrom_below (Nat.le_refl _) (by omega)))
        (fun _ _ _ _ _ hs _ _ => hs)
        ⟨⟨⟨hc5, hf5⟩, hr5⟩, hB5⟩
        ?_ ?_ ?_ ?_ ?_
      case refine_2 =>
        intro l x U K hK
        simp only [Rec.encs]
        gi_wp2
        exact hK
      case refine_5 =>
        rintro D c pre U _ _ h _
        exact h.elim
      case refine_3 =>
        rintro l pre x U ⟨⟨⟨hc, hf⟩, hrU⟩, hBU⟩ hok
        have hpre : pre.length < k := by
          have := hok.1.length_le
          rw [HLS.out] at this
          simp at this
          omega
        have hk20 : k ≤ 20 := Nat.le_trans hk (by rw [← HN.out]; exact H20.out)
        gi_wp2
        refine ⟨(KeepsOthers.setCell _ _ _).from _, (Stays.refl _ _ _).setCell (.inl (by show w3.heap.size < w3.heap.size + 1; omega)) _, ⟨⟨⟨?_, by rw [World.frozen?_setCell]; exact hf⟩, hrU.setCell (Nat.le_refl _) _⟩, hBU.setCell hs3 _⟩⟩
        rw [World.cell?_setCell_same' _ _ _ (by rw [hc]; rfl)]
        simp
      case refine_4 =>
        rintro D ys U hD hys ⟨⟨⟨hc, hf⟩, hrU⟩, hBU⟩ hK
        have hyk : ys.length = k := by have := congrArg List.length hys; rw [HLS.out] at this; simpa using this
        rw [hyk] at hc
        have hsD := (Array.getElem?_eq_some_iff.1 hK).1
        have hsU : w3.heap.size ≤ U.heap.size := by omega
        have hsl := fun V => slice_lh_b V a3 TL c3 .i64 .i64 (W : Int) (N : Int) (by omega) (by omega) (by omega)
        have hrc := (hrU.cutA (p := W) (c := c3) (by rw [HTN.out]; omega)).more hsU
        gi_wp2_with fail
        refine ⟨trivial, ?_⟩
        refine (callsIn_wide.2 (lognext_any (cutA a3 c3 W 1) (N - W) (c3 - W) (X.drop W) U (by rw [List.length_drop, HTN.out]) (by omega) (by omega) (by omega) hrc)).mono ?_
        generalize hnx : LogM.next (X.drop W) = r at HLN
        obtain ⟨x, M, E⟩ := r
        have hE : E = 10 := HLN.out
        subst hE
        rintro e U2 ⟨a2, c2, rfl, ho2, hb2⟩
        have hrU2 := (hrU.more hsU).below hb2
        have hsU2 := hb2.size
        have hc2 := (hb2.cell (p := ⟨w3.heap.size, 0, none⟩) (by simp; omega)).trans hc
        have hK2 := (hb2.block D hsD).trans hK
        have hBU2 : Below w.heap.size w U2 := Below.next0 hBU hb2
        clear hnx ho2 hrc
        gi_wp2_with fail
        refine ⟨trivial, ?_⟩
        refine (callsIn_wide.2 (whole_any a3 N c3 X U2 HTN.out (by omega) (hrU2.more hsU2))).mono ?_
        rw [HLW.out]
        rintro e U3 ⟨rfl, hb3⟩
        have hc3' := (hb3.cell (p := ⟨w3.heap.size, 0, none⟩) (by simp; omega)).trans hc2
        have hK3 := (hb3.block D (by omega)).trans hK2
        have hBU3 : Below w.heap.size w U3 := Below.next0 hBU2 hb3
        have hkn' := hkn.out
        gi_wp2_with fail
        refine ⟨by simp, .inl ⟨_, _, rfl, run_takeDeferred hK3, ?_⟩⟩
        exact ⟨_, results_tmp rfl _ _ _, rfl, hBU3.trans (belowK_b (w := w) (Nat.le_refl _) U3 D _ _ (by omega) hK3 rfl rfl)⟩)
end Go.Proofs.Ytopnhplacdbkdaa
