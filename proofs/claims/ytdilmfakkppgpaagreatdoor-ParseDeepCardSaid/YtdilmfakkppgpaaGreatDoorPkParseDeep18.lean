/- Part 18 of the proof of LawParseDeep: MakeA, Cat. Condition: as each theorem says; none at the end. -/
import Derived.Carry
import Derived.Lib.AppendZerosOnto
import Derived.Test.YtdilmfakkppgpaaGreatDoorPkParseDeep17
namespace Go.Proofs.YtdilmfakkppgpaaGreatDoor
open Go.RowKit WordsM
theorem info_mono : (Tryz.prog.info? 44).map (fun i => (i.zero, i.size, i.bytes)) = some (some (.agg #[.bool false, .int .i64 0, .slice none 0 0, .slice none 0 0]), 4, 64) := by kernel_rfl
theorem nou_zero : ∀ u ∈ (Value.agg #[.bool false, .int .i64 0, .slice none 0 0, .slice none 0 0]).cells.toList, NoU u := by
  intro u hu
  simp [Value.cells] at hu
  rcases hu with rfl | rfl | rfl <;> exact fun _ => by simp [nv]
def PolyRes (w : World) (n : Nat) (X : Except Int (List Term)) (r : Ending) (w' : World) : Prop := Below w.heap.size w w' ∧ match X with
  | .error er => ∃ a l c, r = .returned (.tuple #[.slice a l c, .int .i64 er])
  | .ok P => ∃ a l c ms, r = .returned (.tuple #[.slice a l c, .int .i64 0]) ∧ MonosIn w' a l c ms ∧ ms.map MonoV.term = P ∧ RightV n ms
theorem PolyRes.err {w w' : World} {n : Nat} {X : Except Int (List Term)} {er : Int} {a : Option Addr} {l c : Nat} (hX : X = .error er) (hb : Below w.heap.size w w') : PolyRes w n X (.returned (.tuple #[.slice a l c, .int .i64 er])) w' := ⟨hb, by rw [hX]; exact ⟨_, _, _, rfl⟩⟩
theorem isnum_bounds {n : Bool} {e : Int} {L : List Nat} {w : World} {a : Option Addr} {l c : Nat} (h : IsNum n e L) (hw : WordsIn w a l c L) : l ≤ 64 ∧ -65536 ≤ e ∧ e ≤ 65536 := by
  have := isnum_len h hw.low
  rw [hw.len] at this
  exact this
theorem IntsIn.onBlock {w w' : World} {ae : Option Addr} {le ce : Nat} {E : List Int} (h5 : IntsIn w ae le ce E) (hs : w.heap.size ≤ w'.heap.size) (mb : Nat) (hmb : ∀ o, w.cell? ⟨mb, o, none⟩ = none) (hk : ∀ k, k < w.heap.size → k ≠ mb → w'.heap[k]? = w.heap[k]?) : IntsIn w' ae le ce E := by
  refine ⟨h5.len, h5.cap, h5.most, h5.rng, ?_⟩
  rcases h5.rd with h8 | ⟨b, oo, e, hb, hcc⟩
  · exact .inl h8
  · refine .inr ⟨b, oo, e, Nat.lt_of_lt_of_le hb hs, fun i x hx => ?_⟩
    have h9 := hcc i x hx
    have hne : b ≠ mb := fun e => by subst e; rw [hmb] at h9; cases h9
    exact (World.cell?_of_block (a := ⟨b, oo + i, none⟩) (hk b hb hne)).trans h9
theorem MBox.onKept {w w' : World} {b : Nat} {v0 v1 v2 v3 : Value} (h : MBox w b v0 v1 v2 v3) (hk : w'.heap[b]? = w.heap[b]?) : MBox w' b v0 v1 v2 v3 := by
  have hcc : ∀ o, w'.cell? ⟨b, o, none⟩ = w.cell? ⟨b, o, none⟩ := fun o => World.cell?_of_block (a := ⟨b, o, none⟩) hk
  have hff : ∀ o, w'.frozen? ⟨b, o, none⟩ = w.frozen? ⟨b, o, none⟩ := fun o => World.frozen?_of_block (a := ⟨b, o, none⟩) hk
  exact ⟨(hcc 0).trans h.c0, (hcc 1).trans h.c1, (hcc 2).trans h.c2, (hcc 3).trans h.c3, (hff 0).trans h.f0, (hff 1).trans h.f1, (hff 2).trans h.f2, (hff 3).trans h.f3⟩
theorem row_frozen {B : Nat} {w : World} {g n c : Nat} {all : List MonoV} (h : AllSt B w (some ⟨g, 0, none⟩) n c all) (i : Nat) : w.frozen? ⟨g, i, none⟩ = false := by
  obtain ⟨xs, hr⟩ := h.row
  exact hr.1.frozen0 i
theorem store_step {w0 w2 w3 w4 : World} {mb n B N c p9 le ce : Nat} {g : P4 → Option Nat} {a : Option Addr} {all : List MonoV} {v0 v1 v2 v3 : Value} {ae : Option Addr} {E : List Int} (hm : mb < p9) (h9 : p9 < w2.heap.size) (hb3 : Below w2.heap.size w2 w3) (hp : PowAt w3 mb n g) (hg : w3.grownBy w4 (some mb)) (hall : AllSt B w3 a N c all) (hX : MBox w3 p9 v0 v1 v2 v3) (hE : IntsIn w3 ae le ce E) :
    AllSt B w4 a N c all ∧ MBox w4 p9 v0 v1 v2 v3 ∧ IntsIn w4 ae le ce E ∧ w3.heap.size ≤ w4.heap.size ∧ (w0.heap.size ≤ mb → Below w0.heap.size w0 w3 → Below w0.heap.size w0 w4) := by
  have hk : ∀ k, k < w3.heap.size → k ≠ mb → w4.heap[k]? = w3.heap[k]? := fun k h1 h2 => hg.block k h1 (fun e => h2 (by injection e))
  have h3 : p9 < w3.heap.size := Nat.lt_of_lt_of_le h9 hb3.size
  have hbl := hk p9 h3 (by omega)
  have hcc : ∀ o, w4.cell? ⟨p9, o, none⟩ = w3.cell? ⟨p9, o, none⟩ := fun o => World.cell?_of_block (a := ⟨p9, o, none⟩) hbl
  have hff : ∀ o, w4.frozen? ⟨p9, o, none⟩ = w3.frozen? ⟨p9, o, none⟩ := fun o => World.frozen?_of_block (a := ⟨p9, o, none⟩) hbl
  refine ⟨hall.onBlock hg.size mb hp.cells (fun x hx => hp.ne hall hx) hk, ⟨(hcc 0).trans hX.c0, (hcc 1).trans hX.c1, (hcc 2).trans hX.c2, (hcc 3).trans hX.c3, (hff 0).trans hX.f0, (hff 1).trans hX.f1, (hff 2).trans hX.f2, (hff 3).trans hX.f3⟩, hE.onBlock hg.size mb hp.cells hk, hg.size, fun h0 hb => ?_⟩
  exact hb.trans ⟨hg.os, hg.tape, hg.output, hg.size, fun k h1 => hk k (Nat.lt_of_lt_of_le h1 hb.size) (by omega)⟩
theorem alloc_le {w wr w2 w3 w4 w5 : World} (h1 : Below w.heap.size w wr) (h2 : Below wr.heap.size wr w2) (h4 : w3.heap.size ≤ w4.heap.size) (h3 : w2.heap.size ≤ w3.heap.size) (h5 : Below w4.heap.size w4 w5) : w.heap.size ≤ w5.heap.size + 1 := by
  have := h1.size; have := h2.size; have := h5.size; omega
theorem make_next {w : World} {ms : List MonoV} {k mb i j g N c : Nat} {all : List MonoV} {m mj : MonoV} {wc w8 : World} {b : Bool} {e : Int} {al : Option Addr} {ll cl : Nat} {L : List Nat} (hlt : i < ms.length) (hN : N ≤ i + 1) (hall : AllSt w.heap.size wc (some ⟨g, 0, none⟩) N c all) (hmj : all[j]? = some mj)
    (hsum : ∀ b e L, numD b e L = numD mj.neg mj.exp mj.ws + numD m.neg m.exp m.ws → (all.set j ⟨b, e, L, mj.es⟩).map MonoV.term = accM ((ms.take (i + 1)).map MonoV.term)) (haok : ∀ m ∈ all, AccOk k (69632 + 64 * (i : Int)) m) (hpow : PowAt wc mb N (placeOf all)) (hb : Below w.heap.size w wc)
    (hw8 : WordsIn w8 al ll cl L) (hv8 : numD b e L = numD mj.neg mj.exp mj.ws + numD m.neg m.exp m.ws) (hl8 : -65536 ≤ e) (hh8 : e ≤ 65536) (ht8 : 64 * (ll : Int) + e ≤ 69632 + 64 * (i : Int) + 64) (hb8 : Below wc.heap.size wc w8) :
    MakeRel w ms k mb (.slice (some ⟨g, 0, none⟩) N c) (.int .i64 ((i : Int) + 1)) (((w8.setCell ⟨g, j * 4, none⟩ (.bool b)).setCell ⟨g, j * 4 + 1, none⟩ (.int .i64 e)).setCell ⟨g, j * 4 + 2, none⟩ (.slice al ll cl)) := by
  have hg := (hall.lt rfl).1
  have hall8 := hall.step hb8
  have hp8 := hpow.below hb8
  refine ⟨i + 1, _, N, c, _, rfl, congrArg (Value.int .i64) (by omega), hlt, hN, hall8.put hmj hw8, hsum b e L hv8, fun m' hm' => ?_, ?_, (((Below.next0 hb hb8).setCell (p := ⟨g, j * 4, none⟩) hg _).setCell (p := ⟨g, j * 4 + 1, none⟩) hg _).setCell (p := ⟨g, j * 4 + 2, none⟩) hg _⟩
  · rcases List.mem_or_eq_of_mem_set hm' with h1 | rfl
    · obtain ⟨a1, a2, a3, a4⟩ := haok m' h1
      exact ⟨a1, a2, a3, by omega⟩
    · have hl := hw8.len
      exact ⟨(haok mj (List.mem_of_getElem? hmj)).1, hl8, hh8, by show 64 * (L.length : Int) + e ≤ _; omega⟩
  · rw [place_set (m' := ⟨b, e, L, mj.es⟩) hmj rfl]
    have hne : mb ≠ g := fun e => hp8.ne hall8 rfl e.symm
    exact hp8.keep ((Below.heap_setCell _ _ _ _ hne).trans ((Below.heap_setCell _ _ _ _ hne).trans (Below.heap_setCell _ _ _ _ hne)))
theorem acc_perm (l : List Term) : (accM l).Perm (gathM l) := by
  have h1 : (accM l).Nodup := ((acc_all l).1.imp fun {p q} h e => h (by rw [e]))
  have h2 : (gathM l).Nodup := ((gath_all l).1.once.imp fun {p q} h e => h (by rw [e]))
  exact (List.perm_ext_iff_of_nodup h1 h2).2 fun p => acc_gath l p
theorem make_fits {l : List Term} {all : List MonoV} (h : all.map MonoV.term = accM l) (hf : ∀ m ∈ all, fits m.term.1) : ¬ (gathM l).any (fun p => !fitsB p.1) = true := by
  intro ha
  obtain ⟨p, hp, hf2⟩ := List.any_eq_true.1 ha
  have h1 := (acc_gath l p).2 hp
  rw [← h] at h1
  obtain ⟨m, hm, rfl⟩ := List.mem_map.1 h1
  rw [(fitsB_iff _).2 (hf m hm)] at hf2
  cases hf2
theorem make_long {l : List Term} {all outs : List MonoV} (h : all.map MonoV.term = accM l) (ho : outs.map MonoV.term = (all.map MonoV.term).filter (fun p => decide (p.1 ≠ 0))) (hf : ∀ m ∈ all, fits m.term.1) (h24 : 24 < outs.length) : makeM l = .error 6 := by
  have hl : outs.length = ((gathM l).filter fun p => decide (p.1 ≠ 0)).length := by
    rw [← List.length_map (f := MonoV.term), ho, h]
    exact ((acc_perm l).filter _).length_eq
  unfold makeM
  rw [if_neg (make_fits h hf), if_pos (by rw [← hl]; exact h24)]
def OutRel (wl : World) (all : List MonoV) (k : Nat) (s12 s72 : Value) (wx : World) : Prop :=
  ∃ (q : Nat) (a : Option Addr) (M c : Nat) (outs : List MonoV), s12 = .slice a M c ∧ s72 = .int .i64 (q : Int) ∧ q ≤ all.length ∧ M ≤ q ∧ AllSt wl.heap.size wx a M c outs ∧
    outs.map MonoV.term = ((all.take q).map MonoV.term).filter (fun p => decide (p.1 ≠ 0)) ∧ (∀ m ∈ outs, OkM k m) ∧ (∀ m ∈ all.take q, fits m.term.1) ∧ Below wl.heap.size wl wx
set_option maxRecDepth 100000 in
set_option maxHeartbeats 16000000 in
theorem polymake_any (a : Option Addr) (n c : Nat) (ms : List MonoV) (k : Nat) (w : World) (h : MonosIn w a n c ms) (hok : ∀ m ∈ ms, FormM k m) (hk1 : 1 ≤ k) (hk : k ≤ 4) (hn : n ≤ 600) (hT : TabIn w) :
    Calls Tryz.prog 83 #[.slice a n c, .int .i64 (k : Int)] w (PolyRes w k (makeM (ms.map MonoV.term))) := by
  obtain ⟨i0, hi0, hz0, hz1, hz2⟩ := info_split info_mono
  have hln := h.1
  subst hln
  obtain ⟨X, hX⟩ : ∃ X, makeM (ms.map MonoV.term) = X := ⟨_, rfl⟩
  rw [hX]
  have hb1 : Below w.heap.size w (w.alloc (.cells #[.int .i64 (k : Int)] 3)) := (Below.refl _ _).alloc (Nat.le_refl _) _
  have hkb : KBox (w.alloc (.cells #[.int .i64 (k : Int)] 3)) w.heap.size k := ⟨by rw [cell_of_row _ _ _ _ _ _ (heap_alloc_new _ _)]; rfl, box_lt _ _⟩
  have hkc := hkb.cell
  have hhas := makehas_any a ms.length c ms w.heap.size k _ (h.step hb1) hok hk hkb
  have hk1' : ¬ (k : Int) < 1 := by omega
  have hk4' : ¬ (4 : Int) < (k : Int) := by omega
  have H := Lib.hid (And.intro h (And.intro hok (And.intro hk1 (And.intro hk (And.intro hn (And.intro hT (And.intro hX (And.intro hb1 hhas))))))))
  have HI := Lib.hid (And.intro hi0 (And.intro hz0 (And.intro hz1 hz2)))
  have hcm := Nat.le_trans h.2.1 h.2.2.1
  clear h hok hk1 hk hn hT hX hb1 hhas hkb hi0 hz0 hz1 hz2
  have hmm := @run_makeMap Tryz.prog
  go_enter Tryz.func83, Tryz.ntmps83
  go_wp2_with (go_at_call_of 134 a; refine H.out.2.2.2.2.2.2.2.2.mono ?_; rintro r w1 ⟨rfl, hbw1⟩; have HB1 := Lib.hid hbw1; clear hbw1)
  have hbm : Below w.heap.size w (w1.alloc (.map #[] 0)) := by
    have h1 := Below.next0 H.out.2.2.2.2.2.2.2.1 HB1.out
    exact h1.alloc h1.size _
  have HB := Lib.hid hbm
  clear hbm hmm
  go_loopw [7, 31] (fun s7 s31 wr => MakeRel w ms k w1.heap.size s7 s31 wr) (fun _ iv _ => ms.length - (intOf iv).toNat)
  case atStart =>
    exact ⟨0, none, 0, 0, [], rfl, rfl, Nat.zero_le _, Nat.le_refl _, AllSt.nil_ _ _, rfl, (fun m hm => by cases hm), PowAt.made _, HB.out⟩
  case round =>
    obtain ⟨i, a1, N, c1, all, rfl, rfl, hi, hNi, hall, hacc, haok, hpow, hbr⟩ := hrel
    by_cases hlt : i < ms.length
    · have hlt' : (i : Int) < (ms.length : Int) := by omega
      obtain ⟨m, hm⟩ : ∃ m, ms[i]? = some m := ⟨_, List.getElem?_eq_getElem hlt⟩
      obtain ⟨b0, o0, rfl, hb0, hat⟩ : ∃ b o, a = some ⟨b, o, none⟩ ∧ b < wr.heap.size ∧ ∀ j m, ms[j]? = some m → MonoAt wr b (o + j * 4) m := by
        rcases (H.out.1.step hbr).2.2.2 with h0 | h0
        · rw [h0] at hlt; simp at hlt
        · exact h0
      obtain ⟨aw, lw, cw, ae, le, ce, k0, k1, k2, k3, hw, he, hx1, hx2⟩ := hat i m hm
      have hfm : FormM k m := H.out.2.1 m (List.mem_of_getElem? hm)
      have hes : m.es.length = k := hfm.1.1
      have hes0 : m.es ≠ [] := fun e => by rw [e] at hes; have := H.out.2.2.1; simp at hes; omega
      have hsm : ∀ x ∈ m.es, small x := fun x hx => he.rng x hx
      have hq := p4_ok hsm
      have hX := MBox.new wr (.bool m.neg) (.int .i64 m.exp) (.slice aw lw cw) (.slice ae le ce) 44
      have hbx : Below wr.heap.size wr (wr.alloc (.cells #[.bool m.neg, .int .i64 m.exp, .slice aw lw cw, .slice ae le ce] 44)) := (Below.refl _ _).alloc (Nat.le_refl _) _
      have hlx := box_lt wr (.cells #[.bool m.neg, .int .i64 m.exp, .slice aw lw cw, .slice ae le ce] 44)
      have hof := fun W (hW : Below wr.heap.size wr W) => polyof_any m.neg m.exp aw lw cw ae le ce m.es W (he.step hW) (by have := H.out.2.2.2.1; omega) hes0
      obtain ⟨po, hpo⟩ : ∃ po, placeOf all (p4 m.es) = po := ⟨_, rfl⟩
      have HPO := Lib.hid hpo
      clear hpo
      have HR := Lib.hid (And.intro hall (And.intro hacc (And.intro haok (And.intro hpow (And.intro hbr (And.intro hm (And.intro hw (And.intro he (And.intro hfm (And.intro hq (And.intro hof (And.intro hes0 (And.intro hX (And.intro hbx hlx))))))))))))))
      have x0 := hX.c0
      have x1 := hX.c1
      have x2 := hX.c2
      have x3 := hX.c3
      clear hall hacc haok hpow hbr hm hw he hfm hes hes0 hsm hq hX hbx hlx hof hat
      go_upto_if 43 with (go_at_call_of 136 aw; refine (HR.out.2.2.2.2.2.2.2.2.2.2.1 _ HR.out.2.2.2.2.2.2.2.2.2.2.2.2.2.1).mono ?_; rintro r w2 ⟨rfl, hb2⟩; (have hp2 := (HR.out.2.2.2.1.below HR.out.2.2.2.2.2.2.2.2.2.2.2.2.2.1).below hb2); (have hlk := hp2.look_ok HR.out.2.2.2.2.2.2.2.2.2.1); rw [HPO.out] at hlk; (have H2 := Lib.hid (And.intro hb2 hp2)); clear hb2 hp2)
      have hstep2 := Below.next0 HR.out.2.2.2.2.2.2.2.2.2.2.2.2.2.1 H2.out.1
      have hall2 := HR.out.1.step hstep2
      have hX2 := HR.out.2.2.2.2.2.2.2.2.2.2.2.2.1.step H2.out.1 HR.out.2.2.2.2.2.2.2.2.2.2.2.2.2.2
      have HS2 := Lib.hid (And.intro hstep2 (And.intro hall2 hX2))
      have hNN : N ≤ 600 := by have := H.out.2.2.2.2.1; omega
      have hle := HR.out.2.2.2.2.2.2.2.1.len
      have hle4 : le ≤ 4 := by have := HR.out.2.2.2.2.2.2.2.2.1.1.1; have := H.out.2.2.2.1; omega
      have HLE := Lib.hid hle
      have y0 := hX2.c0
      have y1 := hX2.c1
      have y2 := hX2.c2
      have y3 := hX2.c3
      have htake : accM ((ms.take (i + 1)).map MonoV.term) = accM1 (accM ((ms.take i).map MonoV.term)) m.term := by
        rw [List.take_add_one, HR.out.2.2.2.2.2.1, List.map_append, Option.toList_some, List.map_singleton, accM_snoc]
      have HTK := Lib.hid htake
      clear hstep2 hall2 hX2 hle x0 x1 x2 x3 htake
      go_cut [7, 10] (fun s7 s10 wx => MakeMid w ms k w1.heap.size i wr.heap.size (.bool m.neg) (.int .i64 m.exp) aw lw cw (.slice ae le ce) m s7 s10 wx)
      case first =>
        cases po with
        | some j =>
          go_wp2_with fail
          go_meet
          obtain ⟨mj, hmj, hpj⟩ := place_at HPO.out
          have hlen : ∀ m' ∈ all, m'.es.length = k := fun m' hm' => (HR.out.2.2.1 m' hm').1.1
          have hes := HR.out.2.2.2.2.2.2.2.2.1.1.1
          have hej : mj.es = m.es := p4_inj (hlen mj (List.mem_of_getElem? hmj)) hes H.out.2.2.2.1 hpj
          refine ⟨a1, N, c1, all, j, mj, rfl, rfl, by omega, HS2.out.2.1, hmj, hej, fun b e L hv => ?_, HR.out.2.2.1, H2.out.2, Below.next0 HR.out.2.2.2.2.1 HS2.out.1, HS2.out.2.2, Nat.lt_of_lt_of_le HR.out.2.2.2.2.2.2.2.2.2.2.2.2.2.2 H2.out.1.size, HR.out.2.2.2.2.2.2.1.step HS2.out.1⟩
          have hpl := place_term H.out.2.2.2.1 hlen hes
          rw [HPO.out] at hpl
          rw [term_set, HTK.out, acc_found (j := j) (q := mj.term) (by rw [← HR.out.2.1]; exact hpl.symm) (by rw [← HR.out.2.1, List.getElem?_map, hmj]; rfl), ← HR.out.2.1]
          congr 1
          show (numD b e L, mj.es) = (numD mj.neg mj.exp mj.ws + numD m.neg m.exp m.ws, mj.es)
          rw [hv]
        | none =>
          obtain ⟨hi0, hz0, hz1, hz2⟩ := HI.out
          have hof2 := HR.out.2.2.2.2.2.2.2.2.2.2.1 w2 HS2.out.1
          have HOF := Lib.hid hof2
          clear hof2 hlk
          go_wp2_with (first
            | (go_at_call_of 136 aw; refine HOF.out.mono ?_; rintro r w3 ⟨rfl, hb3⟩; (have hp3 := H2.out.2.below hb3); (have hall3 := HS2.out.2.1.step hb3); (have hX3 := HS2.out.2.2.step hb3 (Nat.lt_of_lt_of_le HR.out.2.2.2.2.2.2.2.2.2.2.2.2.2.2 H2.out.1.size)); obtain ⟨w4, hst, hp4, hg4⟩ := hp3.store HR.out.2.2.2.2.2.2.2.2.2.1 (by omega) N; (have hs4 := store_step (w0 := w) HR.out.2.2.2.1.lt (Nat.lt_of_lt_of_le HR.out.2.2.2.2.2.2.2.2.2.2.2.2.2.2 H2.out.1.size) hb3 hp3 hg4 hall3 hX3 ((HR.out.2.2.2.2.2.2.2.1.step HS2.out.1).step hb3)); (have hw4 := ((HR.out.2.2.2.2.2.2.1.step HS2.out.1).step hb3).onBlock hg4.size w1.heap.size hp3.cells (fun q h1 h2 => hg4.block q h1 (fun e => h2 (by injection e)))); (have HW4 := Lib.hid hw4); clear hw4; (have z3 := hs4.2.1.c3); (have HW3 := Lib.hid (Below.next0 (Below.next0 HR.out.2.2.2.2.1 HS2.out.1) hb3)); (have HS4 := Lib.hid (And.intro hp4 (And.intro hs4 (And.intro hg4 hb3.size)))); clear hp3 hall3 hX3 hb3 hp4 hg4 hs4)
            | (go_at_call_of 137 le; refine (cloneint_any ae le ce m.es w4 HS4.out.2.1.2.2.1 HR.out.2.2.2.2.2.2.2.2.2.2.2.1 (by omega)).mono ?_; rintro r w5 ⟨g5, c5, rfl, hrow5, hb5⟩; (have hall5 := HS4.out.2.1.1.step hb5); obtain ⟨xs5, hr5⟩ := hall5.row; obtain ⟨g6, c6, w6, hrun6, hrow6, hgr6, hat6⟩ := run_append_clean (P := Tryz.prog) NoU (w5.alloc (.cells #[.bool false, .int .i64 0, .slice none 0 0, .slice (some ⟨g5, 0, none⟩) le c5] 44)) 25 25 44 i0 _ 4 64 Tryz.underlying25 hi0 hz0 hz1 hz2 rfl nou_zero w.heap.size (by rw [World.size_alloc]; exact (alloc_le HR.out.2.2.2.2.1 HS2.out.1 HS4.out.2.1.2.2.2.1 HS4.out.2.2.2 hb5)) a1 N c1 xs5 (hr5.step ((Below.refl _ _).alloc (Nat.le_refl _) _)) w5.heap.size 1 1 [.bool false, .int .i64 0, .slice none 0 0, .slice (some ⟨g5, 0, none⟩) le c5] rfl (World.news_of_block (cs := #[.bool false, .int .i64 0, .slice none 0 0, .slice (some ⟨g5, 0, none⟩) le c5]) (heap_alloc_new w5 _)) (by simp [Value.oneCell']) (by intro u hu; simp at hu; rcases hu with rfl | rfl | rfl | rfl <;> exact fun _ => by simp [nv]) (by decide) (by omega) (by decide) (by decide); (have H5 := Lib.hid (And.intro hall5 (And.intro hr5 (And.intro hrow5 (And.intro hb5 (And.intro hrow6 (And.intro hgr6 hat6))))))); clear hall5 hr5 hrow5 hb5 hrow6 hgr6 hat6)
            | (at_builtin; refine wpList_append_run rfl (.tmp 50) (.tmp 55) 25 25 rfl _ _ rfl rfl _ _ hrun6 ?_))
          go_meet
          have hmb : w.heap.size ≤ w1.heap.size := (Below.next0 H.out.2.2.2.2.2.2.2.1 HB1.out).size
          have hw3 : Below w.heap.size w w3 := ⟨HW3.out.os, HW3.out.tape, HW3.out.output, HW3.out.size, HW3.out.block⟩
          have hw4 : Below w.heap.size w w4 := HS4.out.2.1.2.2.2.2 hmb hw3
          have hw5 := Below.next0 hw4 H5.out.2.2.2.1
          have hla : ∀ x, a1 = some x → x.block < w4.heap.size := fun x hx => (HS4.out.2.1.1.lt hx).2
          have hg5 := H5.out.2.2.1.fresh
          have hw6 : Below w.heap.size w w6 := by
            have h1 := hw5.alloc hw5.size (.cells #[.bool false, .int .i64 0, .slice none 0 0, .slice (some ⟨g5, 0, none⟩) le c5] 44)
            exact h1.trans ⟨H5.out.2.2.2.2.2.1.os, H5.out.2.2.2.2.2.1.tape, H5.out.2.2.2.2.2.1.output, H5.out.2.2.2.2.2.1.size, fun q hq => H5.out.2.2.2.2.2.1.block q (Nat.lt_of_lt_of_le hq h1.size) (fun e => by
              cases a1 with
              | none => simp at e
              | some y => simp only [Option.map_some, Option.some.injEq] at e; have := (H5.out.1.lt rfl).1; omega)⟩
          have hpush := H5.out.1.push H5.out.2.1 (o := .cells #[.bool false, .int .i64 0, .slice none 0 0, .slice (some ⟨g5, 0, none⟩) le c5] 44) H5.out.2.2.2.2.2.1 H5.out.2.2.2.2.2.2 (m := ⟨false, 0, [], m.es⟩) (aw := none) (lw := 0) (cw := 0) (be := g5) (oe := 0) (le := le) (ce := c5) H5.out.2.2.2.2.1 rfl (NewIn.nil_ w5 w5).toWordsIn (H5.out.2.2.1.ints (fun x hx => HR.out.2.2.2.2.2.2.2.1.rng x hx)) hg5.2 (fun x hx e => by have := hla x hx; omega)
          have hlen : ∀ m' ∈ all, m'.es.length = k := fun m' hm' => (HR.out.2.2.1 m' hm').1.1
          have hes := HR.out.2.2.2.2.2.2.2.2.1.1.1
          have hN : all.length = N := HR.out.1.len
          refine ⟨some ⟨g6, 0, none⟩, N + 1, c6, all ++ [⟨false, 0, [], m.es⟩], N, ⟨false, 0, [], m.es⟩, rfl, rfl, by omega, hpush, ?_, rfl, fun b e L hv => ?_, fun m' hm' => ?_, ?_, hw6, ?_, ?_, ?_⟩
          · rw [List.getElem?_append_right (by omega), hN, Nat.sub_self]; rfl
          · have hpl := place_term H.out.2.2.2.1 hlen hes
            rw [HPO.out] at hpl
            rw [HTK.out, acc_none (by rw [← HR.out.2.1]; exact hpl.symm), ← HR.out.2.1, List.set_append_right _ _ (by omega), hN, Nat.sub_self]
            show (all ++ [(⟨b, e, L, m.es⟩ : MonoV)]).map MonoV.term = _
            rw [List.map_append]
            congr 1
            show [(numD b e L, m.es)] = [(numD m.neg m.exp m.ws, m.es)]
            rw [hv, numD_nil, Dyadic.zero_add]
          · rcases List.mem_append.1 hm' with h1 | h1
            · exact HR.out.2.2.1 m' h1
            · rw [List.mem_singleton] at h1
              subst h1
              exact ⟨HR.out.2.2.2.2.2.2.2.2.1.1, by simp, by simp, by simp; omega⟩
          · rw [place_push (m := ⟨false, 0, [], m.es⟩) hN HPO.out]
            have h5 := HS4.out.1.below H5.out.2.2.2.1
            refine h5.keep ((H5.out.2.2.2.2.2.1.block _ (by rw [World.size_alloc]; exact Nat.lt_succ_of_lt h5.lt) (fun e => ?_)).trans (((Below.refl w5.heap.size w5).alloc (Nat.le_refl _) _).block _ h5.lt))
            cases a1 with
            | none => simp at e
            | some y => simp only [Option.map_some, Option.some.injEq] at e; exact h5.ne H5.out.1 rfl e.symm
          · have h9 : wr.heap.size < w4.heap.size := by have h1 := HR.out.2.2.2.2.2.2.2.2.2.2.2.2.2.2; have h2 := H2.out.1.size; have h3 := HS4.out.2.2.2; have h4 := HS4.out.2.1.2.2.2.1; omega
            have hX5 := HS4.out.2.1.2.1.step H5.out.2.2.2.1 h9
            have h95 := Nat.lt_of_lt_of_le h9 H5.out.2.2.2.1.size
            refine hX5.onKept ((H5.out.2.2.2.2.2.1.block _ (by rw [World.size_alloc]; exact Nat.lt_succ_of_lt h95) (fun e => ?_)).trans (((Below.refl w5.heap.size w5).alloc (Nat.le_refl _) _).block _ h95))
            cases a1 with
            | none => simp at e
            | some y => simp only [Option.map_some, Option.some.injEq] at e; have := (HR.out.1.lt rfl).2; omega
          · have h1 := HR.out.2.2.2.2.2.2.2.2.2.2.2.2.2.2; have h2 := H2.out.1.size; have h3 := HS4.out.2.2.2; have h4 := HS4.out.2.1.2.2.2.1; have h5 := H5.out.2.2.2.1.size; have h6 := H5.out.2.2.2.2.2.1.size; rw [World.size_alloc] at h6; omega
          · have h5 := HW4.out.step H5.out.2.2.2.1
            exact h5.turn (H5.out.2.1.off h5) ((Turn.of_below ((Below.refl _ _).alloc (Nat.le_refl _) _) _).trans0 (Turn.of_grown H5.out.2.2.2.2.2.1 fun r hr _ => by
              cases a1 with
              | none => simp at hr
              | some y => simp only [Option.map_some, Option.some.injEq] at hr; exact ⟨y, rfl, hr⟩)) (fun _ h => h)
      case rest =>
        obtain ⟨a2, N2, c2, all2, j, mj, rfl, rfl, hN2, hall2, hmj, hej, hsum, haok2, hpow2, hb2, hX9, hlt9, hw9⟩ := hcut
        obtain ⟨g, rfl, awj, lwj, cwj, bej, oej, lej, cej, q0, q1, q2, q3, hwj, hij, hbj1, hbj2⟩ := hall2.ent j mj hmj
        have hjN : j < N2 := by rw [← hall2.len]; exact (List.getElem?_eq_some_iff.1 hmj).1
        have hjN' : (j : Int) < (N2 : Int) := by omega
        have hj0 : (0 : Int) ≤ (j : Int) := by omega
        obtain ⟨hr1, hlo1, hhi1, ht1⟩ := haok2 mj (List.mem_of_getElem? hmj)
        have hbd := isnum_bounds HR.out.2.2.2.2.2.2.2.2.1.2 HR.out.2.2.2.2.2.2.1
        have hlj := hwj.len
        have hi6 : i < 600 := by have := H.out.2.2.2.2.1; omega
        have hadd := exactadd_any mj.neg mj.exp awj lwj cwj mj.ws m.neg m.exp aw lw cw m.ws wc.drew hwj.drew hw9.drew (by omega) (by omega) (by omega) (by omega) (by omega) (by omega) (69632 + 64 * (i : Int)) (-65536) 65536 (by omega) (by omega) (by omega) (by omega) (by omega) (by omega)
        have g0 := hX9.c0
        have g1 := hX9.c1
        have g2 := hX9.c2
        have HM := Lib.hid (And.intro hN2 (And.intro hall2 (And.intro hmj (And.intro hej (And.intro hsum (And.intro haok2 (And.intro hpow2 (And.intro hb2 (And.intro hX9 (And.intro hlt9 hadd))))))))))
        clear hN2 hall2 hmj hej hsum haok2 hpow2 hb2 hX9 hlt9 hw9 hadd hwj hij hr1 hlo1 hhi1 ht1 hbd hlj y0 y1 y2 y3 hlk
        have q0d : wc.drew.cell? ⟨g, j * 4, none⟩ = some (.bool mj.neg) := q0
        have q1d : wc.drew.cell? ⟨g, j * 4 + 1, none⟩ = some (.int .i64 mj.exp) := q1
        have q2d : wc.drew.cell? ⟨g, j * 4 + 2, none⟩ = some (.slice awj lwj cwj) := q2
        have g0d : wc.drew.cell? ⟨wr.heap.size, 0, none⟩ = some (.bool m.neg) := g0
        have g1d : wc.drew.cell? ⟨wr.heap.size, 1, none⟩ = some (.int .i64 m.exp) := g1
        have g2d : wc.drew.cell? ⟨wr.heap.size, 2, none⟩ = some (.slice aw lw cw) := g2
        have hjt : ((j : Int)).toNat = j := by omega
        go_upto_region 13 with fail
        go_region_law (
            refine step_call (by rfl) 55 #[.agg #[.bool mj.neg, .int .i64 mj.exp, .slice awj lwj cwj], .agg #[.bool m.neg, .int .i64 m.exp, .slice aw lw cw]] (by simp [go_sem]) ?_
            refine HM.out.2.2.2.2.2.2.2.2.2.2.mono ?_
            rintro r w8 ⟨b, e, al, ll, cl, L, rfl, hw8, hv8, hl8, hh8, ht8, hb8d⟩
            refine ⟨_, rfl, ?_⟩
            have hb8 : Below wc.heap.size wc w8 := ⟨hb8d.os, hb8d.tape, hb8d.output, hb8d.size, hb8d.block⟩
            have hglt : g < wc.heap.size := (HM.out.2.1.lt rfl).2
            have j0 := (hb8.cell (p := ⟨g, j * 4, none⟩) hglt).trans q0
            have j1 := (hb8.cell (p := ⟨g, j * 4 + 1, none⟩) hglt).trans q1
            have j2 := (hb8.cell (p := ⟨g, j * 4 + 2, none⟩) hglt).trans q2
            have hfr := row_frozen HM.out.2.1
            have i0' := (hb8.frozen (p := ⟨g, j * 4, none⟩) hglt).trans (hfr _)
            have i1' := (hb8.frozen (p := ⟨g, j * 4 + 1, none⟩) hglt).trans (hfr _)
            have i2' := (hb8.frozen (p := ⟨g, j * 4 + 2, none⟩) hglt).trans (hfr _)
            have n1 : (w8.setCell ⟨g, j * 4, none⟩ (.bool b)).cell? ⟨g, j * 4 + 1, none⟩ = some (.int .i64 mj.exp) := (World.cell?_setCell_other _ _ _ _ (by simp)).trans j1
            have n2 : ((w8.setCell ⟨g, j * 4, none⟩ (.bool b)).setCell ⟨g, j * 4 + 1, none⟩ (.int .i64 e)).cell? ⟨g, j * 4 + 2, none⟩ = some (.slice awj lwj cwj) := (World.cell?_setCell_other _ _ _ _ (by simp)).trans ((World.cell?_setCell_other _ _ _ _ (by simp)).trans j2)
            have H8 := Lib.hid (And.intro hw8 (And.intro hv8 (And.intro hl8 (And.intro hh8 (And.intro ht8 hb8)))))
            clear hw8 hv8 hl8 hh8 ht8 hb8 hb8d hglt hfr)
        all_goals go_wp2_with fail
        all_goals exact ⟨make_next hlt HM.out.1 HM.out.2.1 HM.out.2.2.1 HM.out.2.2.2.2.1 HM.out.2.2.2.2.2.1 HM.out.2.2.2.2.2.2.1 HM.out.2.2.2.2.2.2.2.1 H8.out.1 H8.out.2.1 H8.out.2.2.1 H8.out.2.2.2.1 H8.out.2.2.2.2.1 H8.out.2.2.2.2.2, by simp only [intOf]; omega⟩
    · have hlt' : ¬ ((i : Int) < (ms.length : Int)) := by omega
      have hie : i = ms.length := by omega
      rw [hie, List.take_length] at hacc
      have hNN : N ≤ 600 := by have := H.out.2.2.2.2.1; omega
      have hc1 : N ≤ 9223372036854775807 := by omega
      have HL := Lib.hid (And.intro hall (And.intro hacc (And.intro haok (And.intro hbr hie))))
      clear hall hacc haok hpow hbr hie
      go_wp2_with fail
      rename World => wl
      go_loopw [12, 72] (fun s12 s72 wx => OutRel wl all k s12 s72 wx) (fun _ iv _ => N - (intOf iv).toNat)
      case atStart =>
        exact ⟨0, none, 0, 0, [], rfl, rfl, Nat.zero_le _, Nat.zero_le _, AllSt.nil_ _ _, rfl, (fun m hm => by cases hm), (fun m hm => by cases hm), Below.refl _ _⟩
      case round =>
        obtain ⟨q, a3, M, c3, outs, rfl, rfl, hq, hM, houts, hosum, hook, hfit, hbo⟩ := hrel
        by_cases hql : q < N
        · have hql' : (q : Int) < (N : Int) := by omega
          obtain ⟨m, hm⟩ : ∃ m, all[q]? = some m := ⟨_, List.getElem?_eq_getElem (by rw [HL.out.1.len]; exact hql)⟩
          have hallx := HL.out.1.step hbo
          obtain ⟨g, rfl, aw, lw, cw, be, oe, le, ce, q0, q1, q2, q3, hw, he, hb1, hb2⟩ := hallx.ent q m hm
          obtain ⟨hr1, hlo1, hhi1, ht1⟩ := HL.out.2.2.1 m (List.mem_of_getElem? hm)
          have hlw := hw.len
          have hi6 : i ≤ 600 := by have := H.out.2.2.2.2.1; omega
          have hX := MBox.new wr (.bool m.neg) (.int .i64 m.exp) (.slice aw lw cw) (.slice (some ⟨be, oe, none⟩) le ce) 44
          have hbx : Below wr.heap.size wr (wr.alloc (.cells #[.bool m.neg, .int .i64 m.exp, .slice aw lw cw, .slice (some ⟨be, oe, none⟩) le ce] 44)) := (Below.refl _ _).alloc (Nat.le_refl _) _
          have hlx := box_lt wr (.cells #[.bool m.neg, .int .i64 m.exp, .slice aw lw cw, .slice (some ⟨be, oe, none⟩) le ce] 44)
          have hTl := (H.out.2.2.2.2.2.1.step (HL.out.2.2.2.1)).step hbo
          have hmk := nummake_any m.neg aw lw cw m.ws m.exp _ (hw.step hbx) (hTl.step hbx) (by omega) (by omega) (by omega)
          have HQ := Lib.hid (And.intro houts (And.intro hosum (And.intro hook (And.intro hfit (And.intro hbo (And.intro hm (And.intro hw (And.intro he (And.intro hr1 (And.intro hX (And.intro hbx (And.intro hlx hmk))))))))))))
          have x0 := hX.c0
          have x1 := hX.c1
          have x2 := hX.c2
          have x3 := hX.c3
          have hbe := HL.out.1.ent q m hm
          clear houts hosum hook hfit hbo hm hw he hr1 hX hbx hlx hmk hallx hTl hlo1 hhi1 ht1
          go_upto_if 90 with (go_at_call_of 47 (Value.bool m.neg); refine HQ.out.2.2.2.2.2.2.2.2.2.2.2.2.mono ?_; rintro r w5 ⟨n', e', a', l', c', L, er, rfl, hmo, hnw, hb5⟩; have H5 := Lib.hid (And.intro (make_fit hmo) (And.intro hnw hb5)); clear hmo hnw hb5)
          have hm := HQ.out.2.2.2.2.2.1
          have hgl : g < wl.heap.size := (HL.out.1.lt rfl).2
          have hbel : be < wl.heap.size := by
            obtain ⟨g2, e2, aw2, lw2, cw2, be2, oe2, le2, ce2, _, _, _, p3, _, _, _, p7⟩ := hbe
            injection e2 with e2
            injection e2 with e2
            subst e2
            have h1 := (HQ.out.2.2.2.2.1.cell (p := ⟨g, q * 4 + 3, none⟩) hgl).trans p3
            rw [q3] at h1
            injection h1 with h1
            injection h1 with h1
            injection h1 with h1
            injection h1 with h1
            omega
          have htk : ((all.take (q + 1)).map MonoV.term).filter (fun p => decide (p.1 ≠ 0)) = ((all.take q).map MonoV.term).filter (fun p => decide (p.1 ≠ 0)) ++ (if m.term.1 = 0 then [] else [m.term]) := by
            rw [List.take_add_one, hm, List.map_append, List.filter_append]
            congr 1
            show [m.term].filter _ = _
            rw [List.filter_cons]
            by_cases h0 : m.term.1 = 0
            · rw [if_pos h0, if_neg (by simpa using h0)]; rfl
            · rw [if_neg h0, if_pos (by simpa using h0)]; rfl
          have hmem : ∀ m' ∈ all.take (q + 1), m' ∈ all.take q ∨ m' = m := fun m' h' => by
            rw [List.take_add_one, hm] at h'
            simpa using h'
          have hbw5 := Below.next0 HQ.out.2.2.2.2.2.2.2.2.2.2.1 H5.out.2.2
          have hb5l := Below.next0 HQ.out.2.2.2.2.1 hbw5
          have HB5 := Lib.hid (And.intro hbel (And.intro htk (And.intro hmem (And.intro hbw5 hb5l))))
          have hX5 := HQ.out.2.2.2.2.2.2.2.2.2.1.step H5.out.2.2 HQ.out.2.2.2.2.2.2.2.2.2.2.2.1
          have hN5 := NumBox.new w5 (.bool n') (.int .i64 e') (.slice a' l' c') 41
          have hal5 : Below w5.heap.size w5 (w5.alloc (.cells #[.bool n', .int .i64 e', .slice a' l' c'] 41)) := (Below.refl _ _).alloc (Nat.le_refl _) _
          have hX6 := hX5.step hal5 (Nat.lt_of_lt_of_le HQ.out.2.2.2.2.2.2.2.2.2.2.2.1 H5.out.2.2.size)
          have u3 := hX6.c3
          have t0 := hN5.c0
          have t1 := hN5.c1
          have t2 := hN5.c2
          have HA5 := Lib.hid hal5
          clear hX5 hN5 hX6 hal5 hbe hbel htk hmem hbw5 hb5l hm x0 x1 x2 x3
          rcases H5.out.1 with ⟨hfits, rfl, hnum, hval⟩ | ⟨hnf, rfl, _⟩
          · have hll := H5.out.2.1.len
            have hfit2 : ∀ m' ∈ all.take (q + 1), fits m'.term.1 := fun m' h' => (HB5.out.2.2.1 m' h').elim (fun h1 => HQ.out.2.2.2.1 m' h1) (fun h1 => by subst h1; exact hfits)
            have HV := Lib.hid (And.intro hfits (And.intro hnum (And.intro hval hfit2)))
            clear hfits hnum hval hfit2
            by_cases hL0 : L = []
            · have hl0 : ¬ ((0 : Int) < (l' : Int)) := by rw [← hll, hL0]; simp
              have h0 : m.term.1 = 0 := by
                show numD m.neg m.exp m.ws = 0
                have e0 : numD n' e' L = numD m.neg m.exp m.ws := HV.out.2.2.1
                rw [← e0, hL0]
                exact (isnum_zero (by rw [← hL0]; exact HV.out.2.1) (fun x hx => by cases hx)).2 rfl
              have H0 := Lib.hid h0
              clear h0 hL0 hll
              go_wp2_with fail
              refine ⟨⟨q + 1, a3, M, c3, outs, rfl, congrArg (Value.int .i64) (by omega), by have := HL.out.1.len; omega, by omega, HQ.out.1.step (Below.next0 HB5.out.2.2.2.1 HA5.out), ?_, HQ.out.2.2.1, HV.out.2.2.2, Below.next0 HB5.out.2.2.2.2 HA5.out⟩, by simp only [intOf]; omega⟩
              rw [HB5.out.2.1, if_pos H0.out, List.append_nil]; exact HQ.out.2.1
            · have hl0 : (0 : Int) < (l' : Int) := by
                rw [← hll]
                have := List.length_pos_iff.2 hL0
                omega
              obtain ⟨hi0, hz0, hz1, hz2⟩ := HI.out
              have houts6 := HQ.out.1.step (Below.next0 HB5.out.2.2.2.1 HA5.out)
              obtain ⟨xs6, hr6⟩ := houts6.row
              have hMM : M ≤ 600 := by omega
              have hB6 : wl.heap.size ≤ ((w5.alloc (.cells #[.bool n', .int .i64 e', .slice a' l' c'] 41)).alloc (.cells #[.bool n', .int .i64 e', .slice a' l' c', .slice (some ⟨be, oe, none⟩) le ce] 44)).heap.size := by
                have := HB5.out.2.2.2.2.size; rw [World.size_alloc, World.size_alloc]; omega
              obtain ⟨g6, c6, w6, hrun6, hrow6, hgr6, hat6⟩ := run_append_clean (P := Tryz.prog) NoU ((w5.alloc (.cells #[.bool n', .int .i64 e', .slice a' l' c'] 41)).alloc (.cells #[.bool n', .int .i64 e', .slice a' l' c', .slice (some ⟨be, oe, none⟩) le ce] 44)) 25 25 44 i0 _ 4 64 Tryz.underlying25 hi0 hz0 hz1 hz2 rfl nou_zero wl.heap.size hB6 a3 M c3 xs6 (hr6.step ((Below.refl _ _).alloc (Nat.le_refl _) _)) (w5.alloc (.cells #[.bool n', .int .i64 e', .slice a' l' c'] 41)).heap.size 1 1 [.bool n', .int .i64 e', .slice a' l' c', .slice (some ⟨be, oe, none⟩) le ce] rfl (World.news_of_block (cs := #[.bool n', .int .i64 e', .slice a' l' c', .slice (some ⟨be, oe, none⟩) le ce]) (heap_alloc_new _ _)) (by simp [Value.oneCell']) (by intro u hu; simp at hu; rcases hu with rfl | rfl | rfl | rfl <;> exact fun _ => by simp [nv]) (by decide) (by omega) (by decide) (by decide)
              rw [World.size_alloc w5] at hrun6
              have H6 := Lib.hid (And.intro houts6 (And.intro hr6 (And.intro hrow6 (And.intro hgr6 (And.intro hat6 hL0)))))
              clear houts6 hr6 hrow6 hgr6 hat6 hB6 hL0 hll hi0 hz0 hz1 hz2
              go_wp2_with (at_builtin; refine wpList_append_run rfl (.tmp 96) (.tmp 101) 25 25 rfl _ _ rfl rfl _ _ hrun6 ?_)
              have hw6 := H5.out.2.1.toWordsIn.step HA5.out
              have he6 := HQ.out.2.2.2.2.2.2.2.1.step (Below.next0 HB5.out.2.2.2.1 HA5.out)
              have hpush := H6.out.1.push H6.out.2.1 (o := .cells #[.bool n', .int .i64 e', .slice a' l' c', .slice (some ⟨be, oe, none⟩) le ce] 44) H6.out.2.2.2.1 H6.out.2.2.2.2.1 (m := ⟨n', e', L, m.es⟩) H6.out.2.2.1 rfl hw6 he6 (by rw [World.size_alloc]; have := HB5.out.1; have := HB5.out.2.2.2.2.size; omega) (fun x hx e => by have := (H6.out.1.lt hx).1; have := HB5.out.1; omega)
              have hbw6 : Below wl.heap.size wl w6 := by
                have h1 := (Below.next0 HB5.out.2.2.2.2 HA5.out)
                have h2 := h1.alloc h1.size (.cells #[.bool n', .int .i64 e', .slice a' l' c', .slice (some ⟨be, oe, none⟩) le ce] 44)
                exact h2.trans ⟨H6.out.2.2.2.1.os, H6.out.2.2.2.1.tape, H6.out.2.2.2.1.output, H6.out.2.2.2.1.size, fun z hz => H6.out.2.2.2.1.block z (Nat.lt_of_lt_of_le hz h2.size) (fun e => by
                  cases a3 with
                  | none => simp at e
                  | some y => simp only [Option.map_some, Option.some.injEq] at e; have := (H6.out.1.lt rfl).1; omega)⟩
              have hv : numD n' e' L = m.term.1 := HV.out.2.2.1
              have hne : m.term.1 ≠ 0 := fun e0 => H6.out.2.2.2.2.2 ((isnum_zero HV.out.2.1 hw6.low).1 (hv.trans e0))
              refine ⟨⟨q + 1, _, M + 1, c6, _, rfl, congrArg (Value.int .i64) (by omega), by have := HL.out.1.len; omega, by omega, hpush, ?_, fun m' hm' => ?_, HV.out.2.2.2, hbw6⟩, by simp only [intOf]; omega⟩
              · rw [HB5.out.2.1, if_neg hne, List.map_append, HQ.out.2.1]
                congr 1
                show [(numD n' e' L, m.es)] = [m.term]
                rw [hv]; rfl
              · rcases List.mem_append.1 hm' with h1 | h1
                · exact HQ.out.2.2.1 m' h1
                · rw [List.mem_singleton] at h1
                  subst h1
                  exact ⟨⟨HQ.out.2.2.2.2.2.2.2.2.1, HV.out.2.1⟩, H6.out.2.2.2.2.2⟩
          · have hX2 : X = .error 2 := by
              rw [← H.out.2.2.2.2.2.2.1]
              have hin : m.term ∈ accM (ms.map MonoV.term) := by rw [← HL.out.2.1]; exact List.mem_map.2 ⟨m, List.mem_of_getElem? HQ.out.2.2.2.2.2.1, rfl⟩
              unfold makeM
              rw [if_pos]
              rw [List.any_eq_true]
              refine ⟨m.term, (acc_gath _ _).1 hin, ?_⟩
              have : fitsB m.term.1 = false := (fitsB_no _).2 hnf
              rw [this]; rfl
            have HX := Lib.hid hX2
            clear hX2 hnf
            go_wp2_with fail
            exact ⟨rfl, .tuple #[.slice none 0 0, .int .i64 2], by simp [results, go_sem], PolyRes.err HX.out (Below.next0 (Below.next0 HL.out.2.2.2.1 HB5.out.2.2.2.2) HA5.out)⟩
        · have hql' : ¬ ((q : Int) < (N : Int)) := by omega
          have hqa : all.take q = all := List.take_of_length_le (by have := HL.out.1.len; omega)
          rw [hqa] at hosum hfit
          have HO := Lib.hid (And.intro houts (And.intro hosum (And.intro hook (And.intro hfit hbo))))
          have hM6 : M ≤ 600 := by have := HL.out.1.len; omega
          clear houts hosum hook hfit hbo hqa
          by_cases h24 : 24 < M
          · have h24' : (24 : Int) < (M : Int) := by omega
            have hX6 : X = .error 6 := by
              rw [← H.out.2.2.2.2.2.2.1]
              exact make_long HL.out.2.1 HO.out.2.1 HO.out.2.2.2.1 (by rw [HO.out.1.len]; exact h24)
            have HX := Lib.hid hX6
            clear hX6
            go_wp2_with fail
            exact ⟨rfl, .tuple #[.slice none 0 0, .int .i64 6], by simp [results, go_sem], PolyRes.err HX.out (Below.next0 HL.out.2.2.2.1 HO.out.2.2.2.2)⟩
          · have h24' : ¬ (24 : Int) < (M : Int) := by omega
            have hsort := sort_all HO.out.1 (by omega) (HO.out.1.exps HO.out.2.2.1)
            have HS := Lib.hid hsort
            clear hsort
            go_wp2_with (go_at_call_of 138 (Value.slice a3 M c3); refine HS.out.mono ?_; rintro r w9 ⟨rfl, outs', hms9, hperm9, hs9, hb9⟩; have H9 := Lib.hid (And.intro hms9 (And.intro hperm9 (And.intro hs9 hb9))); clear hms9 hperm9 hs9 hb9)
            have hpw : outs'.Pairwise (fun p q => ¬ cmpL p.es q.es < 0) := H9.out.2.2.1.imp fun {p q} h => by omega
            obtain ⟨hres, hrv⟩ := make_ok H.out.2.2.1 H.out.2.2.2.1 (acc_perm _) (make_fits HL.out.2.1 (by have := HO.out.2.2.2.1; exact this)) HL.out.2.1 HO.out.2.1 (by rw [HO.out.1.len]; omega) H9.out.2.1 hpw HO.out.2.2.1
            refine ⟨rfl, .tuple #[.slice a3 M c3, .int .i64 0], by simp [results, go_sem], ?_, ?_⟩
            · exact Below.next0 HL.out.2.2.2.1 (HO.out.2.2.2.2.trans H9.out.2.2.2)
            · rw [← H.out.2.2.2.2.2.2.1, hres]
              exact ⟨a3, M, c3, outs', rfl, H9.out.1, rfl, hrv⟩
end Go.Proofs.YtdilmfakkppgpaaGreatDoor
namespace Go.Proofs.YtdilmfakkppgpaaGreatDoor
open Go.RowKit WordsM
def EncM (w : World) : List MonoV → List Value → Prop
  | [], xs => xs = []
  | m :: r, xs => ∃ aw lw cw ae le ce ys, xs = .bool m.neg :: .int .i64 m.exp :: .slice aw lw cw :: .slice ae le ce :: ys ∧ (WordsIn w aw lw cw m.ws ∧ IntsIn w ae le ce m.es ∧ -9223372036854775808 ≤ m.exp ∧ m.exp ≤ 9223372036854775807) ∧ EncM w r ys
theorem EncM.len {w : World} : ∀ {ms : List MonoV} {xs : List Value}, EncM w ms xs → xs.length = ms.length * 4
  | [], _, h => by cases h; rfl
  | m :: r, _, ⟨_, _, _, _, _, _, ys, rfl, _, h⟩ => by
    have := EncM.len h
    simp only [List.length_cons]; omega
theorem EncM.one {w : World} : ∀ {ms : List MonoV} {xs : List Value}, EncM w ms xs → ∀ u ∈ xs, u.oneCell' = true
  | [], _, h, u, hu => by cases h; cases hu
  | m :: r, _, ⟨_, _, _, _, _, _, ys, rfl, _, h⟩, u, hu => by
    simp only [List.mem_cons] at hu
    rcases hu with rfl | rfl | rfl | rfl | hu
    · rfl
    · rfl
    · rfl
    · rfl
    · exact EncM.one h u hu
theorem EncM.append {w : World} {ms' : List MonoV} {ys : List Value} (h' : EncM w ms' ys) : ∀ {ms : List MonoV} {xs : List Value}, EncM w ms xs → EncM w (ms ++ ms') (xs ++ ys)
  | [], _, h => by cases h; exact h'
  | m :: r, _, ⟨aw, lw, cw, ae, le, ce, zs, rfl, hg, h⟩ => ⟨aw, lw, cw, ae, le, ce, zs ++ ys, rfl, hg, EncM.append h' h⟩
theorem EncM.of {w : World} {b : Nat} : ∀ {ms : List MonoV} {o : Nat}, (∀ j m, ms[j]? = some m → MonoAt w b (o + j * 4) m) → ∃ xs, EncM w ms xs ∧ ∀ j u, xs[j]? = some u → w.cell? ⟨b, o + j, none⟩ = some u
  | [], o, _ => ⟨[], rfl, fun j u h => by simp at h⟩
  | m :: r, o, h => by
    obtain ⟨ys, hy1, hy2⟩ := EncM.of (ms := r) (o := o + 4) (fun j m' hm => by have := h (j + 1) m' hm; rwa [show o + (j + 1) * 4 = o + 4 + j * 4 by omega] at this)
    obtain ⟨aw, lw, cw, ae, le, ce, h0, h1, h2, h3, hg⟩ := h 0 m rfl
    rw [Nat.zero_mul, Nat.add_zero] at h0 h1 h2 h3
    refine ⟨_, ⟨aw, lw, cw, ae, le, ce, ys, rfl, hg, hy1⟩, fun j u hj => ?_⟩
    match j, hj with
    | 0, hj => simp at hj; rw [← hj]; exact h0
    | 1, hj => simp at hj; rw [← hj]; exact h1
    | 2, hj => simp at hj; rw [← hj]; exact h2
    | 3, hj => simp at hj; rw [← hj]; exact h3
    | j + 4, hj =>
      have := hy2 j u (by simpa using hj)
      rwa [show o + 4 + j = o + (j + 4) by omega] at this
theorem EncM.lie {w w' : World} {g : Nat} (hb : Below w.heap.size w w') : ∀ {ms : List MonoV} {xs : List Value} {o : Nat}, EncM w ms xs → (∀ j u, xs[j]? = some u → w'.cell? ⟨g, o + j, none⟩ = some u) → ∀ j m, ms[j]? = some m → MonoAt w' g (o + j * 4) m
  | [], _, _, _, _, j, m, hm => by simp at hm
  | m0 :: r, _, o, ⟨aw, lw, cw, ae, le, ce, ys, rfl, ⟨g1, g2, g3⟩, h⟩, hc, j, m, hm => by
    match j, hm with
    | 0, hm =>
      simp at hm
      subst hm
      refine ⟨aw, lw, cw, ae, le, ce, ?_, ?_, ?_, ?_, g1.step hb, g2.step hb, g3⟩
      · exact hc 0 _ rfl
      · have := hc 1 _ rfl; simpa using this
      · have := hc 2 _ rfl; simpa using this
      · have := hc 3 _ rfl; simpa using this
    | j + 1, hm =>
      have := EncM.lie hb (o := o + 4) h (fun i u hi => by
        have := hc (i + 4) u (by simpa using hi)
        rwa [show o + (i + 4) = o + 4 + i by omega] at this) j m (by simpa using hm)
      rwa [show o + 4 + j * 4 = o + (j + 1) * 4 by omega] at this
theorem append_zero {P : Program} (w : World) (t ty e : TypeId) (i : TypeInfo) (ht : P.underlying t = some (.slice e)) (hi : P.info? e = some i) (a b : Option Addr) (n c d : Nat) (hn : n ≤ c) :
    (Builtin.append_ #[t, t] ty #[.slice a n c, .slice b 0 d]).run P w = .ok (.slice a n c) w := by
  have hf : (Builtin.firstCells i.size 0 (.slice b 0 d)).run P w = .ok #[] w := by
    cases b with
    | none => exact run_firstCells_none w i.size 0 0 d
    | some x => exact run_firstCells_some (P := P) w i.size 0 x 0 d [] (by simp) (fun j u h => by simp at h)
  cases a with
  | none => simp [Builtin.append_, run_underlying ht, sizeOf, typeInfo, hi, Builtin.lenOf, hf, hn]
  | some x => simp [Builtin.append_, run_underlying ht, sizeOf, typeInfo, hi, Builtin.lenOf, hf, hn, storeCells]
set_option maxRecDepth 100000 in
theorem append_monos (ty : TypeId) (w0 w : World) (hb : Below w0.heap.size w0 w) (a : Option Addr) (n c : Nat) (xs : List Value) (hr : Row w w0.heap.size 44 4 a n c xs) (b : Option Addr) (m d : Nat) (ms : List MonoV) (h : MonosIn w0 b m d ms) (hnm : n + m ≤ 1000) :
    ∃ a' c' w' ys, (Builtin.append_ #[25, 25] ty #[.slice a n c, .slice b m d]).run Tryz.prog w = .ok (.slice a' (n + m) c') w' ∧ Row w' w0.heap.size 44 4 a' (n + m) c' (xs ++ ys) ∧ EncM w0 ms ys ∧ Below w0.heap.size w0 w' := by
  obtain ⟨i0, hi0, hz0, hz1, hz2⟩ := info_split info_mono
  obtain ⟨h1, h2, h3, rfl | ⟨bb, o, rfl, hlt, h4⟩⟩ := h
  · subst h1
    refine ⟨a, c, w, [], append_zero w _ ty _ i0 Tryz.underlying25 hi0 a b n c d hr.cap.1, by simpa using hr, rfl, hb⟩
  · obtain ⟨ys, hy1, hy2⟩ := EncM.of h4
    have hcy : ∀ j u, ys[j]? = some u → w.cell? ((⟨bb, o, none⟩ : Addr).add j) = some u := fun j u hj => by
      rw [Addr.add_lit]
      exact (hb.cell (p := ⟨bb, o + j, none⟩) hlt).trans (hy2 j u hj)
    obtain ⟨a', c', w', hrun, hrow, hgr, hbw, _⟩ := run_append_row w0 w ty 25 44 i0 _ 4 64 Tryz.underlying25 hi0 hz0 hz1 hz2 rfl (by decide) w0.heap.size hb hb.size a n c xs hr ⟨bb, o, none⟩ m d ys (by rw [hy1.len, h1]) hcy hy1.one (n + m) rfl (by omega) (by omega)
    exact ⟨a', c', w', ys, hrun, hrow, hy1, hbw⟩
set_option maxRecDepth 100000 in
set_option maxHeartbeats 4000000 in
theorem grow_nil (N : Nat) (w : World) (hN : N ≤ 1000) :
    Calls Tryz.prog 202 #[.slice none 0 0, .int .i64 (N : Int)] w fun r w' => ∃ a c, r = .returned (.slice a 0 c) ∧ Row w' w.heap.size 44 4 a 0 c [] ∧ Below w.heap.size w w' := by
  obtain ⟨i0, hi0, hz0, hz1, hz2⟩ := info_split info_mono
  have h0 : ¬ ((N : Int) < 0) := by omega
  by_cases h1 : N = 0
  · subst h1
    go_enter Tryz.func202, Tryz.ntmps202
    go_wp2_with fail
    go_ret
    exact ⟨none, 0, rfl, Row.nil_ _ _ _ _, Below.refl _ _⟩
  · have h2 : (0 : Int) < (N : Int) := by omega
    have hC1 := grownCap_ge w (0 + N) 0 44
    have hC2 := grownCap_le_maxLen w (0 + N) 0 44 (by unfold maxLen; omega)
    have hrun := fun ty => Lib.run_append_grow_zeros (P := Tryz.prog) w 25 3 ty 44 i0 _ .i64 .i64 Tryz.underlying25 Tryz.underlying3 hi0 hz0 none 0 0 [] (run_firstCells_none _ _ _ _ _) N (by omega) (by rw [hz1]; decide) (by omega) (by omega) (by rw [hz2]; omega) (by rw [hz2]; exact growslice_fits (by omega) (by omega))
    obtain ⟨C, hC⟩ : ∃ C, grownCap w (0 + N) 0 44 = C := ⟨_, rfl⟩
    rw [hC] at hrun hC1 hC2
    obtain ⟨W, hW⟩ : ∃ W, w.drew.alloc (.cells (([] : List Value).toArray ++ Builtin.zeroCells (Value.agg #[.bool false, .int .i64 0, .slice none 0 0, .slice none 0 0]).cells N ++ Builtin.zeroCells (Value.agg #[.bool false, .int .i64 0, .slice none 0 0, .slice none 0 0]).cells (C - (0 + N))) 44) = W := ⟨_, rfl⟩
    rw [hW] at hrun
    rw [Nat.zero_add] at hrun hC1
    have hrow : Row W w.heap.size 44 4 (some ⟨w.heap.size, 0, none⟩) 0 C [] := by
      refine ⟨by simp, .inr ⟨w.heap.size, C, _, rfl, Nat.le_refl _, by rw [← hW]; exact heap_alloc_new w.drew _, Nat.zero_le _, hC2, ?_, by simp⟩⟩
      simp [size_zeroCells, Value.cells]; omega
    have hbw : Below w.heap.size w W := by
      rw [← hW]
      exact ⟨rfl, rfl, rfl, by rw [World.size_alloc]; exact Nat.le_succ _, fun k hk => heap_alloc_old w.drew _ hk⟩
    have H := Lib.hid (And.intro hrow hbw)
    clear hW hrow hbw hC hC2
    go_enter Tryz.func202, Tryz.ntmps202
    go_wp2_with (at_builtin; refine wpList_append_run rfl (.tmp 20) (.tmp 21) 25 3 rfl _ _ rfl rfl _ _ (hrun _) ?_)
    go_ret
    exact ⟨_, _, rfl, H.out.1, H.out.2⟩
def CatSum (n m : Nat) (s3 s11 : Value) : Prop := (s11 = .int .i64 0 ∧ s3 = .int .i64 0) ∨ (s11 = .int .i64 1 ∧ s3 = .int .i64 (n : Int)) ∨ (s11 = .int .i64 2 ∧ s3 = .int .i64 ((n + m : Nat) : Int))
def CatRow (w wr : World) (n m : Nat) (ms ms2 : List MonoV) (s6 s27 : Value) : Prop := Below w.heap.size w wr ∧ ∃ a k c mk xs, s6 = .slice a k c ∧ Row wr w.heap.size 44 4 a k c xs ∧ EncM w mk xs ∧
  ((s27 = .int .i64 0 ∧ k = 0 ∧ mk = []) ∨ (s27 = .int .i64 1 ∧ k = n ∧ mk = ms) ∨ (s27 = .int .i64 2 ∧ k = n + m ∧ mk = ms ++ ms2))
theorem CatRow.done {w wr : World} {k c : Nat} {a : Option Addr} (hb : Below w.heap.size w wr) {xs : List Value} (hr : Row wr w.heap.size 44 4 a k c xs) {mk : List MonoV} (he : EncM w mk xs) (hk : mk.length = k) : MonosIn wr a k c mk := by
  have hcap := hr.cap
  refine ⟨hk, hcap.1, by have := hcap.2; simpa [maxLen] using this, ?_⟩
  rcases hr.form with ⟨_, h0, _⟩ | ⟨g, cur, rfl, _, hlt, _⟩
  · exact .inl (List.eq_nil_of_length_eq_zero (by omega))
  · refine .inr ⟨g, 0, rfl, hlt, he.lie hb fun j u hj => ?_⟩
    obtain ⟨g', e, _, _, h2⟩ := hr.at_ hj
    injection e with e
    injection e with e
    subst e
    rw [Nat.zero_add]; exact h2
set_option maxRecDepth 100000 in
set_option maxHeartbeats 4000000 in
theorem concat_any (sb : Nat) (a : Option Addr) (n c : Nat) (ms : List MonoV) (b : Option Addr) (m d : Nat) (ms2 : List MonoV) (w : World) (h1 : MonosIn w a n c ms) (h2 : MonosIn w b m d ms2) (hl : sb < w.heap.size) (c0 : w.cell? ⟨sb, 0, none⟩ = some (.slice a n c)) (c1 : w.cell? ⟨sb, 1, none⟩ = some (.slice b m d)) (hn : n ≤ 300) (hm : m ≤ 300) :
    Calls Tryz.prog 169 #[.slice (some ⟨sb, 0, none⟩) 2 2] w fun r w' => ∃ a' c', r = .returned (.slice a' (n + m) c') ∧ MonosIn w' a' (n + m) c' (ms ++ ms2) ∧ Below w.heap.size w w' := by
  have hg := grow_nil (n + m) w (by omega)
  have H := Lib.hid (And.intro h1 (And.intro h2 (And.intro hl (And.intro c0 (And.intro c1 hg)))))
  have hn0 : ¬ ((n : Int) < 0) := by omega
  have hm0 : ¬ (((n + m : Nat) : Int) < 0) := by omega
  have hm1 : (n : Int) + (m : Int) = ((n + m : Nat) : Int) := by omega
  have HM := Lib.hid (And.intro hm0 hm1)
  clear h1 h2 hl hg hm0 hm1
  go_enter Tryz.func169, Tryz.ntmps169
  go_wp2_with fail
  go_loopw [3, 11] (fun s3 s11 wr => CatSum n m s3 s11 ∧ wr = w) (fun _ iv _ => 2 - (intOf iv).toNat)
  case atStart => exact ⟨.inl ⟨rfl, rfl⟩, rfl⟩
  case round =>
    obtain ⟨hrel, rfl⟩ := hrel
    rename World => w
    rcases hrel with ⟨rfl, rfl⟩ | ⟨rfl, rfl⟩ | ⟨rfl, rfl⟩
    · go_wp2_with fail
      exact ⟨⟨.inr (.inl ⟨rfl, rfl⟩), .intro⟩, by simp only [intOf]; decide⟩
    · have hm0 : ¬ (((n + m : Nat) : Int) < 0) := by omega
      have hw : wrap64 ((n : Int) + (m : Int)) = ((n + m : Nat) : Int) := by unfold wrap64; omega
      go_wp2_with fail
      exact ⟨⟨.inr (.inr ⟨rfl, rfl⟩), .intro⟩, by simp only [intOf]; decide⟩
    · go_wp2_with (refine H.out.2.2.2.2.2.mono ?_; rintro r w1 ⟨a6, c6, rfl, hr6, hb6⟩; have H6 := Lib.hid (And.intro hr6 hb6); clear hr6 hb6)
      go_loopw [6, 27] (fun s6 s27 wr => CatRow w wr n m ms ms2 s6 s27) (fun _ iv _ => 2 - (intOf iv).toNat)
      case atStart => exact ⟨H6.out.2, a6, 0, c6, [], [], rfl, H6.out.1, rfl, .inl ⟨rfl, rfl, rfl⟩⟩
      case round =>
        obtain ⟨hbr, a7, k, c7, mk, xs, rfl, hr7, he7, ⟨rfl, rfl, rfl⟩ | ⟨rfl, rfl, rfl⟩ | ⟨rfl, rfl, rfl⟩⟩ := hrel
        · obtain ⟨a8, c8, w8, ys, hrun, hr8, he8, hb8⟩ := append_monos 25 w wr hbr a7 0 c7 xs hr7 a n c ms H.out.1 (by omega)
          rw [Nat.zero_add] at hrun hr8
          have H8 := Lib.hid (And.intro hr8 (And.intro (EncM.append he8 he7) hb8))
          have k0 := (hbr.cell (p := ⟨sb, 0, none⟩) H.out.2.2.1).trans c0
          have k1 := (hbr.cell (p := ⟨sb, 1, none⟩) H.out.2.2.1).trans c1
          clear hr8 he8 hb8 hbr hr7 he7
          go_wp2_with (at_builtin; refine wpList_append_run rfl (.tmp 31) (.tmp 32) 25 25 rfl _ _ rfl rfl _ _ hrun ?_)
          exact ⟨⟨H8.out.2.2, a8, n, c8, _, _, rfl, H8.out.1, H8.out.2.1, .inr (.inl ⟨rfl, rfl, rfl⟩)⟩, by simp only [intOf]; decide⟩
        · obtain ⟨a8, c8, w8, ys, hrun, hr8, he8, hb8⟩ := append_monos 25 w wr hbr a7 k c7 xs hr7 b m d ms2 H.out.2.1 (by omega)
          have H8 := Lib.hid (And.intro hr8 (And.intro (EncM.append he8 he7) hb8))
          have k0 := (hbr.cell (p := ⟨sb, 0, none⟩) H.out.2.2.1).trans c0
          have k1 := (hbr.cell (p := ⟨sb, 1, none⟩) H.out.2.2.1).trans c1
          clear hr8 he8 hb8 hbr hr7 he7
          go_wp2_with (at_builtin; refine wpList_append_run rfl (.tmp 31) (.tmp 32) 25 25 rfl _ _ rfl rfl _ _ hrun ?_)
          exact ⟨⟨H8.out.2.2, a8, k + m, c8, _, _, rfl, H8.out.1, H8.out.2.1, .inr (.inr ⟨rfl, rfl, rfl⟩)⟩, by simp only [intOf]; decide⟩
        · have H8 := Lib.hid (And.intro hbr (And.intro hr7 he7))
          clear hr7 he7 hbr
          go_wp2_with fail
          go_ret
          exact ⟨_, _, rfl, CatRow.done H8.out.1 H8.out.2.1 H8.out.2.2 (by rw [List.length_append, H.out.1.1, H.out.2.1.1]), H8.out.1⟩
theorem PolyRes.lower {w0 w w' : World} {n : Nat} {X : Except Int (List Term)} {r : Ending} (h : PolyRes w n X r w') (hb : Below w0.heap.size w0 w) : PolyRes w0 n X r w' := ⟨Below.next0 hb h.1, h.2⟩
theorem PolyRes.form {w w' : World} {n : Nat} {X : Except Int (List Term)} {r : Ending} (h : PolyRes w n X r w') : ∃ a l c er, r = .returned (.tuple #[.slice a l c, .int .i64 er]) := by
  obtain ⟨_, h⟩ := h
  cases X with
  | error e => obtain ⟨a, l, c, rfl⟩ := h; exact ⟨a, l, c, e, rfl⟩
  | ok P => obtain ⟨a, l, c, ms, rfl, _⟩ := h; exact ⟨a, l, c, 0, rfl⟩
set_option maxRecDepth 100000 in
set_option maxHeartbeats 4000000 in
theorem polyadd_any (a : Option Addr) (n c : Nat) (ms : List MonoV) (b : Option Addr) (m d : Nat) (ms2 : List MonoV) (k : Nat) (w : World) (h1 : MonosIn w a n c ms) (h2 : MonosIn w b m d ms2) (r1 : RightV k ms) (r2 : RightV k ms2) (hT : TabIn w) :
    Calls Tryz.prog 140 #[.slice a n c, .slice b m d, .int .i64 (k : Int)] w (PolyRes w k (addM (ms.map MonoV.term) (ms2.map MonoV.term))) := by
  have hk1 := r1.1
  have hk4 := r1.2.1
  have hn : n ≤ 24 := by have := r1.2.2.1; rw [h1.1] at this; exact this
  have hm : m ≤ 24 := by have := r2.2.2.1; rw [h2.1] at this; exact this
  have p1 := fun W (hb : Below w.heap.size w W) => polyright_any a n c ms k W (h1.step hb) (by omega)
  have p2 := fun W (hb : Below w.heap.size w W) => polyright_any b m d ms2 k W (h2.step hb) (by omega)
  have hX : addM (ms.map MonoV.term) (ms2.map MonoV.term) = makeM ((ms ++ ms2).map MonoV.term) := by rw [List.map_append]; rfl
  rw [hX]
  clear hX
  obtain ⟨X, hX⟩ : ∃ X, makeM ((ms ++ ms2).map MonoV.term) = X := ⟨_, rfl⟩
  rw [hX]
  have hform : ∀ m ∈ ms ++ ms2, FormM k m := fun m hm => by
    rcases List.mem_append.1 hm with h | h
    · exact (r1.2.2.2.1 m h).1
    · exact (r2.2.2.2.1 m h).1
  have hmk := fun (a' : Option Addr) (c' : Nat) (W : World) (hb : Below w.heap.size w W) (h : MonosIn W a' (n + m) c' (ms ++ ms2)) => by
    have := polymake_any a' (n + m) c' (ms ++ ms2) k W h hform hk1 hk4 (by omega) (hT.step hb)
    rw [hX] at this
    exact this
  have H := Lib.hid (And.intro h1 (And.intro h2 (And.intro r1 (And.intro r2 (And.intro p1 (And.intro p2 hmk))))))
  clear h1 h2 r1 r2 p1 p2 hmk hX hform hT
  go_enter Tryz.func140, Tryz.ntmps140
  go_upto_region 3 with (first | (go_at_call_of 45 (Value.slice a n c); refine (H.out.2.2.2.2.1 _ (Below.refl _ _)).mono ?_; rintro r w1 ⟨⟨x, rfl, hx⟩, hb1⟩; (have hxt : x = true := hx.2 H.out.2.2.1); clear hx; subst hxt; have H1 := Lib.hid hb1; clear hb1) | (go_at_call_of 45 (Value.slice b m d); refine (H.out.2.2.2.2.2.1 _ H1.out).mono ?_; rintro r w2 ⟨⟨x, rfl, hx⟩, hb2⟩; (have hxt : x = true := hx.2 H.out.2.2.2.1); clear hx; subst hxt; have H2 := Lib.hid hb2; clear hb2))
  have hb2 := Below.next0 H1.out H2.out
  have hb3 := hb2.alloc hb2.size (.cells #[.slice a n c, .slice b m d] 25)
  have hnew := heap_alloc_new w2 (.cells #[.slice a n c, .slice b m d] 25)
  have hcat := concat_any w2.heap.size a n c ms b m d ms2 (w2.alloc (.cells #[.slice a n c, .slice b m d] 25)) (H.out.1.step hb3) (H.out.2.1.step hb3) (box_lt _ _) (by rw [cell_of_row _ _ _ _ _ _ hnew]; rfl) (by rw [cell_of_row _ _ _ _ _ _ hnew]; rfl) (by omega) (by omega)
  have H3 := Lib.hid (And.intro hb3 hcat)
  clear hb2 hb3 hnew hcat
  go_wp2_with (first | (go_at_call_of 169 (Value.slice (some ⟨w2.heap.size, 0, none⟩) 2 2); refine H3.out.2.mono ?_; rintro r w4 ⟨a4, c4, rfl, hm4, hb4⟩; have H4 := Lib.hid (And.intro hm4 (Below.next0 H3.out.1 hb4)); clear hm4 hb4) | (go_at_call_of 83 (Value.slice a4 (n + m) c4); refine (H.out.2.2.2.2.2.2 a4 c4 _ H4.out.2 H4.out.1).mono ?_; rintro r w5 hres; obtain ⟨a5, l5, c5, er, rfl⟩ := hres.form; have H5 := Lib.hid (hres.lower H4.out.2); clear hres))
  exact ⟨rfl, .tuple #[.slice a5 l5 c5, .int .i64 er], by simp [results, go_sem], H5.out⟩
end Go.Proofs.YtdilmfakkppgpaaGreatDoor
