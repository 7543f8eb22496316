/- Part 24 of the proof of LawParseDeep: ShowW, DeepM, Law12A, ParFrame, Open, RefV0. Condition: as each theorem says; none at the end. -/
import Derived.Test.YtdilmfakkppgpaaGreatDoorCards
import Derived.Test.YtdilmfakkppgpaaGreatDoorTie
import Derived.ProofKit
import Derived.OpenShut
import Derived.Deep.DeepHandedRow
import Derived.Lib.LaidTab
import Derived.Stop.LaidErr
import Derived.Shelf.Vars
import Derived.Lay
import Derived.Test.YtdilmfakkppgpaaGreatDoorProg
import Derived.WalkKit
import Derived.Deep.Matrix
import Derived.Test.YtdilmfakkppgpaaGreatDoorPkParseDeep01
import Derived.Test.YtdilmfakkppgpaaGreatDoorPkParseDeep04
import Derived.Test.YtdilmfakkppgpaaGreatDoorPkParseDeep05
import Derived.Test.YtdilmfakkppgpaaGreatDoorPkParseDeep06
import Derived.Test.YtdilmfakkppgpaaGreatDoorPkParseDeep07
import Derived.Test.YtdilmfakkppgpaaGreatDoorPkParseDeep13
import Derived.Test.YtdilmfakkppgpaaGreatDoorPkParseDeep14
import Derived.Test.YtdilmfakkppgpaaGreatDoorPkParseDeep23
namespace Go.Proofs.YtdilmfakkppgpaaGreatDoor
open Go.RowKit WordsM DecM
theorem fieldT_snoc (P : List Term) : ∀ (F : List (List Term)) (i : Nat), fieldT i (F ++ [P]) = fieldT i F ++ lineT (i + F.length) P
  | [], i => by simp [fieldT]
  | Q :: F, i => by
    rw [List.cons_append, fieldT, fieldT_snoc P F (i + 1), fieldT, List.append_assoc, List.length_cons, show i + 1 + F.length = i + (F.length + 1) by omega]
theorem termsT_snoc (p : Term) : ∀ (l : List Term) (b : Bool), termsT b (l ++ [p]) = termsT b l ++ (signT (b && l.isEmpty) p ++ termT p)
  | [], b => by simp [termsT]
  | q :: l, b => by
    rw [List.cons_append, termsT, termsT_snoc p l false, termsT]
    simp
theorem take_next {α : Type} {l : List α} {i : Nat} {x : α} (h : l[i]? = some x) : l.take (i + 1) = l.take i ++ [x] := by rw [List.take_add_one, h]; rfl
def termsF (F : List (List MonoV)) : List (List Term) := F.map (List.map MonoV.term)
theorem termsF_get {F : List (List MonoV)} {i : Nat} {ms : List MonoV} (h : F[i]? = some ms) : (termsF F)[i]? = some (ms.map MonoV.term) := by unfold termsF; rw [List.getElem?_map, h]; rfl
theorem neg_below {k : Nat} {m : MonoV} (h : OkM k m) (hl : Low (2 ^ 64) m.ws) : belowD m.term.1 = m.neg := by
  obtain ⟨⟨h1, h2⟩, h3⟩ := h
  rcases isnum_cases h2 hl with ⟨h4, _⟩ | ⟨_, ho, _, hv, g1, g2⟩
  · exact absurd h4 h3
  · exact belowD_sgn ho
theorem term_length {k : Nat} {m : MonoV} (h : OkM k m) (hk : k ≤ 4) (hl : Low (2 ^ 64) m.ws) : (termT m.term).length ≤ 7005 := by
  obtain ⟨_, g2, _, g4⟩ := parts_num h hl
  have hlen : m.es.length ≤ 4 := by have := h.1.1.1; omega
  obtain ⟨h1, h2⟩ := powsT_short m.es 0 (by omega) (fun x hx => (rightE_small h.1.1 x hx).2)
  have hall : ∀ t ∈ partsT m.term, t.length ≤ 1400 := fun t ht => by
    unfold partsT at ht
    split at ht
    · rcases List.mem_cons.1 ht with rfl | ht
      · rw [g2]; exact g4
      · have := h1 t ht; omega
    · have := h1 t ht; omega
  have hcnt : (partsT m.term).length ≤ 5 := by
    have h2' : (powsT 0 m.term.2).length ≤ 4 := Nat.le_trans h2 hlen
    unfold partsT
    split
    · rw [List.length_cons]; omega
    · omega
  have := joinT_len _ hall
  have : (partsT m.term).length * 1401 ≤ 5 * 1401 := Nat.mul_le_mul_right _ hcnt
  show (joinT (partsT m.term)).length ≤ _
  omega
theorem sign_length (b : Bool) (p : Term) : (signT b p).length ≤ 3 := by
  unfold signT
  split <;> split <;> decide
theorem terms_length {T : List Term} (h : ∀ p ∈ T, (termT p).length ≤ 7005) : ∀ b, (termsT b T).length ≤ T.length * 7008 := by
  induction T with
  | nil => intro b; simp [termsT]
  | cons p r ih =>
    intro b
    have h1 := h p (by simp)
    have h2 := sign_length b p
    have h3 := ih (fun q hq => h q (by simp [hq])) false
    rw [termsT, List.length_append, List.length_append, List.length_cons, Nat.add_mul]
    omega
def ShortF (F : List (List MonoV)) : Prop := ∀ ms ∈ F, ms.length ≤ 24 ∧ ∀ m ∈ ms, (termT m.term).length ≤ 7005
theorem poly_length {ms : List MonoV} (h : ms.length ≤ 24 ∧ ∀ m ∈ ms, (termT m.term).length ≤ 7005) (k : Nat) : (termsT true ((ms.map MonoV.term).take k)).length ≤ 168192 := by
  have h1 := terms_length (T := (ms.map MonoV.term).take k) (fun p hp => by
    obtain ⟨m, hm, rfl⟩ := List.mem_map.1 (List.mem_of_mem_take hp)
    exact h.2 m hm) true
  have h2 : ((ms.map MonoV.term).take k).length ≤ 24 := by rw [List.length_take, List.length_map]; omega
  have := Nat.mul_le_mul_right 7008 h2
  omega
theorem line_length {ms : List MonoV} (h : ms.length ≤ 24 ∧ ∀ m ∈ ms, (termT m.term).length ≤ 7005) {i : Nat} (hi : i < 9) : (lineT i (ms.map MonoV.term)).length ≤ 168200 := by
  have h1 := poly_length h ms.length
  have h0 : (ms.map MonoV.term).length = ms.length := List.length_map ..
  rw [← h0, List.take_length] at h1
  have h2 := head_len i hi
  unfold lineT polyT
  rw [List.length_append, List.length_append, h2]
  split
  · simp
  · simp only [List.length_cons, List.length_nil]; omega
theorem field_length {F : List (List MonoV)} (h : ShortF F) : ∀ i, i + F.length ≤ 9 → (fieldT i (termsF F)).length ≤ F.length * 168200 := by
  induction F with
  | nil => intro i _; simp [fieldT, termsF]
  | cons ms r ih =>
    intro i hi
    rw [List.length_cons] at hi
    have h1 := line_length (h ms (by simp)) (i := i) (by omega)
    have h2 := ih (fun x hx => h x (by simp [hx])) (i + 1) (by omega)
    show (lineT i (ms.map MonoV.term) ++ fieldT (i + 1) (termsF r)).length ≤ _
    rw [List.length_append, List.length_cons, Nat.add_mul]
    omega
theorem short_of {w : World} {a : Option Addr} {n c : Nat} {F : List (List MonoV)} (h : FieldIn w a n c F) (hR : RightVF F) : ShortF F := by
  intro ms hms
  obtain ⟨_, h4, hr⟩ := hR
  obtain ⟨r1, r2, r3, r4, r5⟩ := hr ms hms
  refine ⟨r3, fun m hm => term_length (r4 m hm) h4 ?_⟩
  obtain ⟨h1, h2, h3, h0 | ⟨b, o, _, _, hF⟩⟩ := h
  · rw [h0] at hms; cases hms
  obtain ⟨i, hi⟩ := List.mem_iff_getElem?.1 hms
  obtain ⟨p, l, d, _, hM⟩ := hF i ms hi
  obtain ⟨_, _, _, h0 | ⟨b2, o2, _, _, hM⟩⟩ := hM
  · rw [h0] at hm; cases hm
  obtain ⟨j, hj⟩ := List.mem_iff_getElem?.1 hm
  obtain ⟨_, _, _, _, _, _, _, _, _, _, hw, _⟩ := hM j m hj
  exact hw.low
def ShowRel (w1 : World) (F : List (List MonoV)) (s13 : Value) (wr : World) : Prop := ∃ i : Nat, s13 = .int .i64 (i : Int) ∧ i ≤ F.length ∧ Build w1.heap.size w1.heap.size (fieldT 0 ((termsF F).take i)) wr ∧ Below w1.heap.size w1 wr
def ShowTerm (w1 : World) (L0 : List UInt8) (ms : List MonoV) (s27 : Value) (wr : World) : Prop := ∃ k : Nat, s27 = .int .i64 (k : Int) ∧ k ≤ ms.length ∧ Build w1.heap.size w1.heap.size (L0 ++ termsT true ((ms.map MonoV.term).take k)) wr ∧ Below w1.heap.size w1 wr
theorem BuildAt.build {B b : Nat} {l : List UInt8} {w : World} (h : BuildAt B b (.pointer (some ⟨b, 0, none⟩)) l w) : Build B b l w := .inr h
set_option maxRecDepth 100000 in
set_option maxHeartbeats 8000000 in
theorem fieldshow_any (a : Option Addr) (n c : Nat) (F : List (List MonoV)) (w : World) (h : FieldIn w a n c F) (hT : TabIn w) (hP : PowIn w) :
    Calls Tryz.prog 12 #[.slice a n c] w fun r w' => (RightVF F → r = .returned (sv (fieldT 0 (termsF F)))) ∧ (¬ RightVF F → r = .returned (sv [])) ∧ Below w.heap.size w w' := by
  have hfr := fieldright_any a n c F w h
  by_cases hR : RightVF F
  case neg =>
    have H := Lib.hid (And.intro hfr hR)
    clear hfr h hT hP hR
    go_enter Tryz.func12, Tryz.ntmps12
    go_wp2_with (go_at_call_of 30 (Value.slice a n c); refine H.out.1.mono ?_; rintro r w1 ⟨⟨bb, rfl, hiff⟩, hb1⟩; obtain rfl : bb = false := by { cases bb with | false => rfl | true => exact absurd (hiff.1 rfl) H.out.2 }; have H1 := Lib.hid hb1; clear hiff hb1)
    go_ret
    exact ⟨fun h => absurd h H.out.2, fun _ => rfl, H1.out⟩
  case pos =>
  have hsh := short_of h hR
  have hln := h.1
  have hn4 : n ≤ 4 := by have := hR.2.1; omega
  have H := Lib.hid (And.intro hfr (And.intro hR (And.intro h (And.intro hT (And.intro hP hsh)))))
  clear hfr h hT hP hsh
  go_enter Tryz.func12, Tryz.ntmps12
  go_wp2_with (go_at_call_of 30 (Value.slice a n c); refine H.out.1.mono ?_; rintro r w1 ⟨⟨bb, rfl, hiff⟩, hb1⟩; obtain rfl : bb = true := hiff.2 H.out.2.1; have H1 := Lib.hid hb1; clear hiff hb1)
  have hal : Below w1.heap.size w1 (w1.alloc (.cells #[.pointer none, .slice none 0 0] 66)) := (Below.refl _ _).alloc (Nat.le_refl _) _
  have hbn := Build.new w1.heap.size w1 (Nat.le_refl _)
  have HB := Lib.hid (And.intro hal hbn)
  clear hal hbn hR
  generalize w1.alloc (.cells #[.pointer none, .slice none 0 0] 66) = W2 at HB ⊢
  rename World => W2
  go_loopw [13] (fun s13 wr => ShowRel w1 F s13 wr) (fun iv _ => n - (intOf iv).toNat)
  case atStart => exact ⟨0, rfl, Nat.zero_le _, HB.out.2, HB.out.1⟩
  case round =>
    obtain ⟨i, rfl, hi, hbd, hbr⟩ := hrel
    by_cases hlt : i < F.length
    · have hlt' : (i : Int) < (n : Int) := by omega
      obtain ⟨ms, hms⟩ : ∃ ms, F[i]? = some ms := ⟨_, List.getElem?_eq_getElem hlt⟩
      have hF := H.out.2.2.1.step H1.out
      have hmem := List.mem_of_getElem? hms
      have hrv := H.out.2.1.2.2 ms hmem
      have hshm := H.out.2.2.2.2.2 ms hmem
      have hpre : (fieldT 0 ((termsF F).take i)).length ≤ 672800 := by
        have h1 := field_length (F := F.take i) (fun x hx => H.out.2.2.2.2.2 x (List.mem_of_mem_take hx)) 0 (by rw [List.length_take]; omega)
        have h2 : (F.take i).length ≤ 4 := by rw [List.length_take]; omega
        have h3 := Nat.mul_le_mul_right 168200 h2
        unfold termsF at h1 ⊢
        rw [← List.map_take]
        omega
      have hnext := take_next (termsF_get hms)
      obtain ⟨_, _, _, h0 | ⟨g, o, rfl, hg, hFi⟩⟩ := hF
      · rw [h0] at hlt; exact absurd hlt (Nat.not_lt_zero _)
      obtain ⟨p, l, d, hcell, hM⟩ := hFi i ms hms
      have hll := hM.1
      have hcell := (hbr.cell (p := ⟨g, o + i, none⟩) hg).trans hcell
      have hhd := head_any i (by omega) wr
      have hwr1 := write_keep w1.heap.size w1.heap.size (fieldT 0 ((termsF F).take i)) (headM i) wr hbd (by rw [head_len i (by omega)]; omega) hbr.size
      have HR := Lib.hid (And.intro hms (And.intro hrv (And.intro hshm (And.intro hpre (And.intro hnext (And.intro hM (And.intro hhd (And.intro hwr1 hbr))))))))
      clear hms hrv hshm hpre hnext hM hhd hwr1 hbr hbd hmem hFi
      obtain ⟨L0, hL0⟩ : ∃ L0, fieldT 0 ((termsF F).take i) ++ headM i = L0 := ⟨_, rfl⟩
      have HL := Lib.hid hL0
      rw [hL0] at HR
      clear hL0
      obtain ⟨HM, hHM⟩ : ∃ t, headM i = t := ⟨_, rfl⟩
      rw [hHM] at HR
      have HHM := Lib.hid hHM
      clear hHM
      have hfin : lineT i (ms.map MonoV.term) = headM i ++ (polyT (ms.map MonoV.term) ++ [10]) := rfl
      by_cases hms0 : ms = []
      · subst hms0
        obtain rfl : l = 0 := hll.symm
        go_wp2_with (first
          | (go_at_call_of 31 (Value.pointer (some ⟨w1.heap.size, 0, none⟩)); refine H3.out.2.mono ?_; rintro r w4 ⟨rfl, hb4, hbl4, _⟩
             have hb4w := Below.trans H3.out.1 hbl4
             have hwr3 := write_keep w1.heap.size w1.heap.size (L0 ++ [48]) [10] w4 hb4.build (by rw [← HL.out, List.length_append, List.length_append, head_len i (by omega)]; have := HR.out.2.2.2.1; simp; omega) hb4w.size
             have H4 := Lib.hid (And.intro hb4w hwr3)
             clear hb4 hbl4 hb4w hwr3)
          | (go_at_call_of 31 (Value.pointer (some ⟨w1.heap.size, 0, none⟩)); refine HR.out.2.2.2.2.2.2.2.1.mono ?_; rintro r w3 ⟨rfl, hb3, hbl3, _⟩
             have hb3w := Below.trans HR.out.2.2.2.2.2.2.2.2 hbl3
             have hwr2 := write_keep w1.heap.size w1.heap.size L0 [48] w3 hb3.build (by rw [← HL.out, List.length_append, head_len i (by omega)]; have := HR.out.2.2.2.1; simp; omega) hb3w.size
             have H3 := Lib.hid (And.intro hb3w hwr2)
             clear hb3 hbl3 hb3w hwr2)
          | (go_at_call_of 32 (Value.int IntKind.i64 (i : Int)); refine HR.out.2.2.2.2.2.2.1.mono ?_; rintro r w2 ⟨rfl, rfl⟩))
        go_loopw [27] (fun s27 wr => s27 = .int .i64 0 ∧ wr = w4) (fun _ _ => 0)
        case atStart => exact ⟨rfl, rfl⟩
        case round =>
          obtain ⟨rfl, rfl⟩ := hrel
          go_wp2_with (go_at_call_of 31 (Value.pointer (some ⟨w1.heap.size, 0, none⟩)); refine H4.out.2.mono ?_; rintro r w5 ⟨rfl, hb5, hbl5, _⟩; have H5 := Lib.hid (And.intro hb5 hbl5); clear hb5 hbl5)
          refine ⟨⟨i + 1, congrArg (Value.int .i64) (by omega), hlt, ?_, Below.trans H4.out.1 H5.out.2⟩, by simp only [intOf]; omega⟩
          rw [HR.out.2.2.2.2.1, fieldT_snoc]
          have e : (fieldT 0 ((termsF F).take i) ++ lineT (0 + ((termsF F).take i).length) (List.map MonoV.term [])) = L0 ++ [48] ++ [10] := by
            rw [show 0 + ((termsF F).take i).length = i by rw [List.length_take]; unfold termsF; rw [List.length_map]; omega, hfin, ← HL.out]
            simp [polyT]
          rw [e]
          exact H5.out.1.build
      · have hl0 : ((l : Int) == 0) = false := by
          rw [beq_eq_false_iff_ne]
          intro e
          exact hms0 (List.eq_nil_of_length_eq_zero (by omega))
        have HN0 := Lib.hid hms0
        clear hms0
        go_wp2_with (first
          | (go_at_call_of 31 (Value.pointer (some ⟨w1.heap.size, 0, none⟩)); refine HR.out.2.2.2.2.2.2.2.1.mono ?_; rintro r w3 ⟨rfl, hb3, hbl3, _⟩
             have hb3w := Below.trans HR.out.2.2.2.2.2.2.2.2 hbl3
             have H3 := Lib.hid (And.intro hb3w hb3)
             clear hb3 hbl3 hb3w)
          | (go_at_call_of 32 (Value.int IntKind.i64 (i : Int)); refine HR.out.2.2.2.2.2.2.1.mono ?_; rintro r w2 ⟨rfl, rfl⟩))
        go_loopw [27] (fun s27 wr => ShowTerm w1 L0 ms s27 wr) (fun iv _ => l - (intOf iv).toNat)
        case atStart => exact ⟨0, rfl, Nat.zero_le _, by simpa [termsT] using H3.out.2.build, H3.out.1⟩
        case round =>
          obtain ⟨k, rfl, hk, hbk, hbw⟩ := hrel
          by_cases hkl : k < ms.length
          · have hkl' : (k : Int) < (l : Int) := by omega
            obtain ⟨m, hm⟩ : ∃ m, ms[k]? = some m := ⟨_, List.getElem?_eq_getElem hkl⟩
            obtain ⟨_, _, _, h0 | ⟨b2, o2, rfl, hb2, hMi⟩⟩ := HR.out.2.2.2.2.2.1
            · exact absurd h0 HN0.out
            obtain ⟨aw, lw, cw, ae, le, ce, q0, q1, q2, q3, hwm, hem, hx1, hx2⟩ := hMi k m hm
            have q0 := (hbw.cell (p := ⟨b2, o2 + k * 4, none⟩) hb2).trans q0
            have q1 := (hbw.cell (p := ⟨b2, o2 + k * 4 + 1, none⟩) hb2).trans q1
            have q2 := (hbw.cell (p := ⟨b2, o2 + k * 4 + 2, none⟩) hb2).trans q2
            have q3 := (hbw.cell (p := ⟨b2, o2 + k * 4 + 3, none⟩) hb2).trans q3
            have hkx : OkM F.length m := HR.out.2.1.2.2.2.1 m (List.mem_of_getElem? hm)
            have hnb := neg_below hkx hwm.low
            have hnx := termsT_snoc m.term ((ms.map MonoV.term).take k) true
            have htk : (ms.map MonoV.term).take (k + 1) = (ms.map MonoV.term).take k ++ [m.term] := take_next (by rw [List.getElem?_map, hm]; rfl)
            have hpl := poly_length HR.out.2.2.1 k
            have htl := HR.out.2.2.1.2 m (List.mem_of_getElem? hm)
            have hL0l : L0.length ≤ 672806 := by rw [← HL.out, List.length_append, head_len i (by omega)]; have := HR.out.2.2.2.1; omega
            have hX := MBox.new wr (.bool m.neg) (.int .i64 m.exp) (.slice aw lw cw) (.slice ae le ce) 44
            have hhx := heap_alloc_new wr (.cells #[.bool m.neg, .int .i64 m.exp, .slice aw lw cw, .slice ae le ce] 44)
            have hbx : Below wr.heap.size wr (wr.alloc (.cells #[.bool m.neg, .int .i64 m.exp, .slice aw lw cw, .slice ae le ce] 44)) := (Below.refl _ _).alloc (Nat.le_refl _) _
            have hbX := Below.next0 hbw hbx
            have hbkX := hbk.call hbx
            have hbn : w1.heap.size ≠ wr.heap.size := by
              have h1 := hbk
              unfold Build at h1
              intro e
              rcases h1 with ⟨_, _, h2, _⟩ | ⟨_, _, h2, _⟩
              · have := (Array.getElem?_eq_some_iff.1 h2).1; omega
              · have := (Array.getElem?_eq_some_iff.1 h2).1; omega
            obtain ⟨L1, hL1⟩ : ∃ L1, L0 ++ termsT true ((ms.map MonoV.term).take k) = L1 := ⟨_, rfl⟩
            have hL1l : L1.length ≤ 840998 := by rw [← hL1, List.length_append]; omega
            rw [hL1] at hbkX
            have hterm := fun W => showterm_any F.length m aw lw cw ae le ce W
            obtain ⟨TT, hTT⟩ : ∃ t, termT m.term = t := ⟨_, rfl⟩
            rw [hTT] at hnx htl hterm
            obtain ⟨ng, hng⟩ : ∃ ng, m.neg = ng := ⟨_, rfl⟩
            rw [hng] at q0 hX hhx hbx hbX hbkX hterm hnb
            have HS := Lib.hid (And.intro hnx (And.intro htk (And.intro hwm (And.intro hem (And.intro hkx (And.intro hX (And.intro hhx (And.intro hbx (And.intro hbX (And.intro hbkX (And.intro hbn (And.intro hterm (And.intro htl (And.intro hL1 (And.intro hL1l (And.intro hng hnb))))))))))))))))
            clear hTT hnx htk hwm hem hkx hX hhx hbx hbX hbkX hbn hterm htl hL1 hL1l hpl hL0l hng hnb hbk hbw hMi hx1 hx2
            have hend : ∀ (st : List UInt8) (w9 : World), signT (true && ((ms.map MonoV.term).take k).isEmpty) m.term = st → BuildAt w1.heap.size w1.heap.size (.pointer (some ⟨w1.heap.size, 0, none⟩)) (L1 ++ st ++ TT) w9 → Below w1.heap.size w1 w9 → ShowTerm w1 L0 ms (.int .i64 ((k : Int) + 1)) w9 := fun st w9 hs h1 h2 => by
              refine ⟨k + 1, congrArg (Value.int .i64) (by omega), hkl, ?_, h2⟩
              rw [HS.out.2.1, HS.out.1, hs, ← List.append_assoc, HS.out.2.2.2.2.2.2.2.2.2.2.2.2.2.1, ← List.append_assoc]
              exact h1.build
            have HE := Lib.hid hend
            clear hend
            cases ng with
            | true =>
              by_cases hk0 : 0 < k
              · have hk0' : (0 : Int) < (k : Int) := by omega
                have hsg : signT (true && ((ms.map MonoV.term).take k).isEmpty) m.term = [32, 45, 32] := by
                  have e : ((ms.map MonoV.term).take k).isEmpty = false := by
                    rw [List.isEmpty_eq_false_iff]
                    intro h
                    have := congrArg List.length h
                    rw [List.length_take, List.length_map] at this
                    have e0 : ([] : List Term).length = 0 := rfl
                    omega
                  rw [e, signT, HS.out.2.2.2.2.2.2.2.2.2.2.2.2.2.2.2.2]; rfl
                have e0 := HS.out.2.2.2.2.2.1.c0
                have e1 := HS.out.2.2.2.2.2.1.c1
                have e2 := HS.out.2.2.2.2.2.1.c2
                have e3 := HS.out.2.2.2.2.2.1.c3
                have hws := write_keep w1.heap.size w1.heap.size L1 [32, 45, 32] (wr.alloc (.cells #[.bool true, .int .i64 m.exp, .slice aw lw cw, .slice ae le ce] 44)) HS.out.2.2.2.2.2.2.2.2.2.1 (by have := HS.out.2.2.2.2.2.2.2.2.2.2.2.2.2.2.1; simp; omega) HS.out.2.2.2.2.2.2.2.2.1.size
                have HA := Lib.hid (And.intro hsg hws)
                clear hsg hws
                go_wp2_with (first
                  | (go_at_call_of 31 (Value.pointer (some ⟨w1.heap.size, 0, none⟩)); refine H6.out.2.mono ?_; rintro r w7 ⟨rfl, hb7, hbl7, _⟩
                     have H7 := Lib.hid (And.intro hb7 (Below.trans H6.out.1 hbl7))
                     clear hb7 hbl7)
                  | (go_at_call_of 33 (Value.agg #[.bool true, .int .i64 m.exp, .slice aw lw cw, .slice ae le ce]); refine H5.out.2.2.mono ?_; rintro r w6 ⟨rfl, hb6⟩
                     have hb6w := Below.next0 H5.out.2.1 hb6
                     have hwt := write_keep w1.heap.size w1.heap.size (L1 ++ [32, 45, 32]) TT w6 (BuildAt.call H5.out.1 hb6).build (by have := HS.out.2.2.2.2.2.2.2.2.2.2.2.2.2.2.1; have := HS.out.2.2.2.2.2.2.2.2.2.2.2.2.1; rw [List.length_append]; simp; omega) hb6w.size
                     have H6 := Lib.hid (And.intro hb6w hwt)
                     clear hb6 hb6w hwt)
                  | (go_at_call_of 31 (Value.pointer (some ⟨w1.heap.size, 0, none⟩)); refine HA.out.2.mono ?_; rintro r w5 ⟨rfl, hb5, hbl5, hkp5⟩
                     have hX5 := HS.out.2.2.2.2.2.1.onKept (hkp5 wr.heap.size _ _ _ HS.out.2.2.2.2.2.2.1 (by decide) (fun e => HS.out.2.2.2.2.2.2.2.2.2.2.1 e.symm))
                     have e0 := hX5.c0
                     have e1 := hX5.c1
                     have e2 := hX5.c2
                     have e3 := hX5.c3
                     have hb5w := Below.trans HS.out.2.2.2.2.2.2.2.2.1 hbl5
                     have hb50 := Below.next0 H1.out hb5w
                     have htm := HS.out.2.2.2.2.2.2.2.2.2.2.2.1 w5 (HS.out.2.2.1.step hb5w) (HS.out.2.2.2.1.step hb5w) HS.out.2.2.2.2.1 (by omega) (H.out.2.2.2.1.step hb50) (H.out.2.2.2.2.1.step hb50)
                     have H5 := Lib.hid (And.intro hb5 (And.intro hb5w htm))
                     clear hb5 hbl5 hkp5 hX5 hb5w hb50 htm))
                exact ⟨HE.out _ _ HA.out.1 H7.out.1 H7.out.2, by simp only [intOf]; omega⟩
              · have hk0' : ¬ ((0 : Int) < (k : Int)) := by omega
                have hsg : signT (true && ((ms.map MonoV.term).take k).isEmpty) m.term = [45] := by
                  have e : ((ms.map MonoV.term).take k).isEmpty = true := by
                    rw [show k = 0 by omega]; rfl
                  rw [e, signT, HS.out.2.2.2.2.2.2.2.2.2.2.2.2.2.2.2.2]; rfl
                have e0 := HS.out.2.2.2.2.2.1.c0
                have e1 := HS.out.2.2.2.2.2.1.c1
                have e2 := HS.out.2.2.2.2.2.1.c2
                have e3 := HS.out.2.2.2.2.2.1.c3
                have hws := write_keep w1.heap.size w1.heap.size L1 [45] (wr.alloc (.cells #[.bool true, .int .i64 m.exp, .slice aw lw cw, .slice ae le ce] 44)) HS.out.2.2.2.2.2.2.2.2.2.1 (by have := HS.out.2.2.2.2.2.2.2.2.2.2.2.2.2.2.1; simp; omega) HS.out.2.2.2.2.2.2.2.2.1.size
                have HA := Lib.hid (And.intro hsg hws)
                clear hsg hws
                go_wp2_with (first
                  | (go_at_call_of 31 (Value.pointer (some ⟨w1.heap.size, 0, none⟩)); refine H6.out.2.mono ?_; rintro r w7 ⟨rfl, hb7, hbl7, _⟩
                     have H7 := Lib.hid (And.intro hb7 (Below.trans H6.out.1 hbl7))
                     clear hb7 hbl7)
                  | (go_at_call_of 33 (Value.agg #[.bool true, .int .i64 m.exp, .slice aw lw cw, .slice ae le ce]); refine H5.out.2.2.mono ?_; rintro r w6 ⟨rfl, hb6⟩
                     have hb6w := Below.next0 H5.out.2.1 hb6
                     have hwt := write_keep w1.heap.size w1.heap.size (L1 ++ [45]) TT w6 (BuildAt.call H5.out.1 hb6).build (by have := HS.out.2.2.2.2.2.2.2.2.2.2.2.2.2.2.1; have := HS.out.2.2.2.2.2.2.2.2.2.2.2.2.1; rw [List.length_append]; simp; omega) hb6w.size
                     have H6 := Lib.hid (And.intro hb6w hwt)
                     clear hb6 hb6w hwt)
                  | (go_at_call_of 31 (Value.pointer (some ⟨w1.heap.size, 0, none⟩)); refine HA.out.2.mono ?_; rintro r w5 ⟨rfl, hb5, hbl5, hkp5⟩
                     have hX5 := HS.out.2.2.2.2.2.1.onKept (hkp5 wr.heap.size _ _ _ HS.out.2.2.2.2.2.2.1 (by decide) (fun e => HS.out.2.2.2.2.2.2.2.2.2.2.1 e.symm))
                     have e0 := hX5.c0
                     have e1 := hX5.c1
                     have e2 := hX5.c2
                     have e3 := hX5.c3
                     have hb5w := Below.trans HS.out.2.2.2.2.2.2.2.2.1 hbl5
                     have hb50 := Below.next0 H1.out hb5w
                     have htm := HS.out.2.2.2.2.2.2.2.2.2.2.2.1 w5 (HS.out.2.2.1.step hb5w) (HS.out.2.2.2.1.step hb5w) HS.out.2.2.2.2.1 (by omega) (H.out.2.2.2.1.step hb50) (H.out.2.2.2.2.1.step hb50)
                     have H5 := Lib.hid (And.intro hb5 (And.intro hb5w htm))
                     clear hb5 hbl5 hkp5 hX5 hb5w hb50 htm))
                exact ⟨HE.out _ _ HA.out.1 H7.out.1 H7.out.2, by simp only [intOf]; omega⟩
            | false =>
              by_cases hk0 : 0 < k
              · have hk0' : (0 : Int) < (k : Int) := by omega
                have hsg : signT (true && ((ms.map MonoV.term).take k).isEmpty) m.term = [32, 43, 32] := by
                  have e : ((ms.map MonoV.term).take k).isEmpty = false := by
                    rw [List.isEmpty_eq_false_iff]
                    intro h
                    have := congrArg List.length h
                    rw [List.length_take, List.length_map] at this
                    have e0 : ([] : List Term).length = 0 := rfl
                    omega
                  rw [e, signT, HS.out.2.2.2.2.2.2.2.2.2.2.2.2.2.2.2.2]; rfl
                have e0 := HS.out.2.2.2.2.2.1.c0
                have e1 := HS.out.2.2.2.2.2.1.c1
                have e2 := HS.out.2.2.2.2.2.1.c2
                have e3 := HS.out.2.2.2.2.2.1.c3
                have hws := write_keep w1.heap.size w1.heap.size L1 [32, 43, 32] (wr.alloc (.cells #[.bool false, .int .i64 m.exp, .slice aw lw cw, .slice ae le ce] 44)) HS.out.2.2.2.2.2.2.2.2.2.1 (by have := HS.out.2.2.2.2.2.2.2.2.2.2.2.2.2.2.1; simp; omega) HS.out.2.2.2.2.2.2.2.2.1.size
                have HA := Lib.hid (And.intro hsg hws)
                clear hsg hws
                go_wp2_with (first
                  | (go_at_call_of 31 (Value.pointer (some ⟨w1.heap.size, 0, none⟩)); refine H6.out.2.mono ?_; rintro r w7 ⟨rfl, hb7, hbl7, _⟩
                     have H7 := Lib.hid (And.intro hb7 (Below.trans H6.out.1 hbl7))
                     clear hb7 hbl7)
                  | (go_at_call_of 33 (Value.agg #[.bool false, .int .i64 m.exp, .slice aw lw cw, .slice ae le ce]); refine H5.out.2.2.mono ?_; rintro r w6 ⟨rfl, hb6⟩
                     have hb6w := Below.next0 H5.out.2.1 hb6
                     have hwt := write_keep w1.heap.size w1.heap.size (L1 ++ [32, 43, 32]) TT w6 (BuildAt.call H5.out.1 hb6).build (by have := HS.out.2.2.2.2.2.2.2.2.2.2.2.2.2.2.1; have := HS.out.2.2.2.2.2.2.2.2.2.2.2.2.1; rw [List.length_append]; simp; omega) hb6w.size
                     have H6 := Lib.hid (And.intro hb6w hwt)
                     clear hb6 hb6w hwt)
                  | (go_at_call_of 31 (Value.pointer (some ⟨w1.heap.size, 0, none⟩)); refine HA.out.2.mono ?_; rintro r w5 ⟨rfl, hb5, hbl5, hkp5⟩
                     have hX5 := HS.out.2.2.2.2.2.1.onKept (hkp5 wr.heap.size _ _ _ HS.out.2.2.2.2.2.2.1 (by decide) (fun e => HS.out.2.2.2.2.2.2.2.2.2.2.1 e.symm))
                     have e0 := hX5.c0
                     have e1 := hX5.c1
                     have e2 := hX5.c2
                     have e3 := hX5.c3
                     have hb5w := Below.trans HS.out.2.2.2.2.2.2.2.2.1 hbl5
                     have hb50 := Below.next0 H1.out hb5w
                     have htm := HS.out.2.2.2.2.2.2.2.2.2.2.2.1 w5 (HS.out.2.2.1.step hb5w) (HS.out.2.2.2.1.step hb5w) HS.out.2.2.2.2.1 (by omega) (H.out.2.2.2.1.step hb50) (H.out.2.2.2.2.1.step hb50)
                     have H5 := Lib.hid (And.intro hb5 (And.intro hb5w htm))
                     clear hb5 hbl5 hkp5 hX5 hb5w hb50 htm))
                exact ⟨HE.out _ _ HA.out.1 H7.out.1 H7.out.2, by simp only [intOf]; omega⟩
              · have hk0' : ¬ ((0 : Int) < (k : Int)) := by omega
                have hsg : signT (true && ((ms.map MonoV.term).take k).isEmpty) m.term = [] := by
                  have e : ((ms.map MonoV.term).take k).isEmpty = true := by
                    rw [show k = 0 by omega]; rfl
                  rw [e, signT, HS.out.2.2.2.2.2.2.2.2.2.2.2.2.2.2.2.2]; rfl
                have e0 := HS.out.2.2.2.2.2.1.c0
                have e1 := HS.out.2.2.2.2.2.1.c1
                have e2 := HS.out.2.2.2.2.2.1.c2
                have e3 := HS.out.2.2.2.2.2.1.c3
                have hbX0 := Below.next0 H1.out HS.out.2.2.2.2.2.2.2.2.1
                have htm := HS.out.2.2.2.2.2.2.2.2.2.2.2.1 _ (HS.out.2.2.1.step HS.out.2.2.2.2.2.2.2.2.1) (HS.out.2.2.2.1.step HS.out.2.2.2.2.2.2.2.2.1) HS.out.2.2.2.2.1 (by omega) (H.out.2.2.2.1.step hbX0) (H.out.2.2.2.2.1.step hbX0)
                have HA := Lib.hid (And.intro hsg htm)
                clear hsg htm hbX0
                go_wp2_with (first
                  | (go_at_call_of 31 (Value.pointer (some ⟨w1.heap.size, 0, none⟩)); refine H6.out.2.mono ?_; rintro r w7 ⟨rfl, hb7, hbl7, _⟩
                     have H7 := Lib.hid (And.intro hb7 (Below.trans H6.out.1 hbl7))
                     clear hb7 hbl7)
                  | (go_at_call_of 33 (Value.agg #[.bool false, .int .i64 m.exp, .slice aw lw cw, .slice ae le ce]); refine HA.out.2.mono ?_; rintro r w6 ⟨rfl, hb6⟩
                     have hb6w := Below.next0 HS.out.2.2.2.2.2.2.2.2.1 hb6
                     have hwt := write_keep w1.heap.size w1.heap.size L1 TT w6 (HS.out.2.2.2.2.2.2.2.2.2.1.call hb6) (by have := HS.out.2.2.2.2.2.2.2.2.2.2.2.2.2.2.1; have := HS.out.2.2.2.2.2.2.2.2.2.2.2.2.1; omega) hb6w.size
                     have H6 := Lib.hid (And.intro hb6w hwt)
                     clear hb6 hb6w hwt))
                exact ⟨HE.out [] _ HA.out.1 (by rw [List.append_nil]; exact H7.out.1) H7.out.2, by simp only [intOf]; omega⟩
          · have hkl' : ¬ ((k : Int) < (l : Int)) := by omega
            have hke : k = ms.length := by omega
            have htk : (ms.map MonoV.term).take k = ms.map MonoV.term := List.take_of_length_le (by rw [List.length_map]; omega)
            rw [htk] at hbk
            have hpl := poly_length HR.out.2.2.1 ms.length
            have h0 : (ms.map MonoV.term).length = ms.length := List.length_map ..
            rw [← h0, List.take_length] at hpl
            have hL0l : L0.length ≤ 672806 := by rw [← HL.out, List.length_append, head_len i (by omega)]; have := HR.out.2.2.2.1; omega
            have hw10 := write_keep w1.heap.size w1.heap.size (L0 ++ termsT true (ms.map MonoV.term)) [10] wr hbk (by rw [List.length_append]; simp; omega) hbw.size
            have HW := Lib.hid (And.intro hw10 hbw)
            clear hbk htk hke hpl hL0l hw10 hbw
            go_wp2_with (go_at_call_of 31 (Value.pointer (some ⟨w1.heap.size, 0, none⟩)); refine HW.out.1.mono ?_; rintro r w5 ⟨rfl, hb5, hbl5, _⟩; have H5 := Lib.hid (And.intro hb5 hbl5); clear hb5 hbl5)
            refine ⟨⟨i + 1, congrArg (Value.int .i64) (by omega), hlt, ?_, Below.trans HW.out.2 H5.out.2⟩, by simp only [intOf]; omega⟩
            rw [HR.out.2.2.2.2.1, fieldT_snoc]
            have e : (fieldT 0 ((termsF F).take i) ++ lineT (0 + ((termsF F).take i).length) (ms.map MonoV.term)) = L0 ++ termsT true (ms.map MonoV.term) ++ [10] := by
              rw [show 0 + ((termsF F).take i).length = i by rw [List.length_take]; unfold termsF; rw [List.length_map]; omega, hfin, ← HL.out, polyT, if_neg (by intro h; exact HN0.out (List.map_eq_nil_iff.1 h))]
              simp only [List.append_assoc]
            rw [e]
            exact H5.out.1.build
    · have hlt' : ¬ ((i : Int) < (n : Int)) := by omega
      have hie : i = F.length := by omega
      have hall : (termsF F).take i = termsF F := List.take_of_length_le (by unfold termsF; rw [List.length_map]; omega)
      rw [hall] at hbd
      have hne : fieldT 0 (termsF F) ≠ [] := by
        intro e
        have h1 := congrArg (List.count 10) e
        rw [ten_field] at h1
        have h2 : (termsF F).length = F.length := by unfold termsF; exact List.length_map ..
        have h3 := H.out.2.1.1
        have h4 : List.count (10 : UInt8) [] = 0 := rfl
        omega
      have hstr := Tryz.Builder_String w1.heap.size w1.heap.size (fieldT 0 (termsF F)) wr hbd hne
      have HS := Lib.hid (And.intro hstr hbr)
      clear hbd hall hie hne hstr hbr
      go_wp2_with (go_at_call_of 34 (Value.pointer (some ⟨w1.heap.size, 0, none⟩)); refine HS.out.1.mono ?_; rintro r w9 ⟨rfl, hb9⟩; have H9 := Lib.hid (Below.trans HS.out.2 hb9); clear hb9)
      go_ret
      exact ⟨fun _ => rfl, fun h => absurd H.out.2.1 h, Below.next0 H1.out H9.out⟩
end Go.Proofs.YtdilmfakkppgpaaGreatDoor
namespace Go.Proofs.YtdilmfakkppgpaaGreatDoor
open Go.RowKit WordsM DecM
def deepT (k : Nat) : List UInt8 := List.replicate k 40 ++ ([120, 49] ++ List.replicate k 41)
def nest : Nat → Ex
  | 0 => .sum [(false, .prod [.var 0])]
  | k + 1 => .sum [(false, .prod [nest k])]
def stopB (c : UInt8) : Prop := c ≠ 32 ∧ c ≠ 94 ∧ c ≠ 42 ∧ c ≠ 43 ∧ c ≠ 45
theorem expr_one {sub : Nat → PR Ex} {opens : Bool} {s : List UInt8} {most p q : Nat} {x : Ex} {c : UInt8} {t : List UInt8} (hb : baseP sub opens s most p = .ok (x, q)) (h45 : byteAt s p ≠ 45) (h32 : byteAt s p ≠ 32) (hq : At s q (c :: t)) (hc : stopB c) : exprP sub opens s most p = .ok (.sum [(false, .prod [x])], q) := by
  have h0 : skipB s p = p := skip_stop h32
  have h1 : skipB s q = q := hq.skip0 hc.1
  have h2 : byteAt s q = c := hq.byte.1
  obtain ⟨_, c1, c2, c3, c4⟩ := hc
  have hf : factorP sub opens s most p = .ok (x, q) := by
    unfold factorP
    rw [hb]
    simp only
    rw [h1, h2, if_neg c1]
  have ht : termP sub opens s most (s.length + 1) p [] = .ok (.prod [x], q) := by
    rw [termP, hf]
    simp only
    rw [h1, h2, if_neg c2]; rfl
  have hs : sumP sub opens s most (s.length + 1) p false [] = .ok (.sum [(false, .prod [x])], q) := by
    rw [sumP, ht]
    simp only
    rw [h1, h2, if_neg c3, if_neg c4]; rfl
  unfold exprP
  rw [h0, if_neg h45, hs]
theorem expr_err {sub : Nat → PR Ex} {opens : Bool} {s : List UInt8} {most p e : Nat} (hb : baseP sub opens s most p = .error e) (h45 : byteAt s p ≠ 45) (h32 : byteAt s p ≠ 32) : exprP sub opens s most p = .error e := by
  have h0 : skipB s p = p := skip_stop h32
  have hf : factorP sub opens s most p = .error e := by unfold factorP; rw [hb]
  have ht : termP sub opens s most (s.length + 1) p [] = .error e := by rw [termP, hf]
  have hs : sumP sub opens s most (s.length + 1) p false [] = .error e := by rw [sumP, ht]
  unfold exprP
  rw [h0, if_neg h45, hs]
theorem base_x {s : List UInt8} {p : Nat} {t : List UInt8} (h : At s p ([120, 49] ++ t)) (sub : Nat → PR Ex) (opens : Bool) {most : Nat} (hm : 1 ≤ most) : baseP sub opens s most p = .ok (.var 0, p + 2) := by
  have h1 := At.byte (t := 49 :: t) h
  have h2 := At.byte (t := t) h1.2
  unfold baseP
  rw [skip_stop (p := p) (by rw [h1.1]; decide), h1.1, if_neg (by decide), if_pos rfl, h2.1, if_pos (by constructor; decide; show 49 ≤ 48 + most; omega)]
  rfl
theorem base_open {s : List UInt8} {p : Nat} {t : List UInt8} (h : At s p (40 :: t)) (sub : Nat → PR Ex) (most : Nat) : baseP sub true s most p = (match sub (p + 1) with
    | .error e => .error e
    | .ok (x, q) => if byteAt s (skipB s q) = 41 then .ok (x, skipB s q + 1) else .error (skipB s q)) := by
  have h1 := h.byte
  unfold baseP
  rw [skip_stop (p := p) (by rw [h1.1]; decide), h1.1, if_neg (by decide), if_neg (by decide), if_pos ⟨rfl, rfl⟩]
  cases sub (p + 1) <;> rfl
theorem base_shut {s : List UInt8} {p : Nat} {t : List UInt8} (h : At s p (40 :: t)) (sub : Nat → PR Ex) (most : Nat) : baseP sub false s most p = .error p := by
  have h1 := h.byte
  unfold baseP
  rw [skip_stop (p := p) (by rw [h1.1]; decide), h1.1, if_neg (by decide), if_neg (by decide), if_neg (by simp)]
theorem deep_ok {s : List UInt8} {most : Nat} (hm : 1 ≤ most) : ∀ (k d p : Nat) (c : UInt8) (t : List UInt8), k ≤ d → At s p (deepT k ++ c :: t) → stopB c → exprD s most d p = .ok (nest k, p + (2 + 2 * k))
  | 0, d, p, c, t, _, ha, hc => by
    have h0 : At s p ([120, 49] ++ c :: t) := by simpa [deepT] using ha
    have h1 := At.byte (t := 49 :: c :: t) h0
    have h2 : At s (p + 2) (c :: t) := At.app h0
    cases d with
    | zero => exact expr_one (base_x h0 _ _ hm) (by rw [h1.1]; decide) (by rw [h1.1]; decide) h2 hc
    | succ d => exact expr_one (base_x h0 _ _ hm) (by rw [h1.1]; decide) (by rw [h1.1]; decide) h2 hc
  | k + 1, 0, _, _, _, hk, _, _ => by omega
  | k + 1, d + 1, p, c, t, hk, ha, hc => by
    have h0 : At s p (40 :: (deepT k ++ 41 :: c :: t)) := by
      have e : deepT (k + 1) ++ c :: t = 40 :: (deepT k ++ 41 :: c :: t) := by
        unfold deepT
        rw [List.replicate_succ, List.replicate_succ' (n := k) (a := 41)]
        simp
      rwa [e] at ha
    have h1 := h0.byte
    have ih := deep_ok hm k d (p + 1) 41 (c :: t) (by omega) h1.2 (by unfold stopB; decide)
    have hlen : (deepT k).length = 2 + 2 * k := by simp [deepT]; omega
    have h2 := At.app h1.2
    rw [hlen] at h2
    have hb : baseP (exprD s most d) true s most p = .ok (nest k, p + 1 + (2 + 2 * k) + 1) := by
      rw [base_open h0, ih]
      simp only
      rw [h2.skip0 (by decide), if_pos h2.byte.1]
    have h3 := expr_one hb (by rw [h1.1]; decide) (by rw [h1.1]; decide) h2.byte.2 hc
    rw [exprD, h3, nest]
    congr 2
    omega
theorem deep_bad {s : List UInt8} {most : Nat} : ∀ (d p : Nat) (t : List UInt8), At s p (List.replicate (d + 1) 40 ++ t) → exprD s most d p = .error (p + d)
  | 0, p, t, ha => by
    have h1 := At.byte (t := t) ha
    exact expr_err (base_shut (t := t) ha _ _) (by rw [h1.1]; decide) (by rw [h1.1]; decide)
  | d + 1, p, t, ha => by
    rw [List.replicate_succ, List.cons_append] at ha
    have h1 := ha.byte
    have ih := deep_bad (most := most) d (p + 1) t h1.2
    rw [exprD]
    refine expr_err ?_ (by rw [h1.1]; decide) (by rw [h1.1]; decide)
    rw [base_open ha, ih]
    simp only
    congr 1
    omega
def deepL (k i : Nat) : List UInt8 := headM i ++ (deepT k ++ [10])
def deepF (k : Nat) : Nat → Nat → List UInt8
  | _, 0 => []
  | i, m + 1 => deepL k i ++ deepF k (i + 1) m
theorem deepL_len {k i : Nat} (hi : i < 9) : (deepL k i).length = 9 + 2 * k := by
  have := head_len i hi
  simp [deepL, deepT, this]; omega
theorem deepF_snoc (k : Nat) : ∀ (i m : Nat), deepF k i (m + 1) = deepF k i m ++ deepL k (i + m)
  | i, 0 => by simp [deepF]
  | i, m + 1 => by rw [deepF, deepF_snoc k (i + 1) m, deepF, List.append_assoc, show i + 1 + m = i + (m + 1) by omega]
theorem deepF_len (k : Nat) : ∀ (m i : Nat), i + m ≤ 9 → (deepF k i m).length = m * (9 + 2 * k)
  | 0, i, _ => by simp [deepF]
  | m + 1, i, h => by rw [deepF, List.length_append, deepL_len (by omega), deepF_len k m (i + 1) (by omega), Nat.add_mul]; omega
theorem deep_line {s : List UInt8} {most i p k : Nat} {t : List UInt8} (hm : 1 ≤ most) (hi : i < 9) (hk : k ≤ 16) (ha : At s p (deepL k i ++ t)) : lineP s most i p = .ok (nest k, p + (9 + 2 * k)) := by
  have h1 : At s p (headM i ++ (deepT k ++ 10 :: t)) := by simpa [deepL] using ha
  have h2 := At.fixed h1
  have h3 := At.app h1
  have h4 := deep_ok hm k 16 _ 10 t hk h3 (by unfold stopB; decide)
  have hlen : (deepT k).length = 2 + 2 * k := by simp [deepT]; omega
  have h5 := At.app h3
  have h6 := h5.skip0 (by decide)
  rw [hlen] at h5 h6
  unfold lineP
  rw [h2]
  simp only
  rw [h4]
  simp only
  rw [h6, if_pos h5.byte.1, head_len i hi]
  congr 2
  omega
theorem deep_lines {s : List UInt8} {most k : Nat} (hm : 1 ≤ most) (hk : k ≤ 16) : ∀ (f m p : Nat) (acc : List (Nat × Ex)), 1 ≤ m → acc.length + f ≤ 9 → p ≤ s.length → At s p (deepF k acc.length m) →
    (m ≤ f → ∃ ls, linesP s most f p acc = .ok (acc ++ ls) ∧ ls.length = m ∧ ∀ z ∈ ls, z.2 = nest k) ∧ (f < m → linesP s most f p acc = .error (p + f * (9 + 2 * k)))
  | 0, m, p, acc, h1, _, _, _ => ⟨fun h => by omega, fun _ => by rw [linesP]; simp⟩
  | f + 1, 0, p, acc, h1, _, _, _ => by omega
  | f + 1, 1, p, acc, h1, h9, hp, ha => by
    refine ⟨fun _ => ?_, fun h => by omega⟩
    have hl := deep_line (t := []) hm (by omega) hk ha
    have hn := ha.len hp
    rw [deepF, deepF, List.append_nil, deepL_len (by omega)] at hn
    refine ⟨[(p, nest k)], ?_, rfl, fun z hz => by rw [List.mem_singleton] at hz; rw [hz]⟩
    rw [linesP, hl]
    simp only
    rw [if_neg (by omega)]
  | f + 1, m + 2, p, acc, h1, h9, hp, ha => by
    have hl := deep_line (t := deepF k (acc.length + 1) (m + 1)) hm (by omega) hk ha
    have h2 : At s (p + (deepL k acc.length).length) (deepF k (acc.length + 1) (m + 1)) := At.app ha
    have hn := ha.len hp
    rw [deepF, deepF, List.length_append, List.length_append, deepL_len (by omega)] at hn
    rw [deepL_len (by omega)] at h2
    have hpos : 0 < (deepL k (acc.length + 1)).length := by simp [deepL]; omega
    have ih := deep_lines (s := s) (most := most) hm hk f (m + 1) (p + (9 + 2 * k)) (acc ++ [(p, nest k)]) (by omega) (by simp; omega) (by omega) (by rw [List.length_append]; exact h2)
    have hstep : linesP s most (f + 1) p acc = linesP s most f (p + (9 + 2 * k)) (acc ++ [(p, nest k)]) := by
      rw [linesP, hl]
      simp only
      rw [if_pos (by omega)]
    refine ⟨fun h => ?_, fun h => ?_⟩
    · obtain ⟨ls, g1, g2, g3⟩ := ih.1 (by omega)
      refine ⟨(p, nest k) :: ls, by rw [hstep, g1]; simp, by simp [g2], fun z hz => ?_⟩
      rcases List.mem_cons.1 hz with rfl | hz
      · rfl
      · exact g3 z hz
    · rw [hstep, ih.2 (by omega), Nat.add_mul f 1]
      congr 1
      omega
theorem eval_nest (n : Nat) : ∀ k, evalM n (nest k) = .ok [(1, scaleE n 0 1)]
  | 0 => by
    rw [nest, evalM, evalS, evalM, evalP, eval_var]
    simp only [evalP, evalS, Option.getD]
    rfl
  | k + 1 => by
    rw [nest, evalM, evalS, evalM, evalP, eval_nest n k]
    simp only [evalP, evalS, Option.getD]
    rfl
theorem eval_nests (n k : Nat) : ∀ (ls : List (Nat × Ex)) (acc : List (List Term)), (∀ z ∈ ls, z.2 = nest k) → evalLines n ls acc = .ok (acc ++ List.replicate ls.length [(1, scaleE n 0 1)])
  | [], acc, _ => by simp [evalLines]
  | (p, x) :: r, acc, h => by
    have hx : x = nest k := h (p, x) (by simp)
    subst hx
    rw [evalLines, eval_nest]
    simp only
    rw [eval_nests n k r _ (fun z hz => h z (by simp [hz])), List.length_cons, List.replicate_succ, List.append_assoc]
    rfl
theorem deep_count (k : Nat) : ∀ (m i : Nat), (deepF k i m).count 10 = m
  | 0, _ => rfl
  | m + 1, i => by
    have h1 : (deepL k i).count 10 = 1 := by
      rw [deepL, headM, deepT]
      simp only [List.count_append, List.count_cons, no_ten_dec, List.count_replicate]
      rfl
    rw [deepF, List.count_append, h1, deep_count k m (i + 1)]; omega
theorem parse_deep (k n : Nat) (hn : 1 ≤ n) : (16 < k → parseM (deepF k 0 n) = .error (22, 5)) ∧ (k ≤ 16 → 4 < n → parseM (deepF k 0 n) = .error (4 * (9 + 2 * k), 5)) ∧ (k ≤ 16 → n ≤ 4 → parseM (deepF k 0 n) = .ok (List.replicate n [(1, scaleE n 0 1)])) := by
  have ha : At (deepF k 0 n) 0 (deepF k 0 n) := rfl
  refine ⟨fun hk => ?_, fun hk h4 => ?_, fun hk h4 => ?_⟩
  · obtain ⟨m, rfl⟩ : ∃ m, n = m + 1 := ⟨n - 1, by omega⟩
    have h1 : At (deepF k 0 (m + 1)) 0 (headM 0 ++ (List.replicate 17 40 ++ (List.replicate (k - 17) 40 ++ ([120, 49] ++ List.replicate k 41) ++ [10] ++ deepF k 1 m))) := by
      show _ = _
      rw [List.drop_zero, deepF, deepL, deepT]
      have e : List.replicate k (40 : UInt8) = List.replicate 17 40 ++ List.replicate (k - 17) 40 := by
        rw [List.replicate_append_replicate]; congr 1; omega
      rw [e]
      simp only [List.append_assoc]
    have h2 := At.fixed h1
    have h3 := At.app h1
    have h4 := deep_bad (most := min ((deepF k 0 (m + 1)).count 10) 4) 16 _ _ h3
    have h5 : linesP (deepF k 0 (m + 1)) (min ((deepF k 0 (m + 1)).count 10) 4) 4 0 [] = .error 22 := by
      rw [linesP]
      unfold lineP
      rw [List.length_nil, h2]
      simp only
      rw [h4, head_len 0 (by omega)]
    unfold parseM
    rw [h5]
  · have := (deep_lines (s := deepF k 0 n) (most := min ((deepF k 0 n).count 10) 4) (k := k) (by rw [deep_count]; omega) hk 4 n 0 [] hn (by simp) (Nat.zero_le _) ha).2 h4
    unfold parseM
    rw [this, Nat.zero_add]
  · obtain ⟨ls, h1, h2, h3⟩ := (deep_lines (s := deepF k 0 n) (most := min ((deepF k 0 n).count 10) 4) (k := k) (by rw [deep_count]; omega) hk 4 n 0 [] hn (by simp) (Nat.zero_le _) ha).1 h4
    unfold parseM
    rw [h1]
    simp only [List.nil_append]
    rw [h2, eval_nests n k ls [] h3, h2, List.nil_append]
end Go.Proofs.YtdilmfakkppgpaaGreatDoor
namespace Go.Proofs.YtdilmfakkppgpaaGreatDoor
open Go.RowKit WordsM DecM
structure Laid (w : World) : Prop where
  tab : Lib.TabIs Tryz.prog w "internal/strconv.uint64pow10" .u64 Lib.pow10Tab
  tz : TabIn w
  big : 2 < w.heap.size
theorem g_tab : Tryz.prog.globalNamed "internal/strconv.uint64pow10" = some 2 := by kernel_rfl
theorem Laid.below {w w' : World} (h : Laid w) (hb : Below w.heap.size w w') : Laid w' := ⟨var?_below hb g_tab h.big h.tab, h.tz.step hb, Nat.lt_of_lt_of_le h.big hb.size⟩
theorem Laid.pow {w : World} (h : Laid w) : PowIn w := fun _ hb => (h.below hb).tab
def kt1 : List UInt8 := [120, 49, 39, 32, 61, 32, 120, 50, 10, 120, 50, 39, 32, 61, 32, 45, 120, 49, 32, 43, 32, 51, 112, 45, 49, 42, 40, 120, 49, 32, 43, 32, 49, 41, 94, 50, 10]
def kt2 : List UInt8 := [120, 49, 39, 32, 61, 32, 43, 10]
def kt3 : List UInt8 := [120, 49, 39, 32, 61, 32, 120, 50, 10, 120, 50, 39, 32, 61, 32, 51, 112, 45, 49, 42, 120, 49, 94, 50, 32, 43, 32, 49, 112, 49, 42, 120, 49, 32, 43, 32, 51, 112, 45, 49, 10]
def kF : List (List Term) := [[(dy 1 0, [0, 1])], [(dy 3 (-1), [2, 0]), (dy 1 1, [1, 0]), (dy 3 (-1), [0, 0])]]
theorem kt_show : fieldT 0 kF = kt3 := by decide +kernel
theorem kt_one : parseM kt1 = .ok kF := by
  have h : (match parseM kt1 with | .ok F => decide (F = kF) | _ => false) = true := by decide +kernel
  revert h
  cases parseM kt1 with
  | error e => intro h; cases h
  | ok F => intro h; rw [of_decide_eq_true h]
theorem kt_two : parseM kt2 = .error (6, 5) := by
  have h : (match parseM kt2 with | .error e => decide (e = (6, 5)) | _ => false) = true := by decide +kernel
  revert h
  cases parseM kt2 with
  | ok F => intro h; cases h
  | error e => intro h; rw [of_decide_eq_true h]
set_option maxRecDepth 100000 in
set_option maxHeartbeats 8000000 in
theorem known_any (w : World) (hL : Laid w) :
    Calls Tryz.prog 8 #[] w fun e w' => e = .returned (.bool true) ∧ Below w.heap.size w w' := by
  have hp1 := fieldparse_any ⟨#[120, 49, 39, 32, 61, 32, 120, 50, 10, 120, 50, 39, 32, 61, 32, 45, 120, 49, 32, 43, 32, 51, 112, 45, 49, 42, 40, 120, 49, 32, 43, 32, 49, 41, 94, 50, 10]⟩ w (by decide) hL.tz
  rw [show parseM (⟨#[120, 49, 39, 32, 61, 32, 120, 50, 10, 120, 50, 39, 32, 61, 32, 45, 120, 49, 32, 43, 32, 51, 112, 45, 49, 42, 40, 120, 49, 32, 43, 32, 49, 41, 94, 50, 10]⟩ : ByteArray).data.toList = .ok kF from kt_one] at hp1
  have hp2 := fun W (hb : Below w.heap.size w W) => fieldparse_any ⟨#[120, 49, 39, 32, 61, 32, 43, 10]⟩ W (by decide) (hL.below hb).tz
  rw [show parseM (⟨#[120, 49, 39, 32, 61, 32, 43, 10]⟩ : ByteArray).data.toList = .error (6, 5) from kt_two] at hp2
  have hsv : sv (fieldT 0 kF) = .string ⟨#[120, 49, 39, 32, 61, 32, 120, 50, 10, 120, 50, 39, 32, 61, 32, 51, 112, 45, 49, 42, 120, 49, 94, 50, 32, 43, 32, 49, 112, 49, 42, 120, 49, 32, 43, 32, 51, 112, 45, 49, 10]⟩ := by rw [kt_show]; rfl
  have hkl : kF.length = 2 := rfl
  have H := Lib.hid (And.intro hp1 (And.intro hp2 (And.intro hsv (And.intro hL hkl))))
  clear hp1 hp2 hsv hL hkl
  go_enter Tryz.func8, Tryz.ntmps8
  go_wp2_with (first
    | (go_at_call_of 12 (Value.slice a1 2 c1); refine H2.out.2.mono ?_; rintro r w3 ⟨rfl, hb3⟩; have H3 := Lib.hid (Below.next0 H2.out.1 hb3); clear hb3)
    | (go_at_call 17; refine (H.out.2.1 w1 H1.out.1).mono ?_; rintro r w2 ⟨hb2, rfl⟩
       have hb2w := Below.next0 H1.out.1 hb2
       have hsh : Calls Tryz.prog 12 #[.slice a1 2 c1] w2 fun e w' => e = .returned (.string ⟨#[120, 49, 39, 32, 61, 32, 120, 50, 10, 120, 50, 39, 32, 61, 32, 51, 112, 45, 49, 42, 120, 49, 94, 50, 32, 43, 32, 49, 112, 49, 42, 120, 49, 32, 43, 32, 51, 112, 45, 49, 10]⟩) ∧ Below w2.heap.size w2 w' := (fieldshow_any a1 2 c1 Fv w2 (H1.out.2.1.step hb2) (H.out.2.2.2.1.below hb2w).tz (H.out.2.2.2.1.below hb2w).pow).mono (by rintro e w' ⟨h1, _, h2⟩; exact ⟨by rw [h1 H1.out.2.2.2, show termsF Fv = kF from H1.out.2.2.1, H.out.2.2.1], h2⟩)
       have H2 := Lib.hid (And.intro hb2w hsh)
       clear hb2 hb2w hsh)
    | (go_at_call 17; refine H.out.1.mono ?_; rintro r w1 ⟨hb1, a1, n1, c1, Fv, rfl, hF1, ht1, hr1⟩
       obtain rfl : n1 = 2 := by { have h0 := congrArg List.length ht1; rw [List.length_map, hF1.1, H.out.2.2.2.2] at h0; exact h0 }
       have H1 := Lib.hid (And.intro hb1 (And.intro hF1 (And.intro ht1 hr1)))
       clear hb1 hF1 ht1 hr1))
  go_ret
  exact ⟨rfl, H3.out⟩
end Go.Proofs.YtdilmfakkppgpaaGreatDoor
namespace Go.Proofs.YtdilmfakkppgpaaGreatDoor
open Go.RowKit
theorem lt_of_cell {w : World} {p : Addr} {v : Value} (h : w.cell? p = some v) : p.block < w.heap.size := by
  refine Nat.lt_of_not_le fun hle => ?_
  unfold World.cell? at h
  rw [Array.getElem?_eq_none hle] at h
  simp at h
theorem tab_laid {W : World} (h : laidMet Tryz.prog Rows.parseDeepRow.laid W) : Lib.TabIs Tryz.prog W "internal/strconv.uint64pow10" .u64 Lib.pow10Tab := by
  have h1 := h.tail.tail
  exact Lib.tabIs_of_head (rest := _) (t := 233) (e := 74) (n := 20) g_tab (by kernel_rfl) (by kernel_rfl) (by kernel_rfl) (by kernel_rfl) (by kernel_rfl) h1
theorem bru_laid {W : World} (h : laidMet Tryz.prog Rows.parseDeepRow.laid W) : TabIn W := by
  have h1 := h.tail
  have ht : Lib.TabIs Tryz.prog W "math/bits.deBruijn64tab" .u8 [0, 1, 56, 2, 57, 49, 28, 3, 61, 58, 42, 50, 38, 29, 17, 4, 62, 47, 59, 36, 45, 43, 51, 22, 53, 39, 33, 30, 24, 18, 12, 5, 63, 55, 48, 27, 60, 41, 37, 16, 46, 35, 44, 21, 52, 32, 23, 11, 54, 26, 40, 15, 34, 20, 31, 10, 25, 14, 19, 9, 13, 8, 7, 6] :=
    Lib.tabIs_of_head (rest := _) (g := 1) (t := 206) (e := 5) (n := 64) (by kernel_rfl) (by kernel_rfl) (by kernel_rfl) (by kernel_rfl) (by kernel_rfl) (by kernel_rfl) h1
  have hc := fun i hi => ht.cell (g := 1) (by kernel_rfl) i hi
  refine ⟨lt_of_cell (hc 0 (by decide)), fun j hj => ?_⟩
  have hj' : j < 64 := hj
  rw [hc j hj']
  have key : ∀ i : Fin 64, ([0, 1, 56, 2, 57, 49, 28, 3, 61, 58, 42, 50, 38, 29, 17, 4, 62, 47, 59, 36, 45, 43, 51, 22, 53, 39, 33, 30, 24, 18, 12, 5, 63, 55, 48, 27, 60, 41, 37, 16, 46, 35, 44, 21, 52, 32, 23, 11, 54, 26, 40, 15, 34, 20, 31, 10, 25, 14, 19, 9, 13, 8, 7, 6] : List Int).getD i.val 0 = ((Go.Lib.deBruijn64tab.getD i.val 0 : Nat) : Int) := by decide
  rw [key ⟨j, hj'⟩]
theorem laid_of {W : World} (h : laidMetH Tryz.prog Rows.parseDeepRow.laid W) (_hs : W.ShapedOpen Tryz.prog) : Laid W := by
  rw [MakeChecks.laidMetH_plain _ _ _ (by kernel_rfl)] at h
  have ht := tab_laid h
  exact ⟨ht, bru_laid h, lt_of_cell (ht.cell (g := 2) (by kernel_rfl) 0 (by decide))⟩
section
variable {H : Type} {enc : TypeId × Value → H}
theorem witness_row_shaped {C : Checked} {os : Os} {f : FuncId} {fn : Func} {s : OpenSpec} {conds : List PathCond} {apart : Bool} {laid : List (String × DataW Unit)} (modest : Bool) (w0 : World) (args : Array Value) (hos : w0.os = os)
    (hsh : (w0.forCall (fun _ _ => 0) ⟨#[], args, []⟩).Shaped C.prog) (hok : Input.okWideB C.prog (w0.forCall (fun _ _ => 0) ⟨#[], args, []⟩) f ⟨#[], args, []⟩ = true)
    (hrow : s.preRow enc C.prog fn conds apart laid (w0.forCall (fun _ _ => 0) ⟨#[], args, []⟩).memory args) :
    ∃ (w : World) (tape : Tape) (i : Input), w.os = os ∧ (w.forCall tape i).Shaped C.prog ∧ i.vars = [] ∧ Input.okWide C.prog (w.forCall tape i) .any w.heap.size f i ∧
      s.preRow enc C.prog fn conds apart laid (w.forCall tape i).memory i.args ∧ ({ modest := modest } : Assume).holds C.prog (lone (Frame.enter C.prog f i.args .normal) [] (w.forCall tape i)) :=
  ⟨w0, fun _ _ => 0, ⟨#[], args, []⟩, hos, hsh, (Input.okWide_of_okWideB (base := 0) hok).1, (Input.okWide_of_okWideB hok).2, hrow, by
    simp only [Assume.holds]
    exact ⟨by simp, by simp, fun _ => Modest.zero, by simp, by simp⟩⟩
end
theorem own : ownKnob Tryz.prog.godebug = none := by kernel_rfl
end Go.Proofs.YtdilmfakkppgpaaGreatDoor
namespace Go.Proofs.YtdilmfakkppgpaaGreatDoor
open Go.ChangeShapes Go.WideShapes Go.ChangeAt Go.RowKit
theorem nat_of_wf_u8 {a : Int} (h : (Lit.int .u8 a).wf = true) : ∃ n : Nat, a = (n : Int) ∧ n < 256 := by
  have hr : 0 ≤ a ∧ a ≤ 255 := by simpa [Lit.wf, IntKind.min, IntKind.max, IntKind.signed, IntKind.bits] using h
  exact ⟨a.toNat, by omega, by omega⟩
end Go.Proofs.YtdilmfakkppgpaaGreatDoor
namespace Go.Proofs.YtdilmfakkppgpaaGreatDoor
open Go.RowKit WordsM
def relOf : List (Nat × (Value → World → Prop)) → Nat → Option (Value → World → Prop)
  | [], _ => none
  | (i, φ) :: r, x => if x = i then some φ else relOf r x
def Stable (φ : Value → World → Prop) : Prop := ∀ v w w', φ v w → Below w.heap.size w w' → φ v w'
theorem relOf_grow : ∀ {l : List (Nat × (Value → World → Prop))}, (∀ p ∈ l, Stable p.2) → ∀ i φ, relOf l i = some φ → ∀ v w w', φ v w → Below w.heap.size w w' → φ v w'
  | [], _, i, φ, h => by cases h
  | (j, ψ) :: r, hs, i, φ, h => by
    unfold relOf at h
    split at h
    · injection h with h
      subst h
      exact hs (j, ψ) (by simp)
    · exact relOf_grow (fun p hp => hs p (by simp [hp])) i φ h
theorem stab1 {i : Nat} {φ : Value → World → Prop} (h : Stable φ) : ∀ p ∈ [(i, φ)], Stable p.2 := fun p hp => by rw [List.mem_singleton] at hp; subst hp; exact h
end Go.Proofs.YtdilmfakkppgpaaGreatDoor
