/- Part 8 of the proof of LawParseDeep: NumD, NumE, NumF, PolyM. Condition: as each theorem says; none at the end. -/
import Derived.Test.YtdilmfakkppgpaaGreatDoorPkParseDeep03
import Derived.Test.YtdilmfakkppgpaaGreatDoorPkParseDeep05
import Derived.Test.YtdilmfakkppgpaaGreatDoorPkParseDeep06
import Derived.Test.YtdilmfakkppgpaaGreatDoorPkParseDeep07
namespace Go.Proofs.YtdilmfakkppgpaaGreatDoor
open Go.RowKit WordsM
def FitRes (w : World) (D : Dyadic) (r : Ending) (w' : World) : Prop := ∃ n' e' a' l' c' L er, r = .returned (.tuple #[.agg #[.bool n', .int .i64 e', .slice a' l' c'], .int .i64 er]) ∧ FitOut D n' e' L er ∧ NewIn w w' a' l' c' L ∧ Below w.heap.size w w'
set_option maxRecDepth 100000 in
set_option maxHeartbeats 4000000 in
theorem made_any (n : Bool) (e : Int) (a : Option Addr) (l c : Nat) (L : List Nat) (w : World) (h : WordsIn w a l c L) (hT : TabIn w) (hl : l ≤ 100000) (he : -1000000000 ≤ e) (he2 : e ≤ 1000000000) :
    Calls Tryz.prog 232 #[.agg #[.bool n, .int .i64 e, .slice a l c]] w (FitRes w (numD n e L)) := by
  have hs1 : (w.alloc (.cells #[.bool n, .int .i64 e, .slice a l c] 41)).heap.size = w.heap.size + 1 := World.size_alloc _ _
  have hb1 : Below w.heap.size w (w.alloc (.cells #[.bool n, .int .i64 e, .slice a l c] 41)) := (Below.refl _ _).alloc (Nat.le_refl _) _
  have hb2 : Below (w.alloc (.cells #[.bool n, .int .i64 e, .slice a l c] 41)).heap.size (w.alloc (.cells #[.bool n, .int .i64 e, .slice a l c] 41)) ((w.alloc (.cells #[.bool n, .int .i64 e, .slice a l c] 41)).alloc (.cells #[.bool false, .int .i64 0, .slice none 0 0] 41)) := (Below.refl _ _).alloc (Nat.le_refl _) _
  have hX := (NumBox.new w (.bool n) (.int .i64 e) (.slice a l c) 41).step hb2 (box_lt _ _)
  have hR := NumBox.new (w.alloc (.cells #[.bool n, .int .i64 e, .slice a l c] 41)) (.bool false) (.int .i64 0) (.slice none 0 0) 41
  have hsz := box_lt (w.alloc (.cells #[.bool n, .int .i64 e, .slice a l c] 41)) (.cells #[.bool false, .int .i64 0, .slice none 0 0] 41)
  rw [hs1] at hR hsz
  have hB := Below.next0 hb1 hb2
  generalize hW : (w.alloc (.cells #[.bool n, .int .i64 e, .slice a l c] 41)).alloc (.cells #[.bool false, .int .i64 0, .slice none 0 0] 41) = W at hX hR hB hsz
  have hx0 := hX.c0
  have hx1 := hX.c1
  have hx2 := hX.c2
  have hmk := nummake_any n a l c L e W (h.step hB) (hT.step hB) hl he he2
  have HR := Lib.hid (And.intro hR (And.intro hB (And.intro hmk hsz)))
  clear hs1 hb1 hb2 hX hR hB hmk h hT hsz
  go_enter Tryz.func232, Tryz.ntmps232
  go_wp2_with (refine HR.out.2.2.1.mono ?_; rintro r w1 ⟨n', e', a', l', c', L', er, rfl, hmo, hW1, hb1⟩; have hR1 := HR.out.1.step hb1 HR.out.2.2.2; have rc0 := hR1.c0; have rc1 := hR1.c1; have rc2 := hR1.c2; have rf0 := hR1.f0; have rf1 := hR1.f1; have rf2 := hR1.f2; have rd1 := hR1.d1 (.bool n'); have rd2 := hR1.d2 (.bool n') (.int .i64 e'); have HM := Lib.hid (And.intro hmo (And.intro hW1 (And.intro hR1 (Below.next0 HR.out.2.1 hb1)))); clear hmo hW1 hR1 hb1)
  have hS := HM.out.2.2.1.store (.bool n') (.int .i64 e') (.slice a' l' c')
  have k0 := hS.c0
  have k1 := hS.c1
  have k2 := hS.c2
  have hbz := NumBox.below HM.out.2.2.2 (show w.heap.size ≤ w.heap.size + 1 by omega) (.bool n') (.int .i64 e') (.slice a' l' c')
  have hw1 := HM.out.2.1
  have hwz : WordsIn _ a' l' c' L' := ⟨hw1.len, hw1.cap, hw1.most, hw1.low, (hw1.rd.store3 HM.out.2.2.1 (fun _ => by simp [nv]) (fun _ => by simp [nv]) (fun _ => by simp [nv]) (.bool n') (.int .i64 e') (.slice a' l' c')).more (box_size _ _ _ _ _)⟩
  exact ⟨rfl, .tuple #[.agg #[.bool n', .int .i64 e', .slice a' l' c'], .int .i64 er], by simp [results, go_sem, k0, k1, k2], n', e', a', l', c', L', er, rfl, make_fit HM.out.1, (hw1.lower HR.out.2.1.size).on hwz, hbz⟩
theorem small_fits {v : Nat} (h : v < 18446744073709551616) : fits (dy (sgn false v) 0) := by
  by_cases h0 : v = 0
  · subst h0; exact .inl rfl
  · obtain ⟨z, hz⟩ := tz_exists h0
    have hz64 : z < 64 := by
      refine Nat.lt_of_not_le fun hle => ?_
      have h3 : 2 ^ 64 ≤ 2 ^ z := Nat.pow_le_pow_right (by decide) hle
      have h5 := hz.1
      rw [Nat.mod_eq_of_lt (Nat.lt_of_lt_of_le h h3)] at h5
      exact h0 h5
    have hb : v / 2 ^ z < (2 ^ 64) ^ 64 := Nat.lt_of_le_of_lt (Nat.div_le_self _ _) (Nat.lt_of_lt_of_le h (show 2 ^ 64 ≤ (2 ^ 64) ^ 64 from Nat.le_self_pow (by decide) _))
    rw [← tz_dy hz, fits_odd hz.2]
    exact ⟨hb, by omega, by omega⟩
set_option maxRecDepth 100000 in
set_option maxHeartbeats 4000000 in
theorem numint_any (v : Nat) (w : World) (hv : v < 9223372036854775808) (hT : TabIn w) :
    Calls Tryz.prog 20 #[.int .i64 (v : Int)] w fun r w' => ∃ n' e' a' l' c' L, r = .returned (.agg #[.bool n', .int .i64 e', .slice a' l' c']) ∧ IsNum n' e' L ∧ numD n' e' L = dy (v : Int) 0 ∧ NewIn w w' a' l' c' L ∧ Below w.heap.size w w' := by
  have hneg : ¬ (v : Int) < 0 := by omega
  have hv2 : (v : Int) < 18446744073709551616 := by omega
  have hb0 : ∀ o, Below w.heap.size w (w.alloc o) := fun o => (Below.refl _ _).alloc (Nat.le_refl _) _
  have hs1 : (w.alloc (.cells #[.bool false, .int .i64 0, .slice none 0 0] 41)).heap.size = w.heap.size + 1 := World.size_alloc _ _
  have hwd := words_one (w.alloc (.cells #[.bool false, .int .i64 0, .slice none 0 0] 41)) v (by omega) 74
  have hb2 : Below (w.alloc (.cells #[.bool false, .int .i64 0, .slice none 0 0] 41)).heap.size (w.alloc (.cells #[.bool false, .int .i64 0, .slice none 0 0] 41)) ((w.alloc (.cells #[.bool false, .int .i64 0, .slice none 0 0] 41)).alloc (.cells #[.int .u64 (v : Int)] 74)) := (Below.refl _ _).alloc (Nat.le_refl _) _
  have hR := (NumBox.new w (.bool false) (.int .i64 0) (.slice none 0 0) 41).step hb2 (box_lt _ _)
  have hsz := Nat.lt_of_lt_of_le (box_lt w (.cells #[.bool false, .int .i64 0, .slice none 0 0] 41)) hb2.size
  have hB := Below.next0 (hb0 _) hb2
  rw [hs1] at hwd
  generalize hW : (w.alloc (.cells #[.bool false, .int .i64 0, .slice none 0 0] 41)).alloc (.cells #[.int .u64 (v : Int)] 74) = W at hwd hR hB hsz
  have hmk := nummake_any false (some ⟨w.heap.size + 1, 0, none⟩) 1 1 [v] 0 W hwd (hT.step hB) (by decide) (by decide) (by decide)
  have HR := Lib.hid (And.intro hR (And.intro hB (And.intro hmk hsz)))
  clear hb0 hs1 hwd hb2 hR hsz hB hmk hT
  go_enter Tryz.func20, Tryz.ntmps20
  go_wp2_with (refine HR.out.2.2.1.mono ?_; rintro r w1 ⟨n', e', a', l', c', L', er, rfl, hmo, hW1, hb1⟩; have hal : Below w1.heap.size w1 (w1.alloc (.cells #[.bool n', .int .i64 e', .slice a' l' c'] 41)) := (Below.refl _ _).alloc (Nat.le_refl _) _; have hX := NumBox.new w1 (.bool n') (.int .i64 e') (.slice a' l' c') 41; have xc0 := hX.c0; have xc1 := hX.c1; have xc2 := hX.c2; have hR1 := (HR.out.1.step hb1 HR.out.2.2.2).step hal (Nat.lt_of_lt_of_le HR.out.2.2.2 hb1.size); have rc0 := hR1.c0; have rc1 := hR1.c1; have rc2 := hR1.c2; have rf0 := hR1.f0; have rf1 := hR1.f1; have rf2 := hR1.f2; have rd1 := hR1.d1 (.bool n'); have rd2 := hR1.d2 (.bool n') (.int .i64 e'); have HM := Lib.hid (And.intro hmo (And.intro (hW1.on (hW1.step hal)) (And.intro hR1 (Below.next0 (Below.next0 HR.out.2.1 hb1) hal)))); clear hmo hW1 hR1 hb1 hal hX)
  have hS := HM.out.2.2.1.store (.bool n') (.int .i64 e') (.slice a' l' c')
  have k0 := hS.c0
  have k1 := hS.c1
  have k2 := hS.c2
  have hbz := NumBox.below HM.out.2.2.2 (Nat.le_refl w.heap.size) (.bool n') (.int .i64 e') (.slice a' l' c')
  have hw1 := HM.out.2.1
  have hwz : WordsIn _ a' l' c' L' := ⟨hw1.len, hw1.cap, hw1.most, hw1.low, (hw1.rd.store3 HM.out.2.2.1 (fun _ => by simp [nv]) (fun _ => by simp [nv]) (fun _ => by simp [nv]) (.bool n') (.int .i64 e') (.slice a' l' c')).more (box_size _ _ _ _ _)⟩
  have hfo := make_fit HM.out.1
  rw [val_one] at hfo
  obtain ⟨_, _, hin, hnd⟩ | ⟨hno, _⟩ := hfo
  · exact ⟨rfl, .agg #[.bool n', .int .i64 e', .slice a' l' c'], by simp [results, go_sem, k0, k1, k2], n', e', a', l', c', L', rfl, hin, hnd, (hw1.lower HR.out.2.1.size).on hwz, hbz⟩
  · exact absurd (small_fits (by omega)) hno
end Go.Proofs.YtdilmfakkppgpaaGreatDoor
namespace Go.Proofs.YtdilmfakkppgpaaGreatDoor
open Go.RowKit WordsM
theorem RdI.store1 {K : IntKind} {w : World} {B : Nat} {a : Option Addr} {ls : List Nat} (h : RdI K w B a ls) {p : Addr} {v : Value} (hp : w.cell? p = some v) (hv : ∀ x : Nat, v ≠ nv K x) (u : Value) : RdI K (w.setCell p u) B a ls := by
  rcases h with rfl | ⟨g, o, rfl, hg, hc⟩
  · exact .inl rfl
  · refine .inr ⟨g, o, rfl, hg, fun j x hx => ?_⟩
    have h1 := hc j x hx
    rw [World.cell?_setCell_other _ _ _ _ (fun e => ?_)]
    · exact h1
    · rw [e] at hp
      rw [hp] at h1
      injection h1 with h1
      exact hv x h1
theorem WordsIn.set1 {w : World} {a : Option Addr} {n c : Nat} {L : List Nat} (h : WordsIn w a n c L) {p : Addr} {v : Value} (hp : w.cell? p = some v) (hv : ∀ x : Nat, v ≠ nv .u64 x) (u : Value) : WordsIn (w.setCell p u) a n c L :=
  ⟨h.len, h.cap, h.most, h.low, (h.rd.store1 hp hv u).more (by rw [World.size_setCell]; omega)⟩
theorem WordsIn.set3 {w : World} {a : Option Addr} {n c b : Nat} {L : List Nat} {b0 : Bool} {e0 : Int} {a0 : Option Addr} {n0 c0 : Nat} (h : WordsIn w a n c L) (hN : NumBox w b (.bool b0) (.int .i64 e0) (.slice a0 n0 c0)) (u0 u1 u2 : Value) :
    WordsIn (((w.setCell ⟨b, 0, none⟩ u0).setCell ⟨b, 1, none⟩ u1).setCell ⟨b, 2, none⟩ u2) a n c L :=
  ⟨h.len, h.cap, h.most, h.low, (h.rd.store3 hN (fun _ => by simp [nv]) (fun _ => by simp [nv]) (fun _ => by simp [nv]) u0 u1 u2).more (box_size _ _ _ _ _)⟩
set_option maxRecDepth 100000 in
set_option maxHeartbeats 4000000 in
theorem own_any (n : Bool) (e : Int) (a : Option Addr) (l c : Nat) (L : List Nat) (w : World) (h : WordsIn w a l c L) (hi : IsNum n e L) (h0 : L ≠ []) :
    Calls Tryz.prog 113 #[.agg #[.bool n, .int .i64 e, .slice a l c]] w fun r w' => ∃ a' l' c', r = .returned (.agg #[.bool n, .int .i64 e, .slice a' l' c']) ∧ NewIn w w' a' l' c' L ∧ Below w.heap.size w w' := by
  have hs1 : (w.alloc (.cells #[.bool n, .int .i64 e, .slice a l c] 41)).heap.size = w.heap.size + 1 := World.size_alloc _ _
  have hb1 : Below w.heap.size w (w.alloc (.cells #[.bool n, .int .i64 e, .slice a l c] 41)) := (Below.refl _ _).alloc (Nat.le_refl _) _
  have hb2 : Below (w.alloc (.cells #[.bool n, .int .i64 e, .slice a l c] 41)).heap.size (w.alloc (.cells #[.bool n, .int .i64 e, .slice a l c] 41)) ((w.alloc (.cells #[.bool n, .int .i64 e, .slice a l c] 41)).alloc (.cells #[.bool false, .int .i64 0, .slice none 0 0] 41)) := (Below.refl _ _).alloc (Nat.le_refl _) _
  have hX := (NumBox.new w (.bool n) (.int .i64 e) (.slice a l c) 41).step hb2 (box_lt _ _)
  have hR := NumBox.new (w.alloc (.cells #[.bool n, .int .i64 e, .slice a l c] 41)) (.bool false) (.int .i64 0) (.slice none 0 0) 41
  have hsz := box_lt (w.alloc (.cells #[.bool n, .int .i64 e, .slice a l c] 41)) (.cells #[.bool false, .int .i64 0, .slice none 0 0] 41)
  rw [hs1] at hR hsz
  have hB := Below.next0 hb1 hb2
  generalize hW : (w.alloc (.cells #[.bool n, .int .i64 e, .slice a l c] 41)).alloc (.cells #[.bool false, .int .i64 0, .slice none 0 0] 41) = W at hX hR hB hsz
  obtain ⟨hv0, hdg, hlen64, he1, he2⟩ : val (2 ^ 64) L ≠ 0 ∧ L = dig (2 ^ 64) (val (2 ^ 64) L) ∧ l ≤ 64 ∧ -65536 ≤ e ∧ e ≤ 65536 := by
    rcases isnum_cases hi h.low with ⟨h1, _⟩ | ⟨_, h2, h3, h4, h5, h6⟩
    · exact absurd h1 h0
    · refine ⟨by omega, h3, ?_, h5, h6⟩
      rw [← h.len, h3]; exact dig_big h4
  have hrt := numright_any n e a l c L W (h.step hB) (by omega) (by omega) (by omega)
  rw [decide_eq_true hi] at hrt
  have htr : ∀ W2, Below w.heap.size w W2 → Calls Tryz.prog 150 #[.slice a l c] W2 fun r w' => ∃ a' l' c', r = .returned (.slice a' l' c') ∧ NewIn W2 w' a' l' c' L ∧ Below W2.heap.size W2 w' := fun W2 hb => (nattrim_new a l c L W2 (h.step hb) (by omega) hv0).mono (by rintro r w' ⟨a', l', c', rfl, hw, hb'⟩; rw [← hdg] at hw; exact ⟨a', l', c', rfl, hw, hb'⟩)
  have HR := Lib.hid (And.intro hX (And.intro hR (And.intro hB (And.intro hrt (And.intro htr hsz)))))
  have xc0 := hX.c0
  have xc1 := hX.c1
  have xc2 := hX.c2
  clear hs1 hb1 hb2 hX hR hB hrt htr hsz h hi h0 hv0 hdg
  go_enter Tryz.func113, Tryz.ntmps113
  go_wp2_with (first
    | (go_at_call_of 53 (Value.bool n); refine HR.out.2.2.2.1.mono ?_; rintro r w1 ⟨rfl, hb1⟩; have hX1 := HR.out.1.step hb1 (by have := HR.out.2.2.2.2.2; omega); have uc0 := hX1.c0; have uc1 := hX1.c1; have uc2 := hX1.c2; have HA := Lib.hid (And.intro hb1 (Below.next0 HR.out.2.2.1 hb1)); clear hX1 hb1)
    | (go_at_call_of 150 a; refine (HR.out.2.2.2.2.1 w1 HA.out.2).mono ?_; rintro r w2 ⟨a', l', c', rfl, hW2, hb2⟩; have hlt := HR.out.2.2.2.2.2; have hb12 := Below.next0 HA.out.1 hb2; have hX2 := HR.out.1.step hb12 (by omega); have hR2 := HR.out.2.1.step hb12 hlt;
       have yc2 := hX2.c2; have yf2 := hX2.f2; have hX3 := hX2.set2 (.slice a' l' c'); have hR3 := hR2.far (p := ⟨w.heap.size, 2, none⟩) (by show w.heap.size ≠ w.heap.size + 1; omega) (.slice a' l' c'); have zc0 := hX3.c0; have zc1 := hX3.c1; have zc2 := hX3.c2; have rc0 := hR3.c0; have rc1 := hR3.c1; have rc2 := hR3.c2; have rf0 := hR3.f0; have rf1 := hR3.f1; have rf2 := hR3.f2; have rd1 := hR3.d1 (.bool n); have rd2 := hR3.d2 (.bool n) (.int .i64 e);
       have hW3 := WordsIn.set1 hW2.toWordsIn hX2.c2 (fun _ => by simp [nv]) (.slice a' l' c');
       have HM := Lib.hid (And.intro ((hW2.lower HA.out.2.size).on hW3) (And.intro hR3 ((Below.next0 HR.out.2.2.1 hb12).setCell (p := ⟨w.heap.size, 2, none⟩) (Nat.le_refl _) (.slice a' l' c')))); clear hX2 hR2 hX3 hR3 hW3 hb2 hb12))
  have hS := HM.out.2.1.store (.bool n) (.int .i64 e) (.slice a' l' c')
  have k0 := hS.c0
  have k1 := hS.c1
  have k2 := hS.c2
  have hbz := NumBox.below HM.out.2.2 (show w.heap.size ≤ w.heap.size + 1 by omega) (.bool n) (.int .i64 e) (.slice a' l' c')
  have hwz := HM.out.1.set3 HM.out.2.1 (.bool n) (.int .i64 e) (.slice a' l' c')
  exact ⟨rfl, .agg #[.bool n, .int .i64 e, .slice a' l' c'], by simp [results, go_sem, k0, k1, k2], a', l', c', rfl, HM.out.1.on hwz, hbz⟩
set_option maxRecDepth 100000 in
set_option maxHeartbeats 4000000 in
theorem numabs_any (n : Bool) (e : Int) (a : Option Addr) (l c : Nat) (L : List Nat) (w : World) (h : WordsIn w a l c L) (hi : IsNum n e L) (h0 : L ≠ []) :
    Calls Tryz.prog 68 #[.agg #[.bool n, .int .i64 e, .slice a l c]] w fun r w' => ∃ a' l' c', r = .returned (.agg #[.bool false, .int .i64 e, .slice a' l' c']) ∧ NewIn w w' a' l' c' L ∧ Below w.heap.size w w' := by
  have hs1 : (w.alloc (.cells #[.bool n, .int .i64 e, .slice a l c] 41)).heap.size = w.heap.size + 1 := World.size_alloc _ _
  have hb1 : Below w.heap.size w (w.alloc (.cells #[.bool n, .int .i64 e, .slice a l c] 41)) := (Below.refl _ _).alloc (Nat.le_refl _) _
  have hb2 : Below (w.alloc (.cells #[.bool n, .int .i64 e, .slice a l c] 41)).heap.size (w.alloc (.cells #[.bool n, .int .i64 e, .slice a l c] 41)) ((w.alloc (.cells #[.bool n, .int .i64 e, .slice a l c] 41)).alloc (.cells #[.bool false, .int .i64 0, .slice none 0 0] 41)) := (Below.refl _ _).alloc (Nat.le_refl _) _
  have hX := (NumBox.new w (.bool n) (.int .i64 e) (.slice a l c) 41).step hb2 (box_lt _ _)
  have hR := NumBox.new (w.alloc (.cells #[.bool n, .int .i64 e, .slice a l c] 41)) (.bool false) (.int .i64 0) (.slice none 0 0) 41
  have hsz := box_lt (w.alloc (.cells #[.bool n, .int .i64 e, .slice a l c] 41)) (.cells #[.bool false, .int .i64 0, .slice none 0 0] 41)
  rw [hs1] at hR hsz
  have hB := Below.next0 hb1 hb2
  generalize hW : (w.alloc (.cells #[.bool n, .int .i64 e, .slice a l c] 41)).alloc (.cells #[.bool false, .int .i64 0, .slice none 0 0] 41) = W at hX hR hB hsz
  have how := own_any n e a l c L W (h.step hB) hi h0
  have HR := Lib.hid (And.intro hR (And.intro hB (And.intro how hsz)))
  have xc0 := hX.c0
  have xc1 := hX.c1
  have xc2 := hX.c2
  clear hs1 hb1 hb2 hX hR hB how hsz h hi h0
  go_enter Tryz.func68, Tryz.ntmps68
  go_wp2_with (first
    | (go_at_call_of 113 (Value.bool n); refine HR.out.2.2.1.mono ?_; rintro r w1 ⟨a', l', c', rfl, hW1, hb1⟩; have HA := Lib.hid (And.intro (hW1.lower HR.out.2.1.size) hb1); clear hW1 hb1)
    | (go_at_call_of 112 (Value.bool n); refine (exactabs_any n e a' l' c' w1).mono ?_; rintro r w2 ⟨rfl, hb2⟩; have hlt := HR.out.2.2.2; have hb12 := Below.next0 HA.out.2 hb2; have hR2 := HR.out.1.step hb12 hlt; have rc0 := hR2.c0; have rc1 := hR2.c1; have rc2 := hR2.c2; have rf0 := hR2.f0; have rf1 := hR2.f1; have rf2 := hR2.f2; have rd1 := hR2.d1 (.bool false); have rd2 := hR2.d2 (.bool false) (.int .i64 e); have HM := Lib.hid (And.intro (HA.out.1.on (HA.out.1.step hb2)) (And.intro hR2 (Below.next0 HR.out.2.1 hb12))); clear hR2 hb2 hb12))
  have hS := HM.out.2.1.store (.bool false) (.int .i64 e) (.slice a' l' c')
  have k0 := hS.c0
  have k1 := hS.c1
  have k2 := hS.c2
  have hbz := NumBox.below HM.out.2.2 (show w.heap.size ≤ w.heap.size + 1 by omega) (.bool false) (.int .i64 e) (.slice a' l' c')
  have hwz := HM.out.1.set3 HM.out.2.1 (.bool false) (.int .i64 e) (.slice a' l' c')
  exact ⟨rfl, .agg #[.bool false, .int .i64 e, .slice a' l' c'], by simp [results, go_sem, k0, k1, k2], a', l', c', rfl, HM.out.1.on hwz, hbz⟩
set_option maxRecDepth 100000 in
set_option maxHeartbeats 4000000 in
theorem numneg_any (n : Bool) (e : Int) (a : Option Addr) (l c : Nat) (L : List Nat) (w : World) (h : WordsIn w a l c L) (hi : IsNum n e L) (h0 : L ≠ []) :
    Calls Tryz.prog 168 #[.agg #[.bool n, .int .i64 e, .slice a l c]] w fun r w' => ∃ a' l' c', r = .returned (.agg #[.bool (!n), .int .i64 e, .slice a' l' c']) ∧ NewIn w w' a' l' c' L ∧ Below w.heap.size w w' := by
  have hs1 : (w.alloc (.cells #[.bool n, .int .i64 e, .slice a l c] 41)).heap.size = w.heap.size + 1 := World.size_alloc _ _
  have hb1 : Below w.heap.size w (w.alloc (.cells #[.bool n, .int .i64 e, .slice a l c] 41)) := (Below.refl _ _).alloc (Nat.le_refl _) _
  have hb2 : Below (w.alloc (.cells #[.bool n, .int .i64 e, .slice a l c] 41)).heap.size (w.alloc (.cells #[.bool n, .int .i64 e, .slice a l c] 41)) ((w.alloc (.cells #[.bool n, .int .i64 e, .slice a l c] 41)).alloc (.cells #[.bool false, .int .i64 0, .slice none 0 0] 41)) := (Below.refl _ _).alloc (Nat.le_refl _) _
  have hX := (NumBox.new w (.bool n) (.int .i64 e) (.slice a l c) 41).step hb2 (box_lt _ _)
  have hR := NumBox.new (w.alloc (.cells #[.bool n, .int .i64 e, .slice a l c] 41)) (.bool false) (.int .i64 0) (.slice none 0 0) 41
  have hsz := box_lt (w.alloc (.cells #[.bool n, .int .i64 e, .slice a l c] 41)) (.cells #[.bool false, .int .i64 0, .slice none 0 0] 41)
  rw [hs1] at hR hsz
  have hB := Below.next0 hb1 hb2
  generalize hW : (w.alloc (.cells #[.bool n, .int .i64 e, .slice a l c] 41)).alloc (.cells #[.bool false, .int .i64 0, .slice none 0 0] 41) = W at hX hR hB hsz
  have how := own_any n e a l c L W (h.step hB) hi h0
  have hLl : 0 < L.length := by
    cases L with
    | nil => exact absurd rfl h0
    | cons x r => simp
  have HR := Lib.hid (And.intro hX (And.intro hR (And.intro hB (And.intro how (And.intro hsz hLl)))))
  have xc0 := hX.c0
  have xc1 := hX.c1
  have xc2 := hX.c2
  clear hs1 hb1 hb2 hX hR hB how hsz h hi h0 hLl
  cases n
  · go_enter Tryz.func168, Tryz.ntmps168
    go_upto_region 2 with (go_at_call_of 113 a; refine HR.out.2.2.2.1.mono ?_; rintro r w1 ⟨a', l', c', rfl, hW1, hb1⟩; have hX1 := HR.out.1.step hb1 (by have := HR.out.2.2.2.2.1; omega); have yc0 := hX1.c0; have yc1 := hX1.c1; have yc2 := hX1.c2; have yf0 := hX1.f0; have yf1 := hX1.f1; have yf2 := hX1.f2; have yd1 := hX1.d1 (.bool false); have yd2 := hX1.d2 (.bool false) (.int .i64 e); have HA := Lib.hid (And.intro hX1 (And.intro (hW1.lower HR.out.2.2.1.size) hb1)); clear hX1 hW1 hb1)
    have hln : 0 < l' := by have h3 := HA.out.2.1.len; have h4 := HR.out.2.2.2.2.2; omega
    have hl' : decide (0 < l') = true := decide_eq_true hln
    have hX2 := HA.out.1.store (.bool false) (.int .i64 e) (.slice a' l' c')
    have hR2 := (HR.out.2.1.step HA.out.2.2 HR.out.2.2.2.2.1).far3 (show w.heap.size ≠ w.heap.size + 1 by omega) (.bool false) (.int .i64 e) (.slice a' l' c')
    have hW2 := HA.out.2.1.set3 HA.out.1 (.bool false) (.int .i64 e) (.slice a' l' c')
    have hb2 := NumBox.below (Below.next0 HR.out.2.2.1 HA.out.2.2) (Nat.le_refl _) (.bool false) (.int .i64 e) (.slice a' l' c')
    clear yc0 yc1 yc2 yf0 yf1 yf2 yd1 yd2
    generalize ((w1.setCell ⟨w.heap.size, 0, none⟩ (.bool false)).setCell ⟨w.heap.size, 1, none⟩ (.int .i64 e)).setCell ⟨w.heap.size, 2, none⟩ (.slice a' l' c') = W2 at hX2 hR2 hW2 hb2 ⊢
    have zc0 := hX2.c0
    have zc1 := hX2.c1
    have zc2 := hX2.c2
    have zf0 := hX2.f0
    have zf1 := hX2.f1
    have zf2 := hX2.f2
    have hX3 := hX2.set0 (.bool true)
    have hR3 := hR2.far (p := ⟨w.heap.size, 0, none⟩) (show w.heap.size ≠ w.heap.size + 1 by omega) (.bool true)
    have hW3 := hW2.set1 (p := ⟨w.heap.size, 0, none⟩) hX2.c0 (fun _ => by simp [nv]) (.bool true)
    have vc0 := hX3.c0
    have vc1 := hX3.c1
    have vc2 := hX3.c2
    have rc0 := hR3.c0
    have rc1 := hR3.c1
    have rc2 := hR3.c2
    have rf0 := hR3.f0
    have rf1 := hR3.f1
    have rf2 := hR3.f2
    have rd1 := hR3.d1 (.bool true)
    have rd2 := hR3.d2 (.bool true) (.int .i64 e)
    have HM := Lib.hid (And.intro (HA.out.2.1.on hW3) (And.intro hR3 (hb2.setCell (p := ⟨w.heap.size, 0, none⟩) (Nat.le_refl _) (.bool true))))
    clear hX2 hR2 hX3 hR3 hW2 hW3 hb2
    go_wp2_with fail
    have hS := HM.out.2.1.store (.bool true) (.int .i64 e) (.slice a' l' c')
    have k0 := hS.c0
    have k1 := hS.c1
    have k2 := hS.c2
    have hbz := NumBox.below HM.out.2.2 (show w.heap.size ≤ w.heap.size + 1 by omega) (.bool true) (.int .i64 e) (.slice a' l' c')
    have hwz := HM.out.1.set3 HM.out.2.1 (.bool true) (.int .i64 e) (.slice a' l' c')
    exact ⟨rfl, .agg #[.bool true, .int .i64 e, .slice a' l' c'], by simp [results, go_sem, k0, k1, k2], a', l', c', rfl, HM.out.1.on hwz, hbz⟩
  · go_enter Tryz.func168, Tryz.ntmps168
    go_upto_region 2 with (go_at_call_of 113 a; refine HR.out.2.2.2.1.mono ?_; rintro r w1 ⟨a', l', c', rfl, hW1, hb1⟩; have hX1 := HR.out.1.step hb1 (by have := HR.out.2.2.2.2.1; omega); have yc0 := hX1.c0; have yc1 := hX1.c1; have yc2 := hX1.c2; have yf0 := hX1.f0; have yf1 := hX1.f1; have yf2 := hX1.f2; have yd1 := hX1.d1 (.bool true); have yd2 := hX1.d2 (.bool true) (.int .i64 e); have HA := Lib.hid (And.intro hX1 (And.intro (hW1.lower HR.out.2.2.1.size) hb1)); clear hX1 hW1 hb1)
    have hln : 0 < l' := by have h3 := HA.out.2.1.len; have h4 := HR.out.2.2.2.2.2; omega
    have hl' : decide (0 < l') = true := decide_eq_true hln
    have hX2 := HA.out.1.store (.bool true) (.int .i64 e) (.slice a' l' c')
    have hR2 := (HR.out.2.1.step HA.out.2.2 HR.out.2.2.2.2.1).far3 (show w.heap.size ≠ w.heap.size + 1 by omega) (.bool true) (.int .i64 e) (.slice a' l' c')
    have hW2 := HA.out.2.1.set3 HA.out.1 (.bool true) (.int .i64 e) (.slice a' l' c')
    have hb2 := NumBox.below (Below.next0 HR.out.2.2.1 HA.out.2.2) (Nat.le_refl _) (.bool true) (.int .i64 e) (.slice a' l' c')
    clear yc0 yc1 yc2 yf0 yf1 yf2 yd1 yd2
    generalize ((w1.setCell ⟨w.heap.size, 0, none⟩ (.bool true)).setCell ⟨w.heap.size, 1, none⟩ (.int .i64 e)).setCell ⟨w.heap.size, 2, none⟩ (.slice a' l' c') = W2 at hX2 hR2 hW2 hb2 ⊢
    have zc0 := hX2.c0
    have zc1 := hX2.c1
    have zc2 := hX2.c2
    have zf0 := hX2.f0
    have zf1 := hX2.f1
    have zf2 := hX2.f2
    have hX3 := hX2.set0 (.bool false)
    have hR3 := hR2.far (p := ⟨w.heap.size, 0, none⟩) (show w.heap.size ≠ w.heap.size + 1 by omega) (.bool false)
    have hW3 := hW2.set1 (p := ⟨w.heap.size, 0, none⟩) hX2.c0 (fun _ => by simp [nv]) (.bool false)
    have vc0 := hX3.c0
    have vc1 := hX3.c1
    have vc2 := hX3.c2
    have rc0 := hR3.c0
    have rc1 := hR3.c1
    have rc2 := hR3.c2
    have rf0 := hR3.f0
    have rf1 := hR3.f1
    have rf2 := hR3.f2
    have rd1 := hR3.d1 (.bool false)
    have rd2 := hR3.d2 (.bool false) (.int .i64 e)
    have HM := Lib.hid (And.intro (HA.out.2.1.on hW3) (And.intro hR3 (hb2.setCell (p := ⟨w.heap.size, 0, none⟩) (Nat.le_refl _) (.bool false))))
    clear hX2 hR2 hX3 hR3 hW2 hW3 hb2
    go_wp2_with fail
    have hS := HM.out.2.1.store (.bool false) (.int .i64 e) (.slice a' l' c')
    have k0 := hS.c0
    have k1 := hS.c1
    have k2 := hS.c2
    have hbz := NumBox.below HM.out.2.2 (show w.heap.size ≤ w.heap.size + 1 by omega) (.bool false) (.int .i64 e) (.slice a' l' c')
    have hwz := HM.out.1.set3 HM.out.2.1 (.bool false) (.int .i64 e) (.slice a' l' c')
    exact ⟨rfl, .agg #[.bool false, .int .i64 e, .slice a' l' c'], by simp [results, go_sem, k0, k1, k2], a', l', c', rfl, HM.out.1.on hwz, hbz⟩
end Go.Proofs.YtdilmfakkppgpaaGreatDoor
namespace Go.Proofs.YtdilmfakkppgpaaGreatDoor
open Go.RowKit WordsM
theorem dig_mul_len {A B : List Nat} (hA : Low (2 ^ 64) A) (hB : Low (2 ^ 64) B) : (dig (2 ^ 64) (val (2 ^ 64) A * val (2 ^ 64) B)).length ≤ A.length + B.length := by
  have h1 := val_lt (B := 2 ^ 64) (by decide) A hA
  have h2 := val_lt (B := 2 ^ 64) (by decide) B hB
  refine dig_len_le (by decide) ?_
  rw [Nat.pow_add]
  exact Nat.mul_lt_mul'' h1 h2
theorem isnum_len {n : Bool} {e : Int} {L : List Nat} (h : IsNum n e L) (hl : Low (2 ^ 64) L) : L.length ≤ 64 ∧ -65536 ≤ e ∧ e ≤ 65536 := by
  rcases isnum_cases h hl with ⟨rfl, _, rfl⟩ | ⟨_, _, h2, h3, h4, h5⟩
  · simp
  · exact ⟨by rw [h2]; exact dig_big h3, h4, h5⟩
theorem mul_value (nx ny : Bool) (ex ey : Int) (ls ks : List Nat) : numD (nx != ny) (ex + ey) (dig (2 ^ 64) (val (2 ^ 64) ls * val (2 ^ 64) ks)) = numD nx ex ls * numD ny ey ks := by
  rw [numD_dig]
  unfold numD
  rw [dy_mul, sgn_mul]
set_option maxRecDepth 100000 in
set_option maxHeartbeats 4000000 in
theorem bothmul_any (nx : Bool) (ex : Int) (ax : Option Addr) (lx cx : Nat) (ls : List Nat) (ny : Bool) (ey : Int) (ay : Option Addr) (ly cy : Nat) (ks : List Nat) (w : World) (h1 : WordsIn w ax lx cx ls) (h2 : WordsIn w ay ly cy ks) (i1 : IsNum nx ex ls) (i2 : IsNum ny ey ks) (hT : TabIn w) :
    Calls Tryz.prog 226 #[.agg #[.bool nx, .int .i64 ex, .slice ax lx cx], .agg #[.bool ny, .int .i64 ey, .slice ay ly cy], .func (.func 54) #[] #[]] w (FitRes w (numD nx ex ls * numD ny ey ks)) := by
  have hs1 : (w.alloc (.cells #[.bool nx, .int .i64 ex, .slice ax lx cx] 41)).heap.size = w.heap.size + 1 := World.size_alloc _ _
  have hs2 : ((w.alloc (.cells #[.bool nx, .int .i64 ex, .slice ax lx cx] 41)).alloc (.cells #[.bool ny, .int .i64 ey, .slice ay ly cy] 41)).heap.size = w.heap.size + 2 := by rw [World.size_alloc, hs1]
  have hs3 : (((w.alloc (.cells #[.bool nx, .int .i64 ex, .slice ax lx cx] 41)).alloc (.cells #[.bool ny, .int .i64 ey, .slice ay ly cy] 41)).alloc (.cells #[.bool false, .int .i64 0, .slice none 0 0] 41)).heap.size = w.heap.size + 3 := by rw [World.size_alloc, hs2]
  have hb1 : Below w.heap.size w (w.alloc (.cells #[.bool nx, .int .i64 ex, .slice ax lx cx] 41)) := (Below.refl _ _).alloc (Nat.le_refl _) _
  have hb2 : Below (w.alloc (.cells #[.bool nx, .int .i64 ex, .slice ax lx cx] 41)).heap.size (w.alloc (.cells #[.bool nx, .int .i64 ex, .slice ax lx cx] 41)) ((w.alloc (.cells #[.bool nx, .int .i64 ex, .slice ax lx cx] 41)).alloc (.cells #[.bool ny, .int .i64 ey, .slice ay ly cy] 41)) := (Below.refl _ _).alloc (Nat.le_refl _) _
  have hb3 : Below ((w.alloc (.cells #[.bool nx, .int .i64 ex, .slice ax lx cx] 41)).alloc (.cells #[.bool ny, .int .i64 ey, .slice ay ly cy] 41)).heap.size ((w.alloc (.cells #[.bool nx, .int .i64 ex, .slice ax lx cx] 41)).alloc (.cells #[.bool ny, .int .i64 ey, .slice ay ly cy] 41)) (((w.alloc (.cells #[.bool nx, .int .i64 ex, .slice ax lx cx] 41)).alloc (.cells #[.bool ny, .int .i64 ey, .slice ay ly cy] 41)).alloc (.cells #[.bool false, .int .i64 0, .slice none 0 0] 41)) := (Below.refl _ _).alloc (Nat.le_refl _) _
  have hX : NumBox (((w.alloc (.cells #[.bool nx, .int .i64 ex, .slice ax lx cx] 41)).alloc (.cells #[.bool ny, .int .i64 ey, .slice ay ly cy] 41)).alloc (.cells #[.bool false, .int .i64 0, .slice none 0 0] 41)) w.heap.size (.bool nx) (.int .i64 ex) (.slice ax lx cx) := ((NumBox.new w _ _ _ _).step hb2 (box_lt _ _)).step hb3 (by rw [hs2]; omega)
  have hY : NumBox (((w.alloc (.cells #[.bool nx, .int .i64 ex, .slice ax lx cx] 41)).alloc (.cells #[.bool ny, .int .i64 ey, .slice ay ly cy] 41)).alloc (.cells #[.bool false, .int .i64 0, .slice none 0 0] 41)) (w.heap.size + 1) (.bool ny) (.int .i64 ey) (.slice ay ly cy) := by
    have h := (NumBox.new (w.alloc (.cells #[.bool nx, .int .i64 ex, .slice ax lx cx] 41)) (.bool ny) (.int .i64 ey) (.slice ay ly cy) 41).step hb3 (box_lt _ _)
    rwa [hs1] at h
  have hR : NumBox (((w.alloc (.cells #[.bool nx, .int .i64 ex, .slice ax lx cx] 41)).alloc (.cells #[.bool ny, .int .i64 ey, .slice ay ly cy] 41)).alloc (.cells #[.bool false, .int .i64 0, .slice none 0 0] 41)) (w.heap.size + 2) (.bool false) (.int .i64 0) (.slice none 0 0) := by
    have h := NumBox.new ((w.alloc (.cells #[.bool nx, .int .i64 ex, .slice ax lx cx] 41)).alloc (.cells #[.bool ny, .int .i64 ey, .slice ay ly cy] 41)) (.bool false) (.int .i64 0) (.slice none 0 0) 41
    rwa [hs2] at h
  have hB : Below w.heap.size w (((w.alloc (.cells #[.bool nx, .int .i64 ex, .slice ax lx cx] 41)).alloc (.cells #[.bool ny, .int .i64 ey, .slice ay ly cy] 41)).alloc (.cells #[.bool false, .int .i64 0, .slice none 0 0] 41)) := Below.next0 (Below.next0 hb1 hb2) hb3
  generalize hW0 : (((w.alloc (.cells #[.bool nx, .int .i64 ex, .slice ax lx cx] 41)).alloc (.cells #[.bool ny, .int .i64 ey, .slice ay ly cy] 41)).alloc (.cells #[.bool false, .int .i64 0, .slice none 0 0] 41)) = W0 at hs3 hX hY hR hB
  have hQ : ∀ W, Below W0.heap.size W0 W → NumBox W w.heap.size (.bool nx) (.int .i64 ex) (.slice ax lx cx) ∧ NumBox W (w.heap.size + 1) (.bool ny) (.int .i64 ey) (.slice ay ly cy) ∧ NumBox W (w.heap.size + 2) (.bool false) (.int .i64 0) (.slice none 0 0) ∧ w.heap.size + 2 < W.heap.size ∧ Below w.heap.size w W := fun W hb =>
    ⟨hX.step hb (by omega), hY.step hb (by omega), hR.step hb (by omega), Nat.lt_of_lt_of_le (by omega) hb.size, Below.next0 hB hb⟩
  obtain ⟨hx0, hx1, hx2, _, _, _⟩ := hX
  obtain ⟨hy0, hy1, hy2, _, _, _⟩ := hY
  have HQ := Lib.hid hQ
  have hlx := h1.len
  have hly := h2.len
  obtain ⟨b1, b2, b3⟩ := isnum_len i1 h1.low
  obtain ⟨b4, b5, b6⟩ := isnum_len i2 h2.low
  have hr1 := numright_any nx ex ax lx cx ls W0 (h1.step hB) (by omega) (by omega) (by omega)
  have hr2 := fun W (hb : Below w.heap.size w W) => numright_any ny ey ay ly cy ks W (h2.step hb) (by omega) (by omega) (by omega)
  rw [decide_eq_true i1] at hr1
  simp only [decide_eq_true i2] at hr2
  have hml := fun W (hb : Below w.heap.size w W) => exactmul_any nx ex ax lx cx ls ny ey ay ly cy ks W (h1.step hb) (h2.step hb) (by omega) (by omega) (by omega) (by omega) (by omega) (by omega)
  have hmd := dig_mul_len h1.low h2.low
  have HC := Lib.hid (And.intro hr1 (And.intro hr2 (And.intro hml (And.intro hmd hT))))
  clear hs1 hs2 hs3 hb1 hb2 hb3 hR hQ hr1 hr2 hml hmd hT h1 h2 i1 i2
  go_enter Tryz.func226, Tryz.ntmps226
  go_wp2_with (first
    | (go_at_call_of 53 ax; refine HC.out.1.mono ?_; rintro r w1 ⟨rfl, hb1⟩; obtain ⟨g0, g1, g2, g3, g4⟩ := HQ.out w1 hb1; have uc0 := g0.c0; have uc1 := g0.c1; have uc2 := g0.c2; have vc0 := g1.c0; have vc1 := g1.c1; have vc2 := g1.c2; have HA := Lib.hid (And.intro hb1 g4); clear g0 g1 g2 g3 g4 hb1)
    | (go_at_call_of 53 ay; refine (HC.out.2.1 w1 HA.out.2).mono ?_; rintro r w2 ⟨rfl, hb2⟩; have hb12 := Below.next0 HA.out.1 hb2; obtain ⟨g0, g1, g2, g3, g4⟩ := HQ.out w2 hb12; have pc0 := g0.c0; have pc1 := g0.c1; have pc2 := g0.c2; have qc0 := g1.c0; have qc1 := g1.c1; have qc2 := g1.c2; have HE := Lib.hid (And.intro hb12 g4); clear g0 g1 g2 g3 g4 hb2 hb12)
    | (go_at_call_of 54 ax; refine (HC.out.2.2.1 w2 HE.out.2).mono ?_; rintro r w3 ⟨a3, l3, c3, rfl, hW3, hb3⟩; have HF := Lib.hid (And.intro hW3 (And.intro (Below.next0 HE.out.1 hb3) (Below.next0 HE.out.2 hb3))); clear hW3 hb3)
    | (go_at_call_of 232 (Value.bool (nx != ny)); refine (made_any (nx != ny) (ex + ey) a3 l3 c3 _ w3 HF.out.1 (HC.out.2.2.2.2.step HF.out.2.2) (by have := HF.out.1.len; have := HC.out.2.2.2.1; omega) (by omega) (by omega)).mono ?_; rintro r w4 ⟨n', e', a', l', c', L', er, rfl, hfo, hW4, hb4⟩; rw [mul_value] at hfo; have hb14 := Below.next0 HF.out.2.1 hb4; obtain ⟨g0, g1, g2, g3, g4⟩ := HQ.out w4 hb14; have rc0 := g2.c0; have rc1 := g2.c1; have rc2 := g2.c2; have rf0 := g2.f0; have rf1 := g2.f1; have rf2 := g2.f2; have rd1 := g2.d1 (.bool n'); have rd2 := g2.d2 (.bool n') (.int .i64 e'); have HM := Lib.hid (And.intro hfo (And.intro (hW4.lower HF.out.2.2.size) (And.intro g2 g4))); clear g0 g1 g2 g3 g4 hfo hW4 hb4 hb14))
  have hS := HM.out.2.2.1.store (.bool n') (.int .i64 e') (.slice a' l' c')
  have k0 := hS.c0
  have k1 := hS.c1
  have k2 := hS.c2
  have hbz := NumBox.below HM.out.2.2.2 (show w.heap.size ≤ w.heap.size + 2 by omega) (.bool n') (.int .i64 e') (.slice a' l' c')
  have hwz := HM.out.2.1.set3 HM.out.2.2.1 (.bool n') (.int .i64 e') (.slice a' l' c')
  exact ⟨rfl, .tuple #[.agg #[.bool n', .int .i64 e', .slice a' l' c'], .int .i64 er], by simp [results, go_sem, k0, k1, k2], n', e', a', l', c', L', er, rfl, HM.out.1, HM.out.2.1.on hwz, hbz⟩
set_option maxRecDepth 100000 in
set_option maxHeartbeats 4000000 in
theorem nummul_any (nx : Bool) (ex : Int) (ax : Option Addr) (lx cx : Nat) (ls : List Nat) (ny : Bool) (ey : Int) (ay : Option Addr) (ly cy : Nat) (ks : List Nat) (w : World) (h1 : WordsIn w ax lx cx ls) (h2 : WordsIn w ay ly cy ks) (i1 : IsNum nx ex ls) (i2 : IsNum ny ey ks) (hT : TabIn w) :
    Calls Tryz.prog 203 #[.agg #[.bool nx, .int .i64 ex, .slice ax lx cx], .agg #[.bool ny, .int .i64 ey, .slice ay ly cy]] w (FitRes w (numD nx ex ls * numD ny ey ks)) := by
  have hs1 : (w.alloc (.cells #[.bool nx, .int .i64 ex, .slice ax lx cx] 41)).heap.size = w.heap.size + 1 := World.size_alloc _ _
  have hs2 : ((w.alloc (.cells #[.bool nx, .int .i64 ex, .slice ax lx cx] 41)).alloc (.cells #[.bool ny, .int .i64 ey, .slice ay ly cy] 41)).heap.size = w.heap.size + 2 := by rw [World.size_alloc, hs1]
  have hs3 : (((w.alloc (.cells #[.bool nx, .int .i64 ex, .slice ax lx cx] 41)).alloc (.cells #[.bool ny, .int .i64 ey, .slice ay ly cy] 41)).alloc (.cells #[.bool false, .int .i64 0, .slice none 0 0] 41)).heap.size = w.heap.size + 3 := by rw [World.size_alloc, hs2]
  have hb1 : Below w.heap.size w (w.alloc (.cells #[.bool nx, .int .i64 ex, .slice ax lx cx] 41)) := (Below.refl _ _).alloc (Nat.le_refl _) _
  have hb2 : Below (w.alloc (.cells #[.bool nx, .int .i64 ex, .slice ax lx cx] 41)).heap.size (w.alloc (.cells #[.bool nx, .int .i64 ex, .slice ax lx cx] 41)) ((w.alloc (.cells #[.bool nx, .int .i64 ex, .slice ax lx cx] 41)).alloc (.cells #[.bool ny, .int .i64 ey, .slice ay ly cy] 41)) := (Below.refl _ _).alloc (Nat.le_refl _) _
  have hb3 : Below ((w.alloc (.cells #[.bool nx, .int .i64 ex, .slice ax lx cx] 41)).alloc (.cells #[.bool ny, .int .i64 ey, .slice ay ly cy] 41)).heap.size ((w.alloc (.cells #[.bool nx, .int .i64 ex, .slice ax lx cx] 41)).alloc (.cells #[.bool ny, .int .i64 ey, .slice ay ly cy] 41)) (((w.alloc (.cells #[.bool nx, .int .i64 ex, .slice ax lx cx] 41)).alloc (.cells #[.bool ny, .int .i64 ey, .slice ay ly cy] 41)).alloc (.cells #[.bool false, .int .i64 0, .slice none 0 0] 41)) := (Below.refl _ _).alloc (Nat.le_refl _) _
  have hX : NumBox (((w.alloc (.cells #[.bool nx, .int .i64 ex, .slice ax lx cx] 41)).alloc (.cells #[.bool ny, .int .i64 ey, .slice ay ly cy] 41)).alloc (.cells #[.bool false, .int .i64 0, .slice none 0 0] 41)) w.heap.size (.bool nx) (.int .i64 ex) (.slice ax lx cx) := ((NumBox.new w _ _ _ _).step hb2 (box_lt _ _)).step hb3 (by rw [hs2]; omega)
  have hY : NumBox (((w.alloc (.cells #[.bool nx, .int .i64 ex, .slice ax lx cx] 41)).alloc (.cells #[.bool ny, .int .i64 ey, .slice ay ly cy] 41)).alloc (.cells #[.bool false, .int .i64 0, .slice none 0 0] 41)) (w.heap.size + 1) (.bool ny) (.int .i64 ey) (.slice ay ly cy) := by
    have h := (NumBox.new (w.alloc (.cells #[.bool nx, .int .i64 ex, .slice ax lx cx] 41)) (.bool ny) (.int .i64 ey) (.slice ay ly cy) 41).step hb3 (box_lt _ _)
    rwa [hs1] at h
  have hR : NumBox (((w.alloc (.cells #[.bool nx, .int .i64 ex, .slice ax lx cx] 41)).alloc (.cells #[.bool ny, .int .i64 ey, .slice ay ly cy] 41)).alloc (.cells #[.bool false, .int .i64 0, .slice none 0 0] 41)) (w.heap.size + 2) (.bool false) (.int .i64 0) (.slice none 0 0) := by
    have h := NumBox.new ((w.alloc (.cells #[.bool nx, .int .i64 ex, .slice ax lx cx] 41)).alloc (.cells #[.bool ny, .int .i64 ey, .slice ay ly cy] 41)) (.bool false) (.int .i64 0) (.slice none 0 0) 41
    rwa [hs2] at h
  have hB : Below w.heap.size w (((w.alloc (.cells #[.bool nx, .int .i64 ex, .slice ax lx cx] 41)).alloc (.cells #[.bool ny, .int .i64 ey, .slice ay ly cy] 41)).alloc (.cells #[.bool false, .int .i64 0, .slice none 0 0] 41)) := Below.next0 (Below.next0 hb1 hb2) hb3
  generalize hW0 : (((w.alloc (.cells #[.bool nx, .int .i64 ex, .slice ax lx cx] 41)).alloc (.cells #[.bool ny, .int .i64 ey, .slice ay ly cy] 41)).alloc (.cells #[.bool false, .int .i64 0, .slice none 0 0] 41)) = W0 at hs3 hX hY hR hB
  have hQ : ∀ W, Below W0.heap.size W0 W → NumBox W w.heap.size (.bool nx) (.int .i64 ex) (.slice ax lx cx) ∧ NumBox W (w.heap.size + 1) (.bool ny) (.int .i64 ey) (.slice ay ly cy) ∧ NumBox W (w.heap.size + 2) (.bool false) (.int .i64 0) (.slice none 0 0) ∧ w.heap.size + 2 < W.heap.size ∧ Below w.heap.size w W := fun W hb =>
    ⟨hX.step hb (by omega), hY.step hb (by omega), hR.step hb (by omega), Nat.lt_of_lt_of_le (by omega) hb.size, Below.next0 hB hb⟩
  obtain ⟨hx0, hx1, hx2, _, _, _⟩ := hX
  obtain ⟨hy0, hy1, hy2, _, _, _⟩ := hY
  have HQ := Lib.hid hQ
  have hbt := bothmul_any nx ex ax lx cx ls ny ey ay ly cy ks W0 (h1.step hB) (h2.step hB) i1 i2 (hT.step hB)
  have HC := Lib.hid hbt
  clear hs1 hs2 hs3 hb1 hb2 hb3 hR hQ hbt hT h1 h2 i1 i2
  go_enter Tryz.func203, Tryz.ntmps203
  go_wp2_with (go_at_call_of 226 ax; refine HC.out.mono ?_; rintro r w1 ⟨n', e', a', l', c', L', er, rfl, hfo, hW1, hb1⟩; obtain ⟨g0, g1, g2, g3, g4⟩ := HQ.out w1 hb1; have rc0 := g2.c0; have rc1 := g2.c1; have rc2 := g2.c2; have rf0 := g2.f0; have rf1 := g2.f1; have rf2 := g2.f2; have rd1 := g2.d1 (.bool n'); have rd2 := g2.d2 (.bool n') (.int .i64 e'); have HM := Lib.hid (And.intro hfo (And.intro (hW1.lower (HQ.out W0 (Below.refl _ _)).2.2.2.2.size) (And.intro g2 g4))); clear g0 g1 g2 g3 g4 hfo hW1 hb1)
  have hS := HM.out.2.2.1.store (.bool n') (.int .i64 e') (.slice a' l' c')
  have k0 := hS.c0
  have k1 := hS.c1
  have k2 := hS.c2
  have hbz := NumBox.below HM.out.2.2.2 (show w.heap.size ≤ w.heap.size + 2 by omega) (.bool n') (.int .i64 e') (.slice a' l' c')
  have hwz := HM.out.2.1.set3 HM.out.2.2.1 (.bool n') (.int .i64 e') (.slice a' l' c')
  exact ⟨rfl, .tuple #[.agg #[.bool n', .int .i64 e', .slice a' l' c'], .int .i64 er], by simp [results, go_sem, k0, k1, k2], n', e', a', l', c', L', er, rfl, HM.out.1, HM.out.2.1.on hwz, hbz⟩
end Go.Proofs.YtdilmfakkppgpaaGreatDoor
namespace Go.Proofs.YtdilmfakkppgpaaGreatDoor
open Go.RowKit WordsM
def cmpL : List Int → List Int → Int
  | [], [] => 0
  | [], _ :: _ => -1
  | _ :: _, [] => 1
  | a :: xs, b :: bs => if a < b then -1 else if b < a then 1 else cmpL xs bs
theorem cmpL_eq : ∀ (a b : List Int), cmpL a b = 0 ↔ a = b
  | [], [] => by simp [cmpL]
  | [], _ :: _ => by simp [cmpL]
  | _ :: _, [] => by simp [cmpL]
  | a :: xs, b :: bs => by
    have ih := cmpL_eq xs bs
    simp only [cmpL, List.cons.injEq]
    split
    · constructor
      · intro h; omega
      · rintro ⟨rfl, _⟩; omega
    · split
      · constructor
        · intro h; omega
        · rintro ⟨rfl, _⟩; omega
      · rw [ih]
        constructor
        · intro h; exact ⟨by omega, h⟩
        · exact fun h => h.2
theorem cmpL_refl (a : List Int) : cmpL a a = 0 := (cmpL_eq a a).2 rfl
theorem cmpL_swap : ∀ (a b : List Int), cmpL b a = - cmpL a b
  | [], [] => rfl
  | [], _ :: _ => rfl
  | _ :: _, [] => rfl
  | a :: xs, b :: bs => by
    have ih := cmpL_swap xs bs
    simp only [cmpL]
    by_cases h1 : a < b
    · rw [if_neg (by omega), if_pos h1, if_pos h1]; rfl
    · by_cases h2 : b < a
      · rw [if_pos h2, if_neg h1, if_pos h2]
      · rw [if_neg h2, if_neg h1, if_neg h1, if_neg h2, ih]
theorem cmpL_trans : ∀ (a b c : List Int), 0 < cmpL a b → 0 < cmpL b c → 0 < cmpL a c
  | [], [], _ => fun h => by simp [cmpL] at h
  | [], _ :: _, _ => fun h => by simp [cmpL] at h
  | _ :: _, [], [] => fun _ h => by simp [cmpL] at h
  | _ :: _, [], _ :: _ => fun _ h => by simp [cmpL] at h
  | _ :: _, _ :: _, [] => fun _ _ => by simp [cmpL]
  | a :: xs, b :: bs, c :: cs => by
    have ih := cmpL_trans xs bs cs
    simp only [cmpL]
    intro h1 h2
    by_cases c1 : a < b
    · rw [if_pos c1] at h1; omega
    · rw [if_neg c1] at h1
      by_cases c2 : b < c
      · rw [if_pos c2] at h2; omega
      · rw [if_neg c2] at h2
        rw [if_neg (by omega)]
        by_cases c3 : c < a
        · rw [if_pos c3]; omega
        · rw [if_neg c3]
          rw [if_neg (by omega)] at h1
          rw [if_neg (by omega)] at h2
          exact ih h1 h2
abbrev Term := Dyadic × List Int
def Desc (l : List Term) : Prop := l.Pairwise fun p q => 0 < cmpL p.2 q.2
def coefAt (E : List Int) : List Term → Dyadic
  | [] => 0
  | p :: r => (if p.2 = E then p.1 else 0) + coefAt E r
theorem coefAt_append (E : List Int) (l r : List Term) : coefAt E (l ++ r) = coefAt E l + coefAt E r := by
  induction l with
  | nil => simp [coefAt]
  | cons p l ih => rw [List.cons_append, coefAt, coefAt, ih, Dyadic.add_assoc]
theorem coefAt_none {E : List Int} {l : List Term} (h : ∀ p ∈ l, p.2 ≠ E) : coefAt E l = 0 := by
  induction l with
  | nil => rfl
  | cons p l ih =>
    rw [coefAt, if_neg (h p (by simp)), ih fun q hq => h q (by simp [hq])]; rfl
theorem Desc.tail_ne {p : Term} {l : List Term} (h : Desc (p :: l)) : ∀ q ∈ l, q.2 ≠ p.2 := fun q hq e => by
  have := (List.pairwise_cons.1 h).1 q hq
  rw [e, cmpL_refl] at this
  omega
theorem coefAt_mem {l : List Term} (hn : l.Pairwise fun p q => p.2 ≠ q.2) {p : Term} (h : p ∈ l) : coefAt p.2 l = p.1 := by
  induction l with
  | nil => cases h
  | cons q l ih =>
    obtain ⟨h1, h2⟩ := List.pairwise_cons.1 hn
    rcases List.mem_cons.1 h with rfl | h
    · rw [coefAt, if_pos rfl, coefAt_none (fun r hr e => h1 r hr e.symm), Dyadic.add_zero]
    · rw [coefAt, if_neg (h1 p h), ih h2 h, Dyadic.zero_add]
theorem Desc.once {l : List Term} (h : Desc l) : l.Pairwise fun p q => p.2 ≠ q.2 := by
  unfold Desc at h
  refine h.imp ?_
  intro p q h e
  rw [e, cmpL_refl] at h
  omega
theorem Desc.same : ∀ {l r : List Term}, Desc l → Desc r → (∀ p, p ∈ l ↔ p ∈ r) → l = r
  | [], [], _, _, _ => rfl
  | [], q :: r, _, _, h => by have := (h q).2 (by simp); cases this
  | p :: l, [], _, _, h => by have := (h p).1 (by simp); cases this
  | p :: l, q :: r, hl, hr, h => by
    obtain ⟨l1, l2⟩ := List.pairwise_cons.1 hl
    obtain ⟨r1, r2⟩ := List.pairwise_cons.1 hr
    have hpq : p = q := by
      have hp := (h p).1 (by simp)
      have hq := (h q).2 (by simp)
      rcases List.mem_cons.1 hp with e | hp
      · exact e
      · rcases List.mem_cons.1 hq with e | hq
        · exact e.symm
        · have a1 := l1 q hq
          have a2 := r1 p hp
          have a3 := cmpL_swap p.2 q.2
          omega
    subst hpq
    congr 1
    refine Desc.same l2 r2 fun x => ?_
    have hx := h x
    constructor
    · intro hxl
      rcases List.mem_cons.1 (hx.1 (by simp [hxl])) with e | h'
      · subst e; exact absurd rfl (hl.tail_ne x hxl)
      · exact h'
    · intro hxr
      rcases List.mem_cons.1 (hx.2 (by simp [hxr])) with e | h'
      · subst e; exact absurd rfl (hr.tail_ne x hxr)
      · exact h'
def insM (l : List Term) (c : Term) : List Term :=
  match l with
  | [] => [c]
  | q :: r => if 0 < cmpL q.2 c.2 then q :: insM r c else if q.2 = c.2 then (q.1 + c.1, q.2) :: r else c :: q :: r
def gathM (l : List Term) : List Term := l.foldl insM []
theorem insM_keys (l : List Term) (c : Term) (p : Term) (h : p ∈ insM l c) : p ∈ l ∨ p.2 = c.2 := by
  induction l with
  | nil => simp only [insM, List.mem_singleton] at h; exact .inr (by rw [h])
  | cons q r ih =>
    simp only [insM] at h
    split at h
    · rcases List.mem_cons.1 h with rfl | h
      · exact .inl (by simp)
      · rcases ih h with h | h
        · exact .inl (by simp [h])
        · exact .inr h
    · split at h
      · rename_i h2
        rcases List.mem_cons.1 h with rfl | h
        · exact .inr h2
        · exact .inl (by simp [h])
      · rcases List.mem_cons.1 h with rfl | h
        · exact .inr rfl
        · exact .inl h
theorem insM_desc {l : List Term} (h : Desc l) (c : Term) : Desc (insM l c) := by
  induction l with
  | nil => simp [insM, Desc]
  | cons q r ih =>
    obtain ⟨h1, h2⟩ := List.pairwise_cons.1 h
    simp only [insM]
    split
    · rename_i hc
      refine List.pairwise_cons.2 ⟨fun p hp => ?_, ih h2⟩
      rcases insM_keys r c p hp with hp | hp
      · exact h1 p hp
      · rw [hp]; exact hc
    · split
      · exact List.pairwise_cons.2 ⟨h1, h2⟩
      · rename_i hc1 hc2
        have h0 : 0 < cmpL c.2 q.2 := by
          have a1 := cmpL_swap q.2 c.2
          have a2 : cmpL q.2 c.2 ≠ 0 := fun e => hc2 ((cmpL_eq _ _).1 e)
          omega
        refine List.pairwise_cons.2 ⟨fun p hp => ?_, h⟩
        rcases List.mem_cons.1 hp with rfl | hp
        · exact h0
        · exact cmpL_trans _ _ _ h0 (h1 p hp)
theorem insM_coef (E : List Int) (l : List Term) (c : Term) : coefAt E (insM l c) = coefAt E l + coefAt E [c] := by
  induction l with
  | nil => simp [insM, coefAt]
  | cons q r ih =>
    simp only [insM]
    split
    · simp only [coefAt, ih, Dyadic.add_assoc]
    · split
      · rename_i h2
        simp only [coefAt, Dyadic.add_zero]
        rw [← h2]
        by_cases hq : q.2 = E
        · rw [if_pos hq, if_pos hq, if_pos hq]; grind
        · rw [if_neg hq, if_neg hq, if_neg hq]; grind
      · simp only [coefAt, Dyadic.add_zero]; grind
theorem insM_has (l : List Term) (c : Term) : (∃ p ∈ insM l c, p.2 = c.2) ∧ ∀ p ∈ l, ∃ q ∈ insM l c, q.2 = p.2 := by
  induction l with
  | nil => exact ⟨⟨c, by simp [insM], rfl⟩, fun p hp => (by cases hp)⟩
  | cons q r ih =>
    obtain ⟨⟨x, hx, hx2⟩, ih2⟩ := ih
    simp only [insM]
    split
    · refine ⟨⟨x, by simp [hx], hx2⟩, fun p hp => ?_⟩
      rcases List.mem_cons.1 hp with rfl | hp
      · exact ⟨p, by simp, rfl⟩
      · obtain ⟨y, hy, hy2⟩ := ih2 p hp
        exact ⟨y, by simp [hy], hy2⟩
    · split
      · rename_i h2
        refine ⟨⟨_, List.mem_cons_self, h2⟩, fun p hp => ?_⟩
        rcases List.mem_cons.1 hp with rfl | hp
        · exact ⟨_, List.mem_cons_self, rfl⟩
        · exact ⟨p, by simp [hp], rfl⟩
      · exact ⟨⟨c, by simp, rfl⟩, fun p hp => ⟨p, by simp only [List.mem_cons] at hp ⊢; exact .inr hp, rfl⟩⟩
theorem gathM_snoc (l : List Term) (c : Term) : gathM (l ++ [c]) = insM (gathM l) c := by simp [gathM]
theorem gath_all (l : List Term) : Desc (gathM l) ∧ (∀ E, coefAt E (gathM l) = coefAt E l) ∧ (∀ p ∈ gathM l, ∃ q ∈ l, q.2 = p.2) ∧ (∀ p ∈ l, ∃ q ∈ gathM l, q.2 = p.2) := by
  have key : ∀ n, ∀ l : List Term, l.length = n → Desc (gathM l) ∧ (∀ E, coefAt E (gathM l) = coefAt E l) ∧ (∀ p ∈ gathM l, ∃ q ∈ l, q.2 = p.2) ∧ (∀ p ∈ l, ∃ q ∈ gathM l, q.2 = p.2) := by
    intro n
    induction n with
    | zero =>
      intro l hl
      obtain rfl := List.length_eq_zero_iff.1 hl
      exact ⟨List.Pairwise.nil, fun _ => rfl, fun p hp => (by cases hp), fun p hp => (by cases hp)⟩
    | succ n ih =>
      intro l hl
      have hne : l ≠ [] := fun e => by rw [e] at hl; simp at hl
      obtain ⟨k, c, rfl⟩ : ∃ k c, l = k ++ [c] := ⟨l.dropLast, l.getLast hne, (List.dropLast_concat_getLast hne).symm⟩
      obtain ⟨h1, h2, h3, h4⟩ := ih k (by simpa using hl)
      rw [gathM_snoc]
      refine ⟨insM_desc h1 c, fun E => by rw [insM_coef, h2, coefAt_append], fun p hp => ?_, fun p hp => ?_⟩
      · rcases insM_keys _ c p hp with hp | hp
        · obtain ⟨q, hq, hq2⟩ := h3 p hp
          exact ⟨q, by simp [hq], hq2⟩
        · exact ⟨c, by simp, hp.symm⟩
      · obtain ⟨i1, i2⟩ := insM_has (gathM k) c
        rcases List.mem_append.1 hp with hp | hp
        · obtain ⟨q, hq, hq2⟩ := h4 p hp
          obtain ⟨r, hr, hr2⟩ := i2 q hq
          exact ⟨r, hr, hr2.trans hq2⟩
        · rw [List.mem_singleton] at hp; subst hp; exact i1
  exact key _ l rfl
theorem gath_mem (l : List Term) (p : Term) : p ∈ gathM l ↔ (∃ q ∈ l, q.2 = p.2) ∧ p.1 = coefAt p.2 l := by
  obtain ⟨h1, h2, h3, h4⟩ := gath_all l
  constructor
  · intro hp
    exact ⟨h3 p hp, by rw [← h2, coefAt_mem h1.once hp]⟩
  · rintro ⟨⟨q, hq, hq2⟩, hp⟩
    obtain ⟨r, hr, hr2⟩ := h4 q hq
    have h5 := coefAt_mem h1.once hr
    rw [h2] at h5
    have h6 : r = p := by
      obtain ⟨r1, r2⟩ := r
      obtain ⟨p1, p2⟩ := p
      simp only at hr2 h5 hp hq2
      rw [hq2] at hr2
      subst hr2
      rw [← h5, ← hp]
    rw [← h6]; exact hr
theorem gath_desc {l : List Term} (h : Desc l) : gathM l = l := by
  refine Desc.same (gath_all l).1 h fun p => ?_
  rw [gath_mem]
  constructor
  · rintro ⟨⟨q, hq, hq2⟩, hp⟩
    have h5 := coefAt_mem h.once hq
    rw [hq2] at h5
    have : q = p := by
      obtain ⟨q1, q2⟩ := q; obtain ⟨p1, p2⟩ := p
      simp only at hq2 h5 hp
      subst hq2
      rw [hp, h5]
    rw [← this]; exact hq
  · intro hp; exact ⟨⟨p, hp, rfl⟩, (coefAt_mem h.once hp).symm⟩
def accM1 (l : List Term) (c : Term) : List Term :=
  match l with
  | [] => [c]
  | q :: r => if q.2 = c.2 then (q.1 + c.1, q.2) :: r else q :: accM1 r c
def accM (l : List Term) : List Term := l.foldl accM1 []
theorem accM_snoc (l : List Term) (c : Term) : accM (l ++ [c]) = accM1 (accM l) c := by simp [accM]
theorem accM1_coef (E : List Int) (l : List Term) (c : Term) : coefAt E (accM1 l c) = coefAt E l + coefAt E [c] := by
  induction l with
  | nil => simp [accM1, coefAt]
  | cons q r ih =>
    simp only [accM1]
    split
    · rename_i h2
      simp only [coefAt, Dyadic.add_zero]
      rw [← h2]
      by_cases hq : q.2 = E
      · rw [if_pos hq, if_pos hq, if_pos hq]; grind
      · rw [if_neg hq, if_neg hq, if_neg hq]; grind
    · simp only [coefAt, ih, Dyadic.add_assoc]
theorem accM1_keys (l : List Term) (c : Term) (p : Term) (h : p ∈ accM1 l c) : (∃ q ∈ l, q.2 = p.2) ∨ p.2 = c.2 := by
  induction l with
  | nil => simp only [accM1, List.mem_singleton] at h; exact .inr (by rw [h])
  | cons q r ih =>
    simp only [accM1] at h
    split at h
    · rename_i h2
      rcases List.mem_cons.1 h with rfl | h
      · exact .inr h2
      · exact .inl ⟨p, by simp [h], rfl⟩
    · rcases List.mem_cons.1 h with rfl | h
      · exact .inl ⟨p, by simp, rfl⟩
      · rcases ih h with ⟨x, hx, hx2⟩ | h
        · exact .inl ⟨x, by simp [hx], hx2⟩
        · exact .inr h
theorem accM1_has (l : List Term) (c : Term) : (∃ p ∈ accM1 l c, p.2 = c.2) ∧ ∀ p ∈ l, ∃ q ∈ accM1 l c, q.2 = p.2 := by
  induction l with
  | nil => exact ⟨⟨c, by simp [accM1], rfl⟩, fun p hp => (by cases hp)⟩
  | cons q r ih =>
    obtain ⟨⟨x, hx, hx2⟩, ih2⟩ := ih
    simp only [accM1]
    split
    · rename_i h2
      refine ⟨⟨_, List.mem_cons_self, h2⟩, fun p hp => ?_⟩
      rcases List.mem_cons.1 hp with rfl | hp
      · exact ⟨_, List.mem_cons_self, rfl⟩
      · exact ⟨p, by simp [hp], rfl⟩
    · refine ⟨⟨x, by simp [hx], hx2⟩, fun p hp => ?_⟩
      rcases List.mem_cons.1 hp with rfl | hp
      · exact ⟨p, by simp, rfl⟩
      · obtain ⟨y, hy, hy2⟩ := ih2 p hp
        exact ⟨y, by simp [hy], hy2⟩
theorem accM1_once {l : List Term} (h : l.Pairwise fun p q => p.2 ≠ q.2) (c : Term) : (accM1 l c).Pairwise fun p q => p.2 ≠ q.2 := by
  induction l with
  | nil => simp [accM1]
  | cons q r ih =>
    obtain ⟨h1, h2⟩ := List.pairwise_cons.1 h
    simp only [accM1]
    split
    · exact List.pairwise_cons.2 ⟨h1, h2⟩
    · rename_i hc
      refine List.pairwise_cons.2 ⟨fun p hp => ?_, ih h2⟩
      rcases accM1_keys r c p hp with ⟨x, hx, hx2⟩ | hp
      · rw [← hx2]; exact h1 x hx
      · rw [hp]; exact hc
theorem acc_all (l : List Term) : ((accM l).Pairwise fun p q => p.2 ≠ q.2) ∧ (∀ E, coefAt E (accM l) = coefAt E l) ∧ (∀ p ∈ accM l, ∃ q ∈ l, q.2 = p.2) ∧ (∀ p ∈ l, ∃ q ∈ accM l, q.2 = p.2) := by
  have key : ∀ n, ∀ l : List Term, l.length = n → ((accM l).Pairwise fun p q => p.2 ≠ q.2) ∧ (∀ E, coefAt E (accM l) = coefAt E l) ∧ (∀ p ∈ accM l, ∃ q ∈ l, q.2 = p.2) ∧ (∀ p ∈ l, ∃ q ∈ accM l, q.2 = p.2) := by
    intro n
    induction n with
    | zero =>
      intro l hl
      obtain rfl := List.length_eq_zero_iff.1 hl
      exact ⟨List.Pairwise.nil, fun _ => rfl, fun p hp => (by cases hp), fun p hp => (by cases hp)⟩
    | succ n ih =>
      intro l hl
      have hne : l ≠ [] := fun e => by rw [e] at hl; simp at hl
      obtain ⟨k, c, rfl⟩ : ∃ k c, l = k ++ [c] := ⟨l.dropLast, l.getLast hne, (List.dropLast_concat_getLast hne).symm⟩
      obtain ⟨h1, h2, h3, h4⟩ := ih k (by simpa using hl)
      rw [accM_snoc]
      refine ⟨accM1_once h1 c, fun E => by rw [accM1_coef, h2, coefAt_append], fun p hp => ?_, fun p hp => ?_⟩
      · rcases accM1_keys _ c p hp with ⟨x, hx, hx2⟩ | hp
        · obtain ⟨q, hq, hq2⟩ := h3 x hx
          exact ⟨q, by simp [hq], hq2.trans hx2⟩
        · exact ⟨c, by simp, hp.symm⟩
      · obtain ⟨i1, i2⟩ := accM1_has (accM k) c
        rcases List.mem_append.1 hp with hp | hp
        · obtain ⟨q, hq, hq2⟩ := h4 p hp
          obtain ⟨r, hr, hr2⟩ := i2 q hq
          exact ⟨r, hr, hr2.trans hq2⟩
        · rw [List.mem_singleton] at hp; subst hp; exact i1
  exact key _ l rfl
theorem acc_mem (l : List Term) (p : Term) : p ∈ accM l ↔ (∃ q ∈ l, q.2 = p.2) ∧ p.1 = coefAt p.2 l := by
  obtain ⟨h1, h2, h3, h4⟩ := acc_all l
  constructor
  · intro hp
    exact ⟨h3 p hp, by rw [← h2, coefAt_mem h1 hp]⟩
  · rintro ⟨⟨q, hq, hq2⟩, hp⟩
    obtain ⟨r, hr, hr2⟩ := h4 q hq
    have h5 := coefAt_mem h1 hr
    rw [h2] at h5
    have h6 : r = p := by
      obtain ⟨r1, r2⟩ := r
      obtain ⟨p1, p2⟩ := p
      simp only at hr2 h5 hp hq2
      rw [hq2] at hr2
      subst hr2
      rw [← h5, ← hp]
    rw [← h6]; exact hr
theorem acc_gath (l : List Term) (p : Term) : p ∈ accM l ↔ p ∈ gathM l := by rw [acc_mem, gath_mem]
end Go.Proofs.YtdilmfakkppgpaaGreatDoor
