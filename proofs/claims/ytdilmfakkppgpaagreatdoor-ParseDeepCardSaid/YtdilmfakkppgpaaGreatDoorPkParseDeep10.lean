/- Part 10 of the proof of LawParseDeep: Mono, PolyA. Condition: as each theorem says; none at the end. -/
import Derived.Test.YtdilmfakkppgpaaGreatDoorPkParseDeep02
import Derived.Test.YtdilmfakkppgpaaGreatDoorPkParseDeep08
import Derived.Test.YtdilmfakkppgpaaGreatDoorPkParseDeep09
namespace Go.Proofs.YtdilmfakkppgpaaGreatDoor
open Go.RowKit WordsM
def RdZ (w : World) (B : Nat) (a : Option Addr) (E : List Int) : Prop :=
  E = [] ∨ ∃ b o, a = some ⟨b, o, none⟩ ∧ b < B ∧ ∀ (j : Nat) x, E[j]? = some x → w.cell? ⟨b, o + j, none⟩ = some (.int .i64 x)
section
variable {w w' : World} {B B' : Nat} {a : Option Addr} {E : List Int}
theorem RdZ.keep (h : RdZ w B a E) (hk : ∀ p : Addr, p.block < B → w'.cell? p = w.cell? p) : RdZ w' B a E := by
  rcases h with rfl | ⟨b, o, rfl, hb, hc⟩
  · exact .inl rfl
  · exact .inr ⟨b, o, rfl, hb, fun j x hx => (hk _ hb).trans (hc j x hx)⟩
theorem RdZ.more (h : RdZ w B a E) (hB : B ≤ B') : RdZ w B' a E := by
  rcases h with rfl | ⟨b, o, rfl, hb, hc⟩
  · exact .inl rfl
  · exact .inr ⟨b, o, rfl, by omega, hc⟩
theorem RdZ.below (h : RdZ w B a E) (hb : Below B w w') : RdZ w' B a E := h.keep fun _ hp => hb.cell hp
theorem RdZ.at_ {k : Nat} {x : Int} (h : RdZ w B a E) (hx : E[k]? = some x) : ∃ b o, a = some ⟨b, o, none⟩ ∧ b < B ∧ w.cell? ⟨b, o + k, none⟩ = some (.int .i64 x) := by
  rcases h with rfl | ⟨b, o, rfl, hb, hc⟩
  · simp at hx
  · exact ⟨b, o, rfl, hb, hc k x hx⟩
end
structure IntsIn (w : World) (a : Option Addr) (n c : Nat) (E : List Int) : Prop where
  len : E.length = n
  cap : n ≤ c
  most : c ≤ 9223372036854775807
  rng : ∀ x ∈ E, -9223372036854775808 ≤ x ∧ x ≤ 9223372036854775807
  rd : RdZ w w.heap.size a E
theorem IntsIn.step {w w' : World} {a : Option Addr} {n c : Nat} {E : List Int} (h : IntsIn w a n c E) (hb : Below w.heap.size w w') : IntsIn w' a n c E := ⟨h.len, h.cap, h.most, h.rng, (h.rd.below hb).more hb.size⟩
structure MBox (w : World) (b : Nat) (v0 v1 v2 v3 : Value) : Prop where
  c0 : w.cell? ⟨b, 0, none⟩ = some v0
  c1 : w.cell? ⟨b, 1, none⟩ = some v1
  c2 : w.cell? ⟨b, 2, none⟩ = some v2
  c3 : w.cell? ⟨b, 3, none⟩ = some v3
  f0 : w.frozen? ⟨b, 0, none⟩ = false
  f1 : w.frozen? ⟨b, 1, none⟩ = false
  f2 : w.frozen? ⟨b, 2, none⟩ = false
  f3 : w.frozen? ⟨b, 3, none⟩ = false
theorem MBox.new (w : World) (v0 v1 v2 v3 : Value) (T : TypeId) : MBox (w.alloc (.cells #[v0, v1, v2, v3] T)) w.heap.size v0 v1 v2 v3 :=
  ⟨by rw [cell_of_row _ _ _ _ _ _ (heap_alloc_new _ _)]; rfl, by rw [cell_of_row _ _ _ _ _ _ (heap_alloc_new _ _)]; rfl, by rw [cell_of_row _ _ _ _ _ _ (heap_alloc_new _ _)]; rfl, by rw [cell_of_row _ _ _ _ _ _ (heap_alloc_new _ _)]; rfl,
    frozen_of_row _ _ _ _ _ (heap_alloc_new _ _), frozen_of_row _ _ _ _ _ (heap_alloc_new _ _), frozen_of_row _ _ _ _ _ (heap_alloc_new _ _), frozen_of_row _ _ _ _ _ (heap_alloc_new _ _)⟩
theorem MBox.step {w w' : World} {b B : Nat} {v0 v1 v2 v3 : Value} (h : MBox w b v0 v1 v2 v3) (hb : Below B w w') (hB : b < B) : MBox w' b v0 v1 v2 v3 :=
  ⟨(hb.cell (p := ⟨b, 0, none⟩) hB).trans h.c0, (hb.cell (p := ⟨b, 1, none⟩) hB).trans h.c1, (hb.cell (p := ⟨b, 2, none⟩) hB).trans h.c2, (hb.cell (p := ⟨b, 3, none⟩) hB).trans h.c3, (hb.frozen (p := ⟨b, 0, none⟩) hB).trans h.f0, (hb.frozen (p := ⟨b, 1, none⟩) hB).trans h.f1, (hb.frozen (p := ⟨b, 2, none⟩) hB).trans h.f2, (hb.frozen (p := ⟨b, 3, none⟩) hB).trans h.f3⟩
theorem sum_next {E : List Int} {i : Nat} {x : Int} (h : E[i]? = some x) : (E.take (i + 1)).sum = (E.take i).sum + x := by
  rw [List.take_add_one, h, List.sum_append]; simp
theorem mem_take_lt {E : List Int} {i : Nat} {x : Int} (h : x ∈ E.take i) : ∃ j, j < i ∧ E[j]? = some x := by
  obtain ⟨j, hj⟩ := List.mem_iff_getElem?.1 h
  rw [List.getElem?_take] at hj
  split at hj
  · exact ⟨j, by assumption, hj⟩
  · cases hj
set_option maxRecDepth 100000 in
set_option maxHeartbeats 4000000 in
theorem mono_any (n : Bool) (e : Int) (a : Option Addr) (l c : Nat) (L : List Nat) (b : Option Addr) (m d : Nat) (E : List Int) (k : Nat) (w : World) (h : WordsIn w a l c L) (hE : IntsIn w b m d E) (hk : k ≤ 9223372036854775807) (he : -9223372036854775808 ≤ e) (he2 : e ≤ 9223372036854775807) :
    Calls Tryz.prog 87 #[.agg #[.bool n, .int .i64 e, .slice a l c, .slice b m d], .int .i64 (k : Int)] w fun r w' => r = .returned (.bool (decide (RightE k E ∧ IsNum n e L))) ∧ Below w.heap.size w w' := by
  obtain ⟨rs, hrs⟩ : ∃ rs, decide (RightE k E ∧ IsNum n e L) = rs := ⟨_, rfl⟩
  rw [hrs]
  have HRS := Lib.hid hrs
  clear hrs
  have hb1 : Below w.heap.size w (w.alloc (.cells #[.bool n, .int .i64 e, .slice a l c, .slice b m d] 44)) := (Below.refl _ _).alloc (Nat.le_refl _) _
  have hX := MBox.new w (.bool n) (.int .i64 e) (.slice a l c) (.slice b m d) 44
  have hlt := box_lt w (.cells #[.bool n, .int .i64 e, .slice a l c, .slice b m d] 44)
  generalize hW : w.alloc (.cells #[.bool n, .int .i64 e, .slice a l c, .slice b m d] 44) = W at hb1 hX hlt
  have hx0 := hX.c0
  have hx1 := hX.c1
  have hx2 := hX.c2
  have hx3 := hX.c3
  have hln := hE.len
  subst hln
  have hrt := numright_any n e a l c L W (h.step hb1) he he2 (by have := h.cap; have := h.most; omega)
  have hrd := hE.rd.below hb1
  have hcm := Nat.le_trans hE.cap hE.most
  have HC := Lib.hid (And.intro hrt (And.intro hrd (And.intro hb1 hE.rng)))
  clear hb1 hX hlt hrt hrd h hE
  go_enter Tryz.func87, Tryz.ntmps87
  go_wp2_with fail
  go_loopw [5, 11] (fun lv iv wr => ∃ (i : Nat) (s : Int), lv = .int .i64 (8 - s) ∧ iv = .int .i64 (i : Int) ∧ i ≤ E.length ∧ (E.take i).sum = s ∧ 0 ≤ s ∧ s ≤ 8 ∧ (∀ x ∈ E.take i, 0 ≤ x) ∧ W = wr) (fun _ iv _ => E.length - (intOf iv).toNat)
  case atStart => exact ⟨0, 0, rfl, rfl, Nat.zero_le _, by simp, by decide, by decide, by simp, rfl⟩
  case round =>
    obtain ⟨i, s, rfl, rfl, hi, hs, hs0, hs8, hpos, rfl⟩ := hrel
    by_cases hlt : i < E.length
    · have hlt' : (i : Int) < (E.length : Int) := by omega
      obtain ⟨x, hx⟩ : ∃ x, E[i]? = some x := ⟨_, List.getElem?_eq_getElem hlt⟩
      obtain ⟨ba, oa, hae, hba, hcx⟩ := HC.out.2.1.at_ hx
      subst hae
      have hxr := HC.out.2.2.2 x (List.mem_of_getElem? hx)
      have hsn := sum_next hx
      have HS := Lib.hid (And.intro hs (And.intro hsn (And.intro hpos hx)))
      clear hs hsn hpos hx
      by_cases hx0' : x < 0
      · go_wp2_with fail
        go_ret
        have hno : ¬ (RightE k E ∧ IsNum n e L) := fun h => by
          have := h.1.2.1 x (List.mem_of_getElem? HS.out.2.2.2)
          omega
        have hf : rs = false := by rw [← HRS.out]; exact decide_eq_false hno
        exact ⟨by rw [hf]; rfl, HC.out.2.2.1⟩
      · by_cases hx8 : 8 - s < x
        · go_wp2_with fail
          go_ret
          have hno : ¬ (RightE k E ∧ IsNum n e L) := fun h => by
            have h1 := (take_sum h.1.2.1 (i + 1)).2
            have h2 := h.1.2.2
            have h3 := HS.out.1
            have h4 := HS.out.2.1
            omega
          have hf : rs = false := by rw [← HRS.out]; exact decide_eq_false hno
          exact ⟨by rw [hf]; rfl, HC.out.2.2.1⟩
        · go_wp2_with fail
          refine ⟨⟨i + 1, s + x, by simp only [Value.int.injEq, true_and]; omega, by simp, by omega, by rw [HS.out.2.1, HS.out.1], by omega, by omega, fun y hy => ?_, trivial⟩, by simp only [intOf]; omega⟩
          obtain ⟨j, hj, hjy⟩ := mem_take_lt hy
          by_cases hji : j = i
          · subst hji
            have h5 := HS.out.2.2.2
            rw [hjy] at h5
            injection h5 with h5
            omega
          · exact HS.out.2.2.1 y (List.mem_iff_getElem?.2 ⟨j, by rw [List.getElem?_take, if_pos (by omega)]; exact hjy⟩)
    · obtain rfl : i = E.length := by omega
      have hlt' : ¬ ((E.length : Int) < (E.length : Int)) := by omega
      rw [List.take_length] at hs hpos
      by_cases hk2 : E.length = k
      · subst hk2
        have hre : RightE E.length E := ⟨rfl, hpos, by omega⟩
        have hee : ((E.length : Int) == (E.length : Int)) = true := by simp
        have HS := Lib.hid hre
        clear hre hs hpos
        go_wp2_with (refine HC.out.1.mono ?_; rintro r w1 ⟨rfl, hb1⟩; have HA := Lib.hid hb1; clear hb1)
        go_ret
        refine ⟨?_, Below.next0 HC.out.2.2.1 HA.out⟩
        have hiff : (RightE E.length E ∧ IsNum n e L) ↔ IsNum n e L := ⟨fun h => h.2, fun h => ⟨HS.out, h⟩⟩
        have hf : rs = decide (IsNum n e L) := by rw [← HRS.out]; exact decide_eq_decide.2 hiff
        rw [hf]; rfl
      · have hke : ((E.length : Int) == (k : Int)) = false := by rw [beq_eq_false_iff_ne]; omega
        have HS := Lib.hid hk2
        clear hs hpos hk2
        go_wp2_with fail
        go_ret
        have hno : ¬ (RightE k E ∧ IsNum n e L) := fun h => HS.out h.1.1
        have hf : rs = false := by rw [← HRS.out]; exact decide_eq_false hno
        exact ⟨by rw [hf]; rfl, HC.out.2.2.1⟩
end Go.Proofs.YtdilmfakkppgpaaGreatDoor
namespace Go.Proofs.YtdilmfakkppgpaaGreatDoor
open Go.RowKit WordsM
theorem cmp_drop {E F : List Int} {i : Nat} {x y : Int} (hx : E[i]? = some x) (hy : F[i]? = some y) : cmpL (E.drop i) (F.drop i) = if x < y then -1 else if y < x then 1 else cmpL (E.drop (i + 1)) (F.drop (i + 1)) := by
  rw [drop_one E i x hx, drop_one F i y hy]
  rfl
set_option maxRecDepth 100000 in
set_option maxHeartbeats 4000000 in
theorem compare_any (a : Option Addr) (n c : Nat) (E : List Int) (b : Option Addr) (m d : Nat) (F : List Int) (w : World) (h1 : IntsIn w a n c E) (h2 : IntsIn w b m d F) :
    Calls Tryz.prog 142 #[.slice a n c, .slice b m d] w fun r w' => r = .returned (.int .i64 (cmpL E F)) ∧ w' = w := by
  have hl1 := h1.len
  have hl2 := h2.len
  subst hl1
  subst hl2
  have hc1 := Nat.le_trans h1.cap h1.most
  have hc2 := Nat.le_trans h2.cap h2.most
  have hcm := fun x y W => Tryz.cmp_Compare_int x y W
  have HC := Lib.hid (And.intro h1.rd (And.intro h2.rd (And.intro h1.rng (And.intro h2.rng hcm))))
  clear h1 h2 hcm
  obtain ⟨V, hV⟩ : ∃ V, cmpL E F = V := ⟨_, rfl⟩
  rw [hV]
  have HV := Lib.hid hV
  clear hV
  go_enter Tryz.func142, Tryz.ntmps142
  go_wp2_with fail
  go_loopw [11] (fun iv wr => ∃ i : Nat, iv = .int .i64 (i : Int) ∧ i ≤ E.length ∧ i ≤ F.length ∧ cmpL (E.drop i) (F.drop i) = V ∧ w = wr) (fun iv _ => E.length - (intOf iv).toNat)
  case atStart => exact ⟨0, rfl, Nat.zero_le _, Nat.zero_le _, HV.out, rfl⟩
  case round =>
    obtain ⟨i, rfl, hi, hi2, hcmp, rfl⟩ := hrel
    by_cases hlt : i < E.length
    · have hlt' : (i : Int) < (E.length : Int) := by omega
      obtain ⟨x, hx⟩ : ∃ x, E[i]? = some x := ⟨_, List.getElem?_eq_getElem hlt⟩
      obtain ⟨ba, oa, hae, hba, hcx⟩ := HC.out.1.at_ hx
      subst hae
      by_cases hlt2 : i < F.length
      · have hlt2' : ¬ (F.length : Int) ≤ (i : Int) := by omega
        obtain ⟨y, hy⟩ : ∃ y, F[i]? = some y := ⟨_, List.getElem?_eq_getElem hlt2⟩
        obtain ⟨bb, ob, hbe, hbb, hcy⟩ := HC.out.2.1.at_ hy
        subst hbe
        have hcd := cmp_drop hx hy
        rw [hcmp] at hcd
        have hxr := HC.out.2.2.1 x (List.mem_of_getElem? hx)
        have hyr := HC.out.2.2.2.1 y (List.mem_of_getElem? hy)
        obtain ⟨v, hv⟩ : ∃ v, Lib.compareInt x y = v := ⟨_, rfl⟩
        have hcc := HC.out.2.2.2.2 x y w
        rw [hv] at hcc
        have hvv : v = if x < y then -1 else if y < x then 1 else 0 := by rw [← hv]; rfl
        have HH := Lib.hid (And.intro hcc (And.intro hvv hcd))
        clear hcc hvv hcd hv hx hy hcmp
        by_cases hv0 : v = 0
        · subst hv0
          have hxy : ¬ x < y ∧ ¬ y < x := by
            have h3 := HH.out.2.1
            constructor
            · intro h; rw [if_pos h] at h3; omega
            · intro h; rw [if_neg (by omega), if_pos h] at h3; omega
          have HX := Lib.hid hxy
          clear hxy
          go_wp2_with (refine HH.out.1.mono ?_; rintro r w1 ⟨rfl, rfl⟩)
          refine ⟨⟨i + 1, by simp, by omega, by omega, ?_, trivial⟩, by simp only [intOf]; omega⟩
          have h4 := HH.out.2.2
          rw [if_neg (Int.not_lt.2 HX.out.1), if_neg (Int.not_lt.2 HX.out.2)] at h4
          exact h4.symm
        · have hvb : (v == 0) = false := by rw [beq_eq_false_iff_ne]; exact hv0
          have hVv : V = v := by
            have h3 := HH.out.2.1
            have h4 := HH.out.2.2
            by_cases q1 : x < y
            · rw [if_pos q1] at h3 h4; omega
            · rw [if_neg q1] at h3 h4
              by_cases q2 : y < x
              · rw [if_pos q2] at h3 h4; omega
              · rw [if_neg q2] at h3; exact absurd h3 hv0
          have HVV := Lib.hid hVv
          clear hVv
          go_wp2_with (refine HH.out.1.mono ?_; rintro r w1 ⟨rfl, rfl⟩)
          go_ret
          exact ⟨by rw [HVV.out]; rfl, rfl⟩
      · have hlt2' : (F.length : Int) ≤ (i : Int) := by omega
        have hV1 : V = 1 := by
          rw [← hcmp, drop_one E i x hx, List.drop_of_length_le (l := F) (show F.length ≤ i by omega)]; rfl
        subst hV1
        clear hcmp hx
        go_wp2_with fail
        go_ret
        exact ⟨rfl, rfl⟩
    · obtain rfl : i = E.length := by omega
      have hlt' : ¬ ((E.length : Int) < (E.length : Int)) := by omega
      rw [List.drop_of_length_le (Nat.le_refl _)] at hcmp
      by_cases hlt2 : E.length < F.length
      · have hlt2' : (E.length : Int) < (F.length : Int) := by omega
        obtain ⟨y, hy⟩ : ∃ y, F[E.length]? = some y := ⟨_, List.getElem?_eq_getElem hlt2⟩
        have hV1 : V = -1 := by rw [← hcmp, drop_one F _ y hy]; rfl
        subst hV1
        clear hcmp hy
        go_wp2_with fail
        go_ret
        exact ⟨rfl, rfl⟩
      · have hlt2' : ¬ (E.length : Int) < (F.length : Int) := by omega
        have hV1 : V = 0 := by rw [← hcmp, List.drop_of_length_le (by omega)]; rfl
        subst hV1
        clear hcmp
        go_wp2_with fail
        go_ret
        exact ⟨rfl, rfl⟩
set_option maxRecDepth 100000 in
set_option maxHeartbeats 4000000 in
theorem ahead_any (u0 u1 u2 : Value) (a : Option Addr) (n c : Nat) (E : List Int) (v0 v1 v2 : Value) (b : Option Addr) (m d : Nat) (F : List Int) (w : World) (h1 : IntsIn w a n c E) (h2 : IntsIn w b m d F) :
    Calls Tryz.prog 88 #[.agg #[u0, u1, u2, .slice a n c], .agg #[v0, v1, v2, .slice b m d]] w fun r w' => r = .returned (.int .i64 (cmpL F E)) ∧ Below w.heap.size w w' := by
  have hb1 : Below w.heap.size w (w.alloc (.cells #[u0, u1, u2, .slice a n c] 44)) := (Below.refl _ _).alloc (Nat.le_refl _) _
  have hs1 : (w.alloc (.cells #[u0, u1, u2, .slice a n c] 44)).heap.size = w.heap.size + 1 := World.size_alloc _ _
  have hb2 : Below (w.alloc (.cells #[u0, u1, u2, .slice a n c] 44)).heap.size (w.alloc (.cells #[u0, u1, u2, .slice a n c] 44)) ((w.alloc (.cells #[u0, u1, u2, .slice a n c] 44)).alloc (.cells #[v0, v1, v2, .slice b m d] 44)) := (Below.refl _ _).alloc (Nat.le_refl _) _
  have hX := (MBox.new w u0 u1 u2 (.slice a n c) 44).step hb2 (box_lt _ _)
  have hY := MBox.new (w.alloc (.cells #[u0, u1, u2, .slice a n c] 44)) v0 v1 v2 (.slice b m d) 44
  rw [hs1] at hY
  have hB := Below.next0 hb1 hb2
  generalize hW : (w.alloc (.cells #[u0, u1, u2, .slice a n c] 44)).alloc (.cells #[v0, v1, v2, .slice b m d] 44) = W at hX hY hB
  have hx3 := hX.c3
  have hy3 := hY.c3
  have hcm := compare_any b m d F a n c E W (h2.step hB) (h1.step hB)
  have HC := Lib.hid (And.intro hcm hB)
  clear hb1 hs1 hb2 hX hY hB hcm h1 h2
  go_enter Tryz.func88, Tryz.ntmps88
  go_wp2_with (refine HC.out.1.mono ?_; rintro r w1 ⟨rfl, rfl⟩)
  go_ret
  exact ⟨rfl, HC.out.2⟩
end Go.Proofs.YtdilmfakkppgpaaGreatDoor
