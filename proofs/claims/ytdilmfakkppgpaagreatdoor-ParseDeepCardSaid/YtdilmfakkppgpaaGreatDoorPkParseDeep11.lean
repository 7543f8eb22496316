/- Part 11 of the proof of LawParseDeep: PolyB. Condition: as each theorem says; none at the end. -/
import Derived.Test.YtdilmfakkppgpaaGreatDoorPkParseDeep07
import Derived.Test.YtdilmfakkppgpaaGreatDoorPkParseDeep10
namespace Go.Proofs.YtdilmfakkppgpaaGreatDoor
open Go.RowKit WordsM
structure MonoV where
  neg : Bool
  exp : Int
  ws : List Nat
  es : List Int
def MonoAt (w : World) (b o : Nat) (m : MonoV) : Prop := ∃ aw lw cw ae le ce, w.cell? ⟨b, o, none⟩ = some (.bool m.neg) ∧ w.cell? ⟨b, o + 1, none⟩ = some (.int .i64 m.exp) ∧ w.cell? ⟨b, o + 2, none⟩ = some (.slice aw lw cw) ∧ w.cell? ⟨b, o + 3, none⟩ = some (.slice ae le ce) ∧
  WordsIn w aw lw cw m.ws ∧ IntsIn w ae le ce m.es ∧ -9223372036854775808 ≤ m.exp ∧ m.exp ≤ 9223372036854775807
theorem MonoAt.step {w w' : World} {b o : Nat} {m : MonoV} (h : MonoAt w b o m) (hb : Below w.heap.size w w') (hlt : b < w.heap.size) : MonoAt w' b o m := by
  obtain ⟨aw, lw, cw, ae, le, ce, h0, h1, h2, h3, h4, h5, h6⟩ := h
  exact ⟨aw, lw, cw, ae, le, ce, (hb.cell (p := ⟨b, o, none⟩) hlt).trans h0, (hb.cell (p := ⟨b, o + 1, none⟩) hlt).trans h1, (hb.cell (p := ⟨b, o + 2, none⟩) hlt).trans h2, (hb.cell (p := ⟨b, o + 3, none⟩) hlt).trans h3, h4.step hb, h5.step hb, h6⟩
def MonosIn (w : World) (a : Option Addr) (n c : Nat) (ms : List MonoV) : Prop :=
  ms.length = n ∧ n ≤ c ∧ c ≤ 9223372036854775807 ∧ (ms = [] ∨ ∃ b o, a = some ⟨b, o, none⟩ ∧ b < w.heap.size ∧ ∀ j m, ms[j]? = some m → MonoAt w b (o + j * 4) m)
theorem MonosIn.step {w w' : World} {a : Option Addr} {n c : Nat} {ms : List MonoV} (h : MonosIn w a n c ms) (hb : Below w.heap.size w w') : MonosIn w' a n c ms := by
  obtain ⟨h1, h2, h3, h4⟩ := h
  refine ⟨h1, h2, h3, ?_⟩
  rcases h4 with h4 | ⟨b, o, h5, h6, h7⟩
  · exact .inl h4
  · exact .inr ⟨b, o, h5, Nat.lt_of_lt_of_le h6 hb.size, fun j m hm => (h7 j m hm).step hb h6⟩
def MonoV.term (m : MonoV) : Term := (numD m.neg m.exp m.ws, m.es)
def OkM (k : Nat) (m : MonoV) : Prop := (RightE k m.es ∧ IsNum m.neg m.exp m.ws) ∧ m.ws ≠ []
def RightV (k : Nat) (ms : List MonoV) : Prop := 1 ≤ k ∧ k ≤ 4 ∧ ms.length ≤ 24 ∧ (∀ m ∈ ms, OkM k m) ∧ ms.Pairwise fun p q => 0 < cmpL p.es q.es
def YesNo (Φ : Prop) (r : Ending) : Prop := ∃ b, r = .returned (.bool b) ∧ (b = true ↔ Φ)
theorem YesNo.yes {Φ : Prop} {r : Ending} (h : Φ) (hr : r = .returned (.bool true)) : YesNo Φ r := ⟨true, hr, by simp [h]⟩
theorem YesNo.no {Φ : Prop} {r : Ending} (h : ¬ Φ) (hr : r = .returned (.bool false)) : YesNo Φ r := ⟨false, hr, by simp [h]⟩
theorem adj_pairwise : ∀ (ms : List MonoV), (∀ j p q, ms[j]? = some p → ms[j + 1]? = some q → 0 < cmpL p.es q.es) → ms.Pairwise fun p q => 0 < cmpL p.es q.es
  | [], _ => List.Pairwise.nil
  | [_], _ => List.pairwise_singleton _ _
  | p :: q :: r, h => by
    have ih := adj_pairwise (q :: r) (fun j x y hx hy => h (j + 1) x y hx hy)
    refine List.pairwise_cons.2 ⟨fun x hx => ?_, ih⟩
    have h0 := h 0 p q rfl rfl
    rcases List.mem_cons.1 hx with rfl | hx
    · exact h0
    · exact cmpL_trans _ _ _ h0 ((List.pairwise_cons.1 ih).1 x hx)
set_option maxRecDepth 100000 in
set_option maxHeartbeats 8000000 in
theorem polyright_any (a : Option Addr) (n c : Nat) (ms : List MonoV) (k : Nat) (w : World) (h : MonosIn w a n c ms) (hk : k ≤ 9223372036854775807) :
    Calls Tryz.prog 45 #[.slice a n c, .int .i64 (k : Int)] w fun r w' => YesNo (RightV k ms) r ∧ Below w.heap.size w w' := by
  have hln := h.1
  subst hln
  have hcm := Nat.le_trans h.2.1 h.2.2.1
  have HM := Lib.hid h
  clear h
  go_enter Tryz.func45, Tryz.ntmps45
  go_wp2_with fail
  go_loopw [9] (fun iv wr => ∃ i : Nat, iv = .int .i64 (i : Int) ∧ i ≤ ms.length ∧ (∀ j m, j < i → ms[j]? = some m → OkM k m) ∧ (∀ j p q, j + 1 < i → ms[j]? = some p → ms[j + 1]? = some q → 0 < cmpL p.es q.es) ∧ Below w.heap.size w wr) (fun iv _ => ms.length - (intOf iv).toNat)
  case atStart => exact ⟨0, rfl, Nat.zero_le _, fun j m h => absurd h (Nat.not_lt_zero _), fun j p q h => absurd h (Nat.not_lt_zero _), Below.refl _ _⟩
  case round =>
    obtain ⟨i, rfl, hi, hok, hadj, hb⟩ := hrel
    by_cases hlt : i < ms.length
    · have hlt' : (i : Int) < (ms.length : Int) := by omega
      obtain ⟨m, hm⟩ : ∃ m, ms[i]? = some m := ⟨_, List.getElem?_eq_getElem hlt⟩
      obtain ⟨b0, o0, rfl, hb0, hat⟩ : ∃ b o, a = some ⟨b, o, none⟩ ∧ b < wr.heap.size ∧ ∀ j m, ms[j]? = some m → MonoAt wr b (o + j * 4) m := by
        rcases (HM.out.step hb).2.2.2 with h0 | h0
        · rw [h0] at hlt; simp at hlt
        · exact h0
      obtain ⟨aw, lw, cw, ae, le, ce, k0, k1, k2, k3, hw, he, hx1, hx2⟩ := hat i m hm
      have HA := Lib.hid (And.intro hok (And.intro hadj (And.intro hb (And.intro hm (And.intro hat (And.intro hw he))))))
      clear hok hadj hb hm hat hw he
      have hsz := World.size_alloc wr (.cells #[.bool m.neg, .int .i64 m.exp, .slice aw lw cw, .slice ae le ce] 44)
      have hB0 : Below wr.heap.size wr (wr.alloc (.cells #[.bool m.neg, .int .i64 m.exp, .slice aw lw cw, .slice ae le ce] 44)) := (Below.refl _ _).alloc (Nat.le_refl _) _
      have hX := MBox.new wr (.bool m.neg) (.int .i64 m.exp) (.slice aw lw cw) (.slice ae le ce) 44
      generalize hW0 : wr.alloc (.cells #[.bool m.neg, .int .i64 m.exp, .slice aw lw cw, .slice ae le ce] 44) = W0 at hsz hB0 hX
      have HX := Lib.hid (fun W (hW : Below W0.heap.size W0 W) => hX.step hW (by omega))
      have HB0 := Lib.hid (Below.next0 HA.out.2.2.1 hB0)
      have hMO := fun W (hW : Below W0.heap.size W0 W) => mono_any m.neg m.exp aw lw cw m.ws ae le ce m.es k W ((HA.out.2.2.2.2.2.1.step hB0).step hW) ((HA.out.2.2.2.2.2.2.step hB0).step hW) hk hx1 hx2
      have HB1 := Lib.hid hB0
      clear hX hB0 hsz
      have hlwl := HA.out.2.2.2.2.2.1.len
      go_wp2_with fail
      by_cases hmo : RightE k m.es ∧ IsNum m.neg m.exp m.ws
      · simp only [decide_eq_true hmo] at hMO
        have HMO := Lib.hid hMO
        by_cases hemp : m.ws = []
        · have hlw : ((lw : Int) == 0) = true := by rw [← hlwl, hemp]; rfl
          have hno : ¬ RightV k ms := fun h => (h.2.2.2.1 m (List.mem_of_getElem? HA.out.2.2.2.1)).2 hemp
          have HNO := Lib.hid hno
          clear hMO hmo hno hlwl
          refine wp_region_flatE (E := BelE) (fun w => Below.refl _ w) (by kernel_rfl) (fun W => Below W0.heap.size W0 W) (fun _ _ h h' => Below.next0 h h') (detV [.agg #[.bool m.neg, .int .i64 m.exp, .slice aw lw cw, .slice ae le ce], .int .i64 (k : Int), .bool true, .bool false, .bool false, .pointer (some ⟨wr.heap.size, 0, none⟩), .pointer (some ⟨wr.heap.size, 2, none⟩), .slice aw lw cw, .int .i64 (lw : Int), .bool true, .bool true, .bool true, undef, undef, undef, undef, undef, undef, undef, undef, undef, undef, undef, undef, .bool true] (fun _ => none)) (detV_growG (fun i φ h => by cases h)) (detV_all (by kernel_rfl)) (by kernel_rfl) (below_drew0 W0) ?_ ?_
          · skip
            refine ⟨fun A W hW hag hdep => ?_, ?_⟩
            · have e6 : A.tmps[6]?.getD undef = .pointer (some ⟨wr.heap.size, 0, none⟩) := evalD (hag.keep (t := 6) (by kernel_rfl) rfl)
              refine flatE_on rfl ?_
              obtain ⟨q0, q1, q2, q3, _, _, _, _⟩ := (HX.out W hW)
              refine belE_run (u := .agg #[.bool m.neg, .int .i64 m.exp, .slice aw lw cw, .slice ae le ce]) ?_ ((detV_at rfl).2 rfl)
              simp [go_sem, e6, q0, q1, q2, q3]
            refine ⟨fun A W hW hag hdep => ?_, ?_⟩
            · have e1 : A.tmps[1]?.getD undef = .int .i64 (k : Int) := evalD (hag.keep (t := 1) (by kernel_rfl) rfl)
              refine flatE_on rfl ?_
              refine belE_run (u := .int .i64 (k : Int)) ?_ ((detV_at rfl).2 rfl)
              simp [go_sem, e1]
            refine ⟨fun A W hW hag hdep => ?_, ?_⟩
            · have e14 : A.tmps[14]?.getD undef = .agg #[.bool m.neg, .int .i64 m.exp, .slice aw lw cw, .slice ae le ce] := evalD ((detV_at rfl).1 (hdep 0 (by decide)))
              have e15 : A.tmps[15]?.getD undef = .int .i64 (k : Int) := evalD ((detV_at rfl).1 (hdep 1 (by decide)))
              refine flatE_on rfl ?_
              refine belE_call (f := 87) (args := #[.agg #[.bool m.neg, .int .i64 m.exp, .slice aw lw cw, .slice ae le ce], .int .i64 (k : Int)]) (by simp [go_sem, e14, e15]) ((HMO.out W hW).mono ?_)
              rintro e W2 ⟨rfl, hb2⟩
              exact ⟨_, rfl, hb2, (detV_at rfl).2 rfl⟩
            refine ⟨fun A W hW hag hdep => ?_, ?_⟩
            · have e16 : A.tmps[16]?.getD undef = .bool true := evalD ((detV_at rfl).1 (hdep 2 (by decide)))
              refine flatE_on rfl ?_
              refine belE_run (u := .bool false) ?_ ((detV_at rfl).2 rfl)
              simp [go_sem, e16]
            refine ⟨fun A W hW hag hdep => ?_, ?_⟩
            · have e17 : A.tmps[17]?.getD undef = .bool false := evalD ((detV_at rfl).1 (hdep 3 (by decide)))
              refine flatE_on rfl ?_
              refine belE_run (u := .bool false) ?_ ((detV_at rfl).2 rfl)
              simp [go_sem, e17]
            refine ⟨fun A W hW hag hdep => ?_, ?_⟩
            · have e6 : A.tmps[6]?.getD undef = .pointer (some ⟨wr.heap.size, 0, none⟩) := evalD (hag.keep (t := 6) (by kernel_rfl) rfl)
              have eg : A.eval (.tmp 18) = .bool false := (detV_at rfl).1 (hdep 4 (by decide))
              refine flatE_go (t := 18) rfl rfl eg ?_
              refine belE_run (u := .pointer (some ⟨wr.heap.size, 0, none⟩)) ?_ ((detV_at rfl).2 rfl)
              simp [go_sem, e6]
            refine ⟨fun A W hW hag hdep => ?_, ?_⟩
            · have e19 : A.tmps[19]?.getD undef = .pointer (some ⟨wr.heap.size, 0, none⟩) := evalD ((detV_at rfl).1 (hdep 5 (by decide)))
              have eg : A.eval (.tmp 18) = .bool false := (detV_at rfl).1 (hdep 4 (by decide))
              refine flatE_go (t := 18) rfl rfl eg ?_
              refine belE_run (u := .pointer (some ⟨wr.heap.size, 2, none⟩)) ?_ ((detV_at rfl).2 rfl)
              simp [go_sem, e19]
            refine ⟨fun A W hW hag hdep => ?_, ?_⟩
            · have e20 : A.tmps[20]?.getD undef = .pointer (some ⟨wr.heap.size, 2, none⟩) := evalD ((detV_at rfl).1 (hdep 6 (by decide)))
              have eg : A.eval (.tmp 18) = .bool false := (detV_at rfl).1 (hdep 4 (by decide))
              refine flatE_go (t := 18) rfl rfl eg ?_
              obtain ⟨_, _, q2, _, _, _, _, _⟩ := (HX.out W hW)
              refine belE_run (u := .slice aw lw cw) ?_ ((detV_at rfl).2 rfl)
              simp [go_sem, e20, q2]
            refine ⟨fun A W hW hag hdep => ?_, ?_⟩
            · have e21 : A.tmps[21]?.getD undef = .slice aw lw cw := evalD ((detV_at rfl).1 (hdep 7 (by decide)))
              have eg : A.eval (.tmp 18) = .bool false := (detV_at rfl).1 (hdep 4 (by decide))
              refine flatE_go (t := 18) rfl rfl eg ?_
              refine belE_run (u := .int .i64 (lw : Int)) ?_ ((detV_at rfl).2 rfl)
              simp [go_sem, e21]
            refine ⟨fun A W hW hag hdep => ?_, ?_⟩
            · have e22 : A.tmps[22]?.getD undef = .int .i64 (lw : Int) := evalD ((detV_at rfl).1 (hdep 8 (by decide)))
              have eg : A.eval (.tmp 18) = .bool false := (detV_at rfl).1 (hdep 4 (by decide))
              refine flatE_go (t := 18) rfl rfl eg ?_
              refine belE_run (u := .bool true) ?_ ((detV_at rfl).2 rfl)
              simp [go_sem, e22, hlw]
            refine ⟨fun A W hW hag hdep => ?_, ?_⟩
            · have e18 : A.tmps[18]?.getD undef = .bool false := evalD ((detV_at rfl).1 (hdep 4 (by decide)))
              have e23 : A.tmps[23]?.getD undef = .bool true := evalD ((detV_at rfl).1 (hdep 9 (by decide)))
              refine flatE_on rfl ?_
              refine belE_run (u := .bool true) ?_ ((detV_at rfl).2 rfl)
              simp [go_sem, e18, e23]
            refine ⟨fun A W hW hag hdep => ?_, ?_⟩
            · have e24 : A.tmps[24]?.getD undef = .bool true := evalD ((detV_at rfl).1 (hdep 10 (by decide)))
              refine flatE_on rfl ?_
              refine belE_run (u := .bool true) ?_ ((detV_at rfl).2 rfl)
              simp [go_sem, e24]
            refine ⟨fun A W hW hag hdep => ?_, ?_⟩
            · have eg : A.eval (.tmp 25) = .bool (!false) := (detV_at rfl).1 (hdep 11 (by decide))
              exact flatE_not (t := 25) rfl rfl eg ((detV_at rfl).2 rfl)
            refine ⟨fun A W hW hag hdep => ?_, ?_⟩
            · have eg : A.eval (.tmp 25) = .bool (!false) := (detV_at rfl).1 (hdep 11 (by decide))
              exact flatE_not (t := 25) rfl rfl eg ((detV_at rfl).2 rfl)
            refine ⟨fun A W hW hag hdep => ?_, ?_⟩
            · have eg : A.eval (.tmp 25) = .bool (!false) := (detV_at rfl).1 (hdep 11 (by decide))
              exact flatE_not (t := 25) rfl rfl eg ((detV_at rfl).2 rfl)
            refine ⟨fun A W hW hag hdep => ?_, ?_⟩
            · have eg : A.eval (.tmp 28) = undef := (detV_at rfl).1 (hdep 14 (by decide))
              exact flatE_undef (t := 28) rfl rfl eg ((detV_at rfl).2 rfl)
            refine ⟨fun A W hW hag hdep => ?_, ?_⟩
            · have eg : A.eval (.tmp 28) = undef := (detV_at rfl).1 (hdep 14 (by decide))
              exact flatE_undef (t := 28) rfl rfl eg ((detV_at rfl).2 rfl)
            refine ⟨fun A W hW hag hdep => ?_, ?_⟩
            · have eg : A.eval (.tmp 28) = undef := (detV_at rfl).1 (hdep 14 (by decide))
              exact flatE_undef (t := 28) rfl rfl eg ((detV_at rfl).2 rfl)
            refine ⟨fun A W hW hag hdep => ?_, ?_⟩
            · have eg : A.eval (.tmp 28) = undef := (detV_at rfl).1 (hdep 14 (by decide))
              exact flatE_undef (t := 28) rfl rfl eg ((detV_at rfl).2 rfl)
            refine ⟨fun A W hW hag hdep => ?_, ?_⟩
            · have eg : A.eval (.tmp 28) = undef := (detV_at rfl).1 (hdep 14 (by decide))
              exact flatE_undef (t := 28) rfl rfl eg ((detV_at rfl).2 rfl)
            refine ⟨fun A W hW hag hdep => ?_, ?_⟩
            · have eg : A.eval (.tmp 28) = undef := (detV_at rfl).1 (hdep 14 (by decide))
              exact flatE_undef (t := 28) rfl rfl eg ((detV_at rfl).2 rfl)
            refine ⟨fun A W hW hag hdep => ?_, ?_⟩
            · have eg : A.eval (.tmp 28) = undef := (detV_at rfl).1 (hdep 14 (by decide))
              exact flatE_undef (t := 28) rfl rfl eg ((detV_at rfl).2 rfl)
            refine ⟨fun A W hW hag hdep => ?_, ?_⟩
            · have eg : A.eval (.tmp 28) = undef := (detV_at rfl).1 (hdep 14 (by decide))
              exact flatE_undef (t := 28) rfl rfl eg ((detV_at rfl).2 rfl)
            refine ⟨fun A W hW hag hdep => ?_, ?_⟩
            · have eg : A.eval (.tmp 25) = .bool (!false) := (detV_at rfl).1 (hdep 11 (by decide))
              exact flatE_not (t := 25) rfl rfl eg ((detV_at rfl).2 rfl)
            refine ⟨fun A W hW hag hdep => ?_, ?_⟩
            · have e25 : A.tmps[25]?.getD undef = .bool true := evalD ((detV_at rfl).1 (hdep 11 (by decide)))
              have e37 : A.tmps[37]?.getD undef = undef := evalD ((detV_at rfl).1 (hdep 23 (by decide)))
              refine flatE_on rfl ?_
              refine belE_run (u := .bool true) ?_ ((detV_at rfl).2 rfl)
              simp [go_sem, e25, e37]
            exact trivial
          intro vs W1 hW1 hvs
          have v24 : vs 24 = .bool true := (detV_at rfl).1 (hvs 24 (by decide))
          simp only [putAll, Act.put, List.setIfInBounds_toArray, List.set_cons_zero, List.set_cons_succ]
          rw [v24]
          have HW1 := Lib.hid (Below.next0 HB0.out hW1)
          clear hW1 hvs v24
          go_wp2_with fail
          go_ret
          exact ⟨YesNo.no HNO.out rfl, HW1.out⟩
        · have hlw : ((lw : Int) == 0) = false := by
            rw [← hlwl, beq_eq_false_iff_ne]
            intro e
            exact hemp (List.length_eq_zero_iff.1 (by omega))
          have hokm : OkM k m := ⟨hmo, hemp⟩
          have hok' : ∀ j x, j < i + 1 → ms[j]? = some x → OkM k x := fun j x hj hx => by
            by_cases hji : j = i
            · subst hji
              have := HA.out.2.2.2.1
              rw [hx] at this
              injection this with this
              rw [this]; exact hokm
            · exact HA.out.1 j x (by omega) hx
          have HOK := Lib.hid hok'
          clear hMO hmo hlwl hokm hok' hemp
          by_cases hi0 : i = 0
          · have hip : i = 0 := hi0
            have hnx : (∀ j x, j < i + 1 → ms[j]? = some x → OkM k x) ∧ (∀ j p q, j + 1 < i + 1 → ms[j]? = some p → ms[j + 1]? = some q → 0 < cmpL p.es q.es) := ⟨HOK.out, fun j p q hj => by omega⟩
            have HNX := Lib.hid hnx
            clear hnx
            refine wp_region_flatE (E := BelE) (fun w => Below.refl _ w) (by kernel_rfl) (fun W => Below W0.heap.size W0 W) (fun _ _ h h' => Below.next0 h h') (detV [.agg #[.bool m.neg, .int .i64 m.exp, .slice aw lw cw, .slice ae le ce], .int .i64 (k : Int), .bool true, .bool false, .bool false, .pointer (some ⟨wr.heap.size, 0, none⟩), .pointer (some ⟨wr.heap.size, 2, none⟩), .slice aw lw cw, .int .i64 (lw : Int), .bool false, .bool false, .bool false, .int .i64 (i : Int), .bool false, .bool false, undef, undef, undef, undef, undef, undef, undef, undef, .bool false, .bool false] (fun _ => none)) (detV_growG (fun i φ h => by cases h)) (detV_all (by kernel_rfl)) (by kernel_rfl) (below_drew0 W0) ?_ ?_
            · skip
              refine ⟨fun A W hW hag hdep => ?_, ?_⟩
              · have e6 : A.tmps[6]?.getD undef = .pointer (some ⟨wr.heap.size, 0, none⟩) := evalD (hag.keep (t := 6) (by kernel_rfl) rfl)
                refine flatE_on rfl ?_
                obtain ⟨q0, q1, q2, q3, _, _, _, _⟩ := (HX.out W hW)
                refine belE_run (u := .agg #[.bool m.neg, .int .i64 m.exp, .slice aw lw cw, .slice ae le ce]) ?_ ((detV_at rfl).2 rfl)
                simp [go_sem, e6, q0, q1, q2, q3]
              refine ⟨fun A W hW hag hdep => ?_, ?_⟩
              · have e1 : A.tmps[1]?.getD undef = .int .i64 (k : Int) := evalD (hag.keep (t := 1) (by kernel_rfl) rfl)
                refine flatE_on rfl ?_
                refine belE_run (u := .int .i64 (k : Int)) ?_ ((detV_at rfl).2 rfl)
                simp [go_sem, e1]
              refine ⟨fun A W hW hag hdep => ?_, ?_⟩
              · have e14 : A.tmps[14]?.getD undef = .agg #[.bool m.neg, .int .i64 m.exp, .slice aw lw cw, .slice ae le ce] := evalD ((detV_at rfl).1 (hdep 0 (by decide)))
                have e15 : A.tmps[15]?.getD undef = .int .i64 (k : Int) := evalD ((detV_at rfl).1 (hdep 1 (by decide)))
                refine flatE_on rfl ?_
                refine belE_call (f := 87) (args := #[.agg #[.bool m.neg, .int .i64 m.exp, .slice aw lw cw, .slice ae le ce], .int .i64 (k : Int)]) (by simp [go_sem, e14, e15]) ((HMO.out W hW).mono ?_)
                rintro e W2 ⟨rfl, hb2⟩
                exact ⟨_, rfl, hb2, (detV_at rfl).2 rfl⟩
              refine ⟨fun A W hW hag hdep => ?_, ?_⟩
              · have e16 : A.tmps[16]?.getD undef = .bool true := evalD ((detV_at rfl).1 (hdep 2 (by decide)))
                refine flatE_on rfl ?_
                refine belE_run (u := .bool false) ?_ ((detV_at rfl).2 rfl)
                simp [go_sem, e16]
              refine ⟨fun A W hW hag hdep => ?_, ?_⟩
              · have e17 : A.tmps[17]?.getD undef = .bool false := evalD ((detV_at rfl).1 (hdep 3 (by decide)))
                refine flatE_on rfl ?_
                refine belE_run (u := .bool false) ?_ ((detV_at rfl).2 rfl)
                simp [go_sem, e17]
              refine ⟨fun A W hW hag hdep => ?_, ?_⟩
              · have e6 : A.tmps[6]?.getD undef = .pointer (some ⟨wr.heap.size, 0, none⟩) := evalD (hag.keep (t := 6) (by kernel_rfl) rfl)
                have eg : A.eval (.tmp 18) = .bool false := (detV_at rfl).1 (hdep 4 (by decide))
                refine flatE_go (t := 18) rfl rfl eg ?_
                refine belE_run (u := .pointer (some ⟨wr.heap.size, 0, none⟩)) ?_ ((detV_at rfl).2 rfl)
                simp [go_sem, e6]
              refine ⟨fun A W hW hag hdep => ?_, ?_⟩
              · have e19 : A.tmps[19]?.getD undef = .pointer (some ⟨wr.heap.size, 0, none⟩) := evalD ((detV_at rfl).1 (hdep 5 (by decide)))
                have eg : A.eval (.tmp 18) = .bool false := (detV_at rfl).1 (hdep 4 (by decide))
                refine flatE_go (t := 18) rfl rfl eg ?_
                refine belE_run (u := .pointer (some ⟨wr.heap.size, 2, none⟩)) ?_ ((detV_at rfl).2 rfl)
                simp [go_sem, e19]
              refine ⟨fun A W hW hag hdep => ?_, ?_⟩
              · have e20 : A.tmps[20]?.getD undef = .pointer (some ⟨wr.heap.size, 2, none⟩) := evalD ((detV_at rfl).1 (hdep 6 (by decide)))
                have eg : A.eval (.tmp 18) = .bool false := (detV_at rfl).1 (hdep 4 (by decide))
                refine flatE_go (t := 18) rfl rfl eg ?_
                obtain ⟨_, _, q2, _, _, _, _, _⟩ := (HX.out W hW)
                refine belE_run (u := .slice aw lw cw) ?_ ((detV_at rfl).2 rfl)
                simp [go_sem, e20, q2]
              refine ⟨fun A W hW hag hdep => ?_, ?_⟩
              · have e21 : A.tmps[21]?.getD undef = .slice aw lw cw := evalD ((detV_at rfl).1 (hdep 7 (by decide)))
                have eg : A.eval (.tmp 18) = .bool false := (detV_at rfl).1 (hdep 4 (by decide))
                refine flatE_go (t := 18) rfl rfl eg ?_
                refine belE_run (u := .int .i64 (lw : Int)) ?_ ((detV_at rfl).2 rfl)
                simp [go_sem, e21]
              refine ⟨fun A W hW hag hdep => ?_, ?_⟩
              · have e22 : A.tmps[22]?.getD undef = .int .i64 (lw : Int) := evalD ((detV_at rfl).1 (hdep 8 (by decide)))
                have eg : A.eval (.tmp 18) = .bool false := (detV_at rfl).1 (hdep 4 (by decide))
                refine flatE_go (t := 18) rfl rfl eg ?_
                refine belE_run (u := .bool false) ?_ ((detV_at rfl).2 rfl)
                simp [go_sem, e22, hlw]
              refine ⟨fun A W hW hag hdep => ?_, ?_⟩
              · have e18 : A.tmps[18]?.getD undef = .bool false := evalD ((detV_at rfl).1 (hdep 4 (by decide)))
                have e23 : A.tmps[23]?.getD undef = .bool false := evalD ((detV_at rfl).1 (hdep 9 (by decide)))
                refine flatE_on rfl ?_
                refine belE_run (u := .bool false) ?_ ((detV_at rfl).2 rfl)
                simp [go_sem, e18, e23]
              refine ⟨fun A W hW hag hdep => ?_, ?_⟩
              · have e24 : A.tmps[24]?.getD undef = .bool false := evalD ((detV_at rfl).1 (hdep 10 (by decide)))
                refine flatE_on rfl ?_
                refine belE_run (u := .bool false) ?_ ((detV_at rfl).2 rfl)
                simp [go_sem, e24]
              refine ⟨fun A W hW hag hdep => ?_, ?_⟩
              · have e5 : A.tmps[5]?.getD undef = .int .i64 (i : Int) := evalD (hag.keep (t := 5) (by kernel_rfl) rfl)
                have eg : A.eval (.tmp 25) = .bool false := (detV_at rfl).1 (hdep 11 (by decide))
                refine flatE_go (t := 25) rfl rfl eg ?_
                refine belE_run (u := .int .i64 (i : Int)) ?_ ((detV_at rfl).2 rfl)
                simp [go_sem, e5]
              refine ⟨fun A W hW hag hdep => ?_, ?_⟩
              · have e26 : A.tmps[26]?.getD undef = .int .i64 (i : Int) := evalD ((detV_at rfl).1 (hdep 12 (by decide)))
                have eg : A.eval (.tmp 25) = .bool false := (detV_at rfl).1 (hdep 11 (by decide))
                refine flatE_go (t := 25) rfl rfl eg ?_
                refine belE_run (u := .bool false) ?_ ((detV_at rfl).2 rfl)
                simp [go_sem, e26, hip]
              refine ⟨fun A W hW hag hdep => ?_, ?_⟩
              · have e27 : A.tmps[27]?.getD undef = .bool false := evalD ((detV_at rfl).1 (hdep 13 (by decide)))
                have eg : A.eval (.tmp 25) = .bool false := (detV_at rfl).1 (hdep 11 (by decide))
                refine flatE_go (t := 25) rfl rfl eg ?_
                refine belE_run (u := .bool false) ?_ ((detV_at rfl).2 rfl)
                simp [go_sem, e27]
              refine ⟨fun A W hW hag hdep => ?_, ?_⟩
              · have eg : A.eval (.tmp 28) = .bool (!true) := (detV_at rfl).1 (hdep 14 (by decide))
                exact flatE_not (t := 28) rfl rfl eg ((detV_at rfl).2 rfl)
              refine ⟨fun A W hW hag hdep => ?_, ?_⟩
              · have eg : A.eval (.tmp 28) = .bool (!true) := (detV_at rfl).1 (hdep 14 (by decide))
                exact flatE_not (t := 28) rfl rfl eg ((detV_at rfl).2 rfl)
              refine ⟨fun A W hW hag hdep => ?_, ?_⟩
              · have eg : A.eval (.tmp 28) = .bool (!true) := (detV_at rfl).1 (hdep 14 (by decide))
                exact flatE_not (t := 28) rfl rfl eg ((detV_at rfl).2 rfl)
              refine ⟨fun A W hW hag hdep => ?_, ?_⟩
              · have eg : A.eval (.tmp 28) = .bool (!true) := (detV_at rfl).1 (hdep 14 (by decide))
                exact flatE_not (t := 28) rfl rfl eg ((detV_at rfl).2 rfl)
              refine ⟨fun A W hW hag hdep => ?_, ?_⟩
              · have eg : A.eval (.tmp 28) = .bool (!true) := (detV_at rfl).1 (hdep 14 (by decide))
                exact flatE_not (t := 28) rfl rfl eg ((detV_at rfl).2 rfl)
              refine ⟨fun A W hW hag hdep => ?_, ?_⟩
              · have eg : A.eval (.tmp 28) = .bool (!true) := (detV_at rfl).1 (hdep 14 (by decide))
                exact flatE_not (t := 28) rfl rfl eg ((detV_at rfl).2 rfl)
              refine ⟨fun A W hW hag hdep => ?_, ?_⟩
              · have eg : A.eval (.tmp 28) = .bool (!true) := (detV_at rfl).1 (hdep 14 (by decide))
                exact flatE_not (t := 28) rfl rfl eg ((detV_at rfl).2 rfl)
              refine ⟨fun A W hW hag hdep => ?_, ?_⟩
              · have eg : A.eval (.tmp 28) = .bool (!true) := (detV_at rfl).1 (hdep 14 (by decide))
                exact flatE_not (t := 28) rfl rfl eg ((detV_at rfl).2 rfl)
              refine ⟨fun A W hW hag hdep => ?_, ?_⟩
              · have e28 : A.tmps[28]?.getD undef = .bool false := evalD ((detV_at rfl).1 (hdep 14 (by decide)))
                have e36 : A.tmps[36]?.getD undef = undef := evalD ((detV_at rfl).1 (hdep 22 (by decide)))
                have eg : A.eval (.tmp 25) = .bool false := (detV_at rfl).1 (hdep 11 (by decide))
                refine flatE_go (t := 25) rfl rfl eg ?_
                refine belE_run (u := .bool false) ?_ ((detV_at rfl).2 rfl)
                simp [go_sem, e28, e36]
              refine ⟨fun A W hW hag hdep => ?_, ?_⟩
              · have e25 : A.tmps[25]?.getD undef = .bool false := evalD ((detV_at rfl).1 (hdep 11 (by decide)))
                have e37 : A.tmps[37]?.getD undef = .bool false := evalD ((detV_at rfl).1 (hdep 23 (by decide)))
                refine flatE_on rfl ?_
                refine belE_run (u := .bool false) ?_ ((detV_at rfl).2 rfl)
                simp [go_sem, e25, e37]
              exact trivial
            intro vs W1 hW1 hvs
            have v24 : vs 24 = .bool false := (detV_at rfl).1 (hvs 24 (by decide))
            simp only [putAll, Act.put, List.setIfInBounds_toArray, List.set_cons_zero, List.set_cons_succ]
            rw [v24]
            have HW1 := Lib.hid (Below.next0 HB0.out hW1)
            clear hW1 hvs v24
            go_wp2_with fail
            refine ⟨⟨i + 1, by simp only [Value.int.injEq, true_and]; omega, by omega, HNX.out.1, HNX.out.2, HW1.out⟩, by simp only [intOf]; omega⟩
          · have hip : 0 < i := by omega
            obtain ⟨q, hq⟩ : ∃ q, q + 1 = i := ⟨i - 1, by omega⟩
            have hiq : (i : Int) - 1 = (q : Int) := by omega
            have hwq : IntKind.i64.wrap (q : Int) = (q : Int) := by rw [IntKind.wrap_i64]; omega
            have hqn : (q : Int) < (ms.length : Int) := by omega
            obtain ⟨p, hp⟩ : ∃ p, ms[q]? = some p := ⟨_, List.getElem?_eq_getElem (by omega)⟩
            obtain ⟨pw, pl, pc, pe, pm, pd, z0, z1, z2, z3, hw2, he2, _, _⟩ := HA.out.2.2.2.2.1 q p hp
            have HPC := Lib.hid (fun W (hW : Below W0.heap.size W0 W) => And.intro (((Below.next0 HB1.out hW).cell (p := ⟨b0, o0 + q * 4, none⟩) hb0).trans z0) (And.intro (((Below.next0 HB1.out hW).cell (p := ⟨b0, o0 + q * 4 + 1, none⟩) hb0).trans z1) (And.intro (((Below.next0 HB1.out hW).cell (p := ⟨b0, o0 + q * 4 + 2, none⟩) hb0).trans z2) (((Below.next0 HB1.out hW).cell (p := ⟨b0, o0 + q * 4 + 3, none⟩) hb0).trans z3))))
            have HAH := Lib.hid (fun W (hW : Below W0.heap.size W0 W) => ahead_any (.bool p.neg) (.int .i64 p.exp) (.slice pw pl pc) pe pm pd p.es (.bool m.neg) (.int .i64 m.exp) (.slice aw lw cw) ae le ce m.es W (he2.step (Below.next0 HB1.out hW)) (HA.out.2.2.2.2.2.2.step (Below.next0 HB1.out hW)))
            have HPQ := Lib.hid (And.intro hp hq)
            clear z0 z1 z2 z3 hw2 he2 hp hq
            by_cases hcmp : 0 ≤ cmpL m.es p.es
            · have hcv : decide (0 ≤ cmpL m.es p.es) = true := decide_eq_true hcmp
              have hno : ¬ RightV k ms := fun h => by
                have h5 := h.2.2.2.2
                rw [List.pairwise_iff_getElem] at h5
                have hq1 := (List.getElem?_eq_some_iff.1 HPQ.out.1)
                have hm1 := (List.getElem?_eq_some_iff.1 HA.out.2.2.2.1)
                have h6 := h5 q i hq1.1 hm1.1 (by have := HPQ.out.2; omega)
                rw [hq1.2, hm1.2] at h6
                have h7 := cmpL_swap m.es p.es
                omega
              have HNO := Lib.hid hno
              clear hno hcmp
              refine wp_region_flatE (E := BelE) (fun w => Below.refl _ w) (by kernel_rfl) (fun W => Below W0.heap.size W0 W) (fun _ _ h h' => Below.next0 h h') (detV [.agg #[.bool m.neg, .int .i64 m.exp, .slice aw lw cw, .slice ae le ce], .int .i64 (k : Int), .bool true, .bool false, .bool false, .pointer (some ⟨wr.heap.size, 0, none⟩), .pointer (some ⟨wr.heap.size, 2, none⟩), .slice aw lw cw, .int .i64 (lw : Int), .bool false, .bool false, .bool false, .int .i64 (i : Int), .bool true, .bool true, .slice (some ⟨b0, o0, none⟩) ms.length c, .int .i64 (i : Int), .int .i64 (q : Int), .pointer (some ⟨b0, o0 + q * 4, none⟩), .agg #[.bool p.neg, .int .i64 p.exp, .slice pw pl pc, .slice pe pm pd], .agg #[.bool m.neg, .int .i64 m.exp, .slice aw lw cw, .slice ae le ce], .int .i64 (cmpL m.es p.es), .bool true, .bool true, .bool true] (fun _ => none)) (detV_growG (fun i φ h => by cases h)) (detV_all (by kernel_rfl)) (by kernel_rfl) (below_drew0 W0) ?_ ?_
              · skip
                refine ⟨fun A W hW hag hdep => ?_, ?_⟩
                · have e6 : A.tmps[6]?.getD undef = .pointer (some ⟨wr.heap.size, 0, none⟩) := evalD (hag.keep (t := 6) (by kernel_rfl) rfl)
                  refine flatE_on rfl ?_
                  obtain ⟨q0, q1, q2, q3, _, _, _, _⟩ := (HX.out W hW)
                  refine belE_run (u := .agg #[.bool m.neg, .int .i64 m.exp, .slice aw lw cw, .slice ae le ce]) ?_ ((detV_at rfl).2 rfl)
                  simp [go_sem, e6, q0, q1, q2, q3]
                refine ⟨fun A W hW hag hdep => ?_, ?_⟩
                · have e1 : A.tmps[1]?.getD undef = .int .i64 (k : Int) := evalD (hag.keep (t := 1) (by kernel_rfl) rfl)
                  refine flatE_on rfl ?_
                  refine belE_run (u := .int .i64 (k : Int)) ?_ ((detV_at rfl).2 rfl)
                  simp [go_sem, e1]
                refine ⟨fun A W hW hag hdep => ?_, ?_⟩
                · have e14 : A.tmps[14]?.getD undef = .agg #[.bool m.neg, .int .i64 m.exp, .slice aw lw cw, .slice ae le ce] := evalD ((detV_at rfl).1 (hdep 0 (by decide)))
                  have e15 : A.tmps[15]?.getD undef = .int .i64 (k : Int) := evalD ((detV_at rfl).1 (hdep 1 (by decide)))
                  refine flatE_on rfl ?_
                  refine belE_call (f := 87) (args := #[.agg #[.bool m.neg, .int .i64 m.exp, .slice aw lw cw, .slice ae le ce], .int .i64 (k : Int)]) (by simp [go_sem, e14, e15]) ((HMO.out W hW).mono ?_)
                  rintro e W2 ⟨rfl, hb2⟩
                  exact ⟨_, rfl, hb2, (detV_at rfl).2 rfl⟩
                refine ⟨fun A W hW hag hdep => ?_, ?_⟩
                · have e16 : A.tmps[16]?.getD undef = .bool true := evalD ((detV_at rfl).1 (hdep 2 (by decide)))
                  refine flatE_on rfl ?_
                  refine belE_run (u := .bool false) ?_ ((detV_at rfl).2 rfl)
                  simp [go_sem, e16]
                refine ⟨fun A W hW hag hdep => ?_, ?_⟩
                · have e17 : A.tmps[17]?.getD undef = .bool false := evalD ((detV_at rfl).1 (hdep 3 (by decide)))
                  refine flatE_on rfl ?_
                  refine belE_run (u := .bool false) ?_ ((detV_at rfl).2 rfl)
                  simp [go_sem, e17]
                refine ⟨fun A W hW hag hdep => ?_, ?_⟩
                · have e6 : A.tmps[6]?.getD undef = .pointer (some ⟨wr.heap.size, 0, none⟩) := evalD (hag.keep (t := 6) (by kernel_rfl) rfl)
                  have eg : A.eval (.tmp 18) = .bool false := (detV_at rfl).1 (hdep 4 (by decide))
                  refine flatE_go (t := 18) rfl rfl eg ?_
                  refine belE_run (u := .pointer (some ⟨wr.heap.size, 0, none⟩)) ?_ ((detV_at rfl).2 rfl)
                  simp [go_sem, e6]
                refine ⟨fun A W hW hag hdep => ?_, ?_⟩
                · have e19 : A.tmps[19]?.getD undef = .pointer (some ⟨wr.heap.size, 0, none⟩) := evalD ((detV_at rfl).1 (hdep 5 (by decide)))
                  have eg : A.eval (.tmp 18) = .bool false := (detV_at rfl).1 (hdep 4 (by decide))
                  refine flatE_go (t := 18) rfl rfl eg ?_
                  refine belE_run (u := .pointer (some ⟨wr.heap.size, 2, none⟩)) ?_ ((detV_at rfl).2 rfl)
                  simp [go_sem, e19]
                refine ⟨fun A W hW hag hdep => ?_, ?_⟩
                · have e20 : A.tmps[20]?.getD undef = .pointer (some ⟨wr.heap.size, 2, none⟩) := evalD ((detV_at rfl).1 (hdep 6 (by decide)))
                  have eg : A.eval (.tmp 18) = .bool false := (detV_at rfl).1 (hdep 4 (by decide))
                  refine flatE_go (t := 18) rfl rfl eg ?_
                  obtain ⟨_, _, q2, _, _, _, _, _⟩ := (HX.out W hW)
                  refine belE_run (u := .slice aw lw cw) ?_ ((detV_at rfl).2 rfl)
                  simp [go_sem, e20, q2]
                refine ⟨fun A W hW hag hdep => ?_, ?_⟩
                · have e21 : A.tmps[21]?.getD undef = .slice aw lw cw := evalD ((detV_at rfl).1 (hdep 7 (by decide)))
                  have eg : A.eval (.tmp 18) = .bool false := (detV_at rfl).1 (hdep 4 (by decide))
                  refine flatE_go (t := 18) rfl rfl eg ?_
                  refine belE_run (u := .int .i64 (lw : Int)) ?_ ((detV_at rfl).2 rfl)
                  simp [go_sem, e21]
                refine ⟨fun A W hW hag hdep => ?_, ?_⟩
                · have e22 : A.tmps[22]?.getD undef = .int .i64 (lw : Int) := evalD ((detV_at rfl).1 (hdep 8 (by decide)))
                  have eg : A.eval (.tmp 18) = .bool false := (detV_at rfl).1 (hdep 4 (by decide))
                  refine flatE_go (t := 18) rfl rfl eg ?_
                  refine belE_run (u := .bool false) ?_ ((detV_at rfl).2 rfl)
                  simp [go_sem, e22, hlw]
                refine ⟨fun A W hW hag hdep => ?_, ?_⟩
                · have e18 : A.tmps[18]?.getD undef = .bool false := evalD ((detV_at rfl).1 (hdep 4 (by decide)))
                  have e23 : A.tmps[23]?.getD undef = .bool false := evalD ((detV_at rfl).1 (hdep 9 (by decide)))
                  refine flatE_on rfl ?_
                  refine belE_run (u := .bool false) ?_ ((detV_at rfl).2 rfl)
                  simp [go_sem, e18, e23]
                refine ⟨fun A W hW hag hdep => ?_, ?_⟩
                · have e24 : A.tmps[24]?.getD undef = .bool false := evalD ((detV_at rfl).1 (hdep 10 (by decide)))
                  refine flatE_on rfl ?_
                  refine belE_run (u := .bool false) ?_ ((detV_at rfl).2 rfl)
                  simp [go_sem, e24]
                refine ⟨fun A W hW hag hdep => ?_, ?_⟩
                · have e5 : A.tmps[5]?.getD undef = .int .i64 (i : Int) := evalD (hag.keep (t := 5) (by kernel_rfl) rfl)
                  have eg : A.eval (.tmp 25) = .bool false := (detV_at rfl).1 (hdep 11 (by decide))
                  refine flatE_go (t := 25) rfl rfl eg ?_
                  refine belE_run (u := .int .i64 (i : Int)) ?_ ((detV_at rfl).2 rfl)
                  simp [go_sem, e5]
                refine ⟨fun A W hW hag hdep => ?_, ?_⟩
                · have e26 : A.tmps[26]?.getD undef = .int .i64 (i : Int) := evalD ((detV_at rfl).1 (hdep 12 (by decide)))
                  have eg : A.eval (.tmp 25) = .bool false := (detV_at rfl).1 (hdep 11 (by decide))
                  refine flatE_go (t := 25) rfl rfl eg ?_
                  refine belE_run (u := .bool true) ?_ ((detV_at rfl).2 rfl)
                  simp [go_sem, e26, hip]
                refine ⟨fun A W hW hag hdep => ?_, ?_⟩
                · have e27 : A.tmps[27]?.getD undef = .bool true := evalD ((detV_at rfl).1 (hdep 13 (by decide)))
                  have eg : A.eval (.tmp 25) = .bool false := (detV_at rfl).1 (hdep 11 (by decide))
                  refine flatE_go (t := 25) rfl rfl eg ?_
                  refine belE_run (u := .bool true) ?_ ((detV_at rfl).2 rfl)
                  simp [go_sem, e27]
                refine ⟨fun A W hW hag hdep => ?_, ?_⟩
                · have e0 : A.tmps[0]?.getD undef = .slice (some ⟨b0, o0, none⟩) ms.length c := evalD (hag.keep (t := 0) (by kernel_rfl) rfl)
                  have eg : A.eval (.tmp 28) = .bool true := (detV_at rfl).1 (hdep 14 (by decide))
                  refine flatE_go (t := 28) rfl rfl eg ?_
                  refine belE_run (u := .slice (some ⟨b0, o0, none⟩) ms.length c) ?_ ((detV_at rfl).2 rfl)
                  simp [go_sem, e0]
                refine ⟨fun A W hW hag hdep => ?_, ?_⟩
                · have e5 : A.tmps[5]?.getD undef = .int .i64 (i : Int) := evalD (hag.keep (t := 5) (by kernel_rfl) rfl)
                  have eg : A.eval (.tmp 28) = .bool true := (detV_at rfl).1 (hdep 14 (by decide))
                  refine flatE_go (t := 28) rfl rfl eg ?_
                  refine belE_run (u := .int .i64 (i : Int)) ?_ ((detV_at rfl).2 rfl)
                  simp [go_sem, e5]
                refine ⟨fun A W hW hag hdep => ?_, ?_⟩
                · have e30 : A.tmps[30]?.getD undef = .int .i64 (i : Int) := evalD ((detV_at rfl).1 (hdep 16 (by decide)))
                  have eg : A.eval (.tmp 28) = .bool true := (detV_at rfl).1 (hdep 14 (by decide))
                  refine flatE_go (t := 28) rfl rfl eg ?_
                  refine belE_run (u := .int .i64 (q : Int)) ?_ ((detV_at rfl).2 rfl)
                  simp [go_sem, e30, hiq, hwq]
                refine ⟨fun A W hW hag hdep => ?_, ?_⟩
                · have e29 : A.tmps[29]?.getD undef = .slice (some ⟨b0, o0, none⟩) ms.length c := evalD ((detV_at rfl).1 (hdep 15 (by decide)))
                  have e31 : A.tmps[31]?.getD undef = .int .i64 (q : Int) := evalD ((detV_at rfl).1 (hdep 17 (by decide)))
                  have eg : A.eval (.tmp 28) = .bool true := (detV_at rfl).1 (hdep 14 (by decide))
                  refine flatE_go (t := 28) rfl rfl eg ?_
                  refine belE_run (u := .pointer (some ⟨b0, o0 + q * 4, none⟩)) ?_ ((detV_at rfl).2 rfl)
                  simp [go_sem, e29, e31, hqn]
                refine ⟨fun A W hW hag hdep => ?_, ?_⟩
                · have e32 : A.tmps[32]?.getD undef = .pointer (some ⟨b0, o0 + q * 4, none⟩) := evalD ((detV_at rfl).1 (hdep 18 (by decide)))
                  have eg : A.eval (.tmp 28) = .bool true := (detV_at rfl).1 (hdep 14 (by decide))
                  refine flatE_go (t := 28) rfl rfl eg ?_
                  obtain ⟨j0, j1, j2, j3⟩ := HPC.out W hW
                  refine belE_run (u := .agg #[.bool p.neg, .int .i64 p.exp, .slice pw pl pc, .slice pe pm pd]) ?_ ((detV_at rfl).2 rfl)
                  simp [go_sem, e32, j0, j1, j2, j3]
                refine ⟨fun A W hW hag hdep => ?_, ?_⟩
                · have e6 : A.tmps[6]?.getD undef = .pointer (some ⟨wr.heap.size, 0, none⟩) := evalD (hag.keep (t := 6) (by kernel_rfl) rfl)
                  have eg : A.eval (.tmp 28) = .bool true := (detV_at rfl).1 (hdep 14 (by decide))
                  refine flatE_go (t := 28) rfl rfl eg ?_
                  obtain ⟨q0, q1, q2, q3, _, _, _, _⟩ := (HX.out W hW)
                  refine belE_run (u := .agg #[.bool m.neg, .int .i64 m.exp, .slice aw lw cw, .slice ae le ce]) ?_ ((detV_at rfl).2 rfl)
                  simp [go_sem, e6, q0, q1, q2, q3]
                refine ⟨fun A W hW hag hdep => ?_, ?_⟩
                · have e33 : A.tmps[33]?.getD undef = .agg #[.bool p.neg, .int .i64 p.exp, .slice pw pl pc, .slice pe pm pd] := evalD ((detV_at rfl).1 (hdep 19 (by decide)))
                  have e34 : A.tmps[34]?.getD undef = .agg #[.bool m.neg, .int .i64 m.exp, .slice aw lw cw, .slice ae le ce] := evalD ((detV_at rfl).1 (hdep 20 (by decide)))
                  have eg : A.eval (.tmp 28) = .bool true := (detV_at rfl).1 (hdep 14 (by decide))
                  refine flatE_go (t := 28) rfl rfl eg ?_
                  refine belE_call (f := 88) (args := #[.agg #[.bool p.neg, .int .i64 p.exp, .slice pw pl pc, .slice pe pm pd], .agg #[.bool m.neg, .int .i64 m.exp, .slice aw lw cw, .slice ae le ce]]) (by simp [go_sem, e33, e34]) ((HAH.out W hW).mono ?_)
                  rintro e W2 ⟨rfl, hb2⟩
                  exact ⟨_, rfl, hb2, (detV_at rfl).2 rfl⟩
                refine ⟨fun A W hW hag hdep => ?_, ?_⟩
                · have e35 : A.tmps[35]?.getD undef = .int .i64 (cmpL m.es p.es) := evalD ((detV_at rfl).1 (hdep 21 (by decide)))
                  have eg : A.eval (.tmp 28) = .bool true := (detV_at rfl).1 (hdep 14 (by decide))
                  refine flatE_go (t := 28) rfl rfl eg ?_
                  refine belE_run (u := .bool true) ?_ ((detV_at rfl).2 rfl)
                  simp [go_sem, e35, hcv]
                refine ⟨fun A W hW hag hdep => ?_, ?_⟩
                · have e28 : A.tmps[28]?.getD undef = .bool true := evalD ((detV_at rfl).1 (hdep 14 (by decide)))
                  have e36 : A.tmps[36]?.getD undef = .bool true := evalD ((detV_at rfl).1 (hdep 22 (by decide)))
                  have eg : A.eval (.tmp 25) = .bool false := (detV_at rfl).1 (hdep 11 (by decide))
                  refine flatE_go (t := 25) rfl rfl eg ?_
                  refine belE_run (u := .bool true) ?_ ((detV_at rfl).2 rfl)
                  simp [go_sem, e28, e36]
                refine ⟨fun A W hW hag hdep => ?_, ?_⟩
                · have e25 : A.tmps[25]?.getD undef = .bool false := evalD ((detV_at rfl).1 (hdep 11 (by decide)))
                  have e37 : A.tmps[37]?.getD undef = .bool true := evalD ((detV_at rfl).1 (hdep 23 (by decide)))
                  refine flatE_on rfl ?_
                  refine belE_run (u := .bool true) ?_ ((detV_at rfl).2 rfl)
                  simp [go_sem, e25, e37]
                exact trivial
              intro vs W1 hW1 hvs
              have v24 : vs 24 = .bool true := (detV_at rfl).1 (hvs 24 (by decide))
              simp only [putAll, Act.put, List.setIfInBounds_toArray, List.set_cons_zero, List.set_cons_succ]
              rw [v24]
              have HW1 := Lib.hid (Below.next0 HB0.out hW1)
              clear hW1 hvs v24
              go_wp2_with fail
              go_ret
              exact ⟨YesNo.no HNO.out rfl, HW1.out⟩
            · have hcv : decide (0 ≤ cmpL m.es p.es) = false := decide_eq_false hcmp
              have hnx : (∀ j x, j < i + 1 → ms[j]? = some x → OkM k x) ∧ (∀ j p q, j + 1 < i + 1 → ms[j]? = some p → ms[j + 1]? = some q → 0 < cmpL p.es q.es) := ⟨HOK.out, fun j p' q' hj hp' hq' => by
                by_cases hji : j = q
                · subst hji
                  rw [HPQ.out.2] at hq'
                  have h1 := HPQ.out.1
                  rw [hp'] at h1
                  have h2 := HA.out.2.2.2.1
                  rw [hq'] at h2
                  injection h1 with h1
                  injection h2 with h2
                  subst h1; subst h2
                  have h7 := cmpL_swap q'.es p'.es
                  omega
                · exact HA.out.2.1 j p' q' (by have := HPQ.out.2; omega) hp' hq'⟩
              have HNX := Lib.hid hnx
              clear hnx hcmp
              refine wp_region_flatE (E := BelE) (fun w => Below.refl _ w) (by kernel_rfl) (fun W => Below W0.heap.size W0 W) (fun _ _ h h' => Below.next0 h h') (detV [.agg #[.bool m.neg, .int .i64 m.exp, .slice aw lw cw, .slice ae le ce], .int .i64 (k : Int), .bool true, .bool false, .bool false, .pointer (some ⟨wr.heap.size, 0, none⟩), .pointer (some ⟨wr.heap.size, 2, none⟩), .slice aw lw cw, .int .i64 (lw : Int), .bool false, .bool false, .bool false, .int .i64 (i : Int), .bool true, .bool true, .slice (some ⟨b0, o0, none⟩) ms.length c, .int .i64 (i : Int), .int .i64 (q : Int), .pointer (some ⟨b0, o0 + q * 4, none⟩), .agg #[.bool p.neg, .int .i64 p.exp, .slice pw pl pc, .slice pe pm pd], .agg #[.bool m.neg, .int .i64 m.exp, .slice aw lw cw, .slice ae le ce], .int .i64 (cmpL m.es p.es), .bool false, .bool false, .bool false] (fun _ => none)) (detV_growG (fun i φ h => by cases h)) (detV_all (by kernel_rfl)) (by kernel_rfl) (below_drew0 W0) ?_ ?_
              · skip
                refine ⟨fun A W hW hag hdep => ?_, ?_⟩
                · have e6 : A.tmps[6]?.getD undef = .pointer (some ⟨wr.heap.size, 0, none⟩) := evalD (hag.keep (t := 6) (by kernel_rfl) rfl)
                  refine flatE_on rfl ?_
                  obtain ⟨q0, q1, q2, q3, _, _, _, _⟩ := (HX.out W hW)
                  refine belE_run (u := .agg #[.bool m.neg, .int .i64 m.exp, .slice aw lw cw, .slice ae le ce]) ?_ ((detV_at rfl).2 rfl)
                  simp [go_sem, e6, q0, q1, q2, q3]
                refine ⟨fun A W hW hag hdep => ?_, ?_⟩
                · have e1 : A.tmps[1]?.getD undef = .int .i64 (k : Int) := evalD (hag.keep (t := 1) (by kernel_rfl) rfl)
                  refine flatE_on rfl ?_
                  refine belE_run (u := .int .i64 (k : Int)) ?_ ((detV_at rfl).2 rfl)
                  simp [go_sem, e1]
                refine ⟨fun A W hW hag hdep => ?_, ?_⟩
                · have e14 : A.tmps[14]?.getD undef = .agg #[.bool m.neg, .int .i64 m.exp, .slice aw lw cw, .slice ae le ce] := evalD ((detV_at rfl).1 (hdep 0 (by decide)))
                  have e15 : A.tmps[15]?.getD undef = .int .i64 (k : Int) := evalD ((detV_at rfl).1 (hdep 1 (by decide)))
                  refine flatE_on rfl ?_
                  refine belE_call (f := 87) (args := #[.agg #[.bool m.neg, .int .i64 m.exp, .slice aw lw cw, .slice ae le ce], .int .i64 (k : Int)]) (by simp [go_sem, e14, e15]) ((HMO.out W hW).mono ?_)
                  rintro e W2 ⟨rfl, hb2⟩
                  exact ⟨_, rfl, hb2, (detV_at rfl).2 rfl⟩
                refine ⟨fun A W hW hag hdep => ?_, ?_⟩
                · have e16 : A.tmps[16]?.getD undef = .bool true := evalD ((detV_at rfl).1 (hdep 2 (by decide)))
                  refine flatE_on rfl ?_
                  refine belE_run (u := .bool false) ?_ ((detV_at rfl).2 rfl)
                  simp [go_sem, e16]
                refine ⟨fun A W hW hag hdep => ?_, ?_⟩
                · have e17 : A.tmps[17]?.getD undef = .bool false := evalD ((detV_at rfl).1 (hdep 3 (by decide)))
                  refine flatE_on rfl ?_
                  refine belE_run (u := .bool false) ?_ ((detV_at rfl).2 rfl)
                  simp [go_sem, e17]
                refine ⟨fun A W hW hag hdep => ?_, ?_⟩
                · have e6 : A.tmps[6]?.getD undef = .pointer (some ⟨wr.heap.size, 0, none⟩) := evalD (hag.keep (t := 6) (by kernel_rfl) rfl)
                  have eg : A.eval (.tmp 18) = .bool false := (detV_at rfl).1 (hdep 4 (by decide))
                  refine flatE_go (t := 18) rfl rfl eg ?_
                  refine belE_run (u := .pointer (some ⟨wr.heap.size, 0, none⟩)) ?_ ((detV_at rfl).2 rfl)
                  simp [go_sem, e6]
                refine ⟨fun A W hW hag hdep => ?_, ?_⟩
                · have e19 : A.tmps[19]?.getD undef = .pointer (some ⟨wr.heap.size, 0, none⟩) := evalD ((detV_at rfl).1 (hdep 5 (by decide)))
                  have eg : A.eval (.tmp 18) = .bool false := (detV_at rfl).1 (hdep 4 (by decide))
                  refine flatE_go (t := 18) rfl rfl eg ?_
                  refine belE_run (u := .pointer (some ⟨wr.heap.size, 2, none⟩)) ?_ ((detV_at rfl).2 rfl)
                  simp [go_sem, e19]
                refine ⟨fun A W hW hag hdep => ?_, ?_⟩
                · have e20 : A.tmps[20]?.getD undef = .pointer (some ⟨wr.heap.size, 2, none⟩) := evalD ((detV_at rfl).1 (hdep 6 (by decide)))
                  have eg : A.eval (.tmp 18) = .bool false := (detV_at rfl).1 (hdep 4 (by decide))
                  refine flatE_go (t := 18) rfl rfl eg ?_
                  obtain ⟨_, _, q2, _, _, _, _, _⟩ := (HX.out W hW)
                  refine belE_run (u := .slice aw lw cw) ?_ ((detV_at rfl).2 rfl)
                  simp [go_sem, e20, q2]
                refine ⟨fun A W hW hag hdep => ?_, ?_⟩
                · have e21 : A.tmps[21]?.getD undef = .slice aw lw cw := evalD ((detV_at rfl).1 (hdep 7 (by decide)))
                  have eg : A.eval (.tmp 18) = .bool false := (detV_at rfl).1 (hdep 4 (by decide))
                  refine flatE_go (t := 18) rfl rfl eg ?_
                  refine belE_run (u := .int .i64 (lw : Int)) ?_ ((detV_at rfl).2 rfl)
                  simp [go_sem, e21]
                refine ⟨fun A W hW hag hdep => ?_, ?_⟩
                · have e22 : A.tmps[22]?.getD undef = .int .i64 (lw : Int) := evalD ((detV_at rfl).1 (hdep 8 (by decide)))
                  have eg : A.eval (.tmp 18) = .bool false := (detV_at rfl).1 (hdep 4 (by decide))
                  refine flatE_go (t := 18) rfl rfl eg ?_
                  refine belE_run (u := .bool false) ?_ ((detV_at rfl).2 rfl)
                  simp [go_sem, e22, hlw]
                refine ⟨fun A W hW hag hdep => ?_, ?_⟩
                · have e18 : A.tmps[18]?.getD undef = .bool false := evalD ((detV_at rfl).1 (hdep 4 (by decide)))
                  have e23 : A.tmps[23]?.getD undef = .bool false := evalD ((detV_at rfl).1 (hdep 9 (by decide)))
                  refine flatE_on rfl ?_
                  refine belE_run (u := .bool false) ?_ ((detV_at rfl).2 rfl)
                  simp [go_sem, e18, e23]
                refine ⟨fun A W hW hag hdep => ?_, ?_⟩
                · have e24 : A.tmps[24]?.getD undef = .bool false := evalD ((detV_at rfl).1 (hdep 10 (by decide)))
                  refine flatE_on rfl ?_
                  refine belE_run (u := .bool false) ?_ ((detV_at rfl).2 rfl)
                  simp [go_sem, e24]
                refine ⟨fun A W hW hag hdep => ?_, ?_⟩
                · have e5 : A.tmps[5]?.getD undef = .int .i64 (i : Int) := evalD (hag.keep (t := 5) (by kernel_rfl) rfl)
                  have eg : A.eval (.tmp 25) = .bool false := (detV_at rfl).1 (hdep 11 (by decide))
                  refine flatE_go (t := 25) rfl rfl eg ?_
                  refine belE_run (u := .int .i64 (i : Int)) ?_ ((detV_at rfl).2 rfl)
                  simp [go_sem, e5]
                refine ⟨fun A W hW hag hdep => ?_, ?_⟩
                · have e26 : A.tmps[26]?.getD undef = .int .i64 (i : Int) := evalD ((detV_at rfl).1 (hdep 12 (by decide)))
                  have eg : A.eval (.tmp 25) = .bool false := (detV_at rfl).1 (hdep 11 (by decide))
                  refine flatE_go (t := 25) rfl rfl eg ?_
                  refine belE_run (u := .bool true) ?_ ((detV_at rfl).2 rfl)
                  simp [go_sem, e26, hip]
                refine ⟨fun A W hW hag hdep => ?_, ?_⟩
                · have e27 : A.tmps[27]?.getD undef = .bool true := evalD ((detV_at rfl).1 (hdep 13 (by decide)))
                  have eg : A.eval (.tmp 25) = .bool false := (detV_at rfl).1 (hdep 11 (by decide))
                  refine flatE_go (t := 25) rfl rfl eg ?_
                  refine belE_run (u := .bool true) ?_ ((detV_at rfl).2 rfl)
                  simp [go_sem, e27]
                refine ⟨fun A W hW hag hdep => ?_, ?_⟩
                · have e0 : A.tmps[0]?.getD undef = .slice (some ⟨b0, o0, none⟩) ms.length c := evalD (hag.keep (t := 0) (by kernel_rfl) rfl)
                  have eg : A.eval (.tmp 28) = .bool true := (detV_at rfl).1 (hdep 14 (by decide))
                  refine flatE_go (t := 28) rfl rfl eg ?_
                  refine belE_run (u := .slice (some ⟨b0, o0, none⟩) ms.length c) ?_ ((detV_at rfl).2 rfl)
                  simp [go_sem, e0]
                refine ⟨fun A W hW hag hdep => ?_, ?_⟩
                · have e5 : A.tmps[5]?.getD undef = .int .i64 (i : Int) := evalD (hag.keep (t := 5) (by kernel_rfl) rfl)
                  have eg : A.eval (.tmp 28) = .bool true := (detV_at rfl).1 (hdep 14 (by decide))
                  refine flatE_go (t := 28) rfl rfl eg ?_
                  refine belE_run (u := .int .i64 (i : Int)) ?_ ((detV_at rfl).2 rfl)
                  simp [go_sem, e5]
                refine ⟨fun A W hW hag hdep => ?_, ?_⟩
                · have e30 : A.tmps[30]?.getD undef = .int .i64 (i : Int) := evalD ((detV_at rfl).1 (hdep 16 (by decide)))
                  have eg : A.eval (.tmp 28) = .bool true := (detV_at rfl).1 (hdep 14 (by decide))
                  refine flatE_go (t := 28) rfl rfl eg ?_
                  refine belE_run (u := .int .i64 (q : Int)) ?_ ((detV_at rfl).2 rfl)
                  simp [go_sem, e30, hiq, hwq]
                refine ⟨fun A W hW hag hdep => ?_, ?_⟩
                · have e29 : A.tmps[29]?.getD undef = .slice (some ⟨b0, o0, none⟩) ms.length c := evalD ((detV_at rfl).1 (hdep 15 (by decide)))
                  have e31 : A.tmps[31]?.getD undef = .int .i64 (q : Int) := evalD ((detV_at rfl).1 (hdep 17 (by decide)))
                  have eg : A.eval (.tmp 28) = .bool true := (detV_at rfl).1 (hdep 14 (by decide))
                  refine flatE_go (t := 28) rfl rfl eg ?_
                  refine belE_run (u := .pointer (some ⟨b0, o0 + q * 4, none⟩)) ?_ ((detV_at rfl).2 rfl)
                  simp [go_sem, e29, e31, hqn]
                refine ⟨fun A W hW hag hdep => ?_, ?_⟩
                · have e32 : A.tmps[32]?.getD undef = .pointer (some ⟨b0, o0 + q * 4, none⟩) := evalD ((detV_at rfl).1 (hdep 18 (by decide)))
                  have eg : A.eval (.tmp 28) = .bool true := (detV_at rfl).1 (hdep 14 (by decide))
                  refine flatE_go (t := 28) rfl rfl eg ?_
                  obtain ⟨j0, j1, j2, j3⟩ := HPC.out W hW
                  refine belE_run (u := .agg #[.bool p.neg, .int .i64 p.exp, .slice pw pl pc, .slice pe pm pd]) ?_ ((detV_at rfl).2 rfl)
                  simp [go_sem, e32, j0, j1, j2, j3]
                refine ⟨fun A W hW hag hdep => ?_, ?_⟩
                · have e6 : A.tmps[6]?.getD undef = .pointer (some ⟨wr.heap.size, 0, none⟩) := evalD (hag.keep (t := 6) (by kernel_rfl) rfl)
                  have eg : A.eval (.tmp 28) = .bool true := (detV_at rfl).1 (hdep 14 (by decide))
                  refine flatE_go (t := 28) rfl rfl eg ?_
                  obtain ⟨q0, q1, q2, q3, _, _, _, _⟩ := (HX.out W hW)
                  refine belE_run (u := .agg #[.bool m.neg, .int .i64 m.exp, .slice aw lw cw, .slice ae le ce]) ?_ ((detV_at rfl).2 rfl)
                  simp [go_sem, e6, q0, q1, q2, q3]
                refine ⟨fun A W hW hag hdep => ?_, ?_⟩
                · have e33 : A.tmps[33]?.getD undef = .agg #[.bool p.neg, .int .i64 p.exp, .slice pw pl pc, .slice pe pm pd] := evalD ((detV_at rfl).1 (hdep 19 (by decide)))
                  have e34 : A.tmps[34]?.getD undef = .agg #[.bool m.neg, .int .i64 m.exp, .slice aw lw cw, .slice ae le ce] := evalD ((detV_at rfl).1 (hdep 20 (by decide)))
                  have eg : A.eval (.tmp 28) = .bool true := (detV_at rfl).1 (hdep 14 (by decide))
                  refine flatE_go (t := 28) rfl rfl eg ?_
                  refine belE_call (f := 88) (args := #[.agg #[.bool p.neg, .int .i64 p.exp, .slice pw pl pc, .slice pe pm pd], .agg #[.bool m.neg, .int .i64 m.exp, .slice aw lw cw, .slice ae le ce]]) (by simp [go_sem, e33, e34]) ((HAH.out W hW).mono ?_)
                  rintro e W2 ⟨rfl, hb2⟩
                  exact ⟨_, rfl, hb2, (detV_at rfl).2 rfl⟩
                refine ⟨fun A W hW hag hdep => ?_, ?_⟩
                · have e35 : A.tmps[35]?.getD undef = .int .i64 (cmpL m.es p.es) := evalD ((detV_at rfl).1 (hdep 21 (by decide)))
                  have eg : A.eval (.tmp 28) = .bool true := (detV_at rfl).1 (hdep 14 (by decide))
                  refine flatE_go (t := 28) rfl rfl eg ?_
                  refine belE_run (u := .bool false) ?_ ((detV_at rfl).2 rfl)
                  simp [go_sem, e35, hcv]
                refine ⟨fun A W hW hag hdep => ?_, ?_⟩
                · have e28 : A.tmps[28]?.getD undef = .bool true := evalD ((detV_at rfl).1 (hdep 14 (by decide)))
                  have e36 : A.tmps[36]?.getD undef = .bool false := evalD ((detV_at rfl).1 (hdep 22 (by decide)))
                  have eg : A.eval (.tmp 25) = .bool false := (detV_at rfl).1 (hdep 11 (by decide))
                  refine flatE_go (t := 25) rfl rfl eg ?_
                  refine belE_run (u := .bool false) ?_ ((detV_at rfl).2 rfl)
                  simp [go_sem, e28, e36]
                refine ⟨fun A W hW hag hdep => ?_, ?_⟩
                · have e25 : A.tmps[25]?.getD undef = .bool false := evalD ((detV_at rfl).1 (hdep 11 (by decide)))
                  have e37 : A.tmps[37]?.getD undef = .bool false := evalD ((detV_at rfl).1 (hdep 23 (by decide)))
                  refine flatE_on rfl ?_
                  refine belE_run (u := .bool false) ?_ ((detV_at rfl).2 rfl)
                  simp [go_sem, e25, e37]
                exact trivial
              intro vs W1 hW1 hvs
              have v24 : vs 24 = .bool false := (detV_at rfl).1 (hvs 24 (by decide))
              simp only [putAll, Act.put, List.setIfInBounds_toArray, List.set_cons_zero, List.set_cons_succ]
              rw [v24]
              have HW1 := Lib.hid (Below.next0 HB0.out hW1)
              clear hW1 hvs v24
              go_wp2_with fail
              refine ⟨⟨i + 1, by simp only [Value.int.injEq, true_and]; omega, by omega, HNX.out.1, HNX.out.2, HW1.out⟩, by simp only [intOf]; omega⟩
      · simp only [decide_eq_false hmo] at hMO
        have HMO := Lib.hid hMO
        have hno : ¬ RightV k ms := fun h => hmo (h.2.2.2.1 m (List.mem_of_getElem? HA.out.2.2.2.1)).1
        have HNO := Lib.hid hno
        clear hMO hmo hno hlwl
        refine wp_region_flatE (E := BelE) (fun w => Below.refl _ w) (by kernel_rfl) (fun W => Below W0.heap.size W0 W) (fun _ _ h h' => Below.next0 h h') (detV [.agg #[.bool m.neg, .int .i64 m.exp, .slice aw lw cw, .slice ae le ce], .int .i64 (k : Int), .bool false, .bool true, .bool true, undef, undef, undef, undef, undef, .bool true, .bool true, undef, undef, undef, undef, undef, undef, undef, undef, undef, undef, undef, undef, .bool true] (fun _ => none)) (detV_growG (fun i φ h => by cases h)) (detV_all (by kernel_rfl)) (by kernel_rfl) (below_drew0 W0) ?_ ?_
        · skip
          refine ⟨fun A W hW hag hdep => ?_, ?_⟩
          · have e6 : A.tmps[6]?.getD undef = .pointer (some ⟨wr.heap.size, 0, none⟩) := evalD (hag.keep (t := 6) (by kernel_rfl) rfl)
            refine flatE_on rfl ?_
            obtain ⟨q0, q1, q2, q3, _, _, _, _⟩ := (HX.out W hW)
            refine belE_run (u := .agg #[.bool m.neg, .int .i64 m.exp, .slice aw lw cw, .slice ae le ce]) ?_ ((detV_at rfl).2 rfl)
            simp [go_sem, e6, q0, q1, q2, q3]
          refine ⟨fun A W hW hag hdep => ?_, ?_⟩
          · have e1 : A.tmps[1]?.getD undef = .int .i64 (k : Int) := evalD (hag.keep (t := 1) (by kernel_rfl) rfl)
            refine flatE_on rfl ?_
            refine belE_run (u := .int .i64 (k : Int)) ?_ ((detV_at rfl).2 rfl)
            simp [go_sem, e1]
          refine ⟨fun A W hW hag hdep => ?_, ?_⟩
          · have e14 : A.tmps[14]?.getD undef = .agg #[.bool m.neg, .int .i64 m.exp, .slice aw lw cw, .slice ae le ce] := evalD ((detV_at rfl).1 (hdep 0 (by decide)))
            have e15 : A.tmps[15]?.getD undef = .int .i64 (k : Int) := evalD ((detV_at rfl).1 (hdep 1 (by decide)))
            refine flatE_on rfl ?_
            refine belE_call (f := 87) (args := #[.agg #[.bool m.neg, .int .i64 m.exp, .slice aw lw cw, .slice ae le ce], .int .i64 (k : Int)]) (by simp [go_sem, e14, e15]) ((HMO.out W hW).mono ?_)
            rintro e W2 ⟨rfl, hb2⟩
            exact ⟨_, rfl, hb2, (detV_at rfl).2 rfl⟩
          refine ⟨fun A W hW hag hdep => ?_, ?_⟩
          · have e16 : A.tmps[16]?.getD undef = .bool false := evalD ((detV_at rfl).1 (hdep 2 (by decide)))
            refine flatE_on rfl ?_
            refine belE_run (u := .bool true) ?_ ((detV_at rfl).2 rfl)
            simp [go_sem, e16]
          refine ⟨fun A W hW hag hdep => ?_, ?_⟩
          · have e17 : A.tmps[17]?.getD undef = .bool true := evalD ((detV_at rfl).1 (hdep 3 (by decide)))
            refine flatE_on rfl ?_
            refine belE_run (u := .bool true) ?_ ((detV_at rfl).2 rfl)
            simp [go_sem, e17]
          refine ⟨fun A W hW hag hdep => ?_, ?_⟩
          · have eg : A.eval (.tmp 18) = .bool (!false) := (detV_at rfl).1 (hdep 4 (by decide))
            exact flatE_not (t := 18) rfl rfl eg ((detV_at rfl).2 rfl)
          refine ⟨fun A W hW hag hdep => ?_, ?_⟩
          · have eg : A.eval (.tmp 18) = .bool (!false) := (detV_at rfl).1 (hdep 4 (by decide))
            exact flatE_not (t := 18) rfl rfl eg ((detV_at rfl).2 rfl)
          refine ⟨fun A W hW hag hdep => ?_, ?_⟩
          · have eg : A.eval (.tmp 18) = .bool (!false) := (detV_at rfl).1 (hdep 4 (by decide))
            exact flatE_not (t := 18) rfl rfl eg ((detV_at rfl).2 rfl)
          refine ⟨fun A W hW hag hdep => ?_, ?_⟩
          · have eg : A.eval (.tmp 18) = .bool (!false) := (detV_at rfl).1 (hdep 4 (by decide))
            exact flatE_not (t := 18) rfl rfl eg ((detV_at rfl).2 rfl)
          refine ⟨fun A W hW hag hdep => ?_, ?_⟩
          · have eg : A.eval (.tmp 18) = .bool (!false) := (detV_at rfl).1 (hdep 4 (by decide))
            exact flatE_not (t := 18) rfl rfl eg ((detV_at rfl).2 rfl)
          refine ⟨fun A W hW hag hdep => ?_, ?_⟩
          · have e18 : A.tmps[18]?.getD undef = .bool true := evalD ((detV_at rfl).1 (hdep 4 (by decide)))
            have e23 : A.tmps[23]?.getD undef = undef := evalD ((detV_at rfl).1 (hdep 9 (by decide)))
            refine flatE_on rfl ?_
            refine belE_run (u := .bool true) ?_ ((detV_at rfl).2 rfl)
            simp [go_sem, e18, e23]
          refine ⟨fun A W hW hag hdep => ?_, ?_⟩
          · have e24 : A.tmps[24]?.getD undef = .bool true := evalD ((detV_at rfl).1 (hdep 10 (by decide)))
            refine flatE_on rfl ?_
            refine belE_run (u := .bool true) ?_ ((detV_at rfl).2 rfl)
            simp [go_sem, e24]
          refine ⟨fun A W hW hag hdep => ?_, ?_⟩
          · have eg : A.eval (.tmp 25) = .bool (!false) := (detV_at rfl).1 (hdep 11 (by decide))
            exact flatE_not (t := 25) rfl rfl eg ((detV_at rfl).2 rfl)
          refine ⟨fun A W hW hag hdep => ?_, ?_⟩
          · have eg : A.eval (.tmp 25) = .bool (!false) := (detV_at rfl).1 (hdep 11 (by decide))
            exact flatE_not (t := 25) rfl rfl eg ((detV_at rfl).2 rfl)
          refine ⟨fun A W hW hag hdep => ?_, ?_⟩
          · have eg : A.eval (.tmp 25) = .bool (!false) := (detV_at rfl).1 (hdep 11 (by decide))
            exact flatE_not (t := 25) rfl rfl eg ((detV_at rfl).2 rfl)
          refine ⟨fun A W hW hag hdep => ?_, ?_⟩
          · have eg : A.eval (.tmp 28) = undef := (detV_at rfl).1 (hdep 14 (by decide))
            exact flatE_undef (t := 28) rfl rfl eg ((detV_at rfl).2 rfl)
          refine ⟨fun A W hW hag hdep => ?_, ?_⟩
          · have eg : A.eval (.tmp 28) = undef := (detV_at rfl).1 (hdep 14 (by decide))
            exact flatE_undef (t := 28) rfl rfl eg ((detV_at rfl).2 rfl)
          refine ⟨fun A W hW hag hdep => ?_, ?_⟩
          · have eg : A.eval (.tmp 28) = undef := (detV_at rfl).1 (hdep 14 (by decide))
            exact flatE_undef (t := 28) rfl rfl eg ((detV_at rfl).2 rfl)
          refine ⟨fun A W hW hag hdep => ?_, ?_⟩
          · have eg : A.eval (.tmp 28) = undef := (detV_at rfl).1 (hdep 14 (by decide))
            exact flatE_undef (t := 28) rfl rfl eg ((detV_at rfl).2 rfl)
          refine ⟨fun A W hW hag hdep => ?_, ?_⟩
          · have eg : A.eval (.tmp 28) = undef := (detV_at rfl).1 (hdep 14 (by decide))
            exact flatE_undef (t := 28) rfl rfl eg ((detV_at rfl).2 rfl)
          refine ⟨fun A W hW hag hdep => ?_, ?_⟩
          · have eg : A.eval (.tmp 28) = undef := (detV_at rfl).1 (hdep 14 (by decide))
            exact flatE_undef (t := 28) rfl rfl eg ((detV_at rfl).2 rfl)
          refine ⟨fun A W hW hag hdep => ?_, ?_⟩
          · have eg : A.eval (.tmp 28) = undef := (detV_at rfl).1 (hdep 14 (by decide))
            exact flatE_undef (t := 28) rfl rfl eg ((detV_at rfl).2 rfl)
          refine ⟨fun A W hW hag hdep => ?_, ?_⟩
          · have eg : A.eval (.tmp 28) = undef := (detV_at rfl).1 (hdep 14 (by decide))
            exact flatE_undef (t := 28) rfl rfl eg ((detV_at rfl).2 rfl)
          refine ⟨fun A W hW hag hdep => ?_, ?_⟩
          · have eg : A.eval (.tmp 25) = .bool (!false) := (detV_at rfl).1 (hdep 11 (by decide))
            exact flatE_not (t := 25) rfl rfl eg ((detV_at rfl).2 rfl)
          refine ⟨fun A W hW hag hdep => ?_, ?_⟩
          · have e25 : A.tmps[25]?.getD undef = .bool true := evalD ((detV_at rfl).1 (hdep 11 (by decide)))
            have e37 : A.tmps[37]?.getD undef = undef := evalD ((detV_at rfl).1 (hdep 23 (by decide)))
            refine flatE_on rfl ?_
            refine belE_run (u := .bool true) ?_ ((detV_at rfl).2 rfl)
            simp [go_sem, e25, e37]
          exact trivial
        intro vs W1 hW1 hvs
        have v24 : vs 24 = .bool true := (detV_at rfl).1 (hvs 24 (by decide))
        simp only [putAll, Act.put, List.setIfInBounds_toArray, List.set_cons_zero, List.set_cons_succ]
        rw [v24]
        have HW1 := Lib.hid (Below.next0 HB0.out hW1)
        clear hW1 hvs v24
        go_wp2_with fail
        go_ret
        exact ⟨YesNo.no HNO.out rfl, HW1.out⟩
    · obtain rfl : i = ms.length := by omega
      have hlt' : ¬ ((ms.length : Int) < (ms.length : Int)) := by omega
      have hall : (∀ m ∈ ms, OkM k m) ∧ ms.Pairwise fun p q => 0 < cmpL p.es q.es := ⟨fun m hm => by
        obtain ⟨j, hj⟩ := List.mem_iff_getElem?.1 hm
        exact hok j m (List.getElem?_eq_some_iff.1 hj).1 hj, adj_pairwise ms fun j p q hp hq => hadj j p q (List.getElem?_eq_some_iff.1 hq).1 hp hq⟩
      have HF := Lib.hid (And.intro hall hb)
      clear hall hb hok hadj
      by_cases k1 : 1 ≤ k
      · have k1' : (1 : Int) ≤ (k : Int) := by omega
        by_cases k4 : k ≤ 4
        · have k4' : (k : Int) ≤ 4 := by omega
          by_cases l24 : ms.length ≤ 24
          · have l24' : (ms.length : Int) ≤ 24 := by omega
            go_wp2_with fail
            go_ret
            exact ⟨YesNo.yes ⟨k1, k4, l24, HF.out.1.1, HF.out.1.2⟩ rfl, HF.out.2⟩
          · have l24' : ¬ (ms.length : Int) ≤ 24 := by omega
            go_wp2_with fail
            go_ret
            exact ⟨YesNo.no (fun h => l24 h.2.2.1) rfl, HF.out.2⟩
        · have k4' : ¬ (k : Int) ≤ 4 := by omega
          go_wp2_with fail
          go_ret
          exact ⟨YesNo.no (fun h => k4 h.2.1) rfl, HF.out.2⟩
      · have k1' : ¬ (1 : Int) ≤ (k : Int) := by omega
        go_wp2_with fail
        go_ret
        exact ⟨YesNo.no (fun h => k1 h.1) rfl, HF.out.2⟩
end Go.Proofs.YtdilmfakkppgpaaGreatDoor
