/- Part 25 of the proof of LawParseDeep: ParseDeepW. Condition: as each theorem says; none at the end. -/
import Derived.Test.YtdilmfakkppgpaaGreatDoorPkParseDeep12
import Derived.Test.YtdilmfakkppgpaaGreatDoorPkParseDeep24
namespace Go.Proofs.YtdilmfakkppgpaaGreatDoor
open Go.RowKit WordsM DecM
def OneV (u : Value) (w : World) : Prop := ∃ n e a l c L, u = .agg #[.bool n, .int .i64 e, .slice a l c] ∧ IsNum n e L ∧ WordsIn w a l c L ∧ numD n e L = dy (1 : Int) 0
theorem OneV.stable : Stable OneV := fun u w w' h hb => by
  obtain ⟨n, e, a, l, c, L, rfl, h1, h2, h3⟩ := h
  exact ⟨n, e, a, l, c, L, rfl, h1, h2.step hb, h3⟩
structure DeepAt (W : World) (g o i b2 o2 d : Nat) (m : MonoV) (aw : Option Addr) (lw cw be oe n ce : Nat) : Prop where
  cf : W.cell? ⟨g, o + i, none⟩ = some (.slice (some ⟨b2, o2, none⟩) 1 d)
  m0 : W.cell? ⟨b2, o2, none⟩ = some (.bool m.neg)
  m1 : W.cell? ⟨b2, o2 + 1, none⟩ = some (.int .i64 m.exp)
  m2 : W.cell? ⟨b2, o2 + 2, none⟩ = some (.slice aw lw cw)
  m3 : W.cell? ⟨b2, o2 + 3, none⟩ = some (.slice (some ⟨be, oe, none⟩) n ce)
  x0 : W.cell? ⟨be, oe, none⟩ = some (.int .i64 1)
  wd : WordsIn W aw lw cw m.ws
  ms : MonosIn W (some ⟨b2, o2, none⟩) 1 d [m]
theorem DeepAt.step {W W' : World} {g o i b2 o2 d : Nat} {m : MonoV} {aw : Option Addr} {lw cw be oe n ce : Nat} (h : DeepAt W g o i b2 o2 d m aw lw cw be oe n ce) (hg : g < W.heap.size) (hb2 : b2 < W.heap.size) (hbe : be < W.heap.size) (hb : Below W.heap.size W W') : DeepAt W' g o i b2 o2 d m aw lw cw be oe n ce :=
  ⟨(hb.cell (p := ⟨g, o + i, none⟩) hg).trans h.cf, (hb.cell (p := ⟨b2, o2, none⟩) hb2).trans h.m0, (hb.cell (p := ⟨b2, o2 + 1, none⟩) hb2).trans h.m1, (hb.cell (p := ⟨b2, o2 + 2, none⟩) hb2).trans h.m2, (hb.cell (p := ⟨b2, o2 + 3, none⟩) hb2).trans h.m3, (hb.cell (p := ⟨be, oe, none⟩) hbe).trans h.x0, h.wd.step hb, h.ms.step hb⟩
theorem conv_byte (wr : World) (v : Int) (d : UInt8) (hv : v = (d.toNat : Int)) : (convert 33 9 (.slice (some ⟨wr.heap.size, 0, none⟩) 1 1)).run Tryz.prog (wr.alloc (.cells #[.int .u8 v] 5)) = .ok (.string ⟨#[d]⟩) (wr.alloc (.cells #[.int .u8 v] 5)) := by
  refine run_string_b _ (wr.heap.size + 1) _ 1 1 [d] ?_ rfl
  refine .inr ⟨wr.heap.size, 0, rfl, by omega, fun j x hx => ?_⟩
  cases j with
  | zero =>
    have hx : some d = some x := hx
    injection hx with hx
    subst hx
    rw [cell_of_row _ _ _ _ _ _ (heap_alloc_new _ _), hv]
    rfl
  | succ j => cases hx
theorem deep_next (i j : Nat) (hj : j < 9) : (⟨(deepF i 0 j).toArray⟩ : ByteArray) ++ (⟨#[120]⟩ ++ ⟨#[UInt8.ofNat (48 + (j + 1))]⟩ ++ ⟨#[39, 32, 61, 32]⟩ ++ ⟨(List.replicate i 40).toArray⟩ ++ ⟨#[120, 49]⟩ ++ ⟨(List.replicate i 41).toArray⟩ ++ ⟨#[10]⟩) = ⟨(deepF i 0 (j + 1)).toArray⟩ := by
  rw [deepF_snoc, deepL, headM, Nat.zero_add, dec_low (by omega), deepT]
  apply ByteArray.ext
  simp [ByteArray.data_append]
theorem deep_poly {j : Nat} {Fv : List (List MonoV)} (hF : Fv.map (List.map MonoV.term) = List.replicate j [(1, scaleE j 0 1)]) {t : Nat} {ms : List MonoV} (h : Fv[t]? = some ms) : ∃ m, ms = [m] ∧ m.term = (1, scaleE j 0 1) := by
  have h1 : (Fv.map (List.map MonoV.term))[t]? = some (ms.map MonoV.term) := by rw [List.getElem?_map, h]; rfl
  rw [hF, List.getElem?_replicate] at h1
  split at h1
  · injection h1 with h1
    cases ms with
    | nil => cases h1
    | cons m r =>
      simp only [List.map_cons, List.cons.injEq] at h1
      obtain ⟨h2, h3⟩ := h1
      exact ⟨m, by rw [List.map_eq_nil_iff.1 h3.symm], h2.symm⟩
  · cases h1
theorem len_opens (k : Nat) : List.replicate (k + 1) (40 : UInt8) = List.replicate k 40 ++ [40] := List.replicate_succ' ..
theorem len_closes (k : Nat) : List.replicate (k + 1) (41 : UInt8) = List.replicate k 41 ++ [41] := List.replicate_succ' ..
set_option maxRecDepth 100000 in
set_option maxHeartbeats 8000000 in
theorem walkParseDeep (D M : Nat) (w : World) (hD : D < 256) (hM : M < 256) (hL : Laid w) :
    Calls Tryz.prog 5 #[.int .u8 (D : Int), .int .u8 (M : Int)] w fun e w' => e = .returned (.bool true) ∧ Below w.heap.size w w' := by
  have hkn := known_any w hL
  obtain ⟨k, hk⟩ : ∃ k, D % 40 = k := ⟨_, rfl⟩
  obtain ⟨n, hn⟩ : ∃ n, 1 + M % 7 = n := ⟨_, rfl⟩
  have hkI : (D : Int) % 40 = (k : Int) := by omega
  have hnI : 1 + (M : Int) % 7 = (n : Int) := by omega
  have hk40 : k < 40 := by omega
  have hn1 : 1 ≤ n := by omega
  have hn7 : n ≤ 7 := by omega
  have hpd := parse_deep k n hn1
  have H := Lib.hid (And.intro hkn (And.intro hL hpd))
  clear hkn hL hk hn hpd
  go_enter Tryz.func5, Tryz.ntmps5
  go_wp2_with (go_at_call 8; refine H.out.1.mono ?_; rintro r w1 ⟨rfl, hb1⟩; have H1 := Lib.hid hb1; clear hb1)
  go_loopw [7, 8, 9] (fun s7 s8 s9 wr => ∃ i : Nat, s7 = sv (List.replicate i 40) ∧ s8 = sv (List.replicate i 41) ∧ s9 = .int .i64 (i : Int) ∧ i ≤ k ∧ wr = w1) (fun _ _ iv _ => k - (intOf iv).toNat)
  case atStart => exact ⟨0, rfl, rfl, rfl, Nat.zero_le _, rfl⟩
  case round =>
    obtain ⟨i, rfl, rfl, rfl, hi, rfl⟩ := hrel
    by_cases hlt : i < k
    · have hlt' : (i : Int) < (k : Int) := by omega
      go_wp2_with fail
      exact ⟨⟨i + 1, by rw [len_opens]; exact congrArg Value.string (ba_app _ [40]), by rw [len_closes]; exact congrArg Value.string (ba_app _ [41]), congrArg (Value.int .i64) (by omega), hlt, trivial⟩, by simp only [intOf]; omega⟩
    · have hlt' : ¬ (i : Int) < (k : Int) := by omega
      obtain rfl : i = k := by omega
      go_wp2_with fail
      rename World => wl
      obtain ⟨la, hla⟩ : ∃ la, List.replicate i (40 : UInt8) = la := ⟨_, rfl⟩
      obtain ⟨lb, hlb⟩ : ∃ lb, List.replicate i (41 : UInt8) = lb := ⟨_, rfl⟩
      rw [hla, hlb]
      have hlal : la.length = i := by rw [← hla, List.length_replicate]
      have hlbl : lb.length = i := by rw [← hlb, List.length_replicate]
      have HLL := Lib.hid (And.intro hla hlb)
      clear hla hlb
      go_loopw [10, 11] (fun s10 s11 wr => ∃ j : Nat, s10 = sv (deepF i 0 j) ∧ s11 = .int .i64 ((j + 1 : Nat) : Int) ∧ j ≤ n ∧ Below wl.heap.size wl wr) (fun _ iv _ => n + 1 - (intOf iv).toNat)
      case atStart => exact ⟨0, rfl, rfl, Nat.zero_le _, Below.refl _ _⟩
      case round =>
        obtain ⟨j, rfl, rfl, hj, hbr⟩ := hrel
        by_cases hjn : j < n
        · have hjn' : ((j + 1 : Nat) : Int) ≤ (n : Int) := by omega
          obtain ⟨dd, hdd⟩ : ∃ dd, UInt8.ofNat (48 + (j + 1)) = dd := ⟨_, rfl⟩
          have hcv := conv_byte wr (48 + ((j : Int) + 1)) dd (by rw [← hdd, UInt8.toNat_ofNat']; omega)
          have hnx := deep_next i j (by omega)
          have hfl : (deepF i 0 j).length ≤ 609 := by
            rw [deepF_len i j 0 (by omega)]
            exact Nat.le_trans (Nat.mul_le_mul (show j ≤ 7 by omega) (show 9 + 2 * i ≤ 87 by omega)) (by decide)
          rw [hdd, HLL.out.1, HLL.out.2] at hnx
          have HS := Lib.hid (And.intro hbr (And.intro hcv hnx))
          clear hdd hnx
          clear hbr hcv
          go_wp2_with fail
          rw [HS.out.2.1]
          go_wp2_with fail
          refine ⟨⟨j + 1, congrArg Value.string HS.out.2.2, congrArg (Value.int .i64) (by omega), hjn, HS.out.1.alloc HS.out.1.size _⟩, by simp only [intOf]; omega⟩
        · have hjn' : ¬ ((j + 1 : Nat) : Int) ≤ (n : Int) := by omega
          obtain rfl : j = n := by omega
          have hlen : (deepF i 0 j).length = j * (9 + 2 * i) := deepF_len i j 0 (by omega)
          have hlen2 : j * (9 + 2 * i) ≤ 7 * 87 := Nat.mul_le_mul (by omega) (by omega)
          have hbw := Below.next0 H1.out hbr
          have hp := fieldparse_any ⟨(deepF i 0 j).toArray⟩ wr (by show (deepF i 0 j).length ≤ _; omega) (H.out.2.1.below hbw).tz
          rw [show (⟨(deepF i 0 j).toArray⟩ : ByteArray).data.toList = deepF i 0 j from rfl] at hp
          by_cases h16 : 16 < i
          · have h16' : (16 : Int) < (i : Int) := by omega
            rw [H.out.2.2.1 h16] at hp
            have HP := Lib.hid (And.intro hp hbw)
            clear hp hbw hbr hlen hlen2 h16
            go_wp2_with (go_at_call 17; refine HP.out.1.mono ?_; rintro r w2 ⟨hb2, rfl⟩; have H2 := Lib.hid hb2; clear hb2)
            go_ret
            exact ⟨rfl, Below.next0 HP.out.2 H2.out⟩
          · have h16' : ¬ (16 : Int) < (i : Int) := by omega
            by_cases h4 : 4 < j
            · have h4' : (4 : Int) < (j : Int) := by omega
              rw [H.out.2.2.2.1 (by omega) h4] at hp
              have HP := Lib.hid (And.intro hp hbw)
              clear hp hbw hbr hlen hlen2 h16 h4
              go_wp2_with (go_at_call 17; refine HP.out.1.mono ?_; rintro r w2 ⟨hb2, rfl⟩; have H2 := Lib.hid hb2; clear hb2)
              go_ret
              exact ⟨rfl, Below.next0 HP.out.2 H2.out⟩
            · have h4' : ¬ (4 : Int) < (j : Int) := by omega
              rw [H.out.2.2.2.2 (by omega) (by omega)] at hp
              have HP := Lib.hid (And.intro hp hbw)
              clear hp hbw hbr hlen hlen2 h16 h4
              go_wp2_with (go_at_call 17; refine HP.out.1.mono ?_; rintro r w2 ⟨hb2, a2, n2, c, Fv, rfl, hF2, ht2, hr2⟩
                           obtain rfl : j = n2 := by { have h0 := congrArg List.length ht2; rw [List.length_map, hF2.1, List.length_replicate] at h0; exact h0.symm }
                           have H2 := Lib.hid (And.intro hb2 (And.intro hF2 (And.intro ht2 hr2)))
                           clear hb2 hF2 ht2 hr2)
              rename World => w2
              go_loopw [16] (fun s16 wr => ∃ t : Nat, s16 = .int .i64 (t : Int) ∧ t ≤ j ∧ Below w2.heap.size w2 wr) (fun iv _ => j - (intOf iv).toNat)
              case atStart => exact ⟨0, rfl, Nat.zero_le _, Below.refl _ _⟩
              case round =>
                obtain ⟨t, rfl, ht, hbt⟩ := hrel
                by_cases htj : t < j
                · have hlt' : (t : Int) < (j : Int) := by omega
                  have hj0 : ¬ j = 0 := by omega
                  obtain ⟨ms, hms⟩ : ∃ ms, Fv[t]? = some ms := ⟨_, List.getElem?_eq_getElem (by rw [H2.out.2.1.1]; exact htj)⟩
                  obtain ⟨m, rfl, hmt⟩ := deep_poly H2.out.2.2.1 hms
                  have hrv := H2.out.2.2.2.2.2 _ (List.mem_of_getElem? hms)
                  rw [H2.out.2.1.1] at hrv
                  obtain ⟨_, _, _, h0 | ⟨g, o, rfl, hg, hFi⟩⟩ := H2.out.2.1
                  · rw [h0] at hms; simp at hms
                  obtain ⟨p, l, d, hcf, hM⟩ := hFi t _ hms
                  obtain rfl : 1 = l := hM.1
                  have hM' := hM
                  obtain ⟨_, _, _, h0 | ⟨b2, o2, rfl, hb2, hMA⟩⟩ := hM'
                  · cases h0
                  obtain ⟨aw, lw, cw, ae, le, ce, q0, q1, q2, q3, hwm, hem, hx1, hx2⟩ := hMA 0 m rfl
                  obtain ⟨hd1, hes⟩ := Prod.mk.inj hmt
                  obtain rfl : j = le := by rw [← hem.len, show m.es = scaleE j 0 1 from hes, scale_len]
                  obtain ⟨be, oe, rfl, hbe, hx0⟩ := hem.rd.at_ (k := 0) (x := 1) (by rw [show m.es = scaleE j 0 1 from hes]; unfold scaleE; rw [List.getElem?_set_self (by rw [List.length_replicate]; omega)])
                  have hDA : DeepAt w2 g o t b2 o2 d m aw lw cw be oe j ce := ⟨hcf, q0, q1, q2, q3, hx0, hwm, hM⟩
                  have hok : OkM j m := hrv.2.2.2.1 m (by simp)
                  have hdeg : degV [m] = 1 := by
                    show degM [m.term] = 1
                    rw [hmt, deg1 _ _ (by rw [scale_sum _ _ _ (by omega)]; decide), scale_sum _ _ _ (by omega)]
                  have hone : ∀ n5 e5 L5, IsNum n5 e5 L5 → Low (2 ^ 64) L5 → numD n5 e5 L5 = dy (1 : Int) 0 → m.neg = n5 ∧ m.exp = e5 ∧ m.ws = L5 := fun n5 e5 L5 h1 h2 h3 => num_inj hok.1.2 hwm.low h1 h2 (hd1.trans h3.symm)
                  have htab := (H.out.2.1.below (Below.next0 HP.out.2 (Below.next0 H2.out.1 hbt))).tz
                  have HG := Lib.hid (And.intro hrv (And.intro hdeg (And.intro hone htab)))
                  have HC := Lib.hid (fun W (h : Below wr.heap.size wr W) => hDA.step hg hb2 hbe (Below.next0 hbt h))
                  have HT := Lib.hid hbt
                  have hcf2 := (HC.out wr (Below.refl _ _)).cf
                  clear hms hmt hrv hFi hcf hM hMA q0 q1 q2 q3 hwm hem hx1 hx2 hd1 hes hx0 hDA hok hdeg hone htab hbt hcf2 hg hb2 hbe
                  go_upto_region 25 with fail
                  refine wp_region_flatE (E := BelE) (fun _ => Below.refl _ _) (by kernel_rfl) (fun W => Below wr.heap.size wr W) (fun _ _ h h' => Below.next0 h h') (detV [.slice (some ⟨g, o, none⟩) j c, .int .i64 (t : Int), .pointer (some ⟨g, o + t, none⟩), .slice (some ⟨b2, o2, none⟩) 1 d, .int .i64 1, .bool false, .bool false, .slice (some ⟨g, o, none⟩) j c, .int .i64 (t : Int), .pointer (some ⟨g, o + t, none⟩), .slice (some ⟨b2, o2, none⟩) 1 d, .pointer (some ⟨b2, o2, none⟩), .pointer (some ⟨b2, o2 + 3, none⟩), .slice (some ⟨be, oe, none⟩) j ce, .int .i64 (j : Int), .int .i64 (j : Int), .bool false, .bool false, .bool false, .slice (some ⟨g, o, none⟩) j c, .int .i64 (t : Int), .pointer (some ⟨g, o + t, none⟩), .slice (some ⟨b2, o2, none⟩) 1 d, .pointer (some ⟨b2, o2, none⟩), .pointer (some ⟨b2, o2 + 3, none⟩), .slice (some ⟨be, oe, none⟩) j ce, .pointer (some ⟨be, oe, none⟩), .int .i64 1, .bool false, .bool false, .bool false, .slice (some ⟨g, o, none⟩) j c, .int .i64 (t : Int), .pointer (some ⟨g, o + t, none⟩), .slice (some ⟨b2, o2, none⟩) 1 d, .int .i64 1, .bool false, .bool false, .bool false, .slice (some ⟨g, o, none⟩) j c, .int .i64 (t : Int), .pointer (some ⟨g, o + t, none⟩), .slice (some ⟨b2, o2, none⟩) 1 d, .pointer (some ⟨b2, o2, none⟩), .pointer (some ⟨b2, o2, none⟩), .agg #[.bool m.neg, .int .i64 m.exp, .slice aw lw cw], undef, .bool true, .bool false, .bool false] (relOf [(46, OneV)])) (detV_growG (relOf_grow (stab1 OneV.stable))) (detV_all (by kernel_rfl)) (by kernel_rfl) (below_drew0 wr) ?_ ?_
                  · skip
                    refine ⟨fun A W hW hag hdep => ?_, ?_⟩
                    · have e12 : A.tmps[12]?.getD undef = .slice (some ⟨g, o, none⟩) j c := evalD (hag.keep (t := 12) (by kernel_rfl) rfl)
                      refine flatE_on rfl ?_
                      refine belE_run (u := .slice (some ⟨g, o, none⟩) j c) ?_ ((detV_at rfl).2 rfl)
                      simp [go_sem, e12]
                    refine ⟨fun A W hW hag hdep => ?_, ?_⟩
                    · have e16 : A.tmps[16]?.getD undef = .int .i64 (t : Int) := evalD (hag.keep (t := 16) (by kernel_rfl) rfl)
                      refine flatE_on rfl ?_
                      refine belE_run (u := .int .i64 (t : Int)) ?_ ((detV_at rfl).2 rfl)
                      simp [go_sem, e16]
                    refine ⟨fun A W hW hag hdep => ?_, ?_⟩
                    · have e111 : A.tmps[111]?.getD undef = .slice (some ⟨g, o, none⟩) j c := evalD ((detV_at rfl).1 (hdep 0 (by decide)))
                      have e112 : A.tmps[112]?.getD undef = .int .i64 (t : Int) := evalD ((detV_at rfl).1 (hdep 1 (by decide)))
                      refine flatE_on rfl ?_
                      refine belE_run (u := .pointer (some ⟨g, o + t, none⟩)) ?_ ((detV_at rfl).2 rfl)
                      simp [go_sem, e111, e112, hlt']
                    refine ⟨fun A W hW hag hdep => ?_, ?_⟩
                    · have e113 : A.tmps[113]?.getD undef = .pointer (some ⟨g, o + t, none⟩) := evalD ((detV_at rfl).1 (hdep 2 (by decide)))
                      refine flatE_on rfl ?_
                      refine belE_run (u := .slice (some ⟨b2, o2, none⟩) 1 d) ?_ ((detV_at rfl).2 rfl)
                      simp [go_sem, e113, (HC.out W hW).cf]
                    refine ⟨fun A W hW hag hdep => ?_, ?_⟩
                    · have e114 : A.tmps[114]?.getD undef = .slice (some ⟨b2, o2, none⟩) 1 d := evalD ((detV_at rfl).1 (hdep 3 (by decide)))
                      refine flatE_on rfl ?_
                      refine belE_run (u := .int .i64 1) ?_ ((detV_at rfl).2 rfl)
                      simp [go_sem, e114]
                    refine ⟨fun A W hW hag hdep => ?_, ?_⟩
                    · have e115 : A.tmps[115]?.getD undef = .int .i64 1 := evalD ((detV_at rfl).1 (hdep 4 (by decide)))
                      refine flatE_on rfl ?_
                      refine belE_run (u := .bool false) ?_ ((detV_at rfl).2 rfl)
                      simp [go_sem, e115]
                    refine ⟨fun A W hW hag hdep => ?_, ?_⟩
                    · have e116 : A.tmps[116]?.getD undef = .bool false := evalD ((detV_at rfl).1 (hdep 5 (by decide)))
                      refine flatE_on rfl ?_
                      refine belE_run (u := .bool false) ?_ ((detV_at rfl).2 rfl)
                      simp [go_sem, e116]
                    refine ⟨fun A W hW hag hdep => ?_, ?_⟩
                    · have e12 : A.tmps[12]?.getD undef = .slice (some ⟨g, o, none⟩) j c := evalD (hag.keep (t := 12) (by kernel_rfl) rfl)
                      have eg : A.eval (.tmp 117) = .bool false := (detV_at rfl).1 (hdep 6 (by decide))
                      refine flatE_go (t := 117) rfl rfl eg ?_
                      refine belE_run (u := .slice (some ⟨g, o, none⟩) j c) ?_ ((detV_at rfl).2 rfl)
                      simp [go_sem, e12]
                    refine ⟨fun A W hW hag hdep => ?_, ?_⟩
                    · have e16 : A.tmps[16]?.getD undef = .int .i64 (t : Int) := evalD (hag.keep (t := 16) (by kernel_rfl) rfl)
                      have eg : A.eval (.tmp 117) = .bool false := (detV_at rfl).1 (hdep 6 (by decide))
                      refine flatE_go (t := 117) rfl rfl eg ?_
                      refine belE_run (u := .int .i64 (t : Int)) ?_ ((detV_at rfl).2 rfl)
                      simp [go_sem, e16]
                    refine ⟨fun A W hW hag hdep => ?_, ?_⟩
                    · have e118 : A.tmps[118]?.getD undef = .slice (some ⟨g, o, none⟩) j c := evalD ((detV_at rfl).1 (hdep 7 (by decide)))
                      have e119 : A.tmps[119]?.getD undef = .int .i64 (t : Int) := evalD ((detV_at rfl).1 (hdep 8 (by decide)))
                      have eg : A.eval (.tmp 117) = .bool false := (detV_at rfl).1 (hdep 6 (by decide))
                      refine flatE_go (t := 117) rfl rfl eg ?_
                      refine belE_run (u := .pointer (some ⟨g, o + t, none⟩)) ?_ ((detV_at rfl).2 rfl)
                      simp [go_sem, e118, e119, hlt']
                    refine ⟨fun A W hW hag hdep => ?_, ?_⟩
                    · have e120 : A.tmps[120]?.getD undef = .pointer (some ⟨g, o + t, none⟩) := evalD ((detV_at rfl).1 (hdep 9 (by decide)))
                      have eg : A.eval (.tmp 117) = .bool false := (detV_at rfl).1 (hdep 6 (by decide))
                      refine flatE_go (t := 117) rfl rfl eg ?_
                      refine belE_run (u := .slice (some ⟨b2, o2, none⟩) 1 d) ?_ ((detV_at rfl).2 rfl)
                      simp [go_sem, e120, (HC.out W hW).cf]
                    refine ⟨fun A W hW hag hdep => ?_, ?_⟩
                    · have e121 : A.tmps[121]?.getD undef = .slice (some ⟨b2, o2, none⟩) 1 d := evalD ((detV_at rfl).1 (hdep 10 (by decide)))
                      have eg : A.eval (.tmp 117) = .bool false := (detV_at rfl).1 (hdep 6 (by decide))
                      refine flatE_go (t := 117) rfl rfl eg ?_
                      refine belE_run (u := .pointer (some ⟨b2, o2, none⟩)) ?_ ((detV_at rfl).2 rfl)
                      simp [go_sem, e121]
                    refine ⟨fun A W hW hag hdep => ?_, ?_⟩
                    · have e122 : A.tmps[122]?.getD undef = .pointer (some ⟨b2, o2, none⟩) := evalD ((detV_at rfl).1 (hdep 11 (by decide)))
                      have eg : A.eval (.tmp 117) = .bool false := (detV_at rfl).1 (hdep 6 (by decide))
                      refine flatE_go (t := 117) rfl rfl eg ?_
                      refine belE_run (u := .pointer (some ⟨b2, o2 + 3, none⟩)) ?_ ((detV_at rfl).2 rfl)
                      simp [go_sem, e122]
                    refine ⟨fun A W hW hag hdep => ?_, ?_⟩
                    · have e123 : A.tmps[123]?.getD undef = .pointer (some ⟨b2, o2 + 3, none⟩) := evalD ((detV_at rfl).1 (hdep 12 (by decide)))
                      have eg : A.eval (.tmp 117) = .bool false := (detV_at rfl).1 (hdep 6 (by decide))
                      refine flatE_go (t := 117) rfl rfl eg ?_
                      refine belE_run (u := .slice (some ⟨be, oe, none⟩) j ce) ?_ ((detV_at rfl).2 rfl)
                      simp [go_sem, e123, (HC.out W hW).m3]
                    refine ⟨fun A W hW hag hdep => ?_, ?_⟩
                    · have e124 : A.tmps[124]?.getD undef = .slice (some ⟨be, oe, none⟩) j ce := evalD ((detV_at rfl).1 (hdep 13 (by decide)))
                      have eg : A.eval (.tmp 117) = .bool false := (detV_at rfl).1 (hdep 6 (by decide))
                      refine flatE_go (t := 117) rfl rfl eg ?_
                      refine belE_run (u := .int .i64 (j : Int)) ?_ ((detV_at rfl).2 rfl)
                      simp [go_sem, e124]
                    refine ⟨fun A W hW hag hdep => ?_, ?_⟩
                    · have e6 : A.tmps[6]?.getD undef = .int .i64 (j : Int) := evalD (hag.keep (t := 6) (by kernel_rfl) rfl)
                      have eg : A.eval (.tmp 117) = .bool false := (detV_at rfl).1 (hdep 6 (by decide))
                      refine flatE_go (t := 117) rfl rfl eg ?_
                      refine belE_run (u := .int .i64 (j : Int)) ?_ ((detV_at rfl).2 rfl)
                      simp [go_sem, e6]
                    refine ⟨fun A W hW hag hdep => ?_, ?_⟩
                    · have e125 : A.tmps[125]?.getD undef = .int .i64 (j : Int) := evalD ((detV_at rfl).1 (hdep 14 (by decide)))
                      have e126 : A.tmps[126]?.getD undef = .int .i64 (j : Int) := evalD ((detV_at rfl).1 (hdep 15 (by decide)))
                      have eg : A.eval (.tmp 117) = .bool false := (detV_at rfl).1 (hdep 6 (by decide))
                      refine flatE_go (t := 117) rfl rfl eg ?_
                      refine belE_run (u := .bool false) ?_ ((detV_at rfl).2 rfl)
                      simp [go_sem, e125, e126]
                    refine ⟨fun A W hW hag hdep => ?_, ?_⟩
                    · have e117 : A.tmps[117]?.getD undef = .bool false := evalD ((detV_at rfl).1 (hdep 6 (by decide)))
                      have e127 : A.tmps[127]?.getD undef = .bool false := evalD ((detV_at rfl).1 (hdep 16 (by decide)))
                      refine flatE_on rfl ?_
                      refine belE_run (u := .bool false) ?_ ((detV_at rfl).2 rfl)
                      simp [go_sem, e117, e127]
                    refine ⟨fun A W hW hag hdep => ?_, ?_⟩
                    · have e128 : A.tmps[128]?.getD undef = .bool false := evalD ((detV_at rfl).1 (hdep 17 (by decide)))
                      refine flatE_on rfl ?_
                      refine belE_run (u := .bool false) ?_ ((detV_at rfl).2 rfl)
                      simp [go_sem, e128]
                    refine ⟨fun A W hW hag hdep => ?_, ?_⟩
                    · have e12 : A.tmps[12]?.getD undef = .slice (some ⟨g, o, none⟩) j c := evalD (hag.keep (t := 12) (by kernel_rfl) rfl)
                      have eg : A.eval (.tmp 129) = .bool false := (detV_at rfl).1 (hdep 18 (by decide))
                      refine flatE_go (t := 129) rfl rfl eg ?_
                      refine belE_run (u := .slice (some ⟨g, o, none⟩) j c) ?_ ((detV_at rfl).2 rfl)
                      simp [go_sem, e12]
                    refine ⟨fun A W hW hag hdep => ?_, ?_⟩
                    · have e16 : A.tmps[16]?.getD undef = .int .i64 (t : Int) := evalD (hag.keep (t := 16) (by kernel_rfl) rfl)
                      have eg : A.eval (.tmp 129) = .bool false := (detV_at rfl).1 (hdep 18 (by decide))
                      refine flatE_go (t := 129) rfl rfl eg ?_
                      refine belE_run (u := .int .i64 (t : Int)) ?_ ((detV_at rfl).2 rfl)
                      simp [go_sem, e16]
                    refine ⟨fun A W hW hag hdep => ?_, ?_⟩
                    · have e130 : A.tmps[130]?.getD undef = .slice (some ⟨g, o, none⟩) j c := evalD ((detV_at rfl).1 (hdep 19 (by decide)))
                      have e131 : A.tmps[131]?.getD undef = .int .i64 (t : Int) := evalD ((detV_at rfl).1 (hdep 20 (by decide)))
                      have eg : A.eval (.tmp 129) = .bool false := (detV_at rfl).1 (hdep 18 (by decide))
                      refine flatE_go (t := 129) rfl rfl eg ?_
                      refine belE_run (u := .pointer (some ⟨g, o + t, none⟩)) ?_ ((detV_at rfl).2 rfl)
                      simp [go_sem, e130, e131, hlt']
                    refine ⟨fun A W hW hag hdep => ?_, ?_⟩
                    · have e132 : A.tmps[132]?.getD undef = .pointer (some ⟨g, o + t, none⟩) := evalD ((detV_at rfl).1 (hdep 21 (by decide)))
                      have eg : A.eval (.tmp 129) = .bool false := (detV_at rfl).1 (hdep 18 (by decide))
                      refine flatE_go (t := 129) rfl rfl eg ?_
                      refine belE_run (u := .slice (some ⟨b2, o2, none⟩) 1 d) ?_ ((detV_at rfl).2 rfl)
                      simp [go_sem, e132, (HC.out W hW).cf]
                    refine ⟨fun A W hW hag hdep => ?_, ?_⟩
                    · have e133 : A.tmps[133]?.getD undef = .slice (some ⟨b2, o2, none⟩) 1 d := evalD ((detV_at rfl).1 (hdep 22 (by decide)))
                      have eg : A.eval (.tmp 129) = .bool false := (detV_at rfl).1 (hdep 18 (by decide))
                      refine flatE_go (t := 129) rfl rfl eg ?_
                      refine belE_run (u := .pointer (some ⟨b2, o2, none⟩)) ?_ ((detV_at rfl).2 rfl)
                      simp [go_sem, e133]
                    refine ⟨fun A W hW hag hdep => ?_, ?_⟩
                    · have e134 : A.tmps[134]?.getD undef = .pointer (some ⟨b2, o2, none⟩) := evalD ((detV_at rfl).1 (hdep 23 (by decide)))
                      have eg : A.eval (.tmp 129) = .bool false := (detV_at rfl).1 (hdep 18 (by decide))
                      refine flatE_go (t := 129) rfl rfl eg ?_
                      refine belE_run (u := .pointer (some ⟨b2, o2 + 3, none⟩)) ?_ ((detV_at rfl).2 rfl)
                      simp [go_sem, e134]
                    refine ⟨fun A W hW hag hdep => ?_, ?_⟩
                    · have e135 : A.tmps[135]?.getD undef = .pointer (some ⟨b2, o2 + 3, none⟩) := evalD ((detV_at rfl).1 (hdep 24 (by decide)))
                      have eg : A.eval (.tmp 129) = .bool false := (detV_at rfl).1 (hdep 18 (by decide))
                      refine flatE_go (t := 129) rfl rfl eg ?_
                      refine belE_run (u := .slice (some ⟨be, oe, none⟩) j ce) ?_ ((detV_at rfl).2 rfl)
                      simp [go_sem, e135, (HC.out W hW).m3]
                    refine ⟨fun A W hW hag hdep => ?_, ?_⟩
                    · have e136 : A.tmps[136]?.getD undef = .slice (some ⟨be, oe, none⟩) j ce := evalD ((detV_at rfl).1 (hdep 25 (by decide)))
                      have eg : A.eval (.tmp 129) = .bool false := (detV_at rfl).1 (hdep 18 (by decide))
                      refine flatE_go (t := 129) rfl rfl eg ?_
                      refine belE_run (u := .pointer (some ⟨be, oe, none⟩)) ?_ ((detV_at rfl).2 rfl)
                      simp [go_sem, e136, hj0]
                    refine ⟨fun A W hW hag hdep => ?_, ?_⟩
                    · have e137 : A.tmps[137]?.getD undef = .pointer (some ⟨be, oe, none⟩) := evalD ((detV_at rfl).1 (hdep 26 (by decide)))
                      have eg : A.eval (.tmp 129) = .bool false := (detV_at rfl).1 (hdep 18 (by decide))
                      refine flatE_go (t := 129) rfl rfl eg ?_
                      refine belE_run (u := .int .i64 1) ?_ ((detV_at rfl).2 rfl)
                      simp [go_sem, e137, (HC.out W hW).x0]
                    refine ⟨fun A W hW hag hdep => ?_, ?_⟩
                    · have e138 : A.tmps[138]?.getD undef = .int .i64 1 := evalD ((detV_at rfl).1 (hdep 27 (by decide)))
                      have eg : A.eval (.tmp 129) = .bool false := (detV_at rfl).1 (hdep 18 (by decide))
                      refine flatE_go (t := 129) rfl rfl eg ?_
                      refine belE_run (u := .bool false) ?_ ((detV_at rfl).2 rfl)
                      simp [go_sem, e138]
                    refine ⟨fun A W hW hag hdep => ?_, ?_⟩
                    · have e129 : A.tmps[129]?.getD undef = .bool false := evalD ((detV_at rfl).1 (hdep 18 (by decide)))
                      have e139 : A.tmps[139]?.getD undef = .bool false := evalD ((detV_at rfl).1 (hdep 28 (by decide)))
                      refine flatE_on rfl ?_
                      refine belE_run (u := .bool false) ?_ ((detV_at rfl).2 rfl)
                      simp [go_sem, e129, e139]
                    refine ⟨fun A W hW hag hdep => ?_, ?_⟩
                    · have e140 : A.tmps[140]?.getD undef = .bool false := evalD ((detV_at rfl).1 (hdep 29 (by decide)))
                      refine flatE_on rfl ?_
                      refine belE_run (u := .bool false) ?_ ((detV_at rfl).2 rfl)
                      simp [go_sem, e140]
                    refine ⟨fun A W hW hag hdep => ?_, ?_⟩
                    · have e12 : A.tmps[12]?.getD undef = .slice (some ⟨g, o, none⟩) j c := evalD (hag.keep (t := 12) (by kernel_rfl) rfl)
                      have eg : A.eval (.tmp 141) = .bool false := (detV_at rfl).1 (hdep 30 (by decide))
                      refine flatE_go (t := 141) rfl rfl eg ?_
                      refine belE_run (u := .slice (some ⟨g, o, none⟩) j c) ?_ ((detV_at rfl).2 rfl)
                      simp [go_sem, e12]
                    refine ⟨fun A W hW hag hdep => ?_, ?_⟩
                    · have e16 : A.tmps[16]?.getD undef = .int .i64 (t : Int) := evalD (hag.keep (t := 16) (by kernel_rfl) rfl)
                      have eg : A.eval (.tmp 141) = .bool false := (detV_at rfl).1 (hdep 30 (by decide))
                      refine flatE_go (t := 141) rfl rfl eg ?_
                      refine belE_run (u := .int .i64 (t : Int)) ?_ ((detV_at rfl).2 rfl)
                      simp [go_sem, e16]
                    refine ⟨fun A W hW hag hdep => ?_, ?_⟩
                    · have e142 : A.tmps[142]?.getD undef = .slice (some ⟨g, o, none⟩) j c := evalD ((detV_at rfl).1 (hdep 31 (by decide)))
                      have e143 : A.tmps[143]?.getD undef = .int .i64 (t : Int) := evalD ((detV_at rfl).1 (hdep 32 (by decide)))
                      have eg : A.eval (.tmp 141) = .bool false := (detV_at rfl).1 (hdep 30 (by decide))
                      refine flatE_go (t := 141) rfl rfl eg ?_
                      refine belE_run (u := .pointer (some ⟨g, o + t, none⟩)) ?_ ((detV_at rfl).2 rfl)
                      simp [go_sem, e142, e143, hlt']
                    refine ⟨fun A W hW hag hdep => ?_, ?_⟩
                    · have e144 : A.tmps[144]?.getD undef = .pointer (some ⟨g, o + t, none⟩) := evalD ((detV_at rfl).1 (hdep 33 (by decide)))
                      have eg : A.eval (.tmp 141) = .bool false := (detV_at rfl).1 (hdep 30 (by decide))
                      refine flatE_go (t := 141) rfl rfl eg ?_
                      refine belE_run (u := .slice (some ⟨b2, o2, none⟩) 1 d) ?_ ((detV_at rfl).2 rfl)
                      simp [go_sem, e144, (HC.out W hW).cf]
                    refine ⟨fun A W hW hag hdep => ?_, ?_⟩
                    · have e145 : A.tmps[145]?.getD undef = .slice (some ⟨b2, o2, none⟩) 1 d := evalD ((detV_at rfl).1 (hdep 34 (by decide)))
                      have eg : A.eval (.tmp 141) = .bool false := (detV_at rfl).1 (hdep 30 (by decide))
                      refine flatE_go (t := 141) rfl rfl eg ?_
                      refine belE_call (f := 18) (args := #[.slice (some ⟨b2, o2, none⟩) 1 d]) (by simp [go_sem, e145]) ((degree_any (some ⟨b2, o2, none⟩) 1 d [m] j W (HC.out W hW).ms HG.out.1).mono ?_)
                      rintro e w2 ⟨rfl, hb'⟩
                      rw [HG.out.2.1]
                      exact ⟨_, rfl, hb', (detV_at rfl).2 rfl⟩
                    refine ⟨fun A W hW hag hdep => ?_, ?_⟩
                    · have e146 : A.tmps[146]?.getD undef = .int .i64 1 := evalD ((detV_at rfl).1 (hdep 35 (by decide)))
                      have eg : A.eval (.tmp 141) = .bool false := (detV_at rfl).1 (hdep 30 (by decide))
                      refine flatE_go (t := 141) rfl rfl eg ?_
                      refine belE_run (u := .bool false) ?_ ((detV_at rfl).2 rfl)
                      simp [go_sem, e146]
                    refine ⟨fun A W hW hag hdep => ?_, ?_⟩
                    · have e141 : A.tmps[141]?.getD undef = .bool false := evalD ((detV_at rfl).1 (hdep 30 (by decide)))
                      have e147 : A.tmps[147]?.getD undef = .bool false := evalD ((detV_at rfl).1 (hdep 36 (by decide)))
                      refine flatE_on rfl ?_
                      refine belE_run (u := .bool false) ?_ ((detV_at rfl).2 rfl)
                      simp [go_sem, e141, e147]
                    refine ⟨fun A W hW hag hdep => ?_, ?_⟩
                    · have e148 : A.tmps[148]?.getD undef = .bool false := evalD ((detV_at rfl).1 (hdep 37 (by decide)))
                      refine flatE_on rfl ?_
                      refine belE_run (u := .bool false) ?_ ((detV_at rfl).2 rfl)
                      simp [go_sem, e148]
                    refine ⟨fun A W hW hag hdep => ?_, ?_⟩
                    · have e12 : A.tmps[12]?.getD undef = .slice (some ⟨g, o, none⟩) j c := evalD (hag.keep (t := 12) (by kernel_rfl) rfl)
                      have eg : A.eval (.tmp 149) = .bool false := (detV_at rfl).1 (hdep 38 (by decide))
                      refine flatE_go (t := 149) rfl rfl eg ?_
                      refine belE_run (u := .slice (some ⟨g, o, none⟩) j c) ?_ ((detV_at rfl).2 rfl)
                      simp [go_sem, e12]
                    refine ⟨fun A W hW hag hdep => ?_, ?_⟩
                    · have e16 : A.tmps[16]?.getD undef = .int .i64 (t : Int) := evalD (hag.keep (t := 16) (by kernel_rfl) rfl)
                      have eg : A.eval (.tmp 149) = .bool false := (detV_at rfl).1 (hdep 38 (by decide))
                      refine flatE_go (t := 149) rfl rfl eg ?_
                      refine belE_run (u := .int .i64 (t : Int)) ?_ ((detV_at rfl).2 rfl)
                      simp [go_sem, e16]
                    refine ⟨fun A W hW hag hdep => ?_, ?_⟩
                    · have e150 : A.tmps[150]?.getD undef = .slice (some ⟨g, o, none⟩) j c := evalD ((detV_at rfl).1 (hdep 39 (by decide)))
                      have e151 : A.tmps[151]?.getD undef = .int .i64 (t : Int) := evalD ((detV_at rfl).1 (hdep 40 (by decide)))
                      have eg : A.eval (.tmp 149) = .bool false := (detV_at rfl).1 (hdep 38 (by decide))
                      refine flatE_go (t := 149) rfl rfl eg ?_
                      refine belE_run (u := .pointer (some ⟨g, o + t, none⟩)) ?_ ((detV_at rfl).2 rfl)
                      simp [go_sem, e150, e151, hlt']
                    refine ⟨fun A W hW hag hdep => ?_, ?_⟩
                    · have e152 : A.tmps[152]?.getD undef = .pointer (some ⟨g, o + t, none⟩) := evalD ((detV_at rfl).1 (hdep 41 (by decide)))
                      have eg : A.eval (.tmp 149) = .bool false := (detV_at rfl).1 (hdep 38 (by decide))
                      refine flatE_go (t := 149) rfl rfl eg ?_
                      refine belE_run (u := .slice (some ⟨b2, o2, none⟩) 1 d) ?_ ((detV_at rfl).2 rfl)
                      simp [go_sem, e152, (HC.out W hW).cf]
                    refine ⟨fun A W hW hag hdep => ?_, ?_⟩
                    · have e153 : A.tmps[153]?.getD undef = .slice (some ⟨b2, o2, none⟩) 1 d := evalD ((detV_at rfl).1 (hdep 42 (by decide)))
                      have eg : A.eval (.tmp 149) = .bool false := (detV_at rfl).1 (hdep 38 (by decide))
                      refine flatE_go (t := 149) rfl rfl eg ?_
                      refine belE_run (u := .pointer (some ⟨b2, o2, none⟩)) ?_ ((detV_at rfl).2 rfl)
                      simp [go_sem, e153]
                    refine ⟨fun A W hW hag hdep => ?_, ?_⟩
                    · have e154 : A.tmps[154]?.getD undef = .pointer (some ⟨b2, o2, none⟩) := evalD ((detV_at rfl).1 (hdep 43 (by decide)))
                      have eg : A.eval (.tmp 149) = .bool false := (detV_at rfl).1 (hdep 38 (by decide))
                      refine flatE_go (t := 149) rfl rfl eg ?_
                      refine belE_run (u := .pointer (some ⟨b2, o2, none⟩)) ?_ ((detV_at rfl).2 rfl)
                      simp [go_sem, e154]
                    refine ⟨fun A W hW hag hdep => ?_, ?_⟩
                    · have e155 : A.tmps[155]?.getD undef = .pointer (some ⟨b2, o2, none⟩) := evalD ((detV_at rfl).1 (hdep 44 (by decide)))
                      have eg : A.eval (.tmp 149) = .bool false := (detV_at rfl).1 (hdep 38 (by decide))
                      refine flatE_go (t := 149) rfl rfl eg ?_
                      refine belE_run (u := .agg #[.bool m.neg, .int .i64 m.exp, .slice aw lw cw]) ?_ ((detV_at rfl).2 rfl)
                      simp [go_sem, e155, (HC.out W hW).m0, (HC.out W hW).m1, (HC.out W hW).m2]
                    refine ⟨fun A W hW hag hdep => ?_, ?_⟩
                    · have eg : A.eval (.tmp 149) = .bool false := (detV_at rfl).1 (hdep 38 (by decide))
                      refine flatE_go (t := 149) rfl rfl eg ?_
                      refine belE_call (f := 20) (args := #[.int .i64 1]) (by simp [go_sem]) ((numint_any 1 W (by decide) (HG.out.2.2.2.step hW)).mono ?_)
                      rintro e w2 ⟨n', e', a', l', c', L', rfl, hi', hv', hw', hb'⟩
                      exact ⟨_, rfl, hb', (detV_some rfl).2 ⟨n', e', a', l', c', L', rfl, hi', hw'.toWordsIn, hv'⟩⟩
                    refine ⟨fun A W hW hag hdep => ?_, ?_⟩
                    · have e156 : A.tmps[156]?.getD undef = .agg #[.bool m.neg, .int .i64 m.exp, .slice aw lw cw] := evalD ((detV_at rfl).1 (hdep 45 (by decide)))
                      obtain ⟨n5, e5, a5, l5, c5, L5, hv5, hi5, hw5, hd5⟩ := (detV_some rfl).1 (hdep 46 (by decide))
                      have e157 := evalD hv5
                      have eg : A.eval (.tmp 149) = .bool false := (detV_at rfl).1 (hdep 38 (by decide))
                      refine flatE_go (t := 149) rfl rfl eg ?_
                      refine belE_call (f := 19) (args := #[.agg #[.bool m.neg, .int .i64 m.exp, .slice aw lw cw], .agg #[.bool n5, .int .i64 e5, .slice a5 l5 c5]]) (by simp [go_sem, e156, e157]) ((numsame_any m.neg m.exp aw lw cw m.ws n5 e5 a5 l5 c5 L5 W (HC.out W hW).wd hw5 (Nat.le_trans (HC.out W hW).wd.cap (HC.out W hW).wd.most)).mono ?_)
                      rintro e w2 ⟨rfl, hb'⟩
                      rw [decide_eq_true (HG.out.2.2.1 n5 e5 L5 hi5 hw5.low hd5)]
                      exact ⟨_, rfl, hb', (detV_at rfl).2 rfl⟩
                    refine ⟨fun A W hW hag hdep => ?_, ?_⟩
                    · have e158 : A.tmps[158]?.getD undef = .bool true := evalD ((detV_at rfl).1 (hdep 47 (by decide)))
                      have eg : A.eval (.tmp 149) = .bool false := (detV_at rfl).1 (hdep 38 (by decide))
                      refine flatE_go (t := 149) rfl rfl eg ?_
                      refine belE_run (u := .bool false) ?_ ((detV_at rfl).2 rfl)
                      simp [go_sem, e158]
                    refine ⟨fun A W hW hag hdep => ?_, ?_⟩
                    · have e149 : A.tmps[149]?.getD undef = .bool false := evalD ((detV_at rfl).1 (hdep 38 (by decide)))
                      have e159 : A.tmps[159]?.getD undef = .bool false := evalD ((detV_at rfl).1 (hdep 48 (by decide)))
                      refine flatE_on rfl ?_
                      refine belE_run (u := .bool false) ?_ ((detV_at rfl).2 rfl)
                      simp [go_sem, e149, e159]
                    exact trivial
                  intro vs W1 hW1 hvs
                  have h160 : vs 49 = .bool false := (detV_at rfl).1 (hvs 49 (by decide))
                  simp only [putAll, Act.put, List.setIfInBounds_toArray, List.set_cons_zero, List.set_cons_succ]
                  rw [h160]
                  have HW1 := Lib.hid hW1
                  clear hvs hW1
                  go_wp2_with fail
                  exact ⟨⟨t + 1, congrArg (Value.int .i64) (by omega), htj, Below.next0 HT.out HW1.out⟩, by simp only [intOf]; omega⟩
                · have hlt' : ¬ (t : Int) < (j : Int) := by omega
                  have HT := Lib.hid hbt
                  clear hbt
                  go_wp2_with fail
                  go_ret
                  exact ⟨rfl, Below.next0 HP.out.2 (Below.next0 H2.out.1 HT.out)⟩
end Go.Proofs.YtdilmfakkppgpaaGreatDoor
