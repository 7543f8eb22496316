/- The document's line of any right act; the walk of its Show. Condition: the acts lie so. -/
import Derived.Test.YtifdmgloheampaaDoorScriptK
import Derived.Test.YtifdmgloheampaaDoorScriptD
namespace Go.Proofs.YtifdmgloheampaaDoor
open Go.RowKit NatM DiskM ScriptM

theorem rshow_any (x : ActC) (keep : List UInt8) (w : World) (hr : right (x.abs keep) = true) (hm : x.mask < 4294967296) (hkl : keep.length = x.kn) (hrd : Rd w w.heap.size x.ka keep) :
    Calls Tryd.prog 28 #[.agg x.cells] w fun e w' => e = .returned (sv (shown (x.abs keep))) ∧ Below w.heap.size w w' := by
  have hk : 1 ≤ x.kind ∧ x.kind ≤ 8 := right_kind hr
  obtain ⟨r1, r2, r3, r4, r5⟩ := right_parts hr
  obtain ⟨k, n, dn, ka, kn, kc, nm, m⟩ := x
  have r1 : keep.length ≤ 8 := r1
  have hk1 : 1 ≤ k := hk.1
  have hk2 : k ≤ 8 := hk.2
  have hk' : k = 1 ∨ k = 2 ∨ k = 3 ∨ k = 4 ∨ k = 5 ∨ k = 6 ∨ k = 7 ∨ k = 8 := by omega
  clear hk
  have hsix : k ≠ 6 → keep = [] := r5
  have nil : ∀ l : List UInt8, shown (ActC.abs ⟨k, n, dn, ka, kn, kc, nm, m⟩ keep) = l → keep = [] → l = shown (ActC.abs ⟨k, n, dn, ka, kn, kc, nm, m⟩ []) := by
    intro l h1 h2; rw [← h1, h2]
  rcases hk' with rfl | rfl | rfl | rfl | rfl | rfl | rfl | rfl
  · have hn := r2 (.inl rfl)
    rw [hsix (by decide)]
    exact rshow_1 n dn ka kn kc nm m w hn.1 hn.2
  · have hn := r2 (.inr (.inl rfl))
    rw [hsix (by decide)]
    exact rshow_2 n dn ka kn kc nm m w hn.1 hn.2
  · have hn := r2 (.inr (.inr (.inl rfl)))
    rw [hsix (by decide)]
    exact rshow_3 n dn ka kn kc nm m w hn.1 hn.2
  · have h0 : n = 0 := by
      simp only [right, ActC.abs] at hr
      simp at hr
      exact of_decide_eq_true hr.1.1.1.1
    rw [hsix (by decide)]
    exact rshow_4 n dn ka kn kc nm m w (by omega) (by omega)
  · have hn := r3 rfl
    rw [hsix (by decide)]
    cases dn with
    | true =>
      refine (rshow_5t n ka kn kc nm m w hn.1 hn.2).mono ?_
      rintro e w' ⟨rfl, hb⟩
      refine ⟨congrArg (fun l => Ending.returned (sv l)) ?_, hb⟩
      show word 5 ++ 32 :: dec n.toNat ++ 32 :: doneW = word 5 ++ 32 :: (dec n.toNat ++ 32 :: doneW)
      simp
    | false =>
      refine (rshow_5f n ka kn kc nm m w hn.1 hn.2).mono ?_
      rintro e w' ⟨rfl, hb⟩
      refine ⟨congrArg (fun l => Ending.returned (sv l)) ?_, hb⟩
      show word 5 ++ 32 :: dec n.toNat ++ 32 :: lostW = word 5 ++ 32 :: (dec n.toNat ++ 32 :: lostW)
      simp
  · have h0 : n = 0 := by
      simp only [right, ActC.abs] at hr
      simp at hr
      exact of_decide_eq_true hr.1.1.1.1
    exact rshow_6 n dn ka kn kc nm m w (by omega) (by omega) keep hkl r1 hrd
  · have hn := r2 (.inr (.inr (.inr rfl)))
    rw [hsix (by decide)]
    exact rshow_7 n dn ka kn kc nm m w hn.1 hn.2
  · have hn := r4 rfl
    have hm1 : 1 ≤ m := by
      rcases Nat.eq_zero_or_pos m with rfl | h
      · exfalso
        simp only [right, ActC.abs] at hr
        simp at hr
      · exact h
    have hnm : nm.size ≤ 16 := by
      have h := hn.2.2
      show nm.data.size ≤ 16
      rw [← Array.length_toList]; exact h
    rw [hsix (by decide)]
    refine (rshow_8 n dn ka kn kc nm m w hn.1 hn.2.1 hnm hm hm1).mono ?_
    rintro e w' ⟨rfl, hb⟩
    refine ⟨congrArg (fun l => Ending.returned (sv l)) ?_, hb⟩
    show word 8 ++ 32 :: nm.data.toList ++ 32 :: dec n.toNat ++ 32 :: hexD m = word 8 ++ 32 :: (nm.data.toList ++ 32 :: (dec n.toNat ++ 32 :: hexD m))
    simp
set_option maxRecDepth 100000 in
set_option maxHeartbeats 4000000 in
theorem refshow_any (a : Option Addr) (n c : Nat) (xs : List ActV) (w : World) (hn : xs.length = n) (hm : n ≤ 1000000) (h : RdV w w.heap.size a xs) :
    Calls Tryd.prog 15 #[.slice a n c] w fun e w' => e = .returned (sv (showM (xs.map ActV.abs))) ∧ Below w.heap.size w w' := by
  have H := Lib.hid h
  have HN := Lib.hid hn
  clear h hn
  go_enter Tryd.func15, Tryd.ntmps15
  go_wp2_with fail
  go_loopw [3, 4] (fun t i wr => ∃ (j : Nat), j ≤ n ∧ i = .int .i64 (j : Int) ∧ t = sv (((xs.take j).map fun v => ScriptM.line v.abs).flatten) ∧ (∀ v ∈ xs.take j, right v.abs = true) ∧ (((xs.take j).map fun v => ScriptM.line v.abs).flatten).length ≤ 1001 * j ∧ Below w.heap.size w wr) (fun _ i _ => n - (intOf i).toNat)
  case atStart => exact ⟨0, Nat.zero_le _, rfl, rfl, by simp, by simp, Below.refl _ _⟩
  case round =>
    obtain ⟨j, hj, rfl, rfl, hall, hlen, hbel⟩ := hrel
    by_cases hlt : j < n
    · obtain ⟨v, hv⟩ : ∃ v, xs[j]? = some v := ⟨_, List.getElem?_eq_getElem (by rw [HN.out]; exact hlt)⟩
      obtain ⟨b, o, rfl, hb, hc, hok⟩ := (H.out.below hbel).at_ hv
      obtain ⟨⟨kd, vn, dn, ka, kn, kc, nm, m⟩, keep⟩ := v
      have k0 : wr.cell? ⟨b, o + j * 6, none⟩ = some (.int .i64 kd) := hc 0 _ rfl
      have k1 : wr.cell? ⟨b, o + j * 6 + 1, none⟩ = some (.int .i64 vn) := hc 1 _ rfl
      have k2 : wr.cell? ⟨b, o + j * 6 + 2, none⟩ = some (.bool dn) := hc 2 _ rfl
      have k3 : wr.cell? ⟨b, o + j * 6 + 3, none⟩ = some (.slice ka kn kc) := hc 3 _ rfl
      have k4 : wr.cell? ⟨b, o + j * 6 + 4, none⟩ = some (.string nm) := hc 4 _ rfl
      have k5 : wr.cell? ⟨b, o + j * 6 + 5, none⟩ = some (.int .u32 (m : Int)) := hc 5 _ rfl
      have hlt' : (j : Int) < (n : Int) := by omega
      obtain ⟨X, hX⟩ : ∃ X : ActC, X = ⟨kd, vn, dn, ka, kn, kc, nm, m⟩ := ⟨_, rfl⟩
      have hcells : X.cells = #[.int .i64 kd, .int .i64 vn, .bool dn, .slice ka kn kc, .string nm, .int .u32 (m : Int)] := by rw [hX]; rfl
      rw [← hX] at hv hok
      have hrw : rightC X = right (ActV.abs ⟨X, keep⟩) := rightC_right X keep hok.len
      have hrt := fun w => rright_any X w hok.nm hok.most
      rw [hcells] at hrt
      have HALL := Lib.hid hall
      have HB := Lib.hid hbel
      have HV := Lib.hid hv
      obtain ⟨G, hG⟩ : ∃ G, ((xs.take j).map fun v => ScriptM.line v.abs).flatten = G := ⟨_, rfl⟩
      have hsn := lines_snoc xs j ⟨X, keep⟩ hv
      rw [hG] at hsn hlen ⊢
      clear hX hc hall hv hG
      cases hR : rightC X with
      | false =>
        have hrd : right (ActV.abs ⟨X, keep⟩) = false := by rw [← hrw]; exact hR
        rw [hR] at hrt
        have HRT := Lib.hid hrt
        have HS := Lib.hid (show_false xs j ⟨X, keep⟩ HV.out hrd)
        clear hrd hrw hrt hR hok hcells hbel hsn
        go_wp2_with (refine (HRT.out _).mono ?_; rintro e w1 ⟨rfl, hb1⟩)
        go_ret
        exact ⟨by rw [HS.out]; rfl, Below.next0 HB.out hb1⟩
      | true =>
        have hrd : right (ActV.abs ⟨X, keep⟩) = true := by rw [← hrw]; exact hR
        rw [hR] at hrt
        have HRT := Lib.hid hrt
        have HRD := Lib.hid hrd
        have hla : ∀ w1, Below wr.heap.size wr w1 → Calls Tryd.prog 28 #[.agg X.cells] w1 fun e w' => e = .returned (sv (shown (ActV.abs ⟨X, keep⟩))) ∧ Below w1.heap.size w1 w' := fun w1 hb1 =>
          rshow_any X keep w1 hrd hok.mask hok.len ((hok.up hbel.size).call hb1).rd
        rw [hcells] at hla
        have hsl : (shown (ActV.abs ⟨X, keep⟩)).length ≤ 1000 := shown_len hrd hok.mask
        have hlb : ∀ w1, Below wr.heap.size wr w1 → (w1.cell? ⟨b, o + j * 6, none⟩ = some (.int .i64 kd) ∧ w1.cell? ⟨b, o + j * 6 + 1, none⟩ = some (.int .i64 vn) ∧ w1.cell? ⟨b, o + j * 6 + 2, none⟩ = some (.bool dn) ∧ w1.cell? ⟨b, o + j * 6 + 3, none⟩ = some (.slice ka kn kc) ∧ w1.cell? ⟨b, o + j * 6 + 4, none⟩ = some (.string nm) ∧ w1.cell? ⟨b, o + j * 6 + 5, none⟩ = some (.int .u32 (m : Int))) := by
          intro w1 hb1
          have hb' : b < wr.heap.size := Nat.lt_of_lt_of_le hb hbel.size
          exact ⟨(hb1.cell hb').trans k0, (hb1.cell hb').trans k1, (hb1.cell hb').trans k2, (hb1.cell hb').trans k3, (hb1.cell hb').trans k4, (hb1.cell hb').trans k5⟩
        have HLB := Lib.hid hlb
        have hsn2 : ((xs.take (j + 1)).map fun v => ScriptM.line v.abs).flatten = G ++ (shown (ActV.abs ⟨X, keep⟩) ++ [10]) := hsn
        obtain ⟨S, hS⟩ : ∃ S, shown (ActV.abs ⟨X, keep⟩) = S := ⟨_, rfl⟩
        rw [hS] at hla hsl hsn2
        have HLA := Lib.hid hla
        have HSN := Lib.hid hsn2
        clear hrd hrw hrt hR hla hok hlb hsn hsn2 hS hbel
        go_wp2_with (first | (refine (HRT.out _).mono ?_; rintro e w1 ⟨rfl, hb1⟩; obtain ⟨q0, q1, q2, q3, q4, q5⟩ := HLB.out _ hb1; have HB2 := Lib.hid hb1; clear hb1 k0 k1 k2 k3 k4 k5) | (refine (HLA.out _ HB2.out).mono ?_; rintro e w2 ⟨rfl, hb3⟩; have HB3 := Lib.hid (Below.next0 HB.out (Below.next0 HB2.out hb3)); clear hb3 q0 q1 q2 q3 q4 q5))
        go_roundw
        case rel =>
          refine ⟨j + 1, by omega, by go_num, ?_, ?_, ?_, HB3.out⟩
          · rw [HSN.out]
            exact congrArg Value.string (ByteArray.ext (by simp [ByteArray.data_append]))
          · intro v hv
            rw [List.take_add_one, HV.out] at hv
            rcases List.mem_append.1 hv with hv | hv
            · exact HALL.out v hv
            · rw [Option.toList_some, List.mem_singleton] at hv
              rw [hv]; exact HRD.out
          · rw [HSN.out, List.length_append, List.length_append, List.length_singleton]
            omega
        case measure => simp [intOf]; omega
    · obtain rfl : j = n := by omega
      rw [List.take_of_length_le (by rw [HN.out]; exact Nat.le_refl _)] at hall ⊢
      have HS := Lib.hid (show_true xs hall)
      have HB := Lib.hid hbel
      clear hall hbel hlen
      go_wp2_with fail
      go_ret
      exact ⟨by rw [HS.out]; rfl, HB.out⟩
end Go.Proofs.YtifdmgloheampaaDoor
