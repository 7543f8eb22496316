/- The walk of an act of layer 25 on both disks. Condition: they lie side by side; the act's bytes lie below. -/
import Derived.Test.YtopnhplacdbkdaaGreatAct25
namespace Go.Proofs.YtopnhplacdbkdaaGreat
open Go.RowKit DiskM Go.Shelf

set_option maxRecDepth 100000 in
set_option maxHeartbeats 8000000 in
theorem do25_any {w : World} {B p r : Nat} {S : Nat → Prop} {d : DS} (h : Both w B S p r d) (x : Act25) (hx : x.Fine w B) (hfew : d.files.length < 1000000) :
    Calls Tryz.prog 8 #[.pointer (some ⟨p, 0, none⟩), .pointer (some ⟨r, 0, none⟩), .agg x.cells] w (DoIs25 w B S p r d) := by
  obtain ⟨fq, hr, hk, hq⟩ := h
  have hBw : B ≤ w.heap.size := hk.2.2
  have HX := Lib.hid hx
  have HQ := Lib.hid hq
  have HFEW := Lib.hid hfew
  have HR := Lib.hid hr
  have HK := Lib.hid hk
  have hkind := hx.kind
  clear hx hq hfew hr hk
  unfold Act25.cells
  go_enter Tryz.func8, Tryz.ntmps8
  go_upto_region 1 with fail
  have hb0 : Below w.heap.size w (w.alloc (.cells #[.int .u8 (x.kind : Int), .string x.nm, .slice x.a x.n x.c, .int .i64 x.num, .bool x.done] 32)) := (Below.refl _ _).alloc (Nat.le_refl _) _
  have hbx := heap_alloc_new w (.cells #[.int .u8 (x.kind : Int), .string x.nm, .slice x.a x.n x.c, .int .i64 x.num, .bool x.done] 32)
  have hsz : w.heap.size < (w.alloc (.cells #[.int .u8 (x.kind : Int), .string x.nm, .slice x.a x.n x.c, .int .i64 x.num, .bool x.done] 32)).heap.size := by simp
  generalize w.alloc (.cells #[.int .u8 (x.kind : Int), .string x.nm, .slice x.a x.n x.c, .int .i64 x.num, .bool x.done] 32) = W0 at *
  have n0 : W0.cell? ⟨w.heap.size, 1, none⟩ = some (.string x.nm) := cell_of_row _ _ 1 _ _ _ hbx
  have HBX := Lib.hid hbx
  have HB0 := Lib.hid hb0
  clear hbx hb0
  go_wp2_with fail
  refine (pick25_any x.nm W0).mono ?_
  rintro e W1 ⟨rfl, hW1⟩
  have hbx1 := (hW1.block _ hsz).trans HBX.out
  have hb1 : Below w.heap.size w W1 := HB0.out.trans (hW1.mono (Nat.le_of_lt hsz))
  have hsz1 : w.heap.size < W1.heap.size := Nat.lt_of_lt_of_le hsz hW1.size
  have hr1 : RefAt W1 fq r d := HR.out.below hb1
  have hk1 : DK W1 B (fun k => (fq k ∨ S k) ∨ (w.heap.size ≤ k ∧ k < W1.heap.size)) p d := HK.out.more hb1 fun k hk => hk
  have HSS : Hid (∀ k, fq k ∨ S k → (fq k ∨ S k) ∨ (w.heap.size ≤ k ∧ k < W1.heap.size)) := Lib.hid fun k h => .inl h
  have HBXS : Hid ((fq w.heap.size ∨ S w.heap.size) ∨ (w.heap.size ≤ w.heap.size ∧ w.heap.size < W1.heap.size)) := Lib.hid (.inr ⟨Nat.le_refl _, hsz1⟩)
  have hrd1 : Rd W1 W1.heap.size x.a x.bs := (HX.out.rd.below (hb1.mono hBw)).more (by omega)
  have c0 : W1.cell? ⟨w.heap.size, 0, none⟩ = some (.int .u8 (x.kind : Int)) := cell_of_row _ _ 0 _ _ _ hbx1
  have c2 : W1.cell? ⟨w.heap.size, 2, none⟩ = some (.slice x.a x.n x.c) := cell_of_row _ _ 2 _ _ _ hbx1
  have c3 : W1.cell? ⟨w.heap.size, 3, none⟩ = some (.int .i64 x.num) := cell_of_row _ _ 3 _ _ _ hbx1
  have c4 : W1.cell? ⟨w.heap.size, 4, none⟩ = some (.bool x.done) := cell_of_row _ _ 4 _ _ _ hbx1
  have HK1 := Lib.hid hk1
  have HB1 := Lib.hid hb1
  have HRD1 := Lib.hid hrd1
  have HNS : Hid ((pick25 x.nm).size ≤ maxLen) := Lib.hid (by have := pick25_size x.nm HX.out.nm; unfold maxLen; omega)
  have HNS4 : Hid ((pick25 x.nm).size + 4 ≤ maxLen) := Lib.hid (by have := pick25_size x.nm HX.out.nm; unfold maxLen; omega)
  have HM : Hid (x.n ≤ 65536) := Lib.hid (by have := HX.out.most; omega)
  clear hW1 hbx1 hb1 hk1 hrd1 n0
  have hkm : x.kind % 7 < 7 := Nat.mod_lt _ (by omega)
  obtain ⟨M, hM⟩ : ∃ M, x.kind % 7 = M := ⟨_, rfl⟩
  have hM' : (x.kind : Int) % 7 = (M : Int) := by omega
  rw [hM] at hkm
  clear hM
  rcases (by omega : M = 0 ∨ M = 1 ∨ M = 2 ∨ M = 3 ∨ M = 4 ∨ M = 5 ∨ M = 6) with rfl | rfl | rfl | rfl | rfl | rfl | rfl
  · go_wp2_with fail
    have c2d : W1.drew.cell? ⟨w.heap.size, 2, none⟩ = some (.slice x.a x.n x.c) := c2
    have hbd : Below W1.heap.size W1 W1.drew := (Below.refl _ _).drew
    have hr1d : RefAt W1.drew fq r d := hr1.below hbd
    have HK1D := Lib.hid (HK1.out.below hbd)
    have HRD1D : Hid (Rd W1.drew W1.drew.heap.size x.a x.bs) := Lib.hid HRD1.out
    have HB1D := Lib.hid (Below.next0 HB1.out hbd)
    clear hr1 c0 c2 c3 c4 hbd
    go_region_held3 (fun W => W.cell? ⟨w.heap.size, 2, none⟩ = some (.slice x.a x.n x.c)) (first | exact c2d | assumption)
      (first
        | (go_at_call 10; refine (save_k HK1D.out (pick25 x.nm) HNS4.out x.a x.n x.c x.bs HX.out.len HM.out HRD1D.out HFEW.out).mono ?_; rintro e w2 ⟨rfl, hk2, ht2⟩; have hr2 := ref_still hr1d (fun k h => HSS.out k (.inl h)) ht2; have d2 := cell_still ht2 HBXS.out c2d; have HK2 := Lib.hid hk2; have HT2 := Lib.hid ht2; have HR2 := Lib.hid hr2; clear hk2 ht2 hr2)
        | (go_at_call 19; refine (refsave_any HR2.out (pick25 x.nm) HNS4.out x.a x.n x.c x.bs HX.out.len HM.out ((rd_or HRD1D.out HT2.out (Nat.le_refl _) (HX.out.at_.imp id fun h ad ha hf => by have := h ad ha; have := hf.1; omega)).more HT2.out.size) HFEW.out).mono ?_; rintro e w3 ⟨rfl, hf3, ht3⟩; obtain ⟨fq3, hf3, hn3⟩ := hf3; have HRF := Lib.hid (show _ from (⟨fq3, hf3, hn3, ht3⟩ : ∃ fq', RefAt w3 fq' r _ ∧ (∀ k, fq' k → fq k ∨ w2.heap.size ≤ k) ∧ Turn fq w2 w3)); have e2 : w3.cell? ⟨w.heap.size, 2, none⟩ = some (.slice x.a x.n x.c) := (ht3.cell (block_lt_of_cell d2) (fun h => by have := HR.out.lt _ h; have h4 : w.heap.size < w.heap.size := this; omega)).trans d2; clear hf3 hn3 ht3))
    go_wp2_with fail
    go_ret
    refine ⟨rfl, _, (do_end hr1d HQ.out HSS.out HK2.out HT2.out HRF.out).1, (Turn.of_below HB1D.out _).trans0 (do_end hr1d HQ.out HSS.out HK2.out HT2.out HRF.out).2, save_len d (pick25 x.nm).data.toList x.bs⟩
  · go_wp2_with fail
    refine (load_k HK1.out (pick25 x.nm) HNS.out).mono ?_
    obtain ⟨R, hR⟩ : ∃ R, DiskM.load d (pick25 x.nm).data.toList = R := ⟨_, rfl⟩
    rw [hR]
    have HRR := Lib.hid hR
    clear hR
    rintro e w2 ⟨a2, cc2, rfl, ho2, hb2⟩
    have hr2 := hr1.below hb2
    have hk2 := HK1.out.below hb2
    have HO2 := Lib.hid ho2
    have HR2 := Lib.hid hr2
    have HK2 := Lib.hid hk2
    have HB2 := Lib.hid hb2
    clear ho2 hr2 hk2 hb2
    go_wp2_with fail
    refine (refload_any HR2.out (pick25 x.nm)).mono ?_
    rw [HRR.out]
    rintro e w3 ⟨a3, cc3, rfl, ho3, hb3⟩
    have hs2 := run_string_b w3 w3.heap.size a2 R.1.length cc2 R.1 (HO2.out.rd.step hb3) rfl
    have hs3 := run_string_b w3 w3.heap.size a3 R.1.length cc3 R.1 ho3.rd rfl
    have HF3 := Lib.hid (Turn.of_below (Below.next0 HB2.out hb3) (off B (fun k => (fq k ∨ S k) ∨ (w.heap.size ≤ k ∧ k < W1.heap.size))))
    have HB3 := Lib.hid hb3
    clear ho3 hb3
    go_wp2_with fail
    go_ret
    refine ⟨rfl, d, (do_end hr1 HQ.out HSS.out (HK2.out.below HB3.out) HF3.out ⟨fq, HR2.out.below HB3.out, fun k hk => .inl hk, Turn.refl _ _⟩).1, Turn.of_below ((HB1.out).trans ((Below.next0 HB2.out HB3.out).mono HB1.out.size)) _, by omega⟩
  · go_wp2_with fail
    refine (clean_k HK1.out).mono ?_
    rintro e w2 ⟨rfl, hk2, ht2⟩
    have hr2 := ref_still hr1 (fun k h => HSS.out k (.inl h)) ht2
    have HK2 := Lib.hid hk2
    have HT2 := Lib.hid ht2
    have HR2 := Lib.hid hr2
    clear hk2 ht2 hr2
    go_wp2_with fail
    refine (refclean_any HR2.out).mono ?_
    rintro e w3 ⟨rfl, hf3, ht3⟩
    obtain ⟨fq3, hf3, hn3⟩ := hf3
    have HRF := Lib.hid (show _ from (⟨fq3, hf3, hn3, ht3⟩ : ∃ fq', RefAt w3 fq' r _ ∧ (∀ k, fq' k → fq k ∨ w2.heap.size ≤ k) ∧ Turn fq w2 w3))
    clear hf3 hn3 ht3
    go_wp2_with fail
    go_ret
    refine ⟨rfl, _, (do_end hr1 HQ.out HSS.out HK2.out HT2.out HRF.out).1, (Turn.of_below HB1.out _).trans0 (do_end hr1 HQ.out HSS.out HK2.out HT2.out HRF.out).2, Nat.le_trans (clean_len d) (by omega)⟩
  · go_wp2_with fail
    have c2d : W1.drew.cell? ⟨w.heap.size, 2, none⟩ = some (.slice x.a x.n x.c) := c2
    have hbd : Below W1.heap.size W1 W1.drew := (Below.refl _ _).drew
    have hr1d : RefAt W1.drew fq r d := hr1.below hbd
    have HK1D := Lib.hid (HK1.out.below hbd)
    have HRD1D : Hid (Rd W1.drew W1.drew.heap.size x.a x.bs) := Lib.hid HRD1.out
    have HB1D := Lib.hid (Below.next0 HB1.out hbd)
    clear hr1 c0 c2 c3 c4 hbd
    go_region_held3 (fun W => W.cell? ⟨w.heap.size, 2, none⟩ = some (.slice x.a x.n x.c)) (first | exact c2d | assumption)
      (first
        | (go_at_call 12; refine (append_k HK1D.out (pick25 x.nm) HNS.out x.a x.n x.c x.bs HX.out.len HRD1D.out (HX.out.at_.imp id fun h ad ha => .inr (h ad ha)) HFEW.out).mono ?_; rintro e w2 ⟨rfl, hk2, ht2⟩; have hr2 := ref_still hr1d (fun k h => HSS.out k (.inl h)) ht2; have d2 := cell_still ht2 HBXS.out c2d; have HK2 := Lib.hid hk2; have HT2 := Lib.hid ht2; have HR2 := Lib.hid hr2; clear hk2 ht2 hr2)
        | (go_at_call 22; refine (refappend_any HR2.out (pick25 x.nm) HNS.out x.a x.n x.c x.bs HX.out.len ((rd_or HRD1D.out HT2.out (Nat.le_refl _) (HX.out.at_.imp id fun h ad ha hf => by have := h ad ha; have := hf.1; omega)).more HT2.out.size) (HX.out.at_.imp id fun h ad ha hf => by have := h ad ha; have := (HQ.out _ hf).1; omega) HFEW.out).mono ?_; rintro e w3 ⟨rfl, hf3, ht3⟩; obtain ⟨fq3, hf3, hn3⟩ := hf3; have HRF := Lib.hid (show _ from (⟨fq3, hf3, hn3, ht3⟩ : ∃ fq', RefAt w3 fq' r _ ∧ (∀ k, fq' k → fq k ∨ w2.heap.size ≤ k) ∧ Turn fq w2 w3)); have e2 : w3.cell? ⟨w.heap.size, 2, none⟩ = some (.slice x.a x.n x.c) := (ht3.cell (block_lt_of_cell d2) (fun h => by have := HR.out.lt _ h; have h4 : w.heap.size < w.heap.size := this; omega)).trans d2; clear hf3 hn3 ht3))
    go_wp2_with fail
    go_ret
    refine ⟨rfl, _, (do_end hr1d HQ.out HSS.out HK2.out HT2.out HRF.out).1, (Turn.of_below HB1D.out _).trans0 (do_end hr1d HQ.out HSS.out HK2.out HT2.out HRF.out).2, Nat.le_trans (append_len d (pick25 x.nm).data.toList x.bs) (by omega)⟩
  · go_wp2_with fail
    refine (arm_k HK1.out x.num HX.out.num0 HX.out.num1 x.done).mono ?_
    rintro e w2 ⟨rfl, hk2, ht2⟩
    have hr2 := ref_still hr1 (fun k h => HSS.out k (.inl h)) ht2
    have HK2 := Lib.hid hk2
    have HT2 := Lib.hid ht2
    have HR2 := Lib.hid hr2
    have d3 := cell_still HT2.out HBXS.out c3
    have d4 := cell_still HT2.out HBXS.out c4
    clear hk2 ht2 hr2
    go_wp2_with fail
    refine (refarm_any HR2.out x.num HX.out.num0 HX.out.num1 x.done).mono ?_
    rintro e w3 ⟨rfl, hf3, ht3⟩
    obtain ⟨fq3, hf3, hn3⟩ := hf3
    have HRF := Lib.hid (show _ from (⟨fq3, hf3, hn3, ht3⟩ : ∃ fq', RefAt w3 fq' r _ ∧ (∀ k, fq' k → fq k ∨ w2.heap.size ≤ k) ∧ Turn fq w2 w3))
    clear hf3 hn3 ht3
    go_wp2_with fail
    go_ret
    refine ⟨rfl, _, (do_end hr1 HQ.out HSS.out HK2.out HT2.out HRF.out).1, (Turn.of_below HB1.out _).trans0 (do_end hr1 HQ.out HSS.out HK2.out HT2.out HRF.out).2, Nat.le_trans (arm_len d x.num x.done) (by omega)⟩
  · go_wp2_with fail
    refine (crash_k HK1.out x.a x.n x.c x.bs HX.out.len HRD1.out (HX.out.at_.imp id fun h ad ha => .inr (h ad ha))).mono ?_
    rintro e w2 ⟨rfl, hk2, ht2⟩
    have hr2 := ref_still hr1 (fun k h => HSS.out k (.inl h)) ht2
    have HK2 := Lib.hid hk2
    have HT2 := Lib.hid ht2
    have HR2 := Lib.hid hr2
    have d2 := cell_still HT2.out HBXS.out c2
    clear hk2 ht2 hr2
    go_wp2_with fail
    refine (refcrash_any HR2.out x.a x.n x.c x.bs HX.out.len ((rd_or HRD1.out HT2.out (Nat.le_refl _) (HX.out.at_.imp id fun h ad ha hf => by have := h ad ha; have := hf.1; omega)).more HT2.out.size) (HX.out.at_.imp id fun h ad ha hf => by have := h ad ha; have := (HQ.out _ hf).1; omega)).mono ?_
    rintro e w3 ⟨rfl, hf3, ht3⟩
    obtain ⟨fq3, hf3, hn3⟩ := hf3
    have HRF := Lib.hid (show _ from (⟨fq3, hf3, hn3, ht3⟩ : ∃ fq', RefAt w3 fq' r _ ∧ (∀ k, fq' k → fq k ∨ w2.heap.size ≤ k) ∧ Turn fq w2 w3))
    clear hf3 hn3 ht3
    go_wp2_with fail
    go_ret
    refine ⟨rfl, _, (do_end hr1 HQ.out HSS.out HK2.out HT2.out HRF.out).1, (Turn.of_below HB1.out _).trans0 (do_end hr1 HQ.out HSS.out HK2.out HT2.out HRF.out).2, Nat.le_trans (crash_len d x.bs) (by omega)⟩
  · go_wp2_with fail
    refine (grow_k HK1.out x.num).mono ?_
    rintro e w2 ⟨rfl, hk2, ht2⟩
    have hr2 := ref_still hr1 (fun k h => HSS.out k (.inl h)) ht2
    have HK2 := Lib.hid hk2
    have HT2 := Lib.hid ht2
    have HR2 := Lib.hid hr2
    have d3 := cell_still HT2.out HBXS.out c3
    clear hk2 ht2 hr2
    go_wp2_with fail
    refine (refgrow_any HR2.out x.num).mono ?_
    rintro e w3 ⟨rfl, hf3, ht3⟩
    obtain ⟨fq3, hf3, hn3⟩ := hf3
    have HRF := Lib.hid (show _ from (⟨fq3, hf3, hn3, ht3⟩ : ∃ fq', RefAt w3 fq' r _ ∧ (∀ k, fq' k → fq k ∨ w2.heap.size ≤ k) ∧ Turn fq w2 w3))
    clear hf3 hn3 ht3
    go_wp2_with fail
    go_ret
    refine ⟨rfl, _, (do_end hr1 HQ.out HSS.out HK2.out HT2.out HRF.out).1, (Turn.of_below HB1.out _).trans0 (do_end hr1 HQ.out HSS.out HK2.out HT2.out HRF.out).2, Nat.le_trans (grow_len d x.num) (by omega)⟩
end Go.Proofs.YtopnhplacdbkdaaGreat
