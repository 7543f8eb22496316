/- The walk of an act on both disks. Condition: they lie side by side; the act's bytes lie below. -/
import Derived.Test.YtopnhplacdbkdaaDoM
namespace Go.Proofs.Ytopnhplacdbkdaa
open Go.RowKit DiskM Go.Shelf

theorem flip_k {w : World} {B p : Nat} {S : Nat → Prop} {d : DS} (h : DK w B S p d) (s : ByteArray) (hs : s.size ≤ maxLen) (z : Int) (hz0 : -9223372036854775808 ≤ z) (hz1 : z ≤ 9223372036854775807) (m : Nat) (hml : m < 4294967296) :
    Calls Try.prog 58 #[.pointer (some ⟨p, 0, none⟩), .string s, .int .i64 z, .int .u32 (m : Int)] w fun e w' => e = .returned (.bool (flipR d s.data.toList z m).1) ∧ DK w' B S p (flipR d s.data.toList z m).2 ∧ Turn (off B S) w w' := by
  obtain ⟨⟨fp, h, hf⟩, hS, hB⟩ := h
  refine (flip_all h s hs z hz0 hz1 m hml).mono ?_
  rintro e w' ⟨rfl, fp', h1, h2, h3⟩
  obtain ⟨k1, k2⟩ := kept_of hf hS hB h1 h2 h3
  exact ⟨rfl, k1, k2⟩

set_option maxRecDepth 100000 in
set_option maxHeartbeats 8000000 in
theorem do21_any {w : World} {B p r : Nat} {S : Nat → Prop} {d : DS} (h : Both w B S p r d) (x : Act21) (hx : x.Fine w B) (hfew : d.files.length < 1000000) :
    Calls Try.prog 49 #[.pointer (some ⟨p, 0, none⟩), .pointer (some ⟨r, 0, none⟩), .agg x.cells] w (DoIs w B S p r d) := by
  obtain ⟨fq, hr, hk, hq⟩ := h
  have hBw : B ≤ w.heap.size := hk.2.2
  have HX := Lib.hid hx
  have HQ := Lib.hid hq
  have HFEW := Lib.hid hfew
  have HR := Lib.hid hr
  have HK := Lib.hid hk
  have hkind := hx.kind
  have hmask := hx.mask
  clear hx hq hfew hr hk
  unfold Act21.cells
  go_enter Try.func49, Try.ntmps49
  go_upto_region 1 with fail
  have hb0 : Below w.heap.size w (w.alloc (.cells #[.int .u8 (x.kind : Int), .string x.nm, .string x.other, .slice x.a x.n x.c, .int .i64 x.num, .bool x.done, .int .u32 (x.mask : Int)] 72)) := (Below.refl _ _).alloc (Nat.le_refl _) _
  have hbx := heap_alloc_new w (.cells #[.int .u8 (x.kind : Int), .string x.nm, .string x.other, .slice x.a x.n x.c, .int .i64 x.num, .bool x.done, .int .u32 (x.mask : Int)] 72)
  have hsz : w.heap.size < (w.alloc (.cells #[.int .u8 (x.kind : Int), .string x.nm, .string x.other, .slice x.a x.n x.c, .int .i64 x.num, .bool x.done, .int .u32 (x.mask : Int)] 72)).heap.size := by simp
  generalize w.alloc (.cells #[.int .u8 (x.kind : Int), .string x.nm, .string x.other, .slice x.a x.n x.c, .int .i64 x.num, .bool x.done, .int .u32 (x.mask : Int)] 72) = W0 at *
  have HF : Hid (∀ W, Below W0.heap.size W0 W → W.cell? ⟨w.heap.size, 1, none⟩ = some (.string x.nm) ∧ W.cell? ⟨w.heap.size, 2, none⟩ = some (.string x.other)) := Lib.hid fun W hW => by
    have hb := (hW.block _ hsz).trans hbx
    exact ⟨cell_of_row _ _ 1 _ _ _ hb, cell_of_row _ _ 2 _ _ _ hb⟩
  have HBX := Lib.hid hbx
  have HB0 := Lib.hid hb0
  clear hbx hb0
  refine wp_region_flat (by kernel_rfl) (fun W => Below W0.heap.size W0 W) (fun _ _ h h' => Below.next0 h h') (detV [.pointer (some ⟨w.heap.size, 1, none⟩), .string x.nm, .string (pick21 x.nm), .pointer (some ⟨w.heap.size, 2, none⟩), .string x.other, .string (pick21 x.other), .string (pick21 x.nm), .string (pick21 x.other)] (fun _ => none)) (detV_grow fun i φ h => by cases h) (by kernel_rfl) (Below.refl _ _).drew ?_ ?_
  · skip
    refine ⟨fun a W hW hag hdep => ?_, ?_⟩
    · have e5 : a.tmps[5]?.getD undef = .pointer (some ⟨w.heap.size, 0, none⟩) := evalD (hag.keep (t := 5) (by kernel_rfl) rfl)
      refine flat_on rfl ?_
      refine flat_run (u := .pointer (some ⟨w.heap.size, 1, none⟩)) ?_ ((detV_at rfl).2 rfl)
      simp [go_sem, e5]
    refine ⟨fun a W hW hag hdep => ?_, ?_⟩
    · have e13 : a.tmps[13]?.getD undef = .pointer (some ⟨w.heap.size, 1, none⟩) := evalD ((detV_at rfl).1 (hdep 0 (by decide)))
      refine flat_on rfl ?_
      obtain ⟨f1, f2⟩ := HF.out W hW
      refine flat_run (u := .string x.nm) ?_ ((detV_at rfl).2 rfl)
      simp [go_sem, e13, f1]
    refine ⟨fun a W hW hag hdep => ?_, ?_⟩
    · have e14 : a.tmps[14]?.getD undef = .string x.nm := evalD ((detV_at rfl).1 (hdep 1 (by decide)))
      refine flat_on rfl ?_
      refine flat_call (f := 85) (args := #[.string x.nm]) (by simp [go_sem, e14]) ((pick21_any x.nm _).mono ?_)
      rintro e W' ⟨rfl, hb4⟩
      exact ⟨_, rfl, hb4, (detV_at rfl).2 rfl⟩
    refine ⟨fun a W hW hag hdep => ?_, ?_⟩
    · have e5 : a.tmps[5]?.getD undef = .pointer (some ⟨w.heap.size, 0, none⟩) := evalD (hag.keep (t := 5) (by kernel_rfl) rfl)
      refine flat_on rfl ?_
      refine flat_run (u := .pointer (some ⟨w.heap.size, 2, none⟩)) ?_ ((detV_at rfl).2 rfl)
      simp [go_sem, e5]
    refine ⟨fun a W hW hag hdep => ?_, ?_⟩
    · have e16 : a.tmps[16]?.getD undef = .pointer (some ⟨w.heap.size, 2, none⟩) := evalD ((detV_at rfl).1 (hdep 3 (by decide)))
      refine flat_on rfl ?_
      obtain ⟨f1, f2⟩ := HF.out W hW
      refine flat_run (u := .string x.other) ?_ ((detV_at rfl).2 rfl)
      simp [go_sem, e16, f2]
    refine ⟨fun a W hW hag hdep => ?_, ?_⟩
    · have e17 : a.tmps[17]?.getD undef = .string x.other := evalD ((detV_at rfl).1 (hdep 4 (by decide)))
      refine flat_on rfl ?_
      refine flat_call (f := 85) (args := #[.string x.other]) (by simp [go_sem, e17]) ((pick21_any x.other _).mono ?_)
      rintro e W' ⟨rfl, hb4⟩
      exact ⟨_, rfl, hb4, (detV_at rfl).2 rfl⟩
    refine ⟨fun a W hW hag hdep => ?_, ?_⟩
    · have e15 : a.tmps[15]?.getD undef = .string (pick21 x.nm) := evalD ((detV_at rfl).1 (hdep 2 (by decide)))
      refine flat_on rfl ?_
      refine flat_run (u := .string (pick21 x.nm)) ?_ ((detV_at rfl).2 rfl)
      simp [go_sem, e15]
    refine ⟨fun a W hW hag hdep => ?_, ?_⟩
    · have e18 : a.tmps[18]?.getD undef = .string (pick21 x.other) := evalD ((detV_at rfl).1 (hdep 5 (by decide)))
      refine flat_on rfl ?_
      refine flat_run (u := .string (pick21 x.other)) ?_ ((detV_at rfl).2 rfl)
      simp [go_sem, e18]
    exact trivial
  intro vs W1 hW1 hvs
  have v0 : vs 0 = _ := (detV_at rfl).1 (hvs 0 (by decide))
  have v1 : vs 1 = _ := (detV_at rfl).1 (hvs 1 (by decide))
  have v2 : vs 2 = _ := (detV_at rfl).1 (hvs 2 (by decide))
  have v3 : vs 3 = _ := (detV_at rfl).1 (hvs 3 (by decide))
  have v4 : vs 4 = _ := (detV_at rfl).1 (hvs 4 (by decide))
  have v5 : vs 5 = _ := (detV_at rfl).1 (hvs 5 (by decide))
  have v6 : vs 6 = _ := (detV_at rfl).1 (hvs 6 (by decide))
  have v7 : vs 7 = _ := (detV_at rfl).1 (hvs 7 (by decide))
  simp only [putAll, Act.put, List.setIfInBounds_toArray, List.set_cons_zero, List.set_cons_succ]
  rw [v0, v1, v2, v3, v4, v5, v6, v7]
  have hW1 : Below W0.heap.size W0 W1 := hW1
  have hbx1 := (hW1.block _ hsz).trans HBX.out
  have hb1 : Below w.heap.size w W1 := HB0.out.trans (hW1.mono (Nat.le_of_lt hsz))
  have hsz1 : w.heap.size < W1.heap.size := Nat.lt_of_lt_of_le hsz hW1.size
  have hr1 : RefAt W1 fq r d := HR.out.below hb1
  have hk1 : DK W1 B (fun k => (fq k ∨ S k) ∨ (w.heap.size ≤ k ∧ k < W1.heap.size)) p d := HK.out.more hb1 fun k hk => hk
  have HSS : Hid (∀ k, fq k ∨ S k → (fq k ∨ S k) ∨ (w.heap.size ≤ k ∧ k < W1.heap.size)) := Lib.hid fun k h => .inl h
  have HBXS : Hid ((fq w.heap.size ∨ S w.heap.size) ∨ (w.heap.size ≤ w.heap.size ∧ w.heap.size < W1.heap.size)) := Lib.hid (.inr ⟨Nat.le_refl _, hsz1⟩)
  have hrd1 : Rd W1 W1.heap.size x.a x.bs := (HX.out.rd.below (hb1.mono hBw)).more (by omega)
  have c0 : W1.cell? ⟨w.heap.size, 0, none⟩ = some (.int .u8 (x.kind : Int)) := cell_of_row _ _ 0 _ _ _ hbx1
  have c3 : W1.cell? ⟨w.heap.size, 3, none⟩ = some (.slice x.a x.n x.c) := cell_of_row _ _ 3 _ _ _ hbx1
  have c4 : W1.cell? ⟨w.heap.size, 4, none⟩ = some (.int .i64 x.num) := cell_of_row _ _ 4 _ _ _ hbx1
  have c5 : W1.cell? ⟨w.heap.size, 5, none⟩ = some (.bool x.done) := cell_of_row _ _ 5 _ _ _ hbx1
  have c6 : W1.cell? ⟨w.heap.size, 6, none⟩ = some (.int .u32 (x.mask : Int)) := cell_of_row _ _ 6 _ _ _ hbx1
  have HK1 := Lib.hid hk1
  have HB1 := Lib.hid hb1
  have HRD1 := Lib.hid hrd1
  have HNS : Hid ((pick21 x.nm).size ≤ maxLen) := Lib.hid (by have := pick21_size x.nm HX.out.nm; unfold maxLen; omega)
  have HOS : Hid ((pick21 x.other).size ≤ maxLen) := Lib.hid (by have := pick21_size x.other HX.out.other; unfold maxLen; omega)
  clear v0 v1 v2 v3 v4 v5 v6 v7 hvs hW1 hbx1 hb1 hk1 hrd1
  have hkm : x.kind % 9 < 9 := Nat.mod_lt _ (by omega)
  obtain ⟨M, hM⟩ : ∃ M, x.kind % 9 = M := ⟨_, rfl⟩
  have hM' : (x.kind : Int) % 9 = (M : Int) := by omega
  rw [hM] at hkm
  clear hM
  rcases (by omega : M = 0 ∨ M = 1 ∨ M = 2 ∨ M = 3 ∨ M = 4 ∨ M = 5 ∨ M = 6 ∨ M = 7 ∨ M = 8) with rfl | rfl | rfl | rfl | rfl | rfl | rfl | rfl | rfl
  · go_wp2_with fail
    have c0d : W1.drew.cell? ⟨w.heap.size, 0, none⟩ = some (.int .u8 (x.kind : Int)) := c0
    have c3d : W1.drew.cell? ⟨w.heap.size, 3, none⟩ = some (.slice x.a x.n x.c) := c3
    have c4d : W1.drew.cell? ⟨w.heap.size, 4, none⟩ = some (.int .i64 x.num) := c4
    have c6d : W1.drew.cell? ⟨w.heap.size, 6, none⟩ = some (.int .u32 (x.mask : Int)) := c6
    have hbd : Below W1.heap.size W1 W1.drew := (Below.refl _ _).drew
    have hr1d : RefAt W1.drew fq r d := hr1.below hbd
    have HK1D := Lib.hid (HK1.out.below hbd)
    have HRD1D : Hid (Rd W1.drew W1.drew.heap.size x.a x.bs) := Lib.hid HRD1.out
    have HB1D := Lib.hid (Below.next0 HB1.out hbd)
    clear hr1 c0 c3 c4 c5 c6 hbd
    go_region_held3 (fun W => W.cell? ⟨w.heap.size, 3, none⟩ = some (.slice x.a x.n x.c)) (first | exact c3d | assumption)
      (first
        | (go_at_call 37; refine (append_k HK1D.out (pick21 x.nm) HNS.out x.a x.n x.c x.bs HX.out.len HRD1D.out (HX.out.at_.imp id fun h ad ha => .inr (h ad ha)) HFEW.out).mono ?_; rintro e w2 ⟨rfl, hk2, ht2⟩; have hr2 := ref_still hr1d (fun k h => HSS.out k (.inl h)) ht2; have d3 := cell_still ht2 HBXS.out c3d; have HK2 := Lib.hid hk2; have HT2 := Lib.hid ht2; have HR2 := Lib.hid hr2; clear hk2 ht2 hr2)
        | (go_at_call 86; refine (refappend_any HR2.out (pick21 x.nm) HNS.out x.a x.n x.c x.bs HX.out.len ((rd_or HRD1D.out HT2.out (Nat.le_refl _) (HX.out.at_.imp id fun h ad ha hf => by have := h ad ha; have := hf.1; omega)).more HT2.out.size) (HX.out.at_.imp id fun h ad ha hf => by have := h ad ha; have := (HQ.out _ hf).1; omega) HFEW.out).mono ?_; rintro e w3 ⟨rfl, hf3, ht3⟩; obtain ⟨fq3, hf3, hn3⟩ := hf3; have HRF := Lib.hid (show _ from (⟨fq3, hf3, hn3, ht3⟩ : ∃ fq', RefAt w3 fq' r _ ∧ (∀ k, fq' k → fq k ∨ w2.heap.size ≤ k) ∧ Turn fq w2 w3)); have e3 : w3.cell? ⟨w.heap.size, 3, none⟩ = some (.slice x.a x.n x.c) := (ht3.cell (block_lt_of_cell d3) (fun h => by have := HR.out.lt _ h; have h4 : w.heap.size < w.heap.size := this; omega)).trans d3; clear hf3 hn3 ht3))
    go_wp2_with fail
    go_ret
    refine ⟨rfl, _, (do_end hr1d HQ.out HSS.out HK2.out HT2.out HRF.out).1, (Turn.of_below HB1D.out _).trans0 (do_end hr1d HQ.out HSS.out HK2.out HT2.out HRF.out).2, append_len d (pick21 x.nm).data.toList x.bs⟩
  · go_wp2_with fail
    refine (sync_k HK1.out (pick21 x.nm) HNS.out).mono ?_
    rintro e w2 ⟨rfl, hk2, ht2⟩
    have hr2 := ref_still hr1 (fun k h => HSS.out k (.inl h)) ht2
    have HK2 := Lib.hid hk2
    have HT2 := Lib.hid ht2
    have HR2 := Lib.hid hr2
    clear hk2 ht2 hr2
    go_wp2_with fail
    refine (refsync_any HR2.out (pick21 x.nm)).mono ?_
    rintro e w3 ⟨rfl, hf3, ht3⟩
    obtain ⟨fq3, hf3, hn3⟩ := hf3
    have HRF := Lib.hid (show _ from (⟨fq3, hf3, hn3, ht3⟩ : ∃ fq', RefAt w3 fq' r _ ∧ (∀ k, fq' k → fq k ∨ w2.heap.size ≤ k) ∧ Turn fq w2 w3))
    clear hf3 hn3 ht3
    go_wp2_with fail
    go_ret
    refine ⟨rfl, _, (do_end hr1 HQ.out HSS.out HK2.out HT2.out HRF.out).1, (Turn.of_below HB1.out _).trans0 (do_end hr1 HQ.out HSS.out HK2.out HT2.out HRF.out).2, sync_len d (pick21 x.nm).data.toList⟩
  · go_wp2_with fail
    refine (rename_k HK1.out (pick21 x.nm) (pick21 x.other) HNS.out HOS.out).mono ?_
    rintro e w2 ⟨rfl, hk2, ht2⟩
    have hr2 := ref_still hr1 (fun k h => HSS.out k (.inl h)) ht2
    have HK2 := Lib.hid hk2
    have HT2 := Lib.hid ht2
    have HR2 := Lib.hid hr2
    clear hk2 ht2 hr2
    go_wp2_with fail
    refine (refrename_any HR2.out (pick21 x.nm) (pick21 x.other) HOS.out).mono ?_
    rintro e w3 ⟨rfl, hf3, ht3⟩
    obtain ⟨fq3, hf3, hn3⟩ := hf3
    have HRF := Lib.hid (show _ from (⟨fq3, hf3, hn3, ht3⟩ : ∃ fq', RefAt w3 fq' r _ ∧ (∀ k, fq' k → fq k ∨ w2.heap.size ≤ k) ∧ Turn fq w2 w3))
    clear hf3 hn3 ht3
    go_wp2_with fail
    go_ret
    refine ⟨rfl, _, (do_end hr1 HQ.out HSS.out HK2.out HT2.out HRF.out).1, (Turn.of_below HB1.out _).trans0 (do_end hr1 HQ.out HSS.out HK2.out HT2.out HRF.out).2, rename_len d (pick21 x.nm).data.toList (pick21 x.other).data.toList⟩
  · go_wp2_with fail
    refine (remove_k HK1.out (pick21 x.nm) HNS.out).mono ?_
    rintro e w2 ⟨rfl, hk2, ht2⟩
    have hr2 := ref_still hr1 (fun k h => HSS.out k (.inl h)) ht2
    have HK2 := Lib.hid hk2
    have HT2 := Lib.hid ht2
    have HR2 := Lib.hid hr2
    clear hk2 ht2 hr2
    go_wp2_with fail
    refine (refremove_any HR2.out (pick21 x.nm)).mono ?_
    rintro e w3 ⟨rfl, hf3, ht3⟩
    obtain ⟨fq3, hf3, hn3⟩ := hf3
    have HRF := Lib.hid (show _ from (⟨fq3, hf3, hn3, ht3⟩ : ∃ fq', RefAt w3 fq' r _ ∧ (∀ k, fq' k → fq k ∨ w2.heap.size ≤ k) ∧ Turn fq w2 w3))
    clear hf3 hn3 ht3
    go_wp2_with fail
    go_ret
    refine ⟨rfl, _, (do_end hr1 HQ.out HSS.out HK2.out HT2.out HRF.out).1, (Turn.of_below HB1.out _).trans0 (do_end hr1 HQ.out HSS.out HK2.out HT2.out HRF.out).2, remove_len' d (pick21 x.nm).data.toList⟩
  · go_wp2_with fail
    refine (arm_k HK1.out x.num HX.out.num0 HX.out.num1 x.done).mono ?_
    rintro e w2 ⟨rfl, hk2, ht2⟩
    have hr2 := ref_still hr1 (fun k h => HSS.out k (.inl h)) ht2
    have HK2 := Lib.hid hk2
    have HT2 := Lib.hid ht2
    have HR2 := Lib.hid hr2
    have d4 := cell_still HT2.out HBXS.out c4
    have d5 := cell_still HT2.out HBXS.out c5
    clear hk2 ht2 hr2
    go_wp2_with fail
    refine (refarm_any HR2.out x.num HX.out.num0 HX.out.num1 x.done).mono ?_
    rintro e w3 ⟨rfl, hf3, ht3⟩
    obtain ⟨fq3, hf3, hn3⟩ := hf3
    have HRF := Lib.hid (show _ from (⟨fq3, hf3, hn3, ht3⟩ : ∃ fq', RefAt w3 fq' r _ ∧ (∀ k, fq' k → fq k ∨ w2.heap.size ≤ k) ∧ Turn fq w2 w3))
    clear hf3 hn3 ht3
    go_wp2_with fail
    go_ret
    refine ⟨rfl, _, (do_end hr1 HQ.out HSS.out HK2.out HT2.out HRF.out).1, (Turn.of_below HB1.out _).trans0 (do_end hr1 HQ.out HSS.out HK2.out HT2.out HRF.out).2, arm_len d x.num x.done⟩
  · go_wp2_with fail
    refine (crash_k HK1.out x.a x.n x.c x.bs HX.out.len HRD1.out (HX.out.at_.imp id fun h ad ha => .inr (h ad ha))).mono ?_
    rintro e w2 ⟨rfl, hk2, ht2⟩
    have hr2 := ref_still hr1 (fun k h => HSS.out k (.inl h)) ht2
    have HK2 := Lib.hid hk2
    have HT2 := Lib.hid ht2
    have HR2 := Lib.hid hr2
    have d3 := cell_still HT2.out HBXS.out c3
    clear hk2 ht2 hr2
    go_wp2_with fail
    refine (refcrash_any HR2.out x.a x.n x.c x.bs HX.out.len ((rd_or HRD1.out HT2.out (Nat.le_refl _) (HX.out.at_.imp id fun h ad ha hf => by have := h ad ha; have := hf.1; omega)).more HT2.out.size) (HX.out.at_.imp id fun h ad ha hf => by have := h ad ha; have := (HQ.out _ hf).1; omega)).mono ?_
    rintro e w3 ⟨rfl, hf3, ht3⟩
    obtain ⟨fq3, hf3, hn3⟩ := hf3
    have HRF := Lib.hid (show _ from (⟨fq3, hf3, hn3, ht3⟩ : ∃ fq', RefAt w3 fq' r _ ∧ (∀ k, fq' k → fq k ∨ w2.heap.size ≤ k) ∧ Turn fq w2 w3))
    clear hf3 hn3 ht3
    go_wp2_with fail
    go_ret
    refine ⟨rfl, _, (do_end hr1 HQ.out HSS.out HK2.out HT2.out HRF.out).1, (Turn.of_below HB1.out _).trans0 (do_end hr1 HQ.out HSS.out HK2.out HT2.out HRF.out).2, crash_len d x.bs⟩
  · go_wp2_with fail
    refine (grow_k HK1.out x.num).mono ?_
    rintro e w2 ⟨rfl, hk2, ht2⟩
    have hr2 := ref_still hr1 (fun k h => HSS.out k (.inl h)) ht2
    have HK2 := Lib.hid hk2
    have HT2 := Lib.hid ht2
    have HR2 := Lib.hid hr2
    have d4 := cell_still HT2.out HBXS.out c4
    clear hk2 ht2 hr2
    go_wp2_with fail
    refine (refgrow_any HR2.out x.num).mono ?_
    rintro e w3 ⟨rfl, hf3, ht3⟩
    obtain ⟨fq3, hf3, hn3⟩ := hf3
    have HRF := Lib.hid (show _ from (⟨fq3, hf3, hn3, ht3⟩ : ∃ fq', RefAt w3 fq' r _ ∧ (∀ k, fq' k → fq k ∨ w2.heap.size ≤ k) ∧ Turn fq w2 w3))
    clear hf3 hn3 ht3
    go_wp2_with fail
    go_ret
    refine ⟨rfl, _, (do_end hr1 HQ.out HSS.out HK2.out HT2.out HRF.out).1, (Turn.of_below HB1.out _).trans0 (do_end hr1 HQ.out HSS.out HK2.out HT2.out HRF.out).2, grow_len d x.num⟩
  · go_wp2_with fail
    have c0d : W1.drew.cell? ⟨w.heap.size, 0, none⟩ = some (.int .u8 (x.kind : Int)) := c0
    have c3d : W1.drew.cell? ⟨w.heap.size, 3, none⟩ = some (.slice x.a x.n x.c) := c3
    have c4d : W1.drew.cell? ⟨w.heap.size, 4, none⟩ = some (.int .i64 x.num) := c4
    have c6d : W1.drew.cell? ⟨w.heap.size, 6, none⟩ = some (.int .u32 (x.mask : Int)) := c6
    have hbd : Below W1.heap.size W1 W1.drew := (Below.refl _ _).drew
    have hr1d : RefAt W1.drew fq r d := hr1.below hbd
    have HK1D := Lib.hid (HK1.out.below hbd)
    have HRD1D : Hid (Rd W1.drew W1.drew.heap.size x.a x.bs) := Lib.hid HRD1.out
    have HB1D := Lib.hid (Below.next0 HB1.out hbd)
    clear hr1 c0 c3 c4 c5 c6 hbd
    go_region_held3 (fun W => W.cell? ⟨w.heap.size, 4, none⟩ = some (.int .i64 x.num) ∧ W.cell? ⟨w.heap.size, 6, none⟩ = some (.int .u32 (x.mask : Int))) (first | exact ⟨c4d, c6d⟩ | exact ⟨by assumption, by assumption⟩)
      (first
        | (go_at_call 58; refine (flip_k HK1D.out (pick21 x.nm) HNS.out x.num HX.out.num0 HX.out.num1 x.mask hmask).mono ?_; rintro e w2 ⟨rfl, hk2, ht2⟩; have hr2 := ref_still hr1d (fun k h => HSS.out k (.inl h)) ht2; have d4 := cell_still ht2 HBXS.out c4d; have d6 := cell_still ht2 HBXS.out c6d; have HK2 := Lib.hid hk2; have HT2 := Lib.hid ht2; have HR2 := Lib.hid hr2; clear hk2 ht2 hr2)
        | (go_at_call 93; refine (refflip_any HR2.out (pick21 x.nm) x.num HX.out.num0 HX.out.num1 x.mask hmask).mono ?_; rintro e w3 ⟨rfl, hf3, ht3⟩; obtain ⟨fq3, hf3, hn3⟩ := hf3; have HRF := Lib.hid (show _ from (⟨fq3, hf3, hn3, ht3⟩ : ∃ fq', RefAt w3 fq' r _ ∧ (∀ k, fq' k → fq k ∨ w2.heap.size ≤ k) ∧ Turn fq w2 w3)); have hnb : ¬ fq w.heap.size := (fun h => by have := HR.out.lt _ h; omega); have e4 : w3.cell? ⟨w.heap.size, 4, none⟩ = some (.int .i64 x.num) := (ht3.cell (block_lt_of_cell d4) hnb).trans d4; have e6 : w3.cell? ⟨w.heap.size, 6, none⟩ = some (.int .u32 (x.mask : Int)) := (ht3.cell (block_lt_of_cell d6) hnb).trans d6; clear hf3 hn3 ht3))
    go_wp2_with fail
    go_ret
    refine ⟨rfl, _, (do_end hr1d HQ.out HSS.out HK2.out HT2.out HRF.out).1, (Turn.of_below HB1D.out _).trans0 (do_end hr1d HQ.out HSS.out HK2.out HT2.out HRF.out).2, flipR_len d (pick21 x.nm).data.toList x.num x.mask⟩
  · go_wp2_with fail
    refine (read_k HK1.out (pick21 x.nm) HNS.out).mono ?_
    obtain ⟨R, hR⟩ : ∃ R, DiskM.read d (pick21 x.nm).data.toList = R := ⟨_, rfl⟩
    rw [hR]
    have HRR := Lib.hid hR
    clear hR
    rintro e w2 ⟨a2, cc2, rfl, ho2, hb2⟩
    have hr2 := hr1.below hb2
    have hk2 := HK1.out.below hb2
    have HO2 := Lib.hid ho2
    have HR2 := Lib.hid hr2
    have HK2 := Lib.hid hk2
    have HB2 := Lib.hid hb2
    clear ho2 hr2 hk2 hb2
    go_wp2_with fail
    refine (refread_any HR2.out (pick21 x.nm)).mono ?_
    rw [HRR.out]
    rintro e w3 ⟨a3, cc3, rfl, ho3, hb3⟩
    have hs2 := run_string_b w3 w3.heap.size a2 R.1.length cc2 R.1 (HO2.out.rd.step hb3) rfl
    have hs3 := run_string_b w3 w3.heap.size a3 R.1.length cc3 R.1 ho3.rd rfl
    have HF3 := Lib.hid (Turn.of_below (Below.next0 HB2.out hb3) (off B (fun k => (fq k ∨ S k) ∨ (w.heap.size ≤ k ∧ k < W1.heap.size))))
    have HB3 := Lib.hid hb3
    clear ho3 hb3
    go_wp2_with fail
    go_ret
    refine ⟨rfl, d, (do_end hr1 HQ.out HSS.out (HK2.out.below HB3.out) HF3.out ⟨fq, HR2.out.below HB3.out, fun k hk => .inl hk, Turn.refl _ _⟩).1, Turn.of_below ((HB1.out).trans ((Below.next0 HB2.out HB3.out).mono HB1.out.size)) _, Nat.le_succ _⟩
end Go.Proofs.Ytopnhplacdbkdaa
