/- The walk of ScriptOne. Condition: the arguments lie as they say; the world is laid. -/
import Derived.Test.YtifdmgloheampaaDoorSeat
import Derived.Test.YtifdmgloheampaaDoorScriptKnw
import Derived.Test.YtifdmgloheampaaDoorScriptL
import Derived.Test.YtifdmgloheampaaDoorFlat
namespace Go.Proofs.YtifdmgloheampaaDoor
open Go.RowKit DiskM ScriptM

/-- one act alone in a block is a slice of acts -/
theorem rdv_one {V : World} {b : Nat} {v : ActV} (h : V.heap[b]? = some (.cells v.x.cells 30 (0, 0))) (hok : v.Ok V V.heap.size) : RdV V V.heap.size (some ⟨b, 0, none⟩) [v] := by
  refine .inr ⟨b, 0, rfl, (Array.getElem?_eq_some_iff.1 h).1, fun j x hx => ?_⟩
  obtain ⟨hj, rfl⟩ : j = 0 ∧ x = v := by
    cases j with
    | zero => simp at hx; exact ⟨rfl, hx.symm⟩
    | succ j => simp at hx
  subst hj
  refine ⟨fun i u hu => ?_, hok⟩
  rw [show 0 + 0 * 6 + i = i by omega]
  exact row_cell h hu
theorem flat_made {P : Program} {V : Value → World → Prop} {w w' : World} {u : Value} {res : Result Next} (hr : res = .ok (.value u) w') (hb : Below w.heap.size w w') (h : V u w') : FlatUpon P V w res := by
  rw [hr]; exact ⟨hb, h⟩
/-- two acts in two blocks of the call's own -/
structure Two (w : World) (bA bB : Nat) (x y : ActV) (V : World) : Prop where
  below : Below w.heap.size w V
  rowA : V.heap[bA]? = some (.cells x.x.cells 30 (0, 0))
  rowB : V.heap[bB]? = some (.cells y.x.cells 30 (0, 0))
  okA : x.Ok V bA
  okB : y.Ok V bA
  le : w.heap.size ≤ bA
  lt : bA < bB
theorem Two.sizeB {w V : World} {bA bB : Nat} {x y : ActV} (h : Two w bA bB x y V) : bB < V.heap.size := (Array.getElem?_eq_some_iff.1 h.rowB).1
theorem Two.call {w V V' : World} {bA bB : Nat} {x y : ActV} (h : Two w bA bB x y V) (hb : Below V.heap.size V V') : Two w bA bB x y V' := by
  have hs := h.sizeB
  have hl := h.lt
  exact ⟨Below.next0 h.below hb, (hb.block _ (by omega)).trans h.rowA, (hb.block _ hs).trans h.rowB, h.okA.below (hb.mono (by omega)), h.okB.below (hb.mono (by omega)), h.le, h.lt⟩
theorem ActV.Ok.set {v : ActV} {w : World} {B : Nat} (h : v.Ok w B) {p : Addr} (hB : B ≤ p.block) (u : Value) : v.Ok (w.setCell p u) B := ⟨h.kind, h.n, h.len, h.most, h.nm, h.rd.setCell hB u, h.mask⟩
theorem Two.set {w V : World} {bA bB : Nat} {x y y' : ActV} (h : Two w bA bB x y V) (i : Nat) (u : Value) (hy : y.x.cells.setIfInBounds i u = y'.x.cells) (hok : y'.Ok V bA) : Two w bA bB x y' (V.setCell ⟨bB, i, none⟩ u) := by
  have hl := h.lt
  have hle := h.le
  refine ⟨h.below.setCell (p := ⟨bB, i, none⟩) (by show _ ≤ bB; omega) u, (Below.heap_setCell _ _ _ _ (by show bA ≠ bB; omega)).trans h.rowA, ?_, h.okA.set (p := ⟨bB, i, none⟩) (by show bA ≤ bB; omega) u, hok.set (p := ⟨bB, i, none⟩) (by show bA ≤ bB; omega) u, hle, hl⟩
  rw [← hy]
  exact heap_setCell_same _ _ _ _ _ _ h.rowB
theorem ActV.Ok.drew {v : ActV} {w : World} {B : Nat} (h : v.Ok w B) : v.Ok w.drew B := ⟨h.kind, h.n, h.len, h.most, h.nm, h.rd.drew, h.mask⟩
theorem Two.drew {w V : World} {bA bB : Nat} {x y : ActV} (h : Two w bA bB x y V) : Two w bA bB x y V.drew := ⟨h.below.drew, h.rowA, h.rowB, h.okA.drew, h.okB.drew, h.le, h.lt⟩
theorem act_facts {V : World} {B : Nat} {k n : Int} {d : Bool} {ka : Option Addr} {kn kc : Nat} {nm : ByteArray} {m : Nat} (h : V.heap[B]? = some (.cells #[.int .i64 k, .int .i64 n, .bool d, .slice ka kn kc, .string nm, .int .u32 (m : Int)] 30 (0, 0))) :
    V.cell? ⟨B, 0, none⟩ = some (.int .i64 k) ∧ V.cell? ⟨B, 1, none⟩ = some (.int .i64 n) ∧ V.cell? ⟨B, 2, none⟩ = some (.bool d) ∧ V.cell? ⟨B, 3, none⟩ = some (.slice ka kn kc) ∧ V.cell? ⟨B, 4, none⟩ = some (.string nm) ∧ V.cell? ⟨B, 5, none⟩ = some (.int .u32 (m : Int)) ∧
    V.frozen? ⟨B, 0, none⟩ = false ∧ V.frozen? ⟨B, 1, none⟩ = false ∧ V.frozen? ⟨B, 2, none⟩ = false ∧ V.frozen? ⟨B, 3, none⟩ = false ∧ V.frozen? ⟨B, 4, none⟩ = false ∧ V.frozen? ⟨B, 5, none⟩ = false :=
  ⟨row_cell h rfl, row_cell h rfl, row_cell h rfl, row_cell h rfl, row_cell h rfl, row_cell h rfl, frozen_of_row _ _ _ _ _ h, frozen_of_row _ _ _ _ _ h, frozen_of_row _ _ _ _ _ h, frozen_of_row _ _ _ _ _ h, frozen_of_row _ _ _ _ _ h, frozen_of_row _ _ _ _ _ h⟩

set_option maxRecDepth 100000 in
set_option maxHeartbeats 8000000 in
theorem walkScriptOne (a : Option Addr) (n c : Nat) (ls : List Nat) (kind : Nat) (nn : Int) (done : Bool) (ka : Option Addr) (kn kc : Nat) (keep : List UInt8) (nm : ByteArray) (mask : Nat) (w : World)
    (hln : ls.length = n) (hn : n ≤ 9223372036854775807) (hrd : RdU w w.heap.size a ls) (hx : ∀ x ∈ ls, x < 18446744073709551616) (hkind : kind < 256) (hn0 : -9223372036854775808 ≤ nn) (hn1 : nn ≤ 9223372036854775807)
    (hkl : keep.length = kn) (hkm : kn ≤ 9223372036854775807) (hkr : Rd w w.heap.size ka keep) (hkc : kn ≤ kc) (hkc2 : kc ≤ 9223372036854775807) (hnm : nm.size ≤ maxLen) (hmask : mask < 4294967296) (hl : Laid w) :
    Calls Tryd.prog 4 #[.slice a n c, .int .u8 (kind : Int), .int .i64 nn, .bool done, .slice ka kn kc, .string nm, .int .u32 (mask : Int)] w fun e w' => e = .returned (.bool true) ∧ Below w.heap.size w w' := by
  have hk := scriptknown_any w hl
  have HL := Lib.hid (And.intro hl (And.intro hrd hx))
  have HK := Lib.hid hk
  have HKE := Lib.hid (And.intro hkl (And.intro hkr (And.intro hkc hkc2)))
  clear hl hk hrd hx hkl hkr hkc hkc2
  by_cases c1 : 40 < kn
  · have c1' : (40 : Int) < (kn : Int) := by omega
    go_enter Tryd.func4, Tryd.ntmps4
    go_wp2_with (refine HK.out.mono ?_; rintro e w1 ⟨rfl, hb1⟩; have HB1 := Lib.hid hb1; clear hb1)
    go_ret
    exact ⟨rfl, HB1.out⟩
  by_cases c2 : 40 < nm.size
  · have c1' : ¬ ((40 : Int) < (kn : Int)) := by omega
    have c2' : (40 : Int) < (nm.size : Int) := by omega
    go_enter Tryd.func4, Tryd.ntmps4
    go_wp2_with (refine HK.out.mono ?_; rintro e w1 ⟨rfl, hb1⟩; have HB1 := Lib.hid hb1; clear hb1)
    go_ret
    exact ⟨rfl, HB1.out⟩
  have c1' : ¬ ((40 : Int) < (kn : Int)) := by omega
  have c2' : ¬ ((40 : Int) < (nm.size : Int)) := by omega
  go_enter Tryd.func4, Tryd.ntmps4
  go_wp2_with (first
    | (refine HK.out.mono ?_; rintro e w1 ⟨rfl, hb1⟩; have HB1 := Lib.hid hb1; clear hb1)
    | (refine (deckof_any a n c ls _ hln hn ((HL.out.2.1.keep fun p hp => HB1.out.cell hp).more HB1.out.size) HL.out.2.2).mono ?_; rintro e w2 ⟨rfl, hd2, hb2⟩; have HD2 := Lib.hid (And.intro hd2 hb2); clear hd2 hb2))
  refine (seatact_any _ 0 _ HD2.out.1 (by decide)).mono ?_
  rintro e w3 ⟨⟨⟨kd, vn, dn, xa, xk, xc, xm, mk⟩, xkeep⟩, j, rfl, hok, hkp, hdr, hj, hd3, ht3⟩
  simp only [ActC.cells]
  have hb3 : Below w.heap.size w w3 := Below.turn (Below.next0 HB1.out HD2.out.2) ht3 (by have := HB1.out.size; have := HD2.out.2.size; omega) (fun k e => by have : k = w1.heap.size := e; have := HB1.out.size; omega)
  obtain ⟨V2, hV2⟩ : ∃ V2, (w3.alloc (.cells #[.int .i64 kd, .int .i64 vn, .bool dn, .slice xa xk xc, .string xm, .int .u32 (mk : Int)] 30)).alloc (.cells #[.int .i64 kd, .int .i64 vn, .bool dn, .slice xa xk xc, .string xm, .int .u32 (mk : Int)] 30) = V2 := ⟨_, rfl⟩
  have htwo : Two w w3.heap.size (w3.heap.size + 1) ⟨⟨kd, vn, dn, xa, xk, xc, xm, mk⟩, xkeep⟩ ⟨⟨kd, vn, dn, xa, xk, xc, xm, mk⟩, xkeep⟩ V2 := by
    have h1 : Below w3.heap.size w3 (w3.alloc (.cells #[.int .i64 kd, .int .i64 vn, .bool dn, .slice xa xk xc, .string xm, .int .u32 (mk : Int)] 30)) := (Below.refl _ _).alloc (Nat.le_refl _) _
    have h2 : Below (w3.alloc (.cells #[.int .i64 kd, .int .i64 vn, .bool dn, .slice xa xk xc, .string xm, .int .u32 (mk : Int)] 30)).heap.size (w3.alloc (.cells #[.int .i64 kd, .int .i64 vn, .bool dn, .slice xa xk xc, .string xm, .int .u32 (mk : Int)] 30)) V2 := by rw [← hV2]; exact (Below.refl _ _).alloc (Nat.le_refl _) _
    have hA := heap_alloc_new w3 (.cells #[.int .i64 kd, .int .i64 vn, .bool dn, .slice xa xk xc, .string xm, .int .u32 (mk : Int)] 30)
    have hB := heap_alloc_new (w3.alloc (.cells #[.int .i64 kd, .int .i64 vn, .bool dn, .slice xa xk xc, .string xm, .int .u32 (mk : Int)] 30)) (.cells #[.int .i64 kd, .int .i64 vn, .bool dn, .slice xa xk xc, .string xm, .int .u32 (mk : Int)] 30)
    rw [hV2, World.size_alloc] at hB
    have hok2 := (hok.below h1).below (h2.mono (by rw [World.size_alloc]; omega))
    exact ⟨Below.next0 (Below.next0 hb3 h1) h2, (h2.block _ (by rw [World.size_alloc]; omega)).trans hA, hB, hok2, hok2, hb3.size, Nat.lt_succ_self _⟩
  have HTW := Lib.hid htwo
  have HV2 := Lib.hid hV2
  clear hok hkp hdr hd3 ht3 hb3 htwo hV2
  go_upto_block 0 with fail
  rw [HV2.out]
  obtain ⟨k0, k1, k2, k3, k4, k5, f0, f1, f2, f3, f4, f5⟩ := act_facts HTW.out.rowB
  obtain ⟨q, hq, hq9⟩ : ∃ q : Nat, (kind : Int) / 8 % 10 = (q : Int) ∧ q ≤ 9 := ⟨kind / 8 % 10, by omega, by omega⟩
  obtain ⟨r, hr⟩ : ∃ r : Int, (kind : Int) % 8 = r := ⟨_, rfl⟩
  have hr8 : r = 0 ∨ r = 1 ∨ r = 2 ∨ r = 3 ∨ r = 4 ∨ r = 5 ∨ r = 6 ∨ r = 7 := by omega
  rw [hr]
  clear hr
  go_cut [] (fun wx => ∃ y : ActV, Two w w3.heap.size (w3.heap.size + 1) ⟨⟨kd, vn, dn, xa, xk, xc, xm, mk⟩, xkeep⟩ y wx)
  case first =>
    obtain rfl | rfl | rfl | rfl | rfl | rfl | rfl | rfl := hr8
    · go_wp2_with fail
      go_meet
      have hY := HTW.out.okB
      exact ⟨⟨⟨kd, nn, dn, xa, xk, xc, xm, mk⟩, xkeep⟩, HTW.out.set 1 (.int .i64 nn) rfl ⟨hY.kind, ⟨hn0, hn1⟩, hY.len, hY.most, hY.nm, hY.rd, hY.mask⟩⟩
    · go_wp2_with fail
      go_meet
      have hY := HTW.out.okB
      exact ⟨⟨⟨kd, vn, done, xa, xk, xc, xm, mk⟩, xkeep⟩, HTW.out.set 2 (.bool done) rfl ⟨hY.kind, hY.n, hY.len, hY.most, hY.nm, hY.rd, hY.mask⟩⟩
    · go_wp2_with fail
      go_meet
      have hY := HTW.out.okB
      exact ⟨⟨⟨kd, vn, dn, ka, kn, kc, xm, mk⟩, keep⟩, HTW.out.set 3 (.slice ka kn kc) rfl ⟨hY.kind, hY.n, HKE.out.1, hkm, hY.nm, (HKE.out.2.1.below HTW.out.below).more HTW.out.le, hY.mask⟩⟩
    · go_wp2_with fail
      go_meet
      have hY := HTW.out.okB
      exact ⟨⟨⟨kd, vn, dn, xa, xk, xc, nm, mk⟩, xkeep⟩, HTW.out.set 4 (.string nm) rfl ⟨hY.kind, hY.n, hY.len, hY.most, hnm, hY.rd, hY.mask⟩⟩
    · go_wp2_with fail
      go_meet
      have hY := HTW.out.okB
      exact ⟨⟨⟨kd, vn, dn, xa, xk, xc, xm, mask⟩, xkeep⟩, HTW.out.set 5 (.int .u32 (mask : Int)) rfl ⟨hY.kind, hY.n, hY.len, hY.most, hY.nm, hY.rd, hmask⟩⟩
    · go_wp2_with fail
      go_meet
      have hY := HTW.out.okB
      exact ⟨⟨⟨nn, vn, dn, xa, xk, xc, xm, mk⟩, xkeep⟩, HTW.out.set 0 (.int .i64 nn) rfl ⟨⟨hn0, hn1⟩, hY.n, hY.len, hY.most, hY.nm, hY.rd, hY.mask⟩⟩
    · go_wp2_with fail
      go_meet
      have hz := six_row (.int .i64 (q : Int)) (.int .i64 nn) (.bool done) (.slice none 0 0) (.string ⟨#[]⟩) (.int .u32 0) HTW.out.rowB
      have hzt := six_turn (.int .i64 (q : Int)) (.int .i64 nn) (.bool done) (.slice none 0 0) (.string ⟨#[]⟩) (.int .u32 0) V2 (w3.heap.size + 1)
      unfold sixSet at hz hzt
      have hle := HTW.out.le
      exact ⟨⟨⟨(q : Int), nn, done, none, 0, 0, ⟨#[]⟩, 0⟩, []⟩, Below.turn HTW.out.below hzt HTW.out.below.size (fun k e => by have : k = w3.heap.size + 1 := e; omega), (hzt.block _ (by have := HTW.out.sizeB; omega) (by omega)).trans HTW.out.rowA, hz, ⟨HTW.out.okA.kind, HTW.out.okA.n, HTW.out.okA.len, HTW.out.okA.most, HTW.out.okA.nm, HTW.out.okA.rd.keep (fun p hp => hzt.cell (by have := HTW.out.sizeB; omega) (by omega)), HTW.out.okA.mask⟩,
        ⟨⟨by show -9223372036854775808 ≤ (q : Int); omega, by show (q : Int) ≤ 9223372036854775807; omega⟩, ⟨hn0, hn1⟩, rfl, Nat.zero_le _, Nat.zero_le _, .inl rfl, by show 0 < 4294967296; decide⟩, HTW.out.le, HTW.out.lt⟩
    · go_wp2_with fail
      go_meet
      have hY := HTW.out.okB
      exact ⟨⟨⟨(q : Int), vn, dn, xa, xk, xc, xm, mk⟩, xkeep⟩, HTW.out.set 0 (.int .i64 (q : Int)) rfl ⟨⟨by show -9223372036854775808 ≤ (q : Int); omega, by show (q : Int) ≤ 9223372036854775807; omega⟩, hY.n, hY.len, hY.most, hY.nm, hY.rd, hY.mask⟩⟩
  case rest =>
    obtain ⟨⟨⟨yd, yn, yb, ya, yk, yc, ym, yq⟩, ykeep⟩, htw⟩ := hcut
    clear k0 k1 k2 k3 k4 k5 f0 f1 f2 f3 f4 f5 HTW HV2
    have HTW := Lib.hid htw
    clear htw
    clear c1 c2 c1' c2'
    obtain ⟨X, hX⟩ : ∃ X : ActC, X = ⟨kd, vn, dn, xa, xk, xc, xm, mk⟩ := ⟨_, rfl⟩
    obtain ⟨Y, hY⟩ : ∃ Y : ActC, Y = ⟨yd, yn, yb, ya, yk, yc, ym, yq⟩ := ⟨_, rfl⟩
    have hXc : X.cells = #[.int .i64 kd, .int .i64 vn, .bool dn, .slice xa xk xc, .string xm, .int .u32 (mk : Int)] := by rw [hX]; rfl
    have hYc : Y.cells = #[.int .i64 yd, .int .i64 yn, .bool yb, .slice ya yk yc, .string ym, .int .u32 (yq : Int)] := by rw [hY]; rfl
    have hXo : X.nm.size ≤ maxLen ∧ X.kn ≤ 9223372036854775807 ∧ xkeep.length = X.kn := by rw [hX]; exact ⟨HTW.out.okA.nm, HTW.out.okA.most, HTW.out.okA.len⟩
    have hYo : Y.nm.size ≤ maxLen ∧ Y.kn ≤ 9223372036854775807 ∧ ykeep.length = Y.kn := by rw [hY]; exact ⟨HTW.out.okB.nm, HTW.out.okB.most, HTW.out.okB.len⟩
    have heqX : rightB X = rightC X := by rw [rightB_right X xkeep hXo.2.2, rightC_right X xkeep hXo.2.2]
    have heqY : rightB Y = rightC Y := by rw [rightB_right Y ykeep hYo.2.2, rightC_right Y ykeep hYo.2.2]
    obtain ⟨r1, hr1⟩ : ∃ r, rightC X = r := ⟨_, rfl⟩
    obtain ⟨r2, hr2⟩ : ∃ r, rightC Y = r := ⟨_, rfl⟩
    have H1 := fun W => sright_any X W hXo.1 hXo.2.1
    have H2 := fun W => rright_any X W hXo.1 hXo.2.1
    have H3 := fun W => sright_any Y W hYo.1 hYo.2.1
    have H4 := fun W => rright_any Y W hYo.1 hYo.2.1
    rw [heqX, hr1, hXc] at H1
    rw [hr1, hXc] at H2
    rw [heqY, hr2, hYc] at H3
    rw [hr2, hYc] at H4
    obtain ⟨T, hT⟩ : ∃ T : ByteArray, (⟨(showM ([(⟨⟨yd, yn, yb, ya, yk, yc, ym, yq⟩, ykeep⟩ : ActV)].map ActV.abs)).toArray⟩ : ByteArray) = T := ⟨_, rfl⟩
    have H5 := fun (W : World) (sb : Nat) (h : RdV W W.heap.size (some ⟨sb, 0, none⟩) [(⟨⟨yd, yn, yb, ya, yk, yc, ym, yq⟩, ykeep⟩ : ActV)]) (hl : Laid W) => show_any (some ⟨sb, 0, none⟩) 1 1 _ W rfl (by omega) h hl
    have H6 := fun (W : World) (sb : Nat) (h : RdV W W.heap.size (some ⟨sb, 0, none⟩) [(⟨⟨yd, yn, yb, ya, yk, yc, ym, yq⟩, ykeep⟩ : ActV)]) => refshow_any (some ⟨sb, 0, none⟩) 1 1 _ W rfl (by omega) h
    unfold sv at H5 H6
    rw [hT] at H5 H6
    have HLW : ∀ W, Two w w3.heap.size (w3.heap.size + 1) ⟨⟨kd, vn, dn, xa, xk, xc, xm, mk⟩, xkeep⟩ ⟨⟨yd, yn, yb, ya, yk, yc, ym, yq⟩, ykeep⟩ W → Laid W := fun W h => HL.out.1.below h.below
    clear hX hY hXc hYc hXo hYo heqX heqY hr1 hr2 hT
    go_upto_region 23 with fail
    refine wp_region_flat (by kernel_rfl) (fun W => Two w w3.heap.size (w3.heap.size + 1) ⟨⟨kd, vn, dn, xa, xk, xc, xm, mk⟩, xkeep⟩ ⟨⟨yd, yn, yb, ya, yk, yc, ym, yq⟩, ykeep⟩ W) (fun _ _ h h' => h.call h')
      (detV [.agg #[.int .i64 kd, .int .i64 vn, .bool dn, .slice xa xk xc, .string xm, .int .u32 (mk : Int)], .bool r1, .agg #[.int .i64 kd, .int .i64 vn, .bool dn, .slice xa xk xc, .string xm, .int .u32 (mk : Int)], .bool r1, .bool true, .bool true, .agg #[.int .i64 yd, .int .i64 yn, .bool yb, .slice ya yk yc, .string ym, .int .u32 (yq : Int)], .bool r2, .agg #[.int .i64 yd, .int .i64 yn, .bool yb, .slice ya yk yc, .string ym, .int .u32 (yq : Int)], .bool r2, .bool true, .bool true, .bool true, .agg #[.int .i64 yd, .int .i64 yn, .bool yb, .slice ya yk yc, .string ym, .int .u32 (yq : Int)], undef, .string T, .agg #[.int .i64 yd, .int .i64 yn, .bool yb, .slice ya yk yc, .string ym, .int .u32 (yq : Int)], undef, .string T, .bool true, .bool true, .bool true] (fun i => if i = 14 ∨ i = 17 then some (fun v W => ∃ sb, v = .slice (some ⟨sb, 0, none⟩) 1 1 ∧ RdV W W.heap.size (some ⟨sb, 0, none⟩) [(⟨⟨yd, yn, yb, ya, yk, yc, ym, yq⟩, ykeep⟩ : ActV)]) else none))
      (detV_grow fun i φ h => by
        split at h
        · injection h with h; subst h; rintro v W W' ⟨sb, rfl, hr⟩ hb; exact ⟨sb, rfl, hr.step hb⟩
        · cases h) (by kernel_rfl) HTW.out.drew ?_ ?_
    · skip
      refine ⟨fun a W hW hag hdep => ?_, ?_⟩
      · have e15 : a.tmps[15]?.getD undef = .pointer (some ⟨w3.heap.size, 0, none⟩) := evalD (hag.keep (t := 15) (by kernel_rfl) rfl)
        refine flat_on rfl ?_
        obtain ⟨a0, a1, a2, a3, a4, a5, _⟩ := act_facts (show Two _ _ _ _ _ W from hW).rowA
        refine flat_run (u := .agg #[.int .i64 kd, .int .i64 vn, .bool dn, .slice xa xk xc, .string xm, .int .u32 (mk : Int)]) ?_ ((detV_at rfl).2 rfl)
        simp [go_sem, e15, a0, a1, a2, a3, a4, a5]
      refine ⟨fun a W hW hag hdep => ?_, ?_⟩
      · have e71 : a.tmps[71]?.getD undef = .agg #[.int .i64 kd, .int .i64 vn, .bool dn, .slice xa xk xc, .string xm, .int .u32 (mk : Int)] := evalD ((detV_at rfl).1 (hdep 0 (by decide)))
        refine flat_on rfl ?_
        refine flat_call (f := 10) (args := #[.agg #[.int .i64 kd, .int .i64 vn, .bool dn, .slice xa xk xc, .string xm, .int .u32 (mk : Int)]]) (by simp [go_sem, e71]) ((H1 W).mono ?_)
        rintro e W' ⟨rfl, hb4⟩
        exact ⟨_, rfl, hb4, (detV_at rfl).2 rfl⟩
      refine ⟨fun a W hW hag hdep => ?_, ?_⟩
      · have e15 : a.tmps[15]?.getD undef = .pointer (some ⟨w3.heap.size, 0, none⟩) := evalD (hag.keep (t := 15) (by kernel_rfl) rfl)
        refine flat_on rfl ?_
        obtain ⟨a0, a1, a2, a3, a4, a5, _⟩ := act_facts (show Two _ _ _ _ _ W from hW).rowA
        refine flat_run (u := .agg #[.int .i64 kd, .int .i64 vn, .bool dn, .slice xa xk xc, .string xm, .int .u32 (mk : Int)]) ?_ ((detV_at rfl).2 rfl)
        simp [go_sem, e15, a0, a1, a2, a3, a4, a5]
      refine ⟨fun a W hW hag hdep => ?_, ?_⟩
      · have e73 : a.tmps[73]?.getD undef = .agg #[.int .i64 kd, .int .i64 vn, .bool dn, .slice xa xk xc, .string xm, .int .u32 (mk : Int)] := evalD ((detV_at rfl).1 (hdep 2 (by decide)))
        refine flat_on rfl ?_
        refine flat_call (f := 11) (args := #[.agg #[.int .i64 kd, .int .i64 vn, .bool dn, .slice xa xk xc, .string xm, .int .u32 (mk : Int)]]) (by simp [go_sem, e73]) ((H2 W).mono ?_)
        rintro e W' ⟨rfl, hb4⟩
        exact ⟨_, rfl, hb4, (detV_at rfl).2 rfl⟩
      refine ⟨fun a W hW hag hdep => ?_, ?_⟩
      · have e72 : a.tmps[72]?.getD undef = .bool r1 := evalD ((detV_at rfl).1 (hdep 1 (by decide)))
        have e74 : a.tmps[74]?.getD undef = .bool r1 := evalD ((detV_at rfl).1 (hdep 3 (by decide)))
        refine flat_on rfl ?_
        refine flat_run (u := .bool true) ?_ ((detV_at rfl).2 rfl)
        simp [go_sem, e72, e74]
      refine ⟨fun a W hW hag hdep => ?_, ?_⟩
      · have e75 : a.tmps[75]?.getD undef = .bool true := evalD ((detV_at rfl).1 (hdep 4 (by decide)))
        refine flat_on rfl ?_
        refine flat_run (u := .bool true) ?_ ((detV_at rfl).2 rfl)
        simp [go_sem, e75]
      refine ⟨fun a W hW hag hdep => ?_, ?_⟩
      · have e16 : a.tmps[16]?.getD undef = .pointer (some ⟨w3.heap.size + 1, 0, none⟩) := evalD (hag.keep (t := 16) (by kernel_rfl) rfl)
        have eg : a.eval (.tmp 76) = .bool true := (detV_at rfl).1 (hdep 5 (by decide))
        refine flat_go (t := 76) rfl rfl eg ?_
        obtain ⟨a0, a1, a2, a3, a4, a5, _⟩ := act_facts (show Two _ _ _ _ _ W from hW).rowB
        refine flat_run (u := .agg #[.int .i64 yd, .int .i64 yn, .bool yb, .slice ya yk yc, .string ym, .int .u32 (yq : Int)]) ?_ ((detV_at rfl).2 rfl)
        simp [go_sem, e16, a0, a1, a2, a3, a4, a5]
      refine ⟨fun a W hW hag hdep => ?_, ?_⟩
      · have e77 : a.tmps[77]?.getD undef = .agg #[.int .i64 yd, .int .i64 yn, .bool yb, .slice ya yk yc, .string ym, .int .u32 (yq : Int)] := evalD ((detV_at rfl).1 (hdep 6 (by decide)))
        have eg : a.eval (.tmp 76) = .bool true := (detV_at rfl).1 (hdep 5 (by decide))
        refine flat_go (t := 76) rfl rfl eg ?_
        refine flat_call (f := 10) (args := #[.agg #[.int .i64 yd, .int .i64 yn, .bool yb, .slice ya yk yc, .string ym, .int .u32 (yq : Int)]]) (by simp [go_sem, e77]) ((H3 W).mono ?_)
        rintro e W' ⟨rfl, hb4⟩
        exact ⟨_, rfl, hb4, (detV_at rfl).2 rfl⟩
      refine ⟨fun a W hW hag hdep => ?_, ?_⟩
      · have e16 : a.tmps[16]?.getD undef = .pointer (some ⟨w3.heap.size + 1, 0, none⟩) := evalD (hag.keep (t := 16) (by kernel_rfl) rfl)
        have eg : a.eval (.tmp 76) = .bool true := (detV_at rfl).1 (hdep 5 (by decide))
        refine flat_go (t := 76) rfl rfl eg ?_
        obtain ⟨a0, a1, a2, a3, a4, a5, _⟩ := act_facts (show Two _ _ _ _ _ W from hW).rowB
        refine flat_run (u := .agg #[.int .i64 yd, .int .i64 yn, .bool yb, .slice ya yk yc, .string ym, .int .u32 (yq : Int)]) ?_ ((detV_at rfl).2 rfl)
        simp [go_sem, e16, a0, a1, a2, a3, a4, a5]
      refine ⟨fun a W hW hag hdep => ?_, ?_⟩
      · have e79 : a.tmps[79]?.getD undef = .agg #[.int .i64 yd, .int .i64 yn, .bool yb, .slice ya yk yc, .string ym, .int .u32 (yq : Int)] := evalD ((detV_at rfl).1 (hdep 8 (by decide)))
        have eg : a.eval (.tmp 76) = .bool true := (detV_at rfl).1 (hdep 5 (by decide))
        refine flat_go (t := 76) rfl rfl eg ?_
        refine flat_call (f := 11) (args := #[.agg #[.int .i64 yd, .int .i64 yn, .bool yb, .slice ya yk yc, .string ym, .int .u32 (yq : Int)]]) (by simp [go_sem, e79]) ((H4 W).mono ?_)
        rintro e W' ⟨rfl, hb4⟩
        exact ⟨_, rfl, hb4, (detV_at rfl).2 rfl⟩
      refine ⟨fun a W hW hag hdep => ?_, ?_⟩
      · have e78 : a.tmps[78]?.getD undef = .bool r2 := evalD ((detV_at rfl).1 (hdep 7 (by decide)))
        have e80 : a.tmps[80]?.getD undef = .bool r2 := evalD ((detV_at rfl).1 (hdep 9 (by decide)))
        have eg : a.eval (.tmp 76) = .bool true := (detV_at rfl).1 (hdep 5 (by decide))
        refine flat_go (t := 76) rfl rfl eg ?_
        refine flat_run (u := .bool true) ?_ ((detV_at rfl).2 rfl)
        simp [go_sem, e78, e80]
      refine ⟨fun a W hW hag hdep => ?_, ?_⟩
      · have e76 : a.tmps[76]?.getD undef = .bool true := evalD ((detV_at rfl).1 (hdep 5 (by decide)))
        have e81 : a.tmps[81]?.getD undef = .bool true := evalD ((detV_at rfl).1 (hdep 10 (by decide)))
        refine flat_on rfl ?_
        refine flat_run (u := .bool true) ?_ ((detV_at rfl).2 rfl)
        simp [go_sem, e76, e81]
      refine ⟨fun a W hW hag hdep => ?_, ?_⟩
      · have e82 : a.tmps[82]?.getD undef = .bool true := evalD ((detV_at rfl).1 (hdep 11 (by decide)))
        refine flat_on rfl ?_
        refine flat_run (u := .bool true) ?_ ((detV_at rfl).2 rfl)
        simp [go_sem, e82]
      refine ⟨fun a W hW hag hdep => ?_, ?_⟩
      · have e16 : a.tmps[16]?.getD undef = .pointer (some ⟨w3.heap.size + 1, 0, none⟩) := evalD (hag.keep (t := 16) (by kernel_rfl) rfl)
        have eg : a.eval (.tmp 83) = .bool true := (detV_at rfl).1 (hdep 12 (by decide))
        refine flat_go (t := 83) rfl rfl eg ?_
        obtain ⟨a0, a1, a2, a3, a4, a5, _⟩ := act_facts (show Two _ _ _ _ _ W from hW).rowB
        refine flat_run (u := .agg #[.int .i64 yd, .int .i64 yn, .bool yb, .slice ya yk yc, .string ym, .int .u32 (yq : Int)]) ?_ ((detV_at rfl).2 rfl)
        simp [go_sem, e16, a0, a1, a2, a3, a4, a5]
      refine ⟨fun a W hW hag hdep => ?_, ?_⟩
      · have e84 : a.tmps[84]?.getD undef = .agg #[.int .i64 yd, .int .i64 yn, .bool yb, .slice ya yk yc, .string ym, .int .u32 (yq : Int)] := evalD ((detV_at rfl).1 (hdep 13 (by decide)))
        have eg : a.eval (.tmp 83) = .bool true := (detV_at rfl).1 (hdep 12 (by decide))
        refine flat_go (t := 83) rfl rfl eg ?_
        have hb4 : Below W.heap.size W (W.alloc (.cells #[.int .i64 yd, .int .i64 yn, .bool yb, .slice ya yk yc, .string ym, .int .u32 (yq : Int)] 30)) := (Below.refl _ _).alloc (Nat.le_refl _) _
        have hw2 := (show Two _ _ _ _ _ W from hW).call hb4
        refine flat_made (w' := W.alloc (.cells #[.int .i64 yd, .int .i64 yn, .bool yb, .slice ya yk yc, .string ym, .int .u32 (yq : Int)] 30)) (u := .slice (some ⟨W.heap.size, 0, none⟩) 1 1) (by simp [go_sem, e84]) hb4 ((detV_some rfl).2 ⟨W.heap.size, rfl, rdv_one (heap_alloc_new _ _) (hw2.okB.up (by have := hw2.sizeB; have := hw2.lt; omega))⟩)
      refine ⟨fun a W hW hag hdep => ?_, ?_⟩
      · have eg : a.eval (.tmp 83) = .bool true := (detV_at rfl).1 (hdep 12 (by decide))
        refine flat_go (t := 83) rfl rfl eg ?_
        obtain ⟨sb, e0, hrv⟩ := (detV_some rfl).1 (hdep 14 (by decide))
        have e85 : a.tmps[85]?.getD undef = .slice (some ⟨sb, 0, none⟩) 1 1 := evalD e0
        refine flat_call (f := 14) (args := #[.slice (some ⟨sb, 0, none⟩) 1 1]) (by simp [go_sem, e85]) ((H5 W sb hrv (HLW W hW)).mono ?_)
        rintro e W' ⟨rfl, hb4⟩
        exact ⟨_, rfl, hb4, (detV_at rfl).2 rfl⟩
      refine ⟨fun a W hW hag hdep => ?_, ?_⟩
      · have e16 : a.tmps[16]?.getD undef = .pointer (some ⟨w3.heap.size + 1, 0, none⟩) := evalD (hag.keep (t := 16) (by kernel_rfl) rfl)
        have eg : a.eval (.tmp 83) = .bool true := (detV_at rfl).1 (hdep 12 (by decide))
        refine flat_go (t := 83) rfl rfl eg ?_
        obtain ⟨a0, a1, a2, a3, a4, a5, _⟩ := act_facts (show Two _ _ _ _ _ W from hW).rowB
        refine flat_run (u := .agg #[.int .i64 yd, .int .i64 yn, .bool yb, .slice ya yk yc, .string ym, .int .u32 (yq : Int)]) ?_ ((detV_at rfl).2 rfl)
        simp [go_sem, e16, a0, a1, a2, a3, a4, a5]
      refine ⟨fun a W hW hag hdep => ?_, ?_⟩
      · have e87 : a.tmps[87]?.getD undef = .agg #[.int .i64 yd, .int .i64 yn, .bool yb, .slice ya yk yc, .string ym, .int .u32 (yq : Int)] := evalD ((detV_at rfl).1 (hdep 16 (by decide)))
        have eg : a.eval (.tmp 83) = .bool true := (detV_at rfl).1 (hdep 12 (by decide))
        refine flat_go (t := 83) rfl rfl eg ?_
        have hb4 : Below W.heap.size W (W.alloc (.cells #[.int .i64 yd, .int .i64 yn, .bool yb, .slice ya yk yc, .string ym, .int .u32 (yq : Int)] 30)) := (Below.refl _ _).alloc (Nat.le_refl _) _
        have hw2 := (show Two _ _ _ _ _ W from hW).call hb4
        refine flat_made (w' := W.alloc (.cells #[.int .i64 yd, .int .i64 yn, .bool yb, .slice ya yk yc, .string ym, .int .u32 (yq : Int)] 30)) (u := .slice (some ⟨W.heap.size, 0, none⟩) 1 1) (by simp [go_sem, e87]) hb4 ((detV_some rfl).2 ⟨W.heap.size, rfl, rdv_one (heap_alloc_new _ _) (hw2.okB.up (by have := hw2.sizeB; have := hw2.lt; omega))⟩)
      refine ⟨fun a W hW hag hdep => ?_, ?_⟩
      · have eg : a.eval (.tmp 83) = .bool true := (detV_at rfl).1 (hdep 12 (by decide))
        refine flat_go (t := 83) rfl rfl eg ?_
        obtain ⟨sb, e0, hrv⟩ := (detV_some rfl).1 (hdep 17 (by decide))
        have e88 : a.tmps[88]?.getD undef = .slice (some ⟨sb, 0, none⟩) 1 1 := evalD e0
        refine flat_call (f := 15) (args := #[.slice (some ⟨sb, 0, none⟩) 1 1]) (by simp [go_sem, e88]) ((H6 W sb hrv).mono ?_)
        rintro e W' ⟨rfl, hb4⟩
        exact ⟨_, rfl, hb4, (detV_at rfl).2 rfl⟩
      refine ⟨fun a W hW hag hdep => ?_, ?_⟩
      · have e86 : a.tmps[86]?.getD undef = .string T := evalD ((detV_at rfl).1 (hdep 15 (by decide)))
        have e89 : a.tmps[89]?.getD undef = .string T := evalD ((detV_at rfl).1 (hdep 18 (by decide)))
        have eg : a.eval (.tmp 83) = .bool true := (detV_at rfl).1 (hdep 12 (by decide))
        refine flat_go (t := 83) rfl rfl eg ?_
        refine flat_run (u := .bool true) ?_ ((detV_at rfl).2 rfl)
        simp [go_sem, e86, e89]
      refine ⟨fun a W hW hag hdep => ?_, ?_⟩
      · have e83 : a.tmps[83]?.getD undef = .bool true := evalD ((detV_at rfl).1 (hdep 12 (by decide)))
        have e90 : a.tmps[90]?.getD undef = .bool true := evalD ((detV_at rfl).1 (hdep 19 (by decide)))
        refine flat_on rfl ?_
        refine flat_run (u := .bool true) ?_ ((detV_at rfl).2 rfl)
        simp [go_sem, e83, e90]
      refine ⟨fun a W hW hag hdep => ?_, ?_⟩
      · have e91 : a.tmps[91]?.getD undef = .bool true := evalD ((detV_at rfl).1 (hdep 20 (by decide)))
        refine flat_on rfl ?_
        refine flat_run (u := .bool true) ?_ ((detV_at rfl).2 rfl)
        simp [go_sem, e91]
      exact trivial
    intro vs W1 hW1 hvs
    have v21 : vs 21 = _ := (detV_at rfl).1 (hvs 21 (by decide))
    simp only [putAll, Act.put, List.setIfInBounds_toArray, List.set_cons_zero, List.set_cons_succ]
    rw [v21]
    have HW1 := Lib.hid (show Two _ _ _ _ _ W1 from hW1)
    clear hW1 hvs v21
    go_wp2_with fail
    go_ret
    exact ⟨rfl, HW1.out.below⟩
end Go.Proofs.YtifdmgloheampaaDoor
