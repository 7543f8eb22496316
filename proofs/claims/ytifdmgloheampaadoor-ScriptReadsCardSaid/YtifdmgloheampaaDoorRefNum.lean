/- The document's numbers as rows of 32 bits: how such a row lies in memory; the walks of trim, Part, Decimal. Condition: they lie so; lengths are small. -/
import Derived.Test.YtifdmgloheampaaDoorNatM
import Derived.Test.YtifdmgloheampaaDoorScriptE
import Derived.Deep.LoopGhost
import Derived.Deep.OwnRows
import Derived.Deep.RegionHeldLaw
import Derived.Deep.DrawnRows
namespace Go.Proofs.YtifdmgloheampaaDoor
open Go.RowKit NatM

/-- a number as a value of a kind -/
abbrev nv (k : IntKind) (m : Nat) : Value := .int k (m : Int)
/-- a slice that begins at a reads as these numbers, below block B -/
def RdN (k : IntKind) (w : World) (B : Nat) (a : Option Addr) (ms : List Nat) : Prop := ms = [] ∨ ∃ b o, a = some ⟨b, o, none⟩ ∧ b < B ∧ ∀ (j : Nat) m, ms[j]? = some m → w.cell? ⟨b, o + j, none⟩ = some (nv k m)
section
variable {k : IntKind} {w w' : World} {B B' : Nat} {a : Option Addr} {ms : List Nat}
theorem RdN.at_ (h : RdN k w B a ms) {j m : Nat} (hm : ms[j]? = some m) : ∃ b o, a = some ⟨b, o, none⟩ ∧ b < B ∧ w.cell? ⟨b, o + j, none⟩ = some (.int k (m : Int)) := by
  rcases h with rfl | ⟨b, o, rfl, hb, hc⟩
  · simp at hm
  · exact ⟨b, o, rfl, hb, hc j m hm⟩
theorem RdN.below (h : RdN k w B a ms) (hb : Below B w w') : RdN k w' B a ms := by
  rcases h with rfl | ⟨b, o, rfl, hl, hc⟩
  · exact .inl rfl
  · exact .inr ⟨b, o, rfl, hl, fun j m hm => (hb.cell (p := ⟨b, o + j, none⟩) hl).trans (hc j m hm)⟩
theorem RdN.more (h : RdN k w B a ms) (hB : B ≤ B') : RdN k w B' a ms := by
  rcases h with rfl | ⟨b, o, rfl, hl, hc⟩
  · exact .inl rfl
  · exact .inr ⟨b, o, rfl, by omega, hc⟩
theorem RdN.step (h : RdN k w w.heap.size a ms) (hb : Below w.heap.size w w') : RdN k w' w'.heap.size a ms := (h.below hb).more hb.size
theorem RdN.take (h : RdN k w B a ms) (n : Nat) : RdN k w B a (ms.take n) := by
  rcases h with rfl | ⟨b, o, rfl, hl, hc⟩
  · exact .inl (by simp)
  · refine .inr ⟨b, o, rfl, hl, fun j m hm => hc j m ?_⟩
    rw [List.getElem?_take] at hm
    split at hm
    · exact hm
    · cases hm
end
theorem Row.rdN {k : IntKind} {w : World} {B : Nat} {e : TypeId} {a : Option Addr} {n c : Nat} {ms : List Nat} (h : Row w B e 1 a n c (ms.map (nv k))) : RdN k w w.heap.size a ms := by
  by_cases h0 : ms = []
  · exact .inl h0
  · obtain ⟨m, hm⟩ : ∃ m, ms[0]? = some m := by
      cases ms with
      | nil => exact absurd rfl h0
      | cons m r => exact ⟨m, rfl⟩
    obtain ⟨g, rfl, _, hg, _⟩ := h.at_ (j := 0) (x := nv k m) (by rw [List.getElem?_map, hm]; rfl)
    refine .inr ⟨g, 0, rfl, hg, fun j x hx => ?_⟩
    obtain ⟨g', e, _, _, hc⟩ := h.at_ (j := j) (x := nv k x) (by rw [List.getElem?_map, hx]; rfl)
    injection e with e; injection e with e
    subst e
    rw [Nat.zero_add]; exact hc
theorem slice_hm32 (w : World) (a : Option Addr) (n c k : Nat) (h : k ≤ c) : (Instr.slice 87 (.slice a n c) none (some (.int .i64 (k : Int))) (some (.int .i64 (k : Int)))).run Tryd.prog w = .ok (.slice a k k) w := by
  have ht : Tryd.prog.underlying 87 = some (.slice (Tryd.prog.elem 87)) := by kernel_rfl
  have hs : (sizeOf (Tryd.prog.elem 87)).run Tryd.prog w = .ok 1 w := by kernel_rfl
  rw [run_slice_hm w _ a n c ht .i64 .i64 (k : Int) (k : Int) (by omega) (by omega) (by omega), hs]
  show Result.ok (Value.slice (cutA a ((k : Int).toNat) 0 1) _ _) w = _
  rw [cutA_zero, Int.toNat_natCast, Nat.sub_zero]
set_option maxRecDepth 100000 in
theorem reftrim_any (a : Option Addr) (n c : Nat) (ms : List Nat) (w : World) {B : Nat} (hn : ms.length = n) (hc : n ≤ c) (hc' : c ≤ 9223372036854775807) (h : RdN .u32 w B a ms) :
    Calls Tryd.prog 67 #[.slice a n c] w fun e w' => e = .returned (.slice a (trimL ms).length (trimL ms).length) ∧ w = w' := by
  have H := Lib.hid h
  have HN := Lib.hid hn
  clear h hn
  go_enter Tryd.func67, Tryd.ntmps67
  go_wp2_with fail
  go_loop [3] (fun v => ∃ i : Nat, v = .int .i64 (i : Int) ∧ i ≤ n ∧ trimL ms = trimL (ms.take i)) (fun v => (intOf v).toNat)
  case atStart => exact ⟨n, rfl, Nat.le_refl _, by rw [List.take_of_length_le (by rw [HN.out]; exact Nat.le_refl _)]⟩
  case round =>
    obtain ⟨i, rfl, hi, ht⟩ := hrel
    rcases Nat.eq_zero_or_pos i with rfl | hi0
    · have HT := Lib.hid (show (trimL ms).length = 0 by rw [ht]; rfl)
      have hsl := fun w => slice_hm32 w a n c 0 (by omega)
      clear ht
      go_wp2_with fail
      go_ret
      rw [HT.out]; exact ⟨rfl, rfl⟩
    · obtain ⟨i, rfl⟩ : ∃ i', i = i' + 1 := ⟨i - 1, by omega⟩
      obtain ⟨m, hm⟩ : ∃ m, ms[i]? = some m := ⟨_, List.getElem?_eq_getElem (by rw [HN.out]; omega)⟩
      obtain ⟨b, o, rfl, hb, hcell⟩ := H.out.at_ hm
      have htk : ms.take (i + 1) = ms.take i ++ [m] := by rw [List.take_add_one, hm]; rfl
      have h0 : (0 : Int) ≤ (i : Int) := by omega
      have h1 : (i : Int) < (n : Int) := by omega
      by_cases hz : m = 0
      · subst hz
        have HT := Lib.hid (show trimL ms = trimL (ms.take i) by rw [ht, htk, trim_snoc_zero])
        clear ht htk hm
        go_wp2_with fail
        go_round
        case rel => exact ⟨i, by go_num, by omega, HT.out⟩
        case measure => simp [intOf]
      · have HT := Lib.hid (show (trimL ms).length = i + 1 by rw [ht, htk, trim_snoc m hz, List.length_append, List.length_take_of_le (by rw [HN.out]; omega)]; rfl)
        have hz' : ((m : Int) == 0) = false := by rw [beq_eq_false_iff_ne]; omega
        have hz2 : ¬ ((m : Int) = 0) := by omega
        have hsl := fun w => slice_hm32 w (some ⟨b, o, none⟩) n c (i + 1) (by omega)
        clear ht htk hm
        go_wp2_with fail
        go_ret
        rw [HT.out]; exact ⟨rfl, rfl⟩

theorem info_u32 : (Tryd.prog.info? 28).map (fun i => (i.zero, i.size, i.bytes)) = some (some (.int .u32 0), 1, 4) := by kernel_rfl
theorem and32 (v : Nat) (h : v < 18446744073709551616) : bits BinOp.and IntKind.u64 (v : Int) 4294967295 = ((v % 4294967296 : Nat) : Int) :=
  bits_mask .u64 64 (by decide) (fun n h0 h1 => by rw [IntKind.wrap_u64]; omega) 32 (by decide) (v : Int) (by omega) (by omega)
theorem halves_snoc (ws : List Nat) (i w : Nat) (h : ws[i]? = some w) : halves (ws.take (i + 1)) = halves (ws.take i) ++ [w % 4294967296, w / 4294967296] := by
  rw [List.take_add_one, h]; simp [halves]
set_option maxRecDepth 100000 in
set_option maxHeartbeats 4000000 in
theorem refpart_any (a : Option Addr) (n c : Nat) (ws : List Nat) (w : World) (hn : ws.length = n) (hm : n ≤ 1000000) (h : RdN .u64 w w.heap.size a ws) (hw : ∀ x ∈ ws, x < 18446744073709551616) :
    Calls Tryd.prog 52 #[.slice a n c] w fun e w' => ∃ a' n' c', e = .returned (.slice a' n' c') ∧ n' = (trimL (halves ws)).length ∧ n' ≤ c' ∧ c' ≤ 9223372036854775807 ∧ RdN .u32 w' w'.heap.size a' (trimL (halves ws)) ∧ Below w.heap.size w w' := by
  have H := Lib.hid h
  have HN := Lib.hid hn
  have HWS := Lib.hid hw
  clear h hn hw
  obtain ⟨i0, hi0, hz0, hz1, hz2⟩ := info_parts info_u32
  go_enter Tryd.func52, Tryd.ntmps52
  go_wp2_with fail
  go_loopw [3, 4] (fun v iv wr => ∃ (i : Nat) (ao : Option Addr) (co : Nat), iv = .int .i64 (i : Int) ∧ i ≤ n ∧ v = .slice ao (2 * i) co ∧ Row wr w.heap.size 28 1 ao (2 * i) co ((halves (ws.take i)).map (nv .u32)) ∧ Below w.heap.size w wr) (fun _ iv _ => n - (intOf iv).toNat)
  case atStart => exact ⟨0, none, 0, rfl, Nat.zero_le _, rfl, Row.nil_ _ _ _ _, Below.refl _ _⟩
  case round =>
    obtain ⟨i, ao, co, rfl, hi, rfl, hrow, hbel⟩ := hrel
    by_cases hlt : i < n
    · obtain ⟨x, hx⟩ : ∃ x, ws[i]? = some x := ⟨_, List.getElem?_eq_getElem (by rw [HN.out]; omega)⟩
      have hx64 := HWS.out x (List.mem_of_getElem? hx)
      obtain ⟨b, o, rfl, hb, hcell⟩ := (H.out.below hbel).at_ hx
      have HS := Lib.hid (halves_snoc ws i x hx)
      have HB := Lib.hid hbel
      have HR := Lib.hid hrow
      have hown : wr.ownsRow w.heap.size 28 1 (.slice ao (2 * i) co) (2 * i) ((halves (ws.take i)).map (nv .u32)) := hrow
      have h0 : (0 : Int) ≤ (i : Int) := by omega
      have h1 : (i : Int) < (n : Int) := by omega
      have hand := and32 x hx64
      have hlow : (((x % 4294967296 : Nat) : Int)) < 4294967296 := by omega
      have hsz := hbel.size
      have e1 : IntKind.u32.wrap ((x : Int) % 4294967296) = (x : Int) % 4294967296 := by rw [IntKind.wrap_u32]; omega
      have e2 : IntKind.u32.wrap ((x : Int) / 4294967296) = (x : Int) / 4294967296 := by rw [IntKind.wrap_u32]; omega
      clear hx hrow hbel
      go_wp2_with fail
      go_region_held_law (fun w' => w'.cell? ⟨b, o + i, none⟩ = some (.int .u64 (x : Int))) (first | go_keep | (rw [hgrow.cell_far _ (by simp; omega) (by rcases Row.form HR.out with ⟨h, _⟩ | ⟨g, cur, h, hg, _⟩ <;> (rw [h]; simp [Value.ownBlock]; try omega))]; assumption))
        ((refine step_append_lies _ (by rfl) _ _ _ (by rfl) w.heap.size 28 i0 _ 1 4 Tryd.underlying87 hi0 hz0 hz1 hz2 rfl (by omega) (.slice ao (2 * i) co) (2 * i) _ (by rfl) ((hown.alloc _).drew)
            ⟨wr.heap.size, 0, none⟩ 2 2 [.int .u32 ((x : Int) % 4294967296), .int .u32 ((x : Int) / 4294967296)] (by rfl) (by rfl) (World.news_of_block (cs := #[.int .u32 ((x : Int) % 4294967296), .int .u32 ((x : Int) / 4294967296)]) (t := 28) (fr := (0, 0)) (heap_alloc_new wr _)) (by simp [Value.oneCell'])
            (by omega) (by unfold maxLen; omega) (by omega) (by simp; omega) (wr.heap.size + 1) (by simp) ?_; intro gg cap w1 hown1 hgrow hat hlt))
      have HO := Lib.hid (And.intro hown1 (And.intro hgrow hat))
      clear hown hown1 hgrow hat e1 e2 hand hlow
      go_wp2_with fail
      go_roundw
      case rel =>
        obtain ⟨g1, g2, g3⟩ := HO.out
        refine ⟨i + 1, some ⟨gg, 0, none⟩, cap, by go_num, by omega, rfl, ?_, ?_⟩
        · rw [HS.out, List.map_append]
          exact g1
        · refine Below.grown (HB.out.alloc hsz _).drew g2 (by simp; omega) fun k hk => ?_
          rcases Row.form HR.out with ⟨h, _⟩ | ⟨g, cur, h, hg, _⟩
          · rw [h] at hk; cases hk
          · rw [h] at hk; simp [Value.ownBlock] at hk; omega
      case measure => simp [intOf]; omega
    · obtain rfl : i = n := by omega
      rw [List.take_of_length_le (by rw [HN.out]; exact Nat.le_refl _)] at hrow
      have hlen : (halves ws).length = 2 * i := by rw [halves_len, HN.out]
      have hcap := hrow.cap
      have hco : co ≤ 9223372036854775807 := hcap.2
      have HB := Lib.hid (And.intro hbel (And.intro hcap.1 hco))
      have HTR := Lib.hid (fun wx (hx : wx = wr) => reftrim_any ao (2 * i) co (halves ws) wx (B := wr.heap.size) hlen hcap.1 hco (by subst hx; exact Row.rdN hrow))
      have HRD := Lib.hid ((Row.rdN hrow).take (trimL (halves ws)).length)
      have HLE := Lib.hid (trim_take (halves ws))
      clear hrow hbel hcap hlen hi hlt hco
      go_wp2_with (refine (HTR.out _ rfl).mono ?_; rintro e w' ⟨rfl, rfl⟩)
      go_ret
      refine ⟨ao, _, _, rfl, rfl, Nat.le_refl _, ?_, ?_, HB.out.1⟩
      · have := trim_len (halves ws)
        rw [halves_len, HN.out] at this
        omega
      · have h2 := HRD.out
        rw [← HLE.out] at h2
        exact h2
end Go.Proofs.YtifdmgloheampaaDoor
