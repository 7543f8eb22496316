/- The walks of the reference disk's Arm and Crash. Condition: the reference disk lies behind its pointer; the list reads as bytes and lies off the disk. -/
import Derived.Test.YtopnhplacdbkdaaGreatRefAppend
namespace Go.Proofs.YtopnhplacdbkdaaGreat
open Go.RowKit DiskM

/-- the disk's own cells are others now -/
theorem RefRaw.recell {w w2 : World} {fq : Nat → Prop} {r : Nat} {a : Option Addr} {n c : Nat} {L L' : Int} {fv : FVs} {d d' : DS} (h : RefRaw w fq r a n c L fv d) (hc : w2.heap[r]? = some (.cells (refCells a n c L' d') 50 (0, 0))) (hk : ∀ k, k ≠ r → w2.heap[k]? = w.heap[k]?) (hs : w2.heap.size = w.heap.size)
    (hl : 0 ≤ d'.left → L' = d'.left) (hf : d'.files = d.files) (hok : d'.Ok) : RefRaw w2 fq r a n c L' fv d' := by
  have hne : ∀ (k : Nat) (cs : Array Value) (t : TypeId) (f : Nat × Nat), w.heap[k]? = some (Obj.cells cs t f) → t ≠ 50 → w2.heap[k]? = w.heap[k]? := fun k cs t f hk' ht => hk k fun e => by
    rw [e, h.cells] at hk'
    injection hk' with hk'
    injection hk' with _ hk' _
    exact ht hk'.symm
  refine ⟨hc, hl, h.row.keep fun x hx => ?_, h.num, h.fqr, h.fqa, fun x hx => ⟨(h.rows x hx).1.keep fun ad ha => ?_, (h.rows x hx).2⟩, hf.trans h.files, fun k hk' => by rw [hs]; exact h.lt k hk', hok⟩
  · rcases h.row.form with ⟨h0, _⟩ | ⟨g, cur, e1, _, _, hh, _⟩
    · rw [h0] at hx; cases hx
    · rw [e1] at hx; injection hx with hx; subst hx
      exact hne _ _ _ _ hh (by decide)
  · obtain ⟨cur, hh⟩ := (h.rows x hx).1.cellsAt ad ha
    exact hne _ _ _ _ hh (by decide)

set_option maxRecDepth 100000 in
set_option maxHeartbeats 1000000 in
theorem refarm_any {w : World} {fq : Nat → Prop} {r : Nat} {d : DS} (h : RefAt w fq r d) (m : Int) (hm0 : -9223372036854775808 ≤ m) (hm1 : m ≤ 9223372036854775807) (dn : Bool) :
    Calls Tryz.prog 24 #[.pointer (some ⟨r, 0, none⟩), .int .i64 m, .bool dn] w (RefDone w fq r (DiskM.arm d m dn)) := by
  have h0 := h
  obtain ⟨a, n, c, L, fv, h⟩ := h
  have hc5 : w.cell? ⟨r, 5, none⟩ = some (.bool d.down) := cell_of_row _ _ 5 _ _ _ h.cells
  have hf2 : w.frozen? ⟨r, 2, none⟩ = false := frozen_of_row _ _ 2 _ _ h.cells
  have hf3 : w.frozen? ⟨r, 3, none⟩ = false := frozen_of_row _ _ 3 _ _ h.cells
  have hf4 : w.frozen? ⟨r, 4, none⟩ = false := frozen_of_row _ _ 4 _ _ h.cells
  have hc2 : w.cell? ⟨r, 2, none⟩ = some (.bool (decide (0 ≤ d.left))) := cell_of_row _ _ 2 _ _ _ h.cells
  have hc3 : w.cell? ⟨r, 3, none⟩ = some (.int .i64 L) := cell_of_row _ _ 3 _ _ _ h.cells
  have hc4 : w.cell? ⟨r, 4, none⟩ = some (.bool d.done) := cell_of_row _ _ 4 _ _ _ h.cells
  by_cases hdn : d.down = true
  · have HR := Lib.hid (show DiskM.arm d m dn = d by unfold DiskM.arm; rw [if_pos hdn])
    have HA := Lib.hid h0
    rw [hdn] at hc5
    clear hdn h h0
    go_enter Tryz.func24, Tryz.ntmps24
    go_wp2_with fail
    go_end0
    rw [HR.out]
    exact ⟨rfl, ⟨fq, HA.out, fun k hk => .inl hk⟩, Turn.refl _ _⟩
  have hdn' : d.down = false := by simpa using hdn
  have HR := Lib.hid (show DiskM.arm d m dn = { d with left := max m (-1), done := dn } by unfold DiskM.arm; rw [if_neg hdn])
  rw [hdn'] at hc5
  have hset : RefRaw (((w.setCell ⟨r, 2, none⟩ (.bool (decide (0 ≤ m)))).setCell ⟨r, 3, none⟩ (.int .i64 (max m 0))).setCell ⟨r, 4, none⟩ (.bool dn)) fq r a n c (max m 0) fv { d with left := max m (-1), done := dn } := by
    refine h.recell ?_ (fun k hk => (Below.heap_setCell _ ⟨r, 4, none⟩ _ _ hk).trans ((Below.heap_setCell _ ⟨r, 3, none⟩ _ _ hk).trans (Below.heap_setCell _ ⟨r, 2, none⟩ _ _ hk))) (by simp [World.setCell]) (fun h => by have h' : 0 ≤ max m (-1) := h; show max m 0 = max m (-1); omega) rfl
      ⟨h.ok.room, h.ok.used, by show -1 ≤ max m (-1); omega, by show max m (-1) ≤ _; omega, h.ok.sure, h.ok.name, h.ok.few, h.ok.rising⟩
    have h1 := heap_setCell_same w r 2 _ _ (.bool (decide (0 ≤ m))) h.cells
    have h2 := heap_setCell_same _ r 3 _ _ (.int .i64 (max m 0)) h1
    have h3 := heap_setCell_same _ r 4 _ _ (.bool dn) h2
    have e : decide (0 ≤ max m (-1)) = decide (0 ≤ m) := by
      by_cases hp : 0 ≤ m
      · rw [decide_eq_true hp, decide_eq_true (by omega)]
      · rw [decide_eq_false hp, decide_eq_false (by omega)]
    show _ = some (Obj.cells #[.slice a n c, .int .i64 (d.room : Int), .bool (decide (0 ≤ max m (-1))), .int .i64 (max m 0), .bool dn, .bool d.down] _ _)
    rw [e]
    exact h3
  have HSET := Lib.hid hset
  have HF := Lib.hid h.fqr
  have ht : Turn fq w (((w.setCell ⟨r, 2, none⟩ (.bool (decide (0 ≤ m)))).setCell ⟨r, 3, none⟩ (.int .i64 (max m 0))).setCell ⟨r, 4, none⟩ (.bool dn)) := ((Turn.setCell fq w (p := ⟨r, 2, none⟩) HF.out _).trans0 (Turn.setCell fq _ (p := ⟨r, 3, none⟩) HF.out _)).trans0 (Turn.setCell fq _ (p := ⟨r, 4, none⟩) HF.out _)
  have HT := Lib.hid ht
  clear hset ht h h0 hdn hdn'
  by_cases hp : 0 ≤ m
  · have hmx : max m 0 = m := by omega
    have hdc : decide (0 ≤ m) = true := decide_eq_true hp
    rw [hmx, hdc] at HSET HT
    go_enter Tryz.func24, Tryz.ntmps24
    go_wp2_with fail
    go_end0
    rw [HR.out]
    exact ⟨rfl, ⟨fq, ⟨_, _, _, _, _, HSET.out⟩, fun k hk => .inl hk⟩, HT.out⟩
  · have hmx : max m 0 = 0 := by omega
    have hdc : decide (0 ≤ m) = false := decide_eq_false hp
    rw [hmx, hdc] at HSET HT
    go_enter Tryz.func24, Tryz.ntmps24
    go_wp2_with fail
    go_end0
    rw [HR.out]
    exact ⟨rfl, ⟨fq, ⟨_, _, _, _, _, HSET.out⟩, fun k hk => .inl hk⟩, HT.out⟩

theorem cut_here {d : DS} (keep : List UInt8) {i : Nat} {x : Nm × (List UInt8 × Nat)} (h : (cutTo keep i d.files)[i]? = some x) : d.files[i]? = some x := by
  rw [cutTo_get] at h
  cases hf : d.files[i]? with
  | none => rw [hf] at h; cases h
  | some p => rw [hf] at h; simpa using h
def cutN (keep : List UInt8) (i : Nat) (v : List UInt8 × Nat) : Nat := match keep[i]? with | some c => c.toNat % (v.1.length - v.2 + 1) | none => 0
theorem cutF_as (keep : List UInt8) (i : Nat) (v : List UInt8 × Nat) : cutF keep i v = (v.1.take (v.2 + cutN keep i v), v.2 + cutN keep i v) := rfl
theorem cutN_le (keep : List UInt8) (i : Nat) (v : List UInt8 × Nat) (h : v.2 ≤ v.1.length) : v.2 + cutN keep i v ≤ v.1.length := by
  have := (cutF_le keep i v h).1
  rw [cutF_as] at this; exact this
theorem crash_next {d : DS} (keep : List UInt8) {i : Nat} {k : Nm} {v : List UInt8 × Nat} (hok : (crashTo d keep i).Ok) (h : (crashTo d keep i).files[i]? = some (k, v)) : DiskM.setF (crashTo d keep i) k (cutF keep i v) = crashTo d keep (i + 1) := by
  have h' : (cutTo keep i d.files)[i]? = some (k, v) := h
  show ({ crashTo d keep i with files := DiskM.put k (cutF keep i v) (cutTo keep i d.files) } : DS) = _
  rw [put_set (l := cutTo keep i d.files) hok.rising h', ← cutTo_succ keep i d.files (cut_here keep h')]
  rfl
set_option maxRecDepth 100000 in
set_option maxHeartbeats 4000000 in
theorem refcrash_any {w : World} {fq : Nat → Prop} {r : Nat} {d : DS} (h : RefAt w fq r d) (ak : Option Addr) (nk ck : Nat) (keep : List UInt8) (hnk : keep.length = nk) (hrd : Rd w w.heap.size ak keep) (hna : keep = [] ∨ ∀ x, ak = some x → ¬ fq x.block) :
    Calls Tryz.prog 26 #[.pointer (some ⟨r, 0, none⟩), .slice ak nk ck] w (RefDone w fq r (DiskM.crash d keep)) := by
  obtain ⟨a, n, c, L, fv, h⟩ := h
  have hnum := h.num
  have hlen : d.files.length = n := by rw [h.files]; simpa using hnum
  have hfew := h.ok.few
  have H := Lib.hid h
  have HNK := Lib.hid hnk
  have HRD := Lib.hid hrd
  have HNA := Lib.hid hna
  have hrl := h.lt _ h.fqr
  have HFQR := Lib.hid h.fqr
  have hstart : RefRaw w (fun k => fq k ∨ (w.heap.size ≤ k ∧ k < w.heap.size)) r a n c L fv (crashTo d keep 0) := by
    have := h.more (fq' := fun k => fq k ∨ (w.heap.size ≤ k ∧ k < w.heap.size)) (fun k hk => .inl hk) (fun k hk => by
      rcases hk with hk | hk
      · exact h.lt k hk
      · exact hk.2)
    unfold crashTo
    rw [cutTo_zero]
    exact this
  have HST := Lib.hid hstart
  have HLEN := Lib.hid hlen
  have hn : n ≤ 1000000 := by omega
  clear h hnk hrd hna hstart hlen
  go_enter Tryz.func26, Tryz.ntmps26
  go_wp2_with fail
  go_loopw [4] (fun v wr => ∃ (i : Nat) (fvi : FVs), v = .int .i64 i ∧ i ≤ n ∧ RefRaw wr (fun k => fq k ∨ (w.heap.size ≤ k ∧ k < wr.heap.size)) r a n c L fvi (crashTo d keep i) ∧ Turn fq w wr) (fun v _ => n - (intOf v).toNat)
  case atStart => exact ⟨0, fv, rfl, Nat.zero_le _, HST.out, Turn.refl _ _⟩
  case round =>
    obtain ⟨i, fvi, rfl, hi, hraw, hT⟩ := hrel
    have hc0 : wr.cell? ⟨r, 0, none⟩ = some (.slice a n c) := cell_of_row _ _ 0 _ _ _ hraw.cells
    have HRAW := Lib.hid hraw
    have HT := Lib.hid hT
    have HS := Lib.hid hT.size
    by_cases hlt : i < n
    · obtain ⟨x, hx⟩ : ∃ x, fvi[i]? = some x := ⟨_, List.getElem?_eq_getElem (by have := hraw.num; omega)⟩
      obtain ⟨g, rfl, g0, g1, g2⟩ := hraw.at_ hx
      have hlt' : (i : Int) < (n : Int) := by omega
      have hrows := hraw.rows x (List.mem_of_getElem? hx)
      have hxl : x.2.bs.length = x.2.n := hrows.1.1
      have hxs : x.2.sure ≤ x.2.bs.length := by
        have := hraw.ok.sure (x.1, x.2.abs) (by rw [hraw.files]; exact List.mem_map.2 ⟨x, List.mem_of_getElem? hx, rfl⟩)
        exact this
      have hxn : x.2.n ≤ 16777216 := by
        have h1 := old_used hraw.ok x.1
        rw [old_some (hraw.look_in hx)] at h1
        have h2 := hraw.ok.used
        have h3 : x.2.bs.length ≤ used (crashTo d keep i).files := h1
        omega
      have HX := Lib.hid hx
      have HXL := Lib.hid hxl
      have HROWS := Lib.hid hrows
      have hxs' : x.2.sure ≤ x.2.n := by omega
      clear hraw hT hx hrows hxl hxs
      go_upto_if 26 with fail
      have hbf : Below wr.heap.size wr (wr.alloc (.cells #[.string ⟨x.1.toArray⟩, .slice x.2.a x.2.n x.2.c, .int .i64 (x.2.sure : Int)] 79)) := (Below.refl _ _).alloc (Nat.le_refl _) _
      have hbx := heap_alloc_new wr (.cells #[.string ⟨x.1.toArray⟩, .slice x.2.a x.2.n x.2.c, .int .i64 (x.2.sure : Int)] 79)
      have hszf : (wr.alloc (.cells #[.string ⟨x.1.toArray⟩, .slice x.2.a x.2.n x.2.c, .int .i64 (x.2.sure : Int)] 79)).heap.size = wr.heap.size + 1 := by simp
      obtain ⟨Wb, hWb⟩ : ∃ Wb, Wb = wr.alloc (.cells #[.string ⟨x.1.toArray⟩, .slice x.2.a x.2.n x.2.c, .int .i64 (x.2.sure : Int)] 79) := ⟨_, rfl⟩
      rw [← hWb] at hbf hbx hszf ⊢
      have HBX := Lib.hid hbx
      have HSZ := Lib.hid hszf
      have HBF := Lib.hid hbf
      have hszl : wr.heap.size < Wb.heap.size := by omega
      have hrk : Rd Wb Wb.heap.size ak keep := ((rd_or HRD.out HT.out (Nat.le_refl _) HNA.out).more HS.out |>.below hbf).more hbf.size
      have HRK := Lib.hid hrk
      clear hWb hszf hbf hrk
      have b1 : Wb.cell? ⟨wr.heap.size, 1, none⟩ = some (.slice x.2.a x.2.n x.2.c) := cell_of_row _ _ 1 _ _ _ hbx
      have b2 : Wb.cell? ⟨wr.heap.size, 2, none⟩ = some (.int .i64 (x.2.sure : Int)) := cell_of_row _ _ 2 _ _ _ hbx
      clear hbx g0 g1 g2
      go_cut [6] (fun s6 wx => s6 = .int .i64 (cutN keep i x.2.abs : Nat) ∧ Below Wb.heap.size Wb wx)
      case first =>
        by_cases hk : i < nk
        · obtain ⟨kb, ko, y, hak, hkb, hy, hky⟩ := HRK.out.at_ (k := i) (by rw [HNK.out]; exact hk)
          have b1' : ∀ q, (Wb.drewN q).cell? ⟨wr.heap.size, 1, none⟩ = some (.slice x.2.a x.2.n x.2.c) := fun _ => b1
          have b2' : ∀ q, (Wb.drewN q).cell? ⟨wr.heap.size, 2, none⟩ = some (.int .i64 (x.2.sure : Int)) := fun _ => b2
          have hky' : ∀ q, (Wb.drewN q).cell? ⟨kb, ko + i, none⟩ = some (.int .u8 (y.toNat : Int)) := fun _ => hky
          have hw1 : IntKind.i64.wrap ((x.2.n : Int) - (x.2.sure : Int)) = ((x.2.n - x.2.sure : Nat) : Int) := by rw [IntKind.wrap_i64]; omega
          have hw2 : IntKind.i64.wrap (((x.2.n - x.2.sure : Nat) : Int) + 1) = ((x.2.n - x.2.sure + 1 : Nat) : Int) := by rw [IntKind.wrap_i64]; omega
          have hy8 : y.toNat < 256 := y.toNat_lt
          have hw3 : IntKind.i64.wrap (y.toNat : Int) = (y.toNat : Int) := by rw [IntKind.wrap_i64]; omega
          have hk' : (i : Int) < (nk : Int) := by omega
          have HY := Lib.hid hy
          subst hak
          clear hy
          go_wp2_with fail
          go_quiet (fail)
          go_wp2_with fail
          go_meet
          refine ⟨?_, ⟨rfl, rfl, rfl, Nat.le_refl _, fun _ _ => rfl⟩⟩
          have e : cutN keep i x.2.abs = y.toNat % (x.2.n - x.2.sure + 1) := by
            unfold cutN
            rw [HY.out]
            show y.toNat % (x.2.bs.length - x.2.sure + 1) = _
            rw [HXL.out]
          rw [e, Int.natCast_emod]
          rfl
        · have HN0 := Lib.hid (show cutN keep i x.2.abs = 0 by unfold cutN; rw [List.getElem?_eq_none (by rw [HNK.out]; omega)])
          go_wp2_with fail
          go_meet
          exact ⟨by rw [HN0.out]; rfl, Below.refl _ _⟩
      case rest =>
        obtain ⟨rfl, hbq⟩ := hcut
        have hMle : x.2.sure + cutN keep i x.2.abs ≤ x.2.n := by
          have := cutN_le keep i x.2.abs (by show x.2.sure ≤ x.2.bs.length; rw [HXL.out]; exact hxs')
          have h2 : x.2.sure + cutN keep i x.2.abs ≤ x.2.bs.length := this
          rwa [HXL.out] at h2
        have hCF : cutF keep i x.2.abs = (x.2.bs.take (x.2.sure + cutN keep i x.2.abs), x.2.sure + cutN keep i x.2.abs) := rfl
        have HCF := Lib.hid hCF
        clear hCF
        generalize cutN keep i x.2.abs = M at *
        obtain ⟨n1, hn1⟩ : ∃ n1, n1 = x.2.sure + M := ⟨_, rfl⟩
        have hs2 : ∀ W, (Instr.slice 30 (.slice x.2.a x.2.n x.2.c) none (some (.int .i64 ((x.2.sure : Int) + (M : Int)))) none).run Tryz.prog W = .ok (.slice x.2.a n1 x.2.c) W := fun W => by
          have := slice_h_b W x.2.a x.2.n x.2.c .i64 ((x.2.sure : Int) + (M : Int)) (by omega) (by have := HROWS.out.1.2.1; omega)
          rwa [show ((x.2.sure : Int) + (M : Int)).toNat = n1 by omega] at this
        have hx6 := (hbq.block wr.heap.size hszl).trans HBX.out
        have q1 : wc.cell? ⟨wr.heap.size, 1, none⟩ = some (.slice x.2.a x.2.n x.2.c) := cell_of_row _ _ 1 _ _ _ hx6
        have q2 : wc.cell? ⟨wr.heap.size, 2, none⟩ = some (.int .i64 (x.2.sure : Int)) := cell_of_row _ _ 2 _ _ _ hx6
        have hszc : Wb.heap.size ≤ wc.heap.size := hbq.size
        have hlx := Own.lit (B := wc.heap.size) (bs := []) wc (Nat.le_refl _) #[] rfl (by simp)
        have hbl : Below wc.heap.size wc (wc.alloc (.cells #[] 5)) := (Below.refl _ _).alloc (Nat.le_refl _) _
        have hfil : Fil wc x.2.a x.2.n x.2.c x.2.bs := HROWS.out.1.keep fun ad ha => by
          have hl := HROWS.out.1.lt ad ha
          exact (hbq.block _ (by omega)).trans (HBF.out.block _ hl)
        have hrx : Rd (wc.alloc (.cells #[] 5)) wc.heap.size x.2.a (x.2.bs.take n1) := ((hfil.rd.front n1)).below hbl
        have hln : (x.2.bs.take n1).length = n1 := by rw [List.length_take, HXL.out]; omega
        have hbc : Below wr.heap.size wr wc := HBF.out.trans (hbq.mono (by omega))
        have HX6 := Lib.hid hx6
        have HLX := Lib.hid hlx
        have HRX := Lib.hid hrx
        have HLN := Lib.hid hln
        have HBC := Lib.hid hbc
        have HN1 := Lib.hid hn1
        have hn1n : n1 ≤ x.2.n := by omega
        have hszw : wr.heap.size < wc.heap.size := by omega
        clear hx6 hlx hrx hln b1 b2 hfil hn1 hc0
        go_wp2_with (first
          | (at_builtin; refine wpList_append_b rfl (.tmp 40) (.tmp 47) rfl wc _ wc.heap.size hbl (by simp) _ 0 0 [] rfl HLX.out _ x.2.a n1 x.2.c (x.2.bs.take n1) rfl HRX.out HLN.out n1 (by omega) (by omega) ?_; intro a4 c4 w4 ho4 hg4 hb4 hat4; have HO4 := Lib.hid ho4; have hs4 := hb4.size; have HB4 := Lib.hid hb4; have hx4 := (hb4.block wr.heap.size (by omega)).trans HX6.out; have f41 : w4.frozen? ⟨wr.heap.size, 1, none⟩ = false := frozen_of_row _ _ 1 _ _ hx4; have f42 : w4.frozen? ⟨wr.heap.size, 2, none⟩ = false := frozen_of_row _ _ 2 _ _ hx4; have b41 : w4.cell? ⟨wr.heap.size, 1, none⟩ = some (.slice x.2.a x.2.n x.2.c) := cell_of_row _ _ 1 _ _ _ hx4; have b42 : w4.cell? ⟨wr.heap.size, 2, none⟩ = some (.int .i64 (x.2.sure : Int)) := cell_of_row _ _ 2 _ _ _ hx4; have HX4 := Lib.hid hx4; clear ho4 hg4 hat4 hx4 hb4))
        obtain ⟨Wm, hWm⟩ : ∃ Wm, Wm = (w4.setCell ⟨wr.heap.size, 1, none⟩ (.slice a4 n1 c4)).setCell ⟨wr.heap.size, 2, none⟩ (.int .i64 (n1 : Int)) := ⟨_, rfl⟩
        rw [← hWm]
        have hmx : Wm.heap[wr.heap.size]? = some (.cells #[.string ⟨x.1.toArray⟩, .slice a4 n1 c4, .int .i64 (n1 : Int)] 79 (0, 0)) := by
          have h1 := heap_setCell_same w4 wr.heap.size 1 _ _ (.slice a4 n1 c4) HX4.out
          have h2 := heap_setCell_same _ wr.heap.size 2 _ _ (.int .i64 (n1 : Int)) h1
          rw [hWm]; exact h2
        have hsm : Wm.heap.size = w4.heap.size := by rw [hWm]; simp [World.setCell]
        have hbm : Below wr.heap.size wr Wm := by
          rw [hWm]
          exact ((HBC.out.trans (HB4.out.mono (by omega))).setCell (p := ⟨wr.heap.size, 1, none⟩) (Nat.le_refl _) _).setCell (p := ⟨wr.heap.size, 2, none⟩) (Nat.le_refl _) _
        have hom : Own Wm wc.heap.size a4 n1 c4 (x.2.bs.take n1) := by
          have h0 := HO4.out
          rw [List.nil_append] at h0
          have hne : ∀ y, a4 = some y → y.block ≠ wr.heap.size := fun y hy => by have := h0.blk_lt y.block ⟨y, hy, rfl⟩; omega
          rw [hWm]
          exact (h0.far (p := ⟨wr.heap.size, 1, none⟩) hne _).far (p := ⟨wr.heap.size, 2, none⟩) hne _
        have hss := HS.out
        have hmr : RefRaw Wm.drew (fun k => fq k ∨ (w.heap.size ≤ k ∧ k < Wm.heap.size)) r (some ⟨g, 0, none⟩) n c L fvi (crashTo d keep i) := ((HRAW.out.keep (w' := Wm) (fun k hk => hbm.block k (HRAW.out.lt k hk)) hbm.size).more (fun k hk => hk.imp id fun h => ⟨h.1, by omega⟩) (fun k hk => by
          rcases hk with hk | hk
          · have := HRAW.out.lt k (.inl hk); omega
          · exact hk.2)).keep (fun _ _ => rfl) (Nat.le_refl _)
        have hcf : cutF keep i x.2.abs = (x.2.bs.take n1, n1) := by rw [HN1.out]; exact HCF.out
        have hnx : DiskM.setF (crashTo d keep i) x.1 (x.2.bs.take n1, n1) = crashTo d keep (i + 1) := by
          rw [← hcf]
          exact crash_next keep HRAW.out.ok (by rw [HRAW.out.files, List.getElem?_map, HX.out]; rfl)
        have hset : RefRaw (((Wm.drew.setCell ⟨g, i * 3, none⟩ (.string ⟨x.1.toArray⟩)).setCell ⟨g, i * 3 + 1, none⟩ (.slice a4 n1 c4)).setCell ⟨g, i * 3 + 2, none⟩ (.int .i64 (n1 : Int))) (fun k => fq k ∨ (w.heap.size ≤ k ∧ k < Wm.heap.size)) r (some ⟨g, 0, none⟩) n c L (fvi.set i (x.1, ⟨a4, n1, c4, x.2.bs.take n1, n1⟩)) (crashTo d keep (i + 1)) := by
          have := hmr.set HX.out ⟨a4, n1, c4, x.2.bs.take n1, n1⟩ (w2 := ((Wm.drew.setCell ⟨g, i * 3, none⟩ (.string ⟨x.1.toArray⟩)).setCell ⟨g, i * 3 + 1, none⟩ (.slice a4 n1 c4)).setCell ⟨g, i * 3 + 2, none⟩ (.int .i64 (n1 : Int))) (by
              rw [refFiles_set _ _ _ (by have := HRAW.out.num; omega)]
              exact ((hmr.row.set (i * 3) _).set (i * 3 + 1) _).set (i * 3 + 2) _) (fun k hk => (Below.heap_setCell _ ⟨g, i * 3 + 2, none⟩ _ _ hk).trans ((Below.heap_setCell _ ⟨g, i * 3 + 1, none⟩ _ _ hk).trans (Below.heap_setCell _ ⟨g, i * 3, none⟩ _ _ hk))) (by simp [World.setCell]) (hom.drew.fil) (fun ad ha => .inr (by have := hom.blk_lt ad.block ⟨ad, ha, rfl⟩; omega))
              (same_ok HRAW.out.ok (HRAW.out.look_in HX.out) (by show (x.2.bs.take n1).length ≤ x.2.bs.length; rw [HLN.out, HXL.out]; exact hn1n) (by show n1 ≤ (x.2.bs.take n1).length; rw [HLN.out]; exact Nat.le_refl _))
          rw [show FileV.abs ⟨a4, n1, c4, x.2.bs.take n1, n1⟩ = (x.2.bs.take n1, n1) from rfl, hnx] at this
          exact this
        have hTm : Turn fq w Wm.drew := (HT.out.trans0 (Turn.of_below hbm _)).drew
        have m0 : Wm.drew.cell? ⟨wr.heap.size, 0, none⟩ = some (.string ⟨x.1.toArray⟩) := cell_of_row Wm _ 0 _ _ _ hmx
        have m1 : Wm.drew.cell? ⟨wr.heap.size, 1, none⟩ = some (.slice a4 n1 c4) := cell_of_row Wm _ 1 _ _ _ hmx
        have m2 : Wm.drew.cell? ⟨wr.heap.size, 2, none⟩ = some (.int .i64 (n1 : Int)) := cell_of_row Wm _ 2 _ _ _ hmx
        have mr : Wm.drew.cell? ⟨r, 0, none⟩ = some (.slice (some ⟨g, 0, none⟩) n c) := cell_of_row _ _ 0 _ _ _ hmr.cells
        have hgf : ∀ j, Wm.drew.frozen? ⟨g, j, none⟩ = false := by
          intro j
          rcases hmr.row.form with ⟨h0, _⟩ | ⟨g', cur, e1, _, _, hh, _⟩
          · cases h0
          · injection e1 with e1; injection e1 with e1; subst e1; exact frozen_of_row _ _ _ _ _ hh
        have hgf0 := hgf (i * 3)
        have hgf1 := hgf (i * 3 + 1)
        have hgf2 := hgf (i * 3 + 2)
        obtain ⟨g', e', p0, p1, p2⟩ := hmr.at_ HX.out
        injection e' with e'; injection e' with e'; subst e'
        have HSET := Lib.hid hset
        have HTM := Lib.hid hTm
        have HSM := Lib.hid (show w.heap.size ≤ Wm.heap.size ∧ Wm.heap.size = Wm.drew.heap.size from ⟨by omega, rfl⟩)
        obtain ⟨Z, hZ⟩ : ∃ Z, Wm.heap.size = Z := ⟨_, rfl⟩
        rw [hZ] at HSET HSM
        clear hWm hmx hsm hbm hom hmr hcf hnx hset hTm hgf f41 f42 b41 b42 q1 q2 hss
        refine wp_region_still_tail 7 (by kernel_rfl) (by kernel_rfl) ?_
        change wpStill _ _ Wm.drew (fun a' => wpList _ _ _ _ a' Wm.drew) _ _
        generalize Wm.drew = wd at *
        simp only [List.take_succ_cons, List.take_zero, List.drop_succ_cons, List.drop_zero]
        repeat still_step
        refine wpStill_nil ?_
        go_wp2_with fail
        go_roundw
        case rel =>
          have e : (((wd.setCell ⟨g, i * 3, none⟩ (.string ⟨x.1.toArray⟩)).setCell ⟨g, i * 3 + 1, none⟩ (.slice a4 n1 c4)).setCell ⟨g, i * 3 + 2, none⟩ (.int .i64 (n1 : Int))).heap.size = Z := by simp only [World.setCell, Array.size_modify]; exact HSM.out.2.symm
          have hfg := H.out.fqa _ rfl
          exact ⟨i + 1, _, by go_num, by omega, by rw [e]; exact HSET.out, ((HTM.out.trans0 (Turn.setCell fq _ (p := ⟨g, i * 3, none⟩) hfg _)).trans0 (Turn.setCell fq _ (p := ⟨g, i * 3 + 1, none⟩) hfg _)).trans0 (Turn.setCell fq _ (p := ⟨g, i * 3 + 2, none⟩) hfg _)⟩
        case measure => simp [intOf]; omega
    · obtain rfl : i = n := by omega
      have f5 : wr.frozen? ⟨r, 5, none⟩ = false := frozen_of_row _ _ 5 _ _ hraw.cells
      have f2 : wr.frozen? ⟨r, 2, none⟩ = false := frozen_of_row _ _ 2 _ _ hraw.cells
      have c5 : wr.cell? ⟨r, 5, none⟩ = some (.bool (crashTo d keep i).down) := cell_of_row _ _ 5 _ _ _ hraw.cells
      have c2 : wr.cell? ⟨r, 2, none⟩ = some (.bool (decide (0 ≤ (crashTo d keep i).left))) := cell_of_row _ _ 2 _ _ _ hraw.cells
      have hset : RefRaw ((wr.setCell ⟨r, 5, none⟩ (.bool false)).setCell ⟨r, 2, none⟩ (.bool false)) (fun k => fq k ∨ (w.heap.size ≤ k ∧ k < wr.heap.size)) r a i c L fvi (DiskM.crash d keep) := by
        refine hraw.recell ?_ (fun k hk => (Below.heap_setCell _ ⟨r, 2, none⟩ _ _ hk).trans (Below.heap_setCell _ ⟨r, 5, none⟩ _ _ hk)) (by simp [World.setCell]) (fun h => by have h' : (0 : Int) ≤ -1 := h; omega) (by show cutTo keep d.files.length d.files = cutTo keep i d.files; rw [HLEN.out])
          (by
            have hok := hraw.ok
            have e : (DiskM.crash d keep).files = (crashTo d keep i).files := by show cutTo keep d.files.length d.files = cutTo keep i d.files; rw [HLEN.out]
            exact ⟨hok.room, by rw [e]; exact hok.used, by show (-1 : Int) ≤ -1; omega, by show (-1 : Int) ≤ _; omega, by rw [e]; exact hok.sure, by rw [e]; exact hok.name, by rw [e]; exact hok.few, by rw [e]; exact hok.rising⟩)
        have h1 := heap_setCell_same wr r 5 _ _ (.bool false) hraw.cells
        have h2 := heap_setCell_same _ r 2 _ _ (.bool false) h1
        exact h2
      have HSET := Lib.hid hset
      clear hset hraw hT
      go_wp2_with fail
      go_end0
      exact ⟨rfl, ⟨_, ⟨_, _, _, _, _, HSET.out⟩, fun k hk => hk.imp id fun h => h.1⟩, (HT.out.trans0 (Turn.setCell fq _ (p := ⟨r, 5, none⟩) HFQR.out _)).trans0 (Turn.setCell fq _ (p := ⟨r, 2, none⟩) HFQR.out _)⟩
end Go.Proofs.YtopnhplacdbkdaaGreat
