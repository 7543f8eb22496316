/- The disk's All: the iterator's maker, and what its closure promises: the names in their order, each with a copy of the file's bytes as they then are, whatever the loop's body does to the files, as long as the names stay. Condition: the disk lies behind the pointer. -/
import Derived.Test.YtopnhplacdbkdaaGreatDiskRead
import Derived.Test.YtopnhplacdbkdaaGreatBoxes
import Derived.Test.YtopnhplacdbkdaaGreatQuietRound
namespace Go.Proofs.YtopnhplacdbkdaaGreat
open Go.RowKit DiskM Go.Shelf
attribute [local go_sem] Oper.semAt_some

def DiskMb (w : World) (fp : Nat → Prop) (p mb : Nat) (d : DS) : Prop := ∃ fv, DiskRaw w fp p mb fv d
section
variable {w w' : World} {fp : Nat → Prop} {p mb : Nat} {fv : FVs} {d : DS}
theorem DiskRaw.keepc (h : DiskRaw w fp p mb fv d) (hp : w'.heap[p]? = w.heap[p]?) (hm : w'.heap[mb]? = w.heap[mb]?) (hk : ∀ x ∈ fv, ∀ ad, x.2.a = some ad → w'.heap[ad.block]? = w.heap[ad.block]?) (hs : w.heap.size ≤ w'.heap.size) : DiskRaw w' fp p mb fv d :=
  ⟨hp.trans h.cells, h.map.keep hm, h.fpp, h.fpm, fun x hx => ⟨(h.rows x hx).1.keep (hk x hx), (h.rows x hx).2⟩, h.apart, h.files, fun j hj => Nat.lt_of_lt_of_le (h.lt j hj) hs, h.ok⟩
theorem Fil.cellsAt {a : Option Addr} {n c : Nat} {bs : List UInt8} (h : Fil w a n c bs) : ∀ ad, a = some ad → ∃ cur, w.heap[ad.block]? = some (.cells cur 5 (0, 0)) := by
  intro ad ha
  obtain ⟨_, _, _, ⟨h4, _⟩ | ⟨g, cur, e1, hh, _⟩⟩ := h
  · rw [h4] at ha; cases ha
  · rw [e1] at ha; injection ha with ha; subst ha; exact ⟨cur, hh⟩
theorem DiskMb.below (h : DiskMb w fp p mb d) (hb : Below w.heap.size w w') : DiskMb w' fp p mb d := by
  obtain ⟨fv, h⟩ := h
  exact ⟨fv, h.below hb⟩
theorem DiskMb.at (h : DiskMb w fp p mb d) : DiskAt w fp p d := ⟨mb, h⟩
/-- an object that is no row of cells is turned -/
theorem DiskMb.putObj (h : DiskMb w fp p mb d) {l : Nat} {o o' : Obj} (hl : w.heap[l]? = some o) (ho : o.isCells = false) (hne : mb ≠ l) : DiskMb (w.putObj l o') fp p mb d := by
  obtain ⟨fv, h⟩ := h
  have hc : ∀ k cs t f, w.heap[k]? = some (.cells cs t f) → k ≠ l := by
    intro k cs t f hk e
    rw [e, hl] at hk
    injection hk with hk
    rw [hk] at ho; cases ho
  refine ⟨fv, h.keepc (World.putObj_heap_other (hc _ _ _ _ h.cells)) (World.putObj_heap_other hne) (fun x hx ad ha => ?_) (by simp)⟩
  obtain ⟨cur, hh⟩ := (h.rows x hx).1.cellsAt ad ha
  exact World.putObj_heap_other (hc _ _ _ _ hh)
end

/-- what is handed to the loop's body -/
structure DRec where
  name : Nm
  bs : List UInt8
  a : Option Addr
  c : Nat
def DRec.encs (r : DRec) : Array Value := #[.string ⟨r.name.toArray⟩, .slice r.a r.bs.length r.c]
/-- what the iterator vouches for: B is the heap's size where the loop began -/
def DOk (B p mb : Nat) (ns : List Nm) (pre : List DRec) (r : DRec) (W : World) : Prop :=
  (pre.map DRec.name ++ [r.name]) <+: ns ∧ Own W B r.a r.bs.length r.c r.bs ∧ ∃ fp d, DiskMb W fp p mb d ∧ namesOf d = ns ∧ r.bs = (DiskM.old d r.name).1 ∧ ∀ x, r.a = some x → ¬ fp x.block
/-- what a body may turn: blocks of its own (S), the disk's, objects that are no rows, and rows of bytes laid since -/
def May (S fp : Nat → Prop) (B : Nat) (W : World) (k : Nat) : Prop :=
  S k ∨ fp k ∨ (B ≤ k ∧ ∃ o : Obj, W.heap[k]? = some o ∧ (o.isCells = false ∨ ∃ cur fr, o = .cells cur 5 fr))
/-- what a body keeps -/
def DKp (S : Nat → Prop) (B p mb : Nat) (ns : List Nm) (W W' : World) : Prop :=
  ∀ fp d, DiskMb W fp p mb d → namesOf d = ns → ∃ fp' d', DiskMb W' fp' p mb d' ∧ namesOf d' = ns ∧ (∀ k, fp' k → fp k ∨ W.heap.size ≤ k) ∧ W.heap.size ≤ W'.heap.size ∧ ∀ k, k < W.heap.size → ¬ May S fp B W k → W'.heap[k]? = W.heap[k]?
theorem DKp.trans {S : Nat → Prop} {B p mb : Nat} {ns : List Nm} {W1 W2 W3 : World} (h : DKp S B p mb ns W1 W2) (k : DKp S B p mb ns W2 W3) : DKp S B p mb ns W1 W3 := by
  intro fp d hd hn
  obtain ⟨fp2, d2, hd2, hn2, hf2, hs2, hk2⟩ := h fp d hd hn
  obtain ⟨fp3, d3, hd3, hn3, hf3, hs3, hk3⟩ := k fp2 d2 hd2 hn2
  refine ⟨fp3, d3, hd3, hn3, fun j hj => ?_, Nat.le_trans hs2 hs3, fun j hj hm => ?_⟩
  · rcases hf3 j hj with h | h
    · exact hf2 j h
    · exact .inr (by omega)
  · have e2 := hk2 j hj hm
    refine (hk3 j (by omega) ?_).trans e2
    rintro (h | h | ⟨hB, o, ho, hc⟩)
    · exact hm (.inl h)
    · rcases hf2 j h with h | h
      · exact hm (.inr (.inl h))
      · omega
    · exact hm (.inr (.inr ⟨hB, o, by rw [← e2]; exact ho, hc⟩))
theorem DKp.turn {S : Nat → Prop} {B p mb : Nat} {ns : List Nm} (hm : mb < B) (W : World) (l : Nat) (o o' : Obj) (hl : B ≤ l) (hw : W.heap[l]? = some o) (ho : o.isCells = false) : DKp S B p mb ns W (W.putObj l o') := by
  intro fp d hd hn
  refine ⟨fp, d, hd.putObj hw ho (by omega), hn, fun k h => .inl h, by simp, fun k _ hm => World.putObj_heap_other ?_⟩
  intro e
  subst e
  exact hm (.inr (.inr ⟨hl, o, hw, .inl ho⟩))
theorem DKp.below {S : Nat → Prop} {B p mb : Nat} {ns : List Nm} {W W' : World} (h : Below W.heap.size W W') : DKp S B p mb ns W W' := by
  intro fp d hd hn
  exact ⟨fp, d, hd.below h, hn, fun k h => .inl h, h.size, fun k hk _ => h.block k hk⟩

theorem row_at {w : World} {B : Nat} {e : TypeId} {k : Nat} {a : Option Addr} {n c : Nat} {xs : List Value} (h : Row w B e k a n c xs) {x : Addr} (hx : a = some x) : ∃ g, x = ⟨g, 0, none⟩ ∧ B ≤ x.block ∧ x.block < w.heap.size := by
  rcases h.form with ⟨h0, _⟩ | ⟨g, cur, e1, h2, h3, _⟩
  · rw [h0] at hx; cases hx
  · rw [e1] at hx; injection hx with hx; subst hx; exact ⟨g, rfl, h2, h3⟩

/-- disk.All: a closure over a box that holds the disk's pointer -/
theorem dall_any (p : Nat) (w : World) : Calls Tryz.prog 35 #[.pointer (some ⟨p, 0, none⟩)] w fun e w' => e = .returned (.func (.func 61) #[] #[.pointer (some ⟨w.heap.size, 0, none⟩)]) ∧ w' = w.alloc (.cells #[.pointer (some ⟨p, 0, none⟩)] 25) := by
  go_enter Tryz.func35, Tryz.ntmps35
  go_wp2_with fail
  go_ret
  exact ⟨rfl, rfl⟩

set_option maxRecDepth 100000 in
set_option maxHeartbeats 2000000 in
theorem dall1_in (n : Nat) (hn1 : 1 ≤ n) (l Bx B p mb : Nat) (S : Nat → Prop) (ns : List Nm) (J Jx : List DRec → World → Prop) (W : World)
    (hJ : AbidesFrom W.heap.size J)
    (hY : ∀ pre x W1, J pre W1 → DOk B p mb ns pre x W1 → YieldAt Fence.wide (n - 1) Tryz.prog l (DRec.encs x) W1 fun e W' =>
      (e = .returned (.bool true) ∧ J (pre ++ [x]) W' ∧ DKp S B p mb ns W1 W') ∨ (e = .returned (.bool false) ∧ Jx (pre ++ [x]) W'))
    (hbx : W.cell? ⟨Bx, 0, none⟩ = some (.pointer (some ⟨p, 0, none⟩))) (hxS : ¬ S Bx) (hB : B ≤ W.heap.size) (hSB : ∀ k, S k → k < B) (fp : Nat → Prop) (d : DS) (hd : DiskMb W fp p mb d) (hns : namesOf d = ns) (hxf : ¬ fp Bx) (hxB : Bx < B) (h0 : J [] W) :
    CallsIn Fence.wide n Tryz.prog 61 #[.func (.yield l) #[] #[], .pointer (some ⟨Bx, 0, none⟩)] W fun e W' => (∃ v, e = .returned v) ∧
      ((∃ ys, (ys.map DRec.name = ns) ∧ J ys W') ∨ (∃ pre, (pre.map DRec.name <+: ns) ∧ Jx pre W')) := by
  refine callsIn_of_wp Tryz.func61 rfl trivial ?_ rfl
  simp only [Tryz.ntmps61, List.size_toArray, List.length_cons, List.length_nil, Nat.reduceAdd, Nat.reduceSub, Array.replicate_succ, Array.replicate_zero, List.push_toArray, List.append_toArray, List.nil_append, List.cons_append]
  gi_wp2_with fail
  refine ⟨trivial, ?_⟩
  refine (callsIn_wide.2 (list_any hd.at)).mono ?_
  rw [hns]
  rintro e w1 ⟨a, c, rfl, hrow, hb1⟩
  have hfew : ns.length ≤ 1000000 := by obtain ⟨fv, hd⟩ := hd; have := hd.ok.few; rw [← hns]; simpa [namesOf] using this
  have hJ1 : J [] w1 := hJ [] W w1 none h0 (grown_below hb1 none) (fun r e => by cases e)
  have hd1 := hd.below hb1
  have hbx1 := (hb1.cell (p := ⟨Bx, 0, none⟩) (block_lt_of_cell hbx)).trans hbx
  have hlx : Bx < W.heap.size := block_lt_of_cell hbx
  have hlow := hd.at.lt
  have hs1 := hb1.size
  clear hd hb1 hbx h0
  gi_wp2_with fail
  gi_loopw [8] (fun v wr => ∃ (i : Nat) (pre : List DRec) (fp : Nat → Prop) (d : DS), v = .int .i64 i ∧ i ≤ ns.length ∧ pre.map DRec.name = ns.take i ∧ J pre wr ∧ DiskMb wr fp p mb d ∧ namesOf d = ns ∧ wr.cell? ⟨Bx, 0, none⟩ = some (.pointer (some ⟨p, 0, none⟩)) ∧ ¬ fp Bx ∧ Row wr W.heap.size 9 1 a ns.length c (ns.map encStr) ∧ (∀ x, a = some x → ¬ fp x.block) ∧ W.heap.size ≤ wr.heap.size) (fun v _ => ns.length - (intOf v).toNat)
  case atStart => exact ⟨0, [], fp, d, rfl, Nat.zero_le _, by simp, hJ1, hd1, hns, hbx1, hxf, hrow, fun x hx hf => by
    obtain ⟨g, e, h2, _⟩ := row_at hrow hx
    have := hlow _ hf
    omega, hs1⟩
  case round =>
    obtain ⟨i, pre, fp, d, rfl, hi, hpre, hJs, hdw, hnd, hbw, hxf, hrw, hgf, hsw⟩ := hrel
    by_cases hlt : i < ns.length
    · obtain ⟨nm, hnm⟩ : ∃ nm, ns[i]? = some nm := ⟨_, List.getElem?_eq_getElem hlt⟩
      obtain ⟨g, rfl, hgB, hgl, hgc⟩ := hrw.at_ (j := i) (x := encStr nm) (by rw [List.getElem?_map, hnm]; rfl)
      have hgc' : wr.cell? ⟨g, i, none⟩ = some (.string ⟨nm.toArray⟩) := hgc
      have hlt' : (i : Int) < (ns.length : Int) := by omega
      have hcm : wr.cell? ⟨p, 0, none⟩ = some (.map (some mb)) := by obtain ⟨fv, hd⟩ := hdw; exact hd.cell.1
      obtain ⟨fv, hraw⟩ := hdw
      have hnl : nm.length ≤ 16 := by
        have hm : nm ∈ namesOf d := by rw [hnd]; exact List.mem_of_getElem? hnm
        obtain ⟨x, hx, rfl⟩ := List.mem_map.1 hm
        exact hraw.ok.name x hx
      have hlk := hraw.look_plain ⟨nm.toArray⟩ (by show nm.toArray.size ≤ _; unfold maxLen; simp; omega)
      have hfd := field_bytes
      have HO := Lib.hid (hraw.old nm)
      have HF := Lib.hid (hraw.fil nm)
      have hus := old_used hraw.ok nm
      have hu2 := hraw.ok.used
      rw [HO.out] at hus
      have hlk' : (Instr.lookup 44 (.map (some mb)) (.string ⟨nm.toArray⟩) false).run Tryz.prog wr = .ok (.agg #[.slice (getF fv nm).a (getF fv nm).n (getF fv nm).c, .int .i64 ((getF fv nm).sure : Int)]) wr := hlk
      clear hlk hgc
      obtain ⟨f, hfe⟩ : ∃ f, getF fv nm = f := ⟨_, rfl⟩
      rw [hfe] at hlk' HO HF hus
      have hfn : f.n ≤ 16777216 := by have h1 : f.bs.length ≤ used d.files := hus; have h2 : f.bs.length = f.n := HF.out.1; omega
      have HP := Lib.hid hpre
      have HN := Lib.hid hnm
      have hdm : DiskMb wr fp p mb d := ⟨fv, hraw⟩
      have HD := Lib.hid hdm
      clear hdm
      clear hpre hnm hus hfe hraw
      gi_wp2_with fail
      refine ⟨trivial, ?_⟩
      refine (callsIn_wide.2 (clone_any f.a f.n f.c f.bs wr HF.out.1 (by omega) HF.out.rd)).mono ?_
      rintro e w2 ⟨a2, c2, rfl, ho2, hb2⟩
      have hd2 := HD.out.below hb2
      have hJ2 : J pre w2 := hJ pre wr w2 none hJs (grown_below hb2 none) (fun r e => by cases e)
      have hf2 : f.bs.length = f.n := HF.out.1
      have hok : DOk B p mb ns pre ⟨nm, f.bs, a2, c2⟩ w2 := by
        refine ⟨?_, ?_, fp, d, hd2, hnd, by rw [HO.out]; rfl, fun x hx hf => ?_⟩
        · rw [HP.out]
          refine ⟨ns.drop (i + 1), ?_⟩
          have : ns.take i ++ [nm] = ns.take (i + 1) := by rw [List.take_add_one, HN.out]; rfl
          show ns.take i ++ [nm] ++ _ = _
          rw [this, List.take_append_drop]
        · show Own w2 B a2 f.bs.length c2 f.bs
          rw [hf2]; exact ho2.lower (by omega)
        · have := HD.out.at.lt _ hf
          obtain ⟨g', e, h2, _⟩ := row_at ho2.row hx
          omega
      obtain ⟨fn, tmps, assign, body, hy, hR⟩ := hY pre ⟨nm, f.bs, a2, c2⟩ w2 hJ2 hok
      simp only [DRec.encs, hf2] at hy
      have hbw2 := (hb2.cell (p := ⟨Bx, 0, none⟩) (block_lt_of_cell hbw)).trans hbw
      have hrw2 := hrw.call hb2
      have hs2 := hb2.size
      clear hok hY hJ ho2 hb2 hJ2 hJs hcm hlk' hgc'
      gi_wp2
      refine hR.mono ?_
      rintro e W3 (⟨rfl, hJ3, hk3⟩ | ⟨rfl, hJx3⟩)
      · obtain ⟨fp3, d3, hd3, hn3, hf3, hs3, hb3⟩ := hk3 fp d hd2 hnd
        have hnmx : ¬ May S fp B w2 Bx := by
          rintro (h | h | ⟨h, _⟩)
          · exact hxS h
          · exact hxf h
          · omega
        have hnmg : ¬ May S fp B w2 g := by
          rintro (h | h | ⟨_, o, ho, h⟩)
          · have := hSB _ h; omega
          · exact hgf _ rfl h
          · rcases hrw2.form with ⟨h0, _⟩ | ⟨g2, cur, e1, _, _, hh, _⟩
            · cases h0
            · injection e1 with e1; injection e1 with e1; subst e1
              rw [hh] at ho
              injection ho with ho
              subst ho
              rcases h with h | ⟨cur2, fr2, h⟩
              · cases h
              · injection h with _ h2 _
                exact absurd h2 (by decide)
        have hbw3 := (World.cell?_of_block (a := ⟨Bx, 0, none⟩) (hb3 Bx (block_lt_of_cell hbw2) hnmx)).trans hbw2
        have hrw3 : Row W3 W.heap.size 9 1 (some ⟨g, 0, none⟩) ns.length c (ns.map encStr) := by
          refine ⟨hrw2.1, ?_⟩
          rcases hrw2.2 with h2 | ⟨g2, cap, cur, hv, hbb, hh, hr⟩
          · exact .inl h2
          · refine .inr ⟨g2, cap, cur, hv, hbb, ?_, hr⟩
            injection hv with e1
            injection e1 with e1
            injection e1 with e1
            subst e1
            exact (hb3 g (Array.getElem?_eq_some_iff.1 hh).1 hnmg).trans hh
        gi_wp2
        go_roundw
        case rel => exact ⟨i + 1, pre ++ [⟨nm, f.bs, a2, c2⟩], fp3, d3, by go_num, by omega, by rw [List.map_append, HP.out, List.take_add_one, HN.out]; rfl, hJ3, hd3, hn3, hbw3, fun h => by
            rcases hf3 _ h with h | h
            · exact hxf h
            · have := block_lt_of_cell hbw2
              have hlx2 : Bx < w2.heap.size := this
              omega, hrw3, fun x hx h => by
            injection hx with hx; subst hx
            rcases hf3 _ h with h | h
            · exact hgf _ rfl h
            · have h' : w2.heap.size ≤ g := h
              omega, by omega⟩
        case measure => simp [intOf]; omega
      · gi_wp2
        go_goals
        refine bodyPost_ret (results_none rfl _ _ _) rfl ?_
        exact ⟨⟨_, rfl⟩, .inr ⟨pre ++ [⟨nm, f.bs, a2, c2⟩], ⟨ns.drop (i + 1), by
          rw [List.map_append, HP.out]
          have : ns.take i ++ [nm] = ns.take (i + 1) := by rw [List.take_add_one, HN.out]; rfl
          show ns.take i ++ [nm] ++ _ = _
          rw [this, List.take_append_drop]⟩, hJx3⟩⟩
    · obtain rfl : i = ns.length := by omega
      have hpre' : pre.map DRec.name = ns := by rw [hpre, List.take_length]
      have HP := Lib.hid hpre'
      clear hpre hpre'
      gi_wp2
      go_end0
      exact ⟨⟨_, rfl⟩, .inl ⟨pre, HP.out, hJs⟩⟩

/-- disk.All's value keeps its promise in every later world -/
theorem dall_stops (n : Nat) (hn1 : 1 ≤ n) (Bx B p mb : Nat) (S : Nat → Prop) (ns : List Nm) (w : World) (hbx : w.cell? ⟨Bx, 0, none⟩ = some (.pointer (some ⟨p, 0, none⟩))) (hxS : ¬ S Bx) (hB : B ≤ w.heap.size) (hSB : ∀ k, S k → k < B) (fp : Nat → Prop) (d : DS) (hd : DiskMb w fp p mb d) (hns : namesOf d = ns) (hxf : ¬ fp Bx) (hxB : Bx < B) :
    SeqOk Fence.wide n Tryz.prog 61 #[.pointer (some ⟨Bx, 0, none⟩)] DRec.encs (DOk B p mb ns) (DKp S B p mb ns) (fun ys => ys.map DRec.name = ns) (fun pre => pre.map DRec.name <+: ns) w :=
  fun l J Jx W hW hJ _ hY h0 => dall1_in n hn1 l Bx B p mb S ns J Jx W hJ hY ((hW.cell (p := ⟨Bx, 0, none⟩) (block_lt_of_cell hbx)).trans hbx) hxS (Nat.le_trans hB hW.size) hSB fp d (hd.below hW) hns hxf hxB h0
end Go.Proofs.YtopnhplacdbkdaaGreat
