/- The walk of the disk's Crash. Condition: the disk lies behind the pointer; the list reads as bytes. -/
import Derived.Test.YtopnhplacdbkdaaGreatDiskAll
import Derived.Test.YtopnhplacdbkdaaGreatTailRound
namespace Go.Proofs.YtopnhplacdbkdaaGreat
open Go.RowKit DiskM Go.Shelf
attribute [local go_sem] Oper.semAt_some

theorem slice_hm_b (w : World) (a : Option Addr) (len cap : Nat) (kh km : IntKind) (h m : Int) (h0 : 0 ≤ h) (h1 : h ≤ m) (h2 : m ≤ cap) :
    (Instr.slice 30 (.slice a len cap) none (some (.int kh h)) (some (.int km m))).run Tryz.prog w = .ok (.slice a h.toNat m.toNat) w := by
  rw [run_slice_hm w _ a len cap under_bytes kh km h m h0 h1 h2, size_u8]
  have := cutA_zero a m.toNat 1
  show Result.ok (Value.slice (cutA a m.toNat 0 1) _ _) w = _
  rw [this, Nat.sub_zero, Nat.sub_zero]

theorem DiskMb.grown {A B : World} {fp : Nat → Prop} {p mb : Nat} {d : DS} (h : DiskMb A fp p mb d) {row : Option Nat} (hg : A.grownBy B row) (hr : ∀ r, row = some r → mb ≠ r ∧ ∃ o : Obj, A.heap[r]? = some o ∧ o.isCells = false) : DiskMb B fp p mb d := by
  obtain ⟨fv, h⟩ := h
  have hc : ∀ (k : Nat) (cs : Array Value) (t : TypeId) (f : Nat × Nat), A.heap[k]? = some (Obj.cells cs t f) → B.heap[k]? = A.heap[k]? := by
    intro k cs t f hk
    refine hg.block k (Array.getElem?_eq_some_iff.1 hk).1 fun e => ?_
    obtain ⟨_, o, ho, hno⟩ := hr k e.symm
    rw [hk] at ho
    injection ho with ho
    rw [← ho] at hno; cases hno
  refine ⟨fv, h.keepc (hc _ _ _ _ h.cells) (hg.block mb h.map.lt fun e => (hr mb e.symm).1 rfl) (fun x hx ad ha => ?_) hg.size⟩
  obtain ⟨cur, hh⟩ := (h.rows x hx).1.cellsAt ad ha
  exact hc _ _ _ _ hh
theorem Turn.past {fp : Nat → Prop} {w A B : World} (h : Turn fp w A) {row : Option Nat} (hg : A.grownBy B row) (hr : ∀ r, row = some r → w.heap.size ≤ r) : Turn fp w B :=
  ⟨hg.os.trans h.os, hg.tape.trans h.tape, hg.output.trans h.output, Nat.le_trans h.size hg.size, fun k hk hn => (hg.block k (Nat.lt_of_lt_of_le hk h.size) (fun e => by have := hr k e.symm; omega)).trans (h.block k hk hn)⟩
theorem DOk.putObj {B p mb : Nat} {ns : List Nm} {pre : List DRec} {r : DRec} {W : World} (h : DOk B p mb ns pre r W) (hm : mb < B) {l : Nat} {o o' : Obj} (hl : B ≤ l) (hw : W.heap[l]? = some o) (ho : o.isCells = false) : DOk B p mb ns pre r (W.putObj l o') := by
  obtain ⟨h1, h2, fp, d, h3, h4, h5, h6⟩ := h
  refine ⟨h1, ?_, fp, d, h3.putObj hw ho (by omega), h4, h5, h6⟩
  refine ⟨h2.1, ?_⟩
  rcases h2.2 with h | ⟨g, cap, cur, hv, hB, hh, hr⟩
  · exact .inl h
  · refine .inr ⟨g, cap, cur, hv, hB, (World.putObj_heap_other ?_).trans hh, hr⟩
    intro e
    rw [e, hw] at hh
    injection hh with hh
    rw [hh] at ho; cases ho

theorem crashTo_names (d : DS) (keep : List UInt8) (i : Nat) : namesOf (crashTo d keep i) = namesOf d := cutTo_names keep i d.files
/-- what a round of Crash gets -/
theorem crash_round {d : DS} (hok : d.Ok) (keep : List UInt8) {pre : List DRec} {x : DRec} {ns : List Nm} (hns : namesOf d = ns) (h : (pre.map DRec.name ++ [x.name]) <+: ns) :
    ∃ v, d.files[pre.length]? = some (x.name, v) ∧ DiskM.old (crashTo d keep pre.length) x.name = v ∧ v.2 ≤ v.1.length ∧
      DiskM.setF (crashTo d keep pre.length) x.name (cutF keep pre.length v) = crashTo d keep (pre.length + 1) ∧ (DiskM.look x.name (crashTo d keep pre.length).files).isSome = true := by
  obtain ⟨r, hr⟩ := h
  have hg : ns[pre.length]? = some x.name := by
    rw [← hr, List.append_assoc, List.getElem?_append_right (by simp)]
    simp
  rw [← hns] at hg
  unfold namesOf at hg
  rw [List.getElem?_map] at hg
  cases hf : d.files[pre.length]? with
  | none => rw [hf] at hg; cases hg
  | some p =>
    rw [hf] at hg
    simp only [Option.map_some, Option.some.injEq] at hg
    obtain ⟨nm, v⟩ := p
    simp only at hg
    subst hg
    have hris : Rising (cutTo keep pre.length d.files) := by
      have h1 := hok.rising
      unfold Rising at h1 ⊢
      have h2 : ((cutTo keep pre.length d.files).map (·.1)).Pairwise fun a b => lt a b = true := by rw [cutTo_names, List.pairwise_map]; exact h1
      exact List.pairwise_map.1 h2
    have hget : (cutTo keep pre.length d.files)[pre.length]? = some (x.name, v) := by rw [cutTo_get, hf]; simp
    have hlk := look_at hris hget
    refine ⟨v, rfl, ?_, hok.sure _ (List.mem_of_getElem? hf), ?_, ?_⟩
    · show (DiskM.look x.name (cutTo keep pre.length d.files)).getD ([], 0) = v
      rw [hlk]; rfl
    · show ({ crashTo d keep pre.length with files := DiskM.put x.name (cutF keep pre.length v) (cutTo keep pre.length d.files) } : DS) = _
      rw [put_set hris hget, ← cutTo_succ keep pre.length d.files hf]
      rfl
    · show (DiskM.look x.name (cutTo keep pre.length d.files)).isSome = true
      rw [hlk]; rfl

/-- a file's place is written, cut -/
theorem crash_put {U W : World} {fp' : Nat → Prop} {p mb : Nat} {fv : FVs} {dd : DS} {k : Nm} {f : FileV} {n1 : Nat} (hraw : DiskRaw U fp' p mb fv dd) (hsome : (DiskM.look k dd.files).isSome = true) (hfe : getF fv k = f) (hn1 : n1 ≤ f.n) (hb : Below U.heap.size U W) :
    ∃ W', (Instr.mapUpdate 44 (.map (some mb)) (.string ⟨k.toArray⟩) (.agg #[.slice f.a n1 n1, .int .i64 (n1 : Nat)])).run Tryz.prog W = .ok () W' ∧ (∃ fp2, DiskMb W' fp2 p mb (DiskM.setF dd k (f.bs.take n1, n1)) ∧ ∀ j, fp2 j → fp' j) ∧ W.grownBy W' (some mb) := by
  have hd := hraw.below hb
  have hnm : k.length ≤ 16 := name_le hraw.ok hsome
  have hf := hd.fil k
  have hfp := hd.filfp k
  have hold := hd.old k
  rw [hfe] at hf hfp hold
  have hlen : f.bs.length = f.n := hf.1
  have hsf : (DiskM.look k fv).isSome = true := by rw [← hraw.isSome]; exact hsome
  have hus := hraw.ok.used
  have hl2 : (f.bs.take n1).length = n1 := by rw [List.length_take]; omega
  obtain ⟨W', hrun, hd', hg⟩ := DiskBut.store (hd.but k) ⟨k.toArray⟩ rfl (by show k.toArray.size ≤ 16; simpa using hnm) ⟨f.a, n1, n1, f.bs.take n1, n1⟩ (hf.cut hn1)
    (fun x hx hxk ax ad hax had => hraw.apart x hx _ (getF_mem hsf) hxk ax ad hax (by rw [hfe]; exact had))
    (by show n1 ≤ (f.bs.take n1).length; omega) (by rw [hold]; show (f.bs.take n1).length + used dd.files ≤ 16777216 + f.bs.length; omega)
    (by rw [put_length_some hraw.ok.rising.apart hsome]; exact hraw.ok.few)
  refine ⟨W', hrun, ⟨_, ⟨_, hd'⟩, ?_⟩, hg⟩
  rintro j (hj | ⟨ad, ha, rfl⟩)
  · exact hj
  · exact hfp ad ha

theorem names_some {d : DS} (hok : d.Ok) {k : Nm} : (DiskM.look k d.files).isSome = true ↔ k ∈ namesOf d := by
  constructor
  · intro h
    obtain ⟨v, hv⟩ := Option.isSome_iff_exists.1 h
    exact List.mem_map.2 ⟨_, look_mem hv, rfl⟩
  · intro h
    obtain ⟨⟨k', v⟩, hx, rfl⟩ := List.mem_map.1 h
    rw [look_of_mem hok.rising.apart hx]; rfl
theorem names_set {d : DS} (hok : d.Ok) {k : Nm} (h : (DiskM.look k d.files).isSome = true) (v : List UInt8 × Nat) : namesOf (DiskM.setF d k v) = namesOf d := by
  obtain ⟨x, hx⟩ := Option.isSome_iff_exists.1 h
  obtain ⟨i, hi, he⟩ := List.getElem_of_mem (look_mem hx)
  show (DiskM.put k v d.files).map (·.1) = d.files.map (·.1)
  have hg : d.files[i]? = some (k, x) := by rw [List.getElem?_eq_getElem hi, he]
  rw [put_set hok.rising hg, List.map_set]
  refine List.ext_getElem? fun j => ?_
  rw [List.getElem?_set]
  split
  · next e =>
    subst e
    rw [List.getElem?_map, hg]; simp [hi]
  · rfl
/-- whatever the disk's footprint is said to be -/
theorem crash_all {U W W' : World} {fp' : Nat → Prop} {p mb : Nat} {fv : FVs} {dd : DS} {k : Nm} {f : FileV} {n1 : Nat} (hraw : DiskRaw U fp' p mb fv dd) (hsome : (DiskM.look k dd.files).isSome = true) (hfe : getF fv k = f) (hn1 : n1 ≤ f.n) (hb : Below U.heap.size U W)
    (hrun : (Instr.mapUpdate 44 (.map (some mb)) (.string ⟨k.toArray⟩) (.agg #[.slice f.a n1 n1, .int .i64 (n1 : Nat)])).run Tryz.prog W = .ok () W') :
    ∀ fq dq, DiskMb U fq p mb dq → namesOf dq = namesOf dd → ∃ fp2 d2, DiskMb W' fp2 p mb d2 ∧ namesOf d2 = namesOf dd ∧ ∀ j, fp2 j → fq j := by
  rintro fq dq ⟨fvq, hq⟩ hns
  have hnm : k.length ≤ 16 := name_le hraw.ok hsome
  have h1 := hraw.look_plain ⟨k.toArray⟩ (by show k.toArray.size ≤ _; unfold maxLen; simp; omega)
  rw [hq.look_plain ⟨k.toArray⟩ (by show k.toArray.size ≤ _; unfold maxLen; simp; omega)] at h1
  have hs2 : (DiskM.look k dq.files).isSome = true := by rw [names_some hq.ok, hns, ← names_some hraw.ok]; exact hsome
  have e : getF fvq k = getF fvq (⟨k.toArray⟩ : ByteArray).data.toList := rfl
  have e2 : getF fv k = getF fv (⟨k.toArray⟩ : ByteArray).data.toList := rfl
  injection h1 with h1 _
  injection h1 with h1
  injection h1 with h1
  simp only [List.cons.injEq, Value.slice.injEq, Value.int.injEq, true_and, and_true] at h1
  obtain ⟨⟨ha, hn, hc⟩, hs⟩ := h1
  rw [← e, ← e2, hfe] at ha hn
  obtain ⟨W2, hr2, ⟨fp2, hd2, hf2⟩, _⟩ := crash_put hq hs2 rfl (show n1 ≤ (getF fvq k).n by omega) hb
  rw [ha, hrun] at hr2
  injection hr2 with _ hr2
  subst hr2
  exact ⟨fp2, _, hd2, (names_set hq.ok hs2 _).trans hns, hf2⟩

/-- the counter's block -/
def Ctr (U : World) (b k : Nat) : Prop := U.heap[b]? = some (.cells #[.int .i64 (k : Nat)] 3 (0, 0))
theorem Ctr.box {U : World} {b k : Nat} (h : Ctr U b k) : Box U b (.int .i64 (k : Nat)) := ⟨cell_of_row _ _ 0 _ _ _ h, frozen_of_row _ _ 0 _ _ h⟩

/-- the end of a round of Crash -/
theorem crash_end {w w1 U W W' : World} {fp fp' : Nat → Prop} {p mb n c : Nat} {a : Option Addr} {d : DS} {keep : List UInt8} {pre : List DRec} {x : DRec} (hml : mb < w.heap.size) (hna : keep = [] ∨ ∀ x, a = some x → ¬ fp x.block) (hsz1 : w1.heap.size = w.heap.size + 4)
    (k2 : Box U w.heap.size (.pointer (some ⟨p, 0, none⟩))) (k3 : Box U (w.heap.size + 1) (.slice a n c)) (k4 : Ctr U (w.heap.size + 1 + 1) pre.length) (hr : Rd U w.heap.size a keep) (hlt : ∀ k, fp k → k < w.heap.size)
    (hfp' : ∀ k, fp' k → fp k ∨ w1.heap.size ≤ k) (hT : Turn fp w U) (hsU : w1.heap.size ≤ U.heap.size) (hd0 : DiskMb U fp' p mb (crashTo d keep pre.length)) (hb : Below U.heap.size U W) (hg : W.grownBy W' (some mb))
    (hd : ∃ fp2, DiskMb W' fp2 p mb (crashTo d keep (pre.length + 1)) ∧ ∀ j, fp2 j → fp' j)
    (hall : ∀ fq dq, DiskMb U fq p mb dq → namesOf dq = namesOf d → ∃ fp2 d2, DiskMb W' fp2 p mb d2 ∧ namesOf d2 = namesOf d ∧ ∀ j, fp2 j → fq j) :
    KeepsFrom w1.heap.size U (W'.setCell ⟨w.heap.size + 1 + 1, 0, none⟩ (.int .i64 ((pre.length : Int) + 1))) ∧ DKp (fun k => k = w.heap.size + 2) w1.heap.size p mb (namesOf d) U (W'.setCell ⟨w.heap.size + 1 + 1, 0, none⟩ (.int .i64 ((pre.length : Int) + 1))) ∧
    (fun (pre : List DRec) U => Box U w.heap.size (.pointer (some ⟨p, 0, none⟩)) ∧ Box U (w.heap.size + 1) (.slice a n c) ∧ Ctr U (w.heap.size + 1 + 1) pre.length ∧ Rd U w.heap.size a keep ∧ (∃ fp', DiskMb U fp' p mb (crashTo d keep pre.length) ∧ ∀ k, fp' k → fp k ∨ w1.heap.size ≤ k) ∧ Turn fp w U ∧ w1.heap.size ≤ U.heap.size) (pre ++ [x]) (W'.setCell ⟨w.heap.size + 1 + 1, 0, none⟩ (.int .i64 ((pre.length : Int) + 1))) := by
  obtain ⟨fp2, hd2, hf2⟩ := hd
  have hmf : fp mb := by
    obtain ⟨fv, h⟩ := hd0
    rcases hfp' mb h.fpm with h | h
    · exact h
    · omega
  have hoth : ∀ j, j ≠ w.heap.size + 1 + 1 → (W'.setCell ⟨w.heap.size + 1 + 1, 0, none⟩ (.int .i64 ((pre.length : Int) + 1))).heap[j]? = W'.heap[j]? := fun j hj => Below.heap_setCell _ _ _ _ hj
  have hs1 := hb.size
  have hs2 := hg.size
  have hlow : ∀ j, j < U.heap.size → j ≠ mb → W'.heap[j]? = U.heap[j]? := fun j hj hq => (hg.block j (by omega) (fun e => hq (by injection e))).trans (hb.block j hj)
  have hsz : (W'.setCell ⟨w.heap.size + 1 + 1, 0, none⟩ (.int .i64 ((pre.length : Int) + 1))).heap.size = W'.heap.size := by simp [World.setCell]
  have g4 : W'.heap[w.heap.size + 1 + 1]? = some (.cells #[.int .i64 (pre.length : Nat)] 3 (0, 0)) := (hlow (w.heap.size + 1 + 1) (by omega) (by omega)).trans k4
  have hboth : ∀ j, j < U.heap.size → j ≠ mb → j ≠ w.heap.size + 1 + 1 → (W'.setCell ⟨w.heap.size + 1 + 1, 0, none⟩ (.int .i64 ((pre.length : Int) + 1))).heap[j]? = U.heap[j]? := fun j hj h1 h2 => (hoth j h2).trans (hlow j hj h1)
  have hd3 : DiskMb (W'.setCell ⟨w.heap.size + 1 + 1, 0, none⟩ (.int .i64 ((pre.length : Int) + 1))) fp2 p mb (crashTo d keep (pre.length + 1)) := by
    obtain ⟨fv, h⟩ := hd2
    refine ⟨fv, h.keep (fun j hj => hoth j ?_) (by omega)⟩
    rcases hfp' j (hf2 j hj) with h | h
    · have := hlt j h; omega
    · omega
  refine ⟨?_, ?_, ?_⟩
  · have h1 : KeepsFrom w1.heap.size U W := KeepsFrom.of_grownBy (row := none) (grown_below hb none) (fun j e => by cases e)
    exact (h1.trans (KeepsFrom.of_grownBy hg (fun j e => by injection e with e; omega))).trans ((KeepsOthers.setCell _ _ _).from _)
  · intro fq dq hdq hnq
    obtain ⟨fp3, d3, ⟨fv3, hd3⟩, hn3, hf3⟩ := hall fq dq hdq hnq
    have hne : ∀ k cs t f, t ≠ 3 → W'.heap[k]? = some (.cells cs t f) → k ≠ w.heap.size + 1 + 1 := by
      intro k cs t f ht hk e
      rw [e, g4] at hk
      injection hk with hk
      injection hk with _ hk _
      exact ht hk.symm
    refine ⟨fp3, d3, ⟨fv3, hd3.keepc (hoth p (hne _ _ _ _ (by decide) hd3.cells)) (hoth mb (by omega)) (fun x hx ad ha => by
      obtain ⟨cur, hh⟩ := (hd3.rows x hx).1.cellsAt ad ha
      exact hoth _ (hne _ _ _ _ (by decide) hh)) (by omega)⟩, hn3, fun k hk => .inl (hf3 k hk), by omega, ?_⟩
    obtain ⟨fvq, hqr⟩ := hdq
    exact fun j hj hm => hboth j hj (fun e => hm (.inr (.inl (e ▸ hqr.fpm)))) (fun e => hm (.inl e))
  · refine ⟨⟨?_, ?_⟩, ⟨?_, ?_⟩, ?_, ?_, ⟨fp2, by rw [List.length_append]; exact hd3, fun k hk => hfp' k (hf2 k hk)⟩, ?_, by omega⟩
    · exact (World.cell?_of_block (a := ⟨w.heap.size, 0, none⟩) (hboth (w.heap.size) (by omega) (by omega) (by omega))).trans k2.1
    · exact (World.frozen?_of_block (a := ⟨w.heap.size, 0, none⟩) (hboth (w.heap.size) (by omega) (by omega) (by omega))).trans k2.2
    · exact (World.cell?_of_block (a := ⟨w.heap.size + 1, 0, none⟩) (hboth (w.heap.size + 1) (by omega) (by omega) (by omega))).trans k3.1
    · exact (World.frozen?_of_block (a := ⟨w.heap.size + 1, 0, none⟩) (hboth (w.heap.size + 1) (by omega) (by omega) (by omega))).trans k3.2
    · have := heap_setCell_same W' (w.heap.size + 1 + 1) 0 _ _ (.int .i64 ((pre.length : Int) + 1)) g4
      rw [List.length_append]
      exact this
    · rcases hna with h0 | hna
      · exact .inl h0
      refine hr.imp id ?_
      rintro ⟨b, o, rfl, hbl, hc⟩
      have hbm : b ≠ mb := fun e => hna _ rfl (e ▸ hmf)
      exact ⟨b, o, rfl, hbl, fun j x hx => (World.cell?_of_block (a := ⟨b, o + j, none⟩) (hboth b (by omega) hbm (by omega))).trans (hc j x hx)⟩
    · have h1 := ((hT.trans0 (Turn.of_below hb _)).trans0 (Turn.of_grown hg (fun r hr _ => by injection hr with hr; rw [← hr]; exact hmf))).more (fp' := fun j => fp j ∨ j = w.heap.size + 1 + 1) (fun k _ h => .inl h)
      exact (h1.trans0 (Turn.setCell _ W' (p := ⟨w.heap.size + 1 + 1, 0, none⟩) (.inr rfl) _)).more (fun k hk h => h.resolve_right (by omega))

set_option maxRecDepth 100000 in
set_option maxHeartbeats 4000000 in
theorem crash_any {w : World} {fp : Nat → Prop} {p : Nat} {d : DS} (h : DiskAt w fp p d) (a : Option Addr) (n c : Nat) (keep : List UInt8) (hn : keep.length = n) (hrd : Rd w w.heap.size a keep) (hna : keep = [] ∨ ∀ x, a = some x → ¬ fp x.block) :
    Calls Tryz.prog 25 #[.pointer (some ⟨p, 0, none⟩), .slice a n c] w fun e w' => e = .returned (.tuple #[]) ∧ ∃ fp', DiskAt w' fp' p (crash d keep) ∧ (∀ k, fp' k → fp k ∨ w.heap.size ≤ k) ∧ Turn fp w w' := by
  refine (callsIn_wide (n := 6)).1 ?_
  refine callsIn_of_wp_marks Tryz.func25 rfl trivial ?_ rfl
  simp only [Tryz.ntmps25, List.size_toArray, List.length_cons, List.length_nil, Nat.reduceAdd, Nat.reduceSub, Array.replicate_succ, Array.replicate_zero, List.push_toArray, List.append_toArray, List.nil_append, List.cons_append]
  have hok := h.ok
  obtain ⟨mb, hmb⟩ := h
  have hD : DiskMb w fp p mb d := hmb
  have hlt := hD.at.lt
  have hfp0 : fp p := hD.at.fpp
  have hpl0 : p < w.heap.size := hlt p hfp0
  have hml : mb < w.heap.size := by obtain ⟨fv, h⟩ := hD; exact h.map.lt
  have HN := Lib.hid hn
  clear hn hmb
  -- the three boxes
  have hb0 : Below w.heap.size w (((w.alloc (.cells #[.pointer (some ⟨p, 0, none⟩)] 25)).alloc (.cells #[.slice a n c] 30)).alloc (.cells #[.int .i64 0] 3)) := (((Below.refl _ _).alloc (Nat.le_refl _) _).alloc (by simp) _).alloc (by simp; omega) _
  have x2 := ((Box.new w (.pointer (some ⟨p, 0, none⟩)) 25).alloc (.cells #[.slice a n c] 30)).alloc (.cells #[.int .i64 0] 3)
  have x3 := (Box.new (w.alloc (.cells #[.pointer (some ⟨p, 0, none⟩)] 25)) (.slice a n c) 30).alloc (.cells #[.int .i64 0] 3)
  have x4c : Ctr (((w.alloc (.cells #[.pointer (some ⟨p, 0, none⟩)] 25)).alloc (.cells #[.slice a n c] 30)).alloc (.cells #[.int .i64 0] 3)) (w.heap.size + 1 + 1) 0 := by
    have := heap_alloc_new ((w.alloc (.cells #[.pointer (some ⟨p, 0, none⟩)] 25)).alloc (.cells #[.slice a n c] 30)) (.cells #[.int .i64 0] 3)
    rw [World.size_alloc, World.size_alloc] at this
    exact this
  have x4 := Box.new ((w.alloc (.cells #[.pointer (some ⟨p, 0, none⟩)] 25)).alloc (.cells #[.slice a n c] 30)) (.int .i64 0) 3
  simp only [World.size_alloc] at x3 x4
  have hsz0 : (((w.alloc (.cells #[.pointer (some ⟨p, 0, none⟩)] 25)).alloc (.cells #[.slice a n c] 30)).alloc (.cells #[.int .i64 0] 3)).heap.size = w.heap.size + 3 := by simp
  have hr0 := hrd.below hb0
  have hd0 := hD.below hb0
  clear hrd hD
  gi_wp2_with fail
  refine ⟨trivial, ?_⟩
  generalize (((w.alloc (.cells #[.pointer (some ⟨p, 0, none⟩)] 25)).alloc (.cells #[.slice a n c] 30)).alloc (.cells #[.int .i64 0] 3)) = w0 at *
  refine (callsIn_wide.2 (dall_any p w0)).mono ?_
  rintro e w1 ⟨rfl, rfl⟩
  have hb1 : Below w0.heap.size w0 (w0.alloc (.cells #[.pointer (some ⟨p, 0, none⟩)] 25)) := (Below.refl _ _).alloc (Nat.le_refl _) _
  have hB1 := Below.next0 hb0 hb1
  have y2 := x2.call hb1
  have y3 := x3.call hb1
  have y4 := x4.call hb1
  have y4c : Ctr (w0.alloc (.cells #[.pointer (some ⟨p, 0, none⟩)] 25)) (w.heap.size + 1 + 1) 0 := (hb1.block _ (by omega)).trans x4c
  have y5 := Box.new w0 (.pointer (some ⟨p, 0, none⟩)) 25
  have hr1 := hr0.below (hb1.mono (by omega))
  have hd1 := hd0.below hb1
  have hsz1 : (w0.alloc (.cells #[.pointer (some ⟨p, 0, none⟩)] 25)).heap.size = w.heap.size + 4 := by simp; omega
  clear hb0 hb1 x2 x3 x4 x4c hr0 hd0
  rw [hsz0] at y5 ⊢
  clear hsz0
  generalize w0.alloc (.cells #[.pointer (some ⟨p, 0, none⟩)] 25) = w1 at *
  gi_wp2_with fail
  have hd1' : DiskMb w1 fp p mb (crashTo d keep ([] : List DRec).length) := by
    have e : crashTo d keep 0 = d := by unfold crashTo; rw [cutTo_zero]
    rw [List.length_nil, e]; exact hd1
  refine wpIn_range_ok rfl (by omega) (gf := 61) (lb := #[.pointer (some ⟨w.heap.size + 3, 0, none⟩)]) rfl trivial (enters_of Tryz.func61 (by kernel_rfl) rfl)
    (dall_stops _ (by omega) (w.heap.size + 3) w1.heap.size p mb (fun k => k = w.heap.size + 2) (namesOf d) w1 y5.1 (by omega) (Nat.le_refl _) (fun k hk => by omega) fp d hd1 rfl (fun hf => by have := hlt _ hf; omega) (by omega))
    (fun h k => h.trans k) (fun W l o o' hl hw ho => DKp.turn (by omega) W l o o' hl hw ho) (fun pre x W l o o' hk hl hw ho => hk.putObj (by omega) hl hw ho) (Below.refl _ _) (fun _ => rfl)
    (fun pre U => Box U w.heap.size (.pointer (some ⟨p, 0, none⟩)) ∧ Box U (w.heap.size + 1) (.slice a n c) ∧ Ctr U (w.heap.size + 1 + 1) pre.length ∧ Rd U w.heap.size a keep ∧ (∃ fp', DiskMb U fp' p mb (crashTo d keep pre.length) ∧ ∀ k, fp' k → fp k ∨ w1.heap.size ≤ k) ∧ Turn fp w U ∧ w1.heap.size ≤ U.heap.size)
    (fun _ _ _ => False)
    (fun s A B row hs hg hr => ⟨hs.1.turned hg (fun r e => (hr r e).2), hs.2.1.turned hg (fun r e => (hr r e).2), ((grownBy_keeps_cells hg (fun r e => (hr r e).2) hs.2.2.1 rfl).trans hs.2.2.1), hs.2.2.2.1.turned hg (fun r e => (hr r e).2),
      (by obtain ⟨fp', h1, h2⟩ := hs.2.2.2.2.1; exact ⟨fp', h1.grown hg (fun r e => ⟨by have := (hr r e).1; omega, (hr r e).2⟩), h2⟩),
      hs.2.2.2.2.2.1.past hg (fun r e => by have := (hr r e).1; omega), Nat.le_trans hs.2.2.2.2.2.2 hg.size⟩)
    (fun _ _ _ _ _ hs _ _ => hs)
    ⟨y2, y3, y4c, hr1, ⟨fp, hd1', fun k hk => .inl hk⟩, Turn.of_below hB1 fp, Nat.le_refl _⟩
    ?_ ?_ ?_ ?_ ?_
  case refine_2 =>
    intro l x U K hK
    simp only [DRec.encs]
    gi_wp2
    exact hK
  case refine_5 =>
    rintro D c pre U _ _ h _
    exact h.elim
  case refine_3 =>
    rintro l pre x U ⟨k2, k3, kc, hr, ⟨fp', hdU, hfp'⟩, hT, hsU⟩ hkok
    have k4 := kc.box
    obtain ⟨v, hfv, hold, hvle, hset, hsome⟩ := crash_round hok keep rfl hkok.1
    obtain ⟨fv, hraw⟩ := hdU
    have hnm : x.name.length ≤ 16 := name_le hraw.ok hsome
    have hfew := hok.few
    have hpl : pre.length < 1000000 := by have := (List.getElem?_eq_some_iff.1 hfv).1; omega
    have hcm := hraw.cell.1
    have hlk : (Instr.lookup 44 (.map (some mb)) (.string ⟨x.name.toArray⟩) false).run Tryz.prog U = .ok (.agg #[.slice (getF fv x.name).a (getF fv x.name).n (getF fv x.name).c, .int .i64 ((getF fv x.name).sure : Int)]) U := hraw.look_plain ⟨x.name.toArray⟩ (by show x.name.toArray.size ≤ _; unfold maxLen; simp; omega)
    have hfil := hraw.fil x.name
    have hffp := hraw.filfp x.name
    have habs := hraw.old x.name
    rw [hold] at habs
    obtain ⟨f, hfe⟩ : ∃ f, getF fv x.name = f := ⟨_, rfl⟩
    rw [hfe] at hlk hfil hffp habs
    have hus := old_used hraw.ok x.name
    have hu2 := hraw.ok.used
    rw [hold, habs] at hus
    have hfn : f.n ≤ 16777216 := by have h1 : f.bs.length ≤ used (crashTo d keep pre.length).files := hus; have h2 : f.bs.length = f.n := hfil.1; omega
    have hfs : f.sure ≤ f.n := by rw [habs] at hvle; have h1 : f.sure ≤ f.bs.length := hvle; have h2 : f.bs.length = f.n := hfil.1; omega
    obtain ⟨n1, hn1⟩ : ∃ n1, (cutF keep pre.length v).2 = n1 := ⟨_, rfl⟩
    have hcle := cutF_le keep pre.length v hvle
    rw [hn1] at hcle
    have hc2 := k2.1
    have hc3 := k3.1
    have hc4 := k4.1
    have hf4 := k4.2
    have hb1 : Below U.heap.size U (U.alloc (.cells #[.slice f.a f.n f.c, .int .i64 (f.sure : Int)] 70)) := (Below.refl _ _).alloc (Nat.le_refl _) _
    have hc10 : (U.alloc (.cells #[.slice f.a f.n f.c, .int .i64 (f.sure : Int)] 70)).heap[U.heap.size]? = some (.cells #[.slice f.a f.n f.c, .int .i64 (f.sure : Int)] 70 (0, 0)) := heap_alloc_new _ _
    have hs1 : U.heap.size < (U.alloc (.cells #[.slice f.a f.n f.c, .int .i64 (f.sure : Int)] 70)).heap.size := by simp
    have g4 : (U.alloc (.cells #[.slice f.a f.n f.c, .int .i64 (f.sure : Int)] 70)).cell? ⟨w.heap.size + 1 + 1, 0, none⟩ = some (.int .i64 (pre.length : Nat)) := (k4.call hb1).1
    have g3 : (U.alloc (.cells #[.slice f.a f.n f.c, .int .i64 (f.sure : Int)] 70)).cell? ⟨w.heap.size + 1, 0, none⟩ = some (.slice a n c) := (k3.call hb1).1
    have HFV := Lib.hid hfv
    have HOLD := Lib.hid hold
    have HABS := Lib.hid habs
    have HSET := Lib.hid hset
    have HSOME := Lib.hid hsome
    have HFE := Lib.hid hfe
    have HN1 := Lib.hid hn1
    have HRAW := Lib.hid hraw
    have HKOK := Lib.hid hkok
    clear hfv hold habs hset hsome hfe hn1 hraw hus hu2 hkok hfew
    have g0 : (U.alloc (.cells #[.slice f.a f.n f.c, .int .i64 (f.sure : Int)] 70)).cell? ⟨U.heap.size, 0, none⟩ = some (.slice f.a f.n f.c) := by rw [cell_of_row _ _ _ _ _ _ hc10]; rfl
    have g1 : (U.alloc (.cells #[.slice f.a f.n f.c, .int .i64 (f.sure : Int)] 70)).cell? ⟨U.heap.size, 1, none⟩ = some (.int .i64 (f.sure : Int)) := by rw [cell_of_row _ _ _ _ _ _ hc10]; rfl
    by_cases hik : pre.length < n
    · have hik' : (pre.length : Int) < (n : Int) := by omega
      obtain ⟨kb, ko, cb, rfl, hkb, hkx, hkc⟩ := hr.at_ (show pre.length < keep.length by rw [HN.out]; exact hik)
      have gk : (U.alloc (.cells #[.slice f.a f.n f.c, .int .i64 (f.sure : Int)] 70)).cell? ⟨kb, ko + pre.length, none⟩ = some (.int .u8 (cb.toNat : Int)) := (hb1.cell (p := ⟨kb, ko + pre.length, none⟩) (by show kb < _; omega)).trans hkc
      have hnn : n1 = f.sure + cb.toNat % (f.n - f.sure + 1) := by
        have h1 := HN1.out
        unfold cutF at h1
        simp only [hkx] at h1
        rw [HABS.out] at h1
        have h2 : f.sure + cb.toNat % (f.bs.length - f.sure + 1) = n1 := h1
        rw [hfil.1] at h2
        exact h2.symm
      have hmod : cb.toNat % (f.n - f.sure + 1) < f.n - f.sure + 1 := Nat.mod_lt _ (by omega)
      have e0 : IntKind.i64.wrap (cb.toNat : Int) = (cb.toNat : Int) := by have := CrcM.u8_lt cb; rw [IntKind.wrap_i64]; omega
      have e1 : IntKind.i64.wrap ((f.n : Int) - (f.sure : Int)) = (f.n : Int) - (f.sure : Int) := by rw [IntKind.wrap_i64]; omega
      have e2 : IntKind.i64.wrap ((f.n : Int) - (f.sure : Int) + 1) = (f.n : Int) - (f.sure : Int) + 1 := by rw [IntKind.wrap_i64]; omega
      have e3 : ((cb.toNat : Int)).tmod ((f.n : Int) - (f.sure : Int) + 1) = ((cb.toNat % (f.n - f.sure + 1) : Nat) : Int) := by
        rw [show ((f.n : Int) - (f.sure : Int) + 1) = ((f.n - f.sure + 1 : Nat) : Int) by omega, Int.ofNat_tmod]
      have e4 : IntKind.i64.wrap ((f.sure : Int) + ((cb.toNat % (f.n - f.sure + 1) : Nat) : Int)) = (n1 : Int) := by rw [IntKind.wrap_i64, hnn]; omega
      have e4' : IntKind.i64.wrap ((f.sure : Int) + (cb.toNat : Int) % (((f.n - f.sure : Nat) : Int) + 1)) = (n1 : Int) := by
        rw [show (((f.n - f.sure : Nat) : Int) + 1) = ((f.n - f.sure + 1 : Nat) : Int) by omega, ← Int.natCast_emod]; exact e4
      have e5 : ((f.n : Int) - (f.sure : Int) + 1 == 0) = false := by rw [beq_eq_false_iff_ne]; omega
      have e6 : ¬ ((f.n : Int) - (f.sure : Int) + 1 = 0) := by omega
      have hcb : cb.toNat < 256 := CrcM.u8_lt cb
      have hnle : n1 ≤ f.n := by omega
      have HNN := Lib.hid hnn
      clear hnn hkx hmod
      gi_wp2_with fail
      refine wpIn_region_quiet_round rfl (by kernel_rfl) (by kernel_rfl) (by kernel_rfl) ?_
      repeat (quiet_step_in (fail))
      refine wpQuietIn_nil ?_
      rintro _ ⟨nq, rfl⟩
      have hbW : Below U.heap.size U ((U.alloc (.cells #[.slice f.a f.n f.c, .int .i64 (f.sure : Int)] 70)).drewN nq).drew := (below_drewN hb1 nq).drew
      have hcW : ((U.alloc (.cells #[.slice f.a f.n f.c, .int .i64 (f.sure : Int)] 70)).drewN nq).drew.cell? ⟨U.heap.size, 0, none⟩ = some (.slice f.a f.n f.c) := g0
      obtain ⟨W4, hrun4, hd4, hg4⟩ := crash_put HRAW.out HSOME.out HFE.out hnle hbW
      have hall := crash_all HRAW.out HSOME.out HFE.out hnle hbW hrun4
      have hcut : (f.bs.take n1, n1) = cutF keep pre.length v := by
        have h1 := HN1.out
        have h2 : (cutF keep pre.length v).1 = v.1.take (cutF keep pre.length v).2 := rfl
        rw [h1, HABS.out] at h2
        rw [HABS.out] at h1 ⊢
        exact Prod.ext h2.symm h1.symm
      rw [hcut, HSET.out] at hd4
      have hdU : DiskMb U fp' p mb (crashTo d keep pre.length) := ⟨fv, HRAW.out⟩
      have hend := crash_end (x := x) hml hna hsz1 k2 k3 kc hr hlt hfp' hT hsU hdU hbW hg4 hd4 (fun fq dq hq hn => by
        obtain ⟨fp2, d2, h1, h2, h3⟩ := hall fq dq hq (hn.trans (crashTo_names d keep pre.length).symm)
        exact ⟨fp2, d2, h1, h2.trans (crashTo_names d keep pre.length), h3⟩)
      have HEND := Lib.hid hend
      have hslice := slice_hm_b ((U.alloc (.cells #[.slice f.a f.n f.c, .int .i64 (f.sure : Int)] 70)).drewN nq).drew f.a f.n f.c .i64 .i64 (n1 : Int) (n1 : Int) (by omega) (by omega) (by have : f.n ≤ f.c := hfil.2.1; omega)
      simp only [Int.toNat_natCast] at hslice
      have hk2 : ((U.alloc (.cells #[.slice f.a f.n f.c, .int .i64 (f.sure : Int)] 70)).drewN nq).drew.cell? ⟨w.heap.size, 0, none⟩ = some (.pointer (some ⟨p, 0, none⟩)) := (hbW.cell (p := ⟨w.heap.size, 0, none⟩) (by show w.heap.size < _; omega)).trans hc2
      have hkm : ((U.alloc (.cells #[.slice f.a f.n f.c, .int .i64 (f.sure : Int)] 70)).drewN nq).drew.cell? ⟨p, 0, none⟩ = some (.map (some mb)) := (hbW.cell (p := ⟨p, 0, none⟩) (block_lt_of_cell hcm)).trans hcm
      have hk4 : W4.cell? ⟨w.heap.size + 1 + 1, 0, none⟩ = some (.int .i64 (pre.length : Nat)) := (World.cell?_of_block (a := ⟨w.heap.size + 1 + 1, 0, none⟩) ((hg4.block (w.heap.size + 1 + 1) (by have := hbW.size; omega) (fun e => by injection e with e; omega)).trans (hbW.block _ (by omega)))).trans hc4
      have hf4' : W4.frozen? ⟨w.heap.size + 1 + 1, 0, none⟩ = false := (World.frozen?_of_block (a := ⟨w.heap.size + 1 + 1, 0, none⟩) ((hg4.block (w.heap.size + 1 + 1) (by have := hbW.size; omega) (fun e => by injection e with e; omega)).trans (hbW.block _ (by omega)))).trans hf4
      clear hend hall hd4 hg4 hcut hdU hcm hc2 hc3 hc4 hf4 g0 g1 g3 g4 hlk gk hkc hd1 hd1' hr hr1 k2 k3 k4 kc y2 y3 y4 y4c y5 hc10
      gi_wp2_with fail
      refine wpIn_region_still_tail l 12 (by kernel_rfl) (by kernel_rfl) (by kernel_rfl) ?_
      change wpStill _ _ ((U.alloc (.cells #[.slice f.a f.n f.c, .int .i64 (f.sure : Int)] 70)).drewN nq).drew (fun a' => wpListIn _ _ _ _ _ _ a' ((U.alloc (.cells #[.slice f.a f.n f.c, .int .i64 (f.sure : Int)] 70)).drewN nq).drew) _ _
      generalize ((U.alloc (.cells #[.slice f.a f.n f.c, .int .i64 (f.sure : Int)] 70)).drewN nq).drew = Wd at *
      simp only [List.take_succ_cons, List.take_zero, List.drop_succ_cons, List.drop_zero]
      repeat still_step
      refine wpStill_nil ?_
      gi_wp2_with fail
      first
        | exact HEND.out
        | (have h9 := HEND.out; rw [hsz1] at h9; exact h9)
    · have hik' : ¬ ((pre.length : Int) < (n : Int)) := by omega
      have hkx : keep[pre.length]? = none := List.getElem?_eq_none (by have := HN.out; omega)
      have hnn : n1 = f.sure := by
        have h1 := HN1.out
        unfold cutF at h1
        simp only [hkx] at h1
        rw [HABS.out] at h1
        exact h1.symm
      have hnle : n1 ≤ f.n := by omega
      clear hkx
      subst hnn
      gi_wp2_with fail
      have hbW : Below U.heap.size U ((U.alloc (.cells #[.slice f.a f.n f.c, .int .i64 (f.sure : Int)] 70))).drew := hb1.drew
      have hcW : ((U.alloc (.cells #[.slice f.a f.n f.c, .int .i64 (f.sure : Int)] 70))).drew.cell? ⟨U.heap.size, 0, none⟩ = some (.slice f.a f.n f.c) := g0
      obtain ⟨W4, hrun4, hd4, hg4⟩ := crash_put HRAW.out HSOME.out HFE.out hnle hbW
      have hall := crash_all HRAW.out HSOME.out HFE.out hnle hbW hrun4
      have hcut : (f.bs.take f.sure, f.sure) = cutF keep pre.length v := by
        have h1 := HN1.out
        have h2 : (cutF keep pre.length v).1 = v.1.take (cutF keep pre.length v).2 := rfl
        rw [h1, HABS.out] at h2
        rw [HABS.out] at h1 ⊢
        exact Prod.ext h2.symm h1.symm
      rw [hcut, HSET.out] at hd4
      have hdU : DiskMb U fp' p mb (crashTo d keep pre.length) := ⟨fv, HRAW.out⟩
      have hend := crash_end (x := x) hml hna hsz1 k2 k3 kc hr hlt hfp' hT hsU hdU hbW hg4 hd4 (fun fq dq hq hn => by
        obtain ⟨fp2, d2, h1, h2, h3⟩ := hall fq dq hq (hn.trans (crashTo_names d keep pre.length).symm)
        exact ⟨fp2, d2, h1, h2.trans (crashTo_names d keep pre.length), h3⟩)
      have HEND := Lib.hid hend
      have hslice := slice_hm_b ((U.alloc (.cells #[.slice f.a f.n f.c, .int .i64 (f.sure : Int)] 70))).drew f.a f.n f.c .i64 .i64 (f.sure : Int) (f.sure : Int) (by omega) (by omega) (by have : f.n ≤ f.c := hfil.2.1; omega)
      simp only [Int.toNat_natCast] at hslice
      have hk2 : ((U.alloc (.cells #[.slice f.a f.n f.c, .int .i64 (f.sure : Int)] 70))).drew.cell? ⟨w.heap.size, 0, none⟩ = some (.pointer (some ⟨p, 0, none⟩)) := (hbW.cell (p := ⟨w.heap.size, 0, none⟩) (by show w.heap.size < _; omega)).trans hc2
      have hkm : ((U.alloc (.cells #[.slice f.a f.n f.c, .int .i64 (f.sure : Int)] 70))).drew.cell? ⟨p, 0, none⟩ = some (.map (some mb)) := (hbW.cell (p := ⟨p, 0, none⟩) (block_lt_of_cell hcm)).trans hcm
      have hk4 : W4.cell? ⟨w.heap.size + 1 + 1, 0, none⟩ = some (.int .i64 (pre.length : Nat)) := (World.cell?_of_block (a := ⟨w.heap.size + 1 + 1, 0, none⟩) ((hg4.block (w.heap.size + 1 + 1) (by have := hbW.size; omega) (fun e => by injection e with e; omega)).trans (hbW.block _ (by omega)))).trans hc4
      have hf4' : W4.frozen? ⟨w.heap.size + 1 + 1, 0, none⟩ = false := (World.frozen?_of_block (a := ⟨w.heap.size + 1 + 1, 0, none⟩) ((hg4.block (w.heap.size + 1 + 1) (by have := hbW.size; omega) (fun e => by injection e with e; omega)).trans (hbW.block _ (by omega)))).trans hf4
      clear hend hall hd4 hg4 hcut hdU hcm hc2 hc3 hc4 hf4 g0 g1 g3 g4 hlk  hd1 hd1' hr hr1 k2 k3 k4 kc y2 y3 y4 y4c y5 hc10
      refine wpIn_region_still_tail l 12 (by kernel_rfl) (by kernel_rfl) (by kernel_rfl) ?_
      change wpStill _ _ ((U.alloc (.cells #[.slice f.a f.n f.c, .int .i64 (f.sure : Int)] 70))).drew (fun a' => wpListIn _ _ _ _ _ _ a' ((U.alloc (.cells #[.slice f.a f.n f.c, .int .i64 (f.sure : Int)] 70))).drew) _ _
      generalize ((U.alloc (.cells #[.slice f.a f.n f.c, .int .i64 (f.sure : Int)] 70))).drew = Wd at *
      simp only [List.take_succ_cons, List.take_zero, List.drop_succ_cons, List.drop_zero]
      repeat still_step
      refine wpStill_nil ?_
      gi_wp2_with fail
      first
        | exact HEND.out
        | (have h9 := HEND.out; rw [hsz1] at h9; exact h9)
  case refine_4 =>
    rintro D ys U hD hys ⟨k2, k3, kc, hr, ⟨fp', hdU, hfp'⟩, hT, hsU⟩ hK
    have hlen : ys.length = d.files.length := by
      have := congrArg List.length hys
      simpa [namesOf] using this
    rw [hlen] at hdU
    obtain ⟨fv, hraw⟩ := hdU
    have hc2 := k2.1
    have hc2d : U.drew.cell? ⟨w.heap.size, 0, none⟩ = some (.pointer (some ⟨p, 0, none⟩)) := hc2
    have hf4 : U.drew.frozen? ⟨p, 4, none⟩ = false := hraw.free 4
    have hf2 : (U.setCell ⟨p, 4, none⟩ (.bool false)).drew.frozen? ⟨p, 2, none⟩ = false := (World.frozen?_setCell U ⟨p, 4, none⟩ ⟨p, 2, none⟩ (.bool false)).trans (hraw.free 2)
    have hg4 : U.drew.cell? ⟨p, 4, none⟩ = some (.bool d.down) := hraw.cell.2.2.2.2
    have hg2 : (U.setCell ⟨p, 4, none⟩ (.bool false)).drew.cell? ⟨p, 2, none⟩ = some (.int .i64 d.left) := (World.cell?_setCell_other _ _ _ _ (by intro e; injection e with e1 e2; cases e2)).trans hraw.cell.2.2.1
    have hc2e : (U.setCell ⟨p, 4, none⟩ (.bool false)).drew.cell? ⟨w.heap.size, 0, none⟩ = some (.pointer (some ⟨p, 0, none⟩)) := (World.cell?_setCell_other _ _ _ _ (by intro e; injection e with e; omega)).trans hc2
    have HRAW := Lib.hid hraw
    clear hraw k2 k3 kc hr y2 y3 y4 y4c y5 hr1 hd1 hd1'
    gi_wp2_with fail
    gi_region
    have hd1 := HRAW.out.setF (d' := { crashTo d keep d.files.length with down := false }) 4 (.bool false) rfl rfl ⟨HRAW.out.ok.room, HRAW.out.ok.used, HRAW.out.ok.left0, HRAW.out.ok.left1, HRAW.out.ok.sure, HRAW.out.ok.name, HRAW.out.ok.few, HRAW.out.ok.rising⟩
    have hd2 := hd1.setF (d' := crash d keep) 2 (.int .i64 (-1)) rfl rfl ⟨HRAW.out.ok.room, HRAW.out.ok.used, by show (-1 : Int) ≤ -1; omega, by show (-1 : Int) ≤ _; omega, HRAW.out.ok.sure, HRAW.out.ok.name, HRAW.out.ok.few, HRAW.out.ok.rising⟩
    have hT2 : Turn fp w ((U.setCell ⟨p, 4, none⟩ (.bool false)).setCell ⟨p, 2, none⟩ (.int .i64 (-1))).drew := ((hT.trans0 (Turn.setCell fp U (p := ⟨p, 4, none⟩) hfp0 (.bool false))).trans0 (Turn.setCell fp _ (p := ⟨p, 2, none⟩) hfp0 (.int .i64 (-1)))).drew
    have hd3 : DiskMb ((U.setCell ⟨p, 4, none⟩ (.bool false)).setCell ⟨p, 2, none⟩ (.int .i64 (-1))).drew fp' p mb (crash d keep) := ⟨fv, hd2.drewN 1⟩
    have hK' : ((U.setCell ⟨p, 4, none⟩ (.bool false)).setCell ⟨p, 2, none⟩ (.int .i64 (-1))).drew.heap[D]? = some (.deferred (some [])) := ((KeepsOthers.setCell _ ⟨p, 2, none⟩ (.int .i64 (-1))).same D _ ((KeepsOthers.setCell U ⟨p, 4, none⟩ (.bool false)).same D _ hK rfl) rfl)
    refine ⟨by simp, .inl ⟨_, _, rfl, run_takeDeferred hK', ?_⟩⟩
    refine ⟨.tuple #[], results_none rfl _ _ _, rfl, fp', (hd3.putObj hK' rfl (by omega)).at, fun k hk => (hfp' k hk).imp id (fun h => by omega), ?_⟩
    exact hT2.past (grownBy_putObj' _ D (.deferred none)) (fun r hr => by injection hr with hr; omega)
end Go.Proofs.YtopnhplacdbkdaaGreat
