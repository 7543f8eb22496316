/- The walks of the disk's Read and List. Condition: the disk lies behind the pointer. -/
import Derived.Test.YtopnhplacdbkdaaGreatDiskOps
import Derived.Test.YtopnhplacdbkdaaGreatShelf
import Derived.OwnWalkIn
namespace Go.Proofs.YtopnhplacdbkdaaGreat
open Go.RowKit DiskM Go.Shelf Go.Maps Go.Sort

/-- what hands back bytes in new memory, and an error's number -/
def BytesIs (w : World) (r : List UInt8 × Nat) (e : Ending) (w' : World) : Prop :=
  ∃ a c, e = .returned (.tuple #[.slice a r.1.length c, .int .i64 (r.2 : Nat)]) ∧ Own w' w.heap.size a r.1.length c r.1 ∧ Below w.heap.size w w'

set_option maxRecDepth 100000 in
set_option maxHeartbeats 1000000 in
theorem read_any {w : World} {fp : Nat → Prop} {p : Nat} {d : DS} (h : DiskAt w fp p d) (s : ByteArray) (hs : s.size ≤ maxLen) :
    Calls Tryz.prog 42 #[.pointer (some ⟨p, 0, none⟩), .string s] w (BytesIs w (DiskM.read d s.data.toList)) := by
  have hlt := h.lt
  have hok := h.ok
  have hus := old_used hok s.data.toList
  have hus2 := hok.used
  have HH := Lib.hid (has_any h s hs)
  obtain ⟨mb, fv, h⟩ := h
  have hcd := h.cell.2.2.2.2
  have lp : p < w.heap.size := hlt p h.fpp
  have HK := Lib.hid (fun W hb => ⟨(hb.cell (p := ⟨p, 0, none⟩) lp).trans h.cell.1, (h.below hb).look_plain s hs, (h.below hb).fil s.data.toList⟩ : ∀ W, Below w.heap.size w W → W.cell? ⟨p, 0, none⟩ = some (.map (some mb)) ∧
    (Instr.lookup 44 (.map (some mb)) (.string s) false).run Tryz.prog W = .ok (.agg #[.slice (getF fv s.data.toList).a (getF fv s.data.toList).n (getF fv s.data.toList).c, .int .i64 ((getF fv s.data.toList).sure : Int)]) W ∧ Fil W (getF fv s.data.toList).a (getF fv s.data.toList).n (getF fv s.data.toList).c (getF fv s.data.toList).bs)
  have HO := Lib.hid (h.old s.data.toList)
  have hfd := field_bytes
  unfold DiskM.read
  by_cases hdn : d.down = true
  · rw [if_pos hdn]
    rw [hdn] at hcd
    clear hdn h
    go_enter Tryz.func42, Tryz.ntmps42
    go_wp2_with fail
    go_ret2
    exact ⟨none, 0, rfl, Own.nil_ _ _, Below.refl _ _⟩
  rw [if_neg hdn]
  have hdn' : d.down = false := by simpa using hdn
  rw [hdn'] at hcd
  by_cases h0 : DiskM.has d s.data.toList = 0
  · rw [if_pos h0]
    rw [h0] at HH
    rw [HO.out] at hus ⊢
    have hfl : (getF fv s.data.toList).bs.length = (getF fv s.data.toList).n := (h.fil _).1
    generalize getF fv s.data.toList = f at *
    have hfn : f.n ≤ 16777216 := by have : f.bs.length ≤ used d.files := hus; omega
    clear hdn hdn' h0 h hfl hus
    go_enter Tryz.func42, Tryz.ntmps42
    go_wp2_with fail
    refine HH.out.mono ?_
    rintro e w1 ⟨rfl, hb1⟩
    obtain ⟨k1, k2, k3⟩ := HK.out w1 hb1
    have HK3 := Lib.hid k3
    clear k3
    go_wp2_with fail
    refine (clone_any f.a f.n f.c f.bs _ HK3.out.1 (by omega) HK3.out.rd).mono ?_
    rintro e w2 ⟨a, c, rfl, ho, hb2⟩
    go_wp2_with fail
    go_ret2
    have hl : f.bs.length = f.n := HK3.out.1
    refine ⟨a, c, ?_, ?_, Below.next0 hb1 hb2⟩
    · show _ = Ending.returned (.tuple #[.slice a f.bs.length c, .int .i64 0])
      rw [hl]; rfl
    · show Own w2 w.heap.size a f.bs.length c f.bs
      rw [hl]; exact ho.lower hb1.size
  · rw [if_neg h0]
    have h12 : DiskM.has d s.data.toList = 12 := by
      unfold DiskM.has at h0 ⊢
      split
      · next hh => rw [if_pos hh] at h0; exact absurd rfl h0
      · rfl
    rw [h12] at HH
    clear hdn hdn' h0 h h12
    go_enter Tryz.func42, Tryz.ntmps42
    go_wp2_with fail
    refine HH.out.mono ?_
    rintro e w1 ⟨rfl, hb1⟩
    go_wp2_with fail
    go_ret2
    exact ⟨none, 0, rfl, Own.nil_ _ _, hb1⟩

/-- slices.Sort's contracts here -/
theorem sortsHere (m : Nat) : AnyZ.SortsIn Tryz.prog Tryz.sortedStr_ren Fence.wide m :=
  ⟨fun blk off cap ss W hH hblk hsz => callsIn_wide.2 (AnyM.slices_Sort_string Tryz.sortStr blk off cap ss W hH hblk hsz), fun p cap W => callsIn_wide.2 (AnyM.slices_Sort_string_none Tryz.sortStr p cap W)⟩
theorem keysHere (mb : Option Nat) (W : World) : CallsIn Fence.wide 5 Tryz.prog 49 #[.map mb] W fun e w' => e = .returned (.func (.func 82) #[] #[.pointer (some ⟨W.heap.size, 0, none⟩)]) ∧ w' = W.alloc (.cells #[.map mb] 44) :=
  AnyZ.keys_in Tryz.keysDisk Fence.wide 5 trivial rfl mb W
set_option maxHeartbeats 1000000 in
theorem sortedHere {H : Type} (b nn : Nat) (D0 : DataW H) (R : Value → Option (DataW H × List MemPlace)) (w : World) (hown : w.ownsMap Tryz.prog 9 R b nn D0) (hmax : Maps.size D0 ≤ maxLen) (hbytes : Maps.size D0 * 16 ≤ 140737488355328) :
    CallsIn Fence.wide 5 Tryz.prog 48 #[.func (.func 82) #[] #[.pointer (some ⟨w.heap.size, 0, none⟩)]] (w.alloc (.cells #[.map (some b)] 44)) fun e w' => ∃ (v : Value) (ss : List (List UInt8)), e = .returned v ∧ ss.Perm (strKeys D0) ∧
      w'.ownsRow (w.alloc (.cells #[.map (some b)] 44)).heap.size 9 1 v ss.length ((ss.mergeSort (fun x y => decide (x ≤ y))).map encStr) ∧ (v = .slice none 0 0 ↔ ss = []) ∧ Below (w.alloc (.cells #[.map (some b)] 44)).heap.size (w.alloc (.cells #[.map (some b)] 44)) w' := by
  have hbl := hown.lt
  have hseq : SeqGives Fence.wide 2 Tryz.prog 82 #[.pointer (some ⟨w.heap.size, 0, none⟩)] encStr (fun ss => ss.Perm (strKeys D0)) (Maps.size D0) (w.alloc (.cells #[.map (some b)] 44)) :=
    AnyZ.keys_gives (ρ := Tryz.keysDisk_ren) { Tryz.keysDisk with } Fence.wide _ trivial rfl (by omega) w.heap.size b nn D0 _ (by simp) (by simp) (by
      obtain ⟨es, clock, hb, Ft, hs, hD⟩ := hown
      exact ⟨es, clock, (Below.heap_alloc _ _ b hbl).trans hb, Ft, hs, hD⟩)
  exact AnyZ.sorted_in Tryz.sortedStr Fence.wide 5 trivial trivial trivial trivial rfl (by omega) (sortsHere _) (enters_of Tryz.func81 (by kernel_rfl) rfl) 82 #[.pointer (some ⟨w.heap.size, 0, none⟩)] trivial (enters_of Tryz.func82 (by kernel_rfl) rfl) _ _ hmax hbytes _ hseq

/-- rising names are sorted -/
theorem lt_lt {a b : Nm} (h : lt a b = true) : a < b := by
  unfold lt at h
  induction a generalizing b with
  | nil =>
    cases b with
    | nil => simp [bytesBefore] at h
    | cons y s => exact List.nil_lt_cons _ _
  | cons x r ih =>
    cases b with
    | nil => simp [bytesBefore] at h
    | cons y s =>
      simp only [bytesBefore, Bool.or_eq_true, Bool.and_eq_true, decide_eq_true_eq] at h
      rw [List.cons_lt_cons_iff]
      rcases h with h | ⟨h1, h2⟩
      · exact .inl h
      · exact .inr ⟨by simpa using h1, ih h2⟩
theorem sort_names {α : Type} {l : List (Nm × α)} (h : Rising l) {ss : List (List UInt8)} (hp : ss.Perm (l.map (·.1))) : ss.mergeSort leB = l.map (·.1) := by
  rw [mergeSort_of_perm hp]
  refine List.mergeSort_of_pairwise ?_
  rw [List.pairwise_map]
  refine List.Pairwise.imp (fun {p q} hl => ?_) h
  simp only [leB, decide_eq_true_eq]
  exact List.le_of_lt (lt_lt hl)

/-- what hands back names in new memory -/
def NamesIs (w : World) (ns : List Nm) (e : Ending) (w' : World) : Prop :=
  ∃ a c, e = .returned (.slice a ns.length c) ∧ Row w' w.heap.size 9 1 a ns.length c (ns.map encStr) ∧ Below w.heap.size w w'
def namesOf (d : DS) : List Nm := d.files.map (·.1)

set_option maxRecDepth 100000 in
set_option maxHeartbeats 1000000 in
theorem list_any {w : World} {fp : Nat → Prop} {p : Nat} {d : DS} (h : DiskAt w fp p d) :
    Calls Tryz.prog 14 #[.pointer (some ⟨p, 0, none⟩)] w (NamesIs w (namesOf d)) := by
  refine (callsIn_wide (n := 6)).1 ?_
  obtain ⟨mb, fv, h⟩ := h
  have hcm := h.cell.1
  have hfew := h.ok.few
  have hris := h.map.rising
  have hns : (fv.map (onV FileV.val)).map (·.1) = namesOf d := by unfold namesOf; rw [h.files, List.map_map, List.map_map]; rfl
  have hlen : (fv.map (onV FileV.val)).length ≤ 1000000 := by rw [h.files] at hfew; simpa using hfew
  have hown : w.ownsMap Tryz.prog 9 heldR mb (fv.map (onV FileV.val)).length (.map ((fv.map (onV FileV.val)).map entry)) := h.map
  have hlm : mb < w.heap.size := h.map.lt
  have hcon := sortedHere mb _ _ heldR w hown (by rw [Maps.size_eq, List.length_map]; unfold maxLen; omega) (by rw [Maps.size_eq, List.length_map]; omega)
  have hks : strKeys (DataW.map ((fv.map (onV FileV.val)).map entry)) = (fv.map (onV FileV.val)).map (·.1) := by
    show List.map _ _ = _
    rw [List.map_map]; rfl
  rw [hks] at hcon
  have HC := Lib.hid hcon
  have HR := Lib.hid hris
  have HN := Lib.hid hns
  clear hcon hris hns hown h hks hfew hlen
  generalize (fv.map (onV FileV.val)) = es at *
  have hfK : Fence.wide.fn 49 := trivial
  have hfS : Fence.wide.fn 48 := trivial
  refine callsIn_of_wp Tryz.func14 rfl trivial ?_ rfl
  simp only [Tryz.ntmps14, List.size_toArray, List.length_cons, List.length_nil, Nat.reduceAdd, Nat.reduceSub, Array.replicate_succ, Array.replicate_zero, List.push_toArray, List.append_toArray, List.nil_append, List.cons_append]
  gi_wp2_with (first
    | (gi_at_call 49; refine (keysHere _ _).mono ?_; rintro e w' ⟨rfl, rfl⟩)
    | (gi_at_call 48; refine HC.out.mono ?_; rintro e w1 ⟨v, ss, rfl, hS, hrow, hnil, hb⟩))
  have hb' : Below w.heap.size w w1 := ((Below.refl _ _).alloc (Nat.le_refl _) _).trans (hb.mono (by simp))
  have hsort := sort_names HR.out hS
  have HSO := Lib.hid hsort
  have hl : ss.length = es.length := by have := hS.length_eq; simpa using this
  have HL := Lib.hid hl
  clear hsort hl hb hnil
  go_ret
  have hres : NamesIs w (namesOf d) (.returned v) w1 := by
    have e1 : ss.mergeSort (fun x y => decide (x ≤ y)) = namesOf d := HSO.out.trans HN.out
    have hll : ss.length = (namesOf d).length := by rw [HL.out, ← HN.out, List.length_map]
    rw [e1, hll] at hrow
    rcases hrow.2 with ⟨rfl, h0⟩ | ⟨g, cap, cur, rfl, hbase, hrest⟩
    · refine ⟨none, 0, by rw [h0], ?_, hb'⟩
      rw [h0] at hrow ⊢
      exact ⟨hrow.1, .inl ⟨rfl, rfl⟩⟩
    · exact ⟨_, cap, rfl, ⟨hrow.1, .inr ⟨g, cap, cur, rfl, by simp at hbase; omega, hrest⟩⟩, hb'⟩
  exact hres
end Go.Proofs.YtopnhplacdbkdaaGreat
