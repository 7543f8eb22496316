/- The walks of HasSuffix, Replace and its closures, Save, Load, Clean, the known file. Condition: the disk is kept. -/
import Derived.Test.YtopnhplacdbkdaaGreatSnapM
import Derived.Test.YtopnhplacdbkdaaGreatDiskKept
import Derived.Test.YtopnhplacdbkdaaGreatLogPut
import Derived.Test.YtopnhplacdbkdaaGreatLogNext
import Derived.RangeFuncBox
import Derived.Shelf.Abstract
import Derived.Shelf.RegionOpen
import Derived.TacticsInMore
import Derived.Laws.EntriesVeiled
section
namespace Go.Proofs.YtopnhplacdbkdaaGreat
open Go.RowKit DiskM Go.Shelf
attribute [local go_sem] Oper.semAt_some

theorem beq_dec (a b : List UInt8) : (a == b) = decide (a = b) := by
  by_cases h : a = b
  · rw [decide_eq_true h, h]; simp
  · rw [decide_eq_false h]; simpa using h
set_option maxRecDepth 100000 in
theorem suffix_lite (s : ByteArray) (w : World) (hs : s.size ≤ maxLen) : Calls Tryz.prog 63 #[.string s, .string ⟨#[46, 110, 101, 119]⟩] w fun e w' => e = .returned (.bool (suf s.data.toList)) ∧ w = w' := by
  unfold maxLen at hs
  by_cases h4 : 4 ≤ s.size
  · have h4' : (4 : Int) ≤ (s.size : Int) := by omega
    have hw : IntKind.i64.wrap ((s.size : Int) - 4) = ((s.size - 4 : Nat) : Int) := by rw [IntKind.wrap_i64]; omega
    go_enter Tryz.func63, Tryz.ntmps63
    go_wp2_with fail
    go_ret
    refine ⟨?_, rfl⟩
    have e : (s.extract (s.size - 4) s.size).toList = s.data.toList.drop (s.data.toList.length - 4) := by
      rw [ByteArray.toList_eq, ByteArray.data_extract, Array.toList_extract]
      have hl : s.size = s.data.toList.length := by simp
      rw [hl, List.extract_eq_take_drop, List.take_of_length_le (by simp)]
    have hl : 4 ≤ s.data.toList.length := by simpa using h4
    show Ending.returned (Value.bool ((s.extract (s.size - 4) s.size).toList == [46, 110, 101, 119])) = _
    rw [e]
    unfold suf
    rw [decide_eq_true hl, Bool.true_and, beq_dec]
    rfl
  · have h4' : ¬ ((4 : Int) ≤ (s.size : Int)) := by omega
    go_enter Tryz.func63, Tryz.ntmps63
    go_wp2_with fail
    go_ret
    refine ⟨?_, rfl⟩
    unfold suf
    rw [decide_eq_false (by simpa using h4), Bool.false_and]
    rfl

theorem suffix_any (s : ByteArray) (w : World) (hs : s.size ≤ maxLen) : Calls Tryz.prog 39 #[.string s, .string ⟨#[46, 110, 101, 119]⟩] w fun e w' => e = .returned (.bool (suf s.data.toList)) ∧ w = w' := by
  go_enter Tryz.func39, Tryz.ntmps39
  go_wp2_with fail
  refine (suffix_lite s _ hs).mono ?_
  rintro e w' ⟨rfl, rfl⟩
  go_wp2_with fail
  go_ret
  exact ⟨rfl, rfl⟩

/-- does the file that is being made stand there? -/
theorem mem_is {d : DS} (hok : d.Ok) (k : Nm) : isIn d k = decide (k ∈ namesOf d) := by
  have h := names_some hok (k := k)
  unfold isIn
  by_cases hk : k ∈ namesOf d
  · rw [h.2 hk, decide_eq_true hk]
  · rw [decide_eq_false hk]
    cases hl : (DiskM.look k d.files).isSome with
    | true => exact absurd (h.1 hl) hk
    | false => rfl
theorem bytes_same (a b : ByteArray) : (a.toList == b.toList) = decide (a.data.toList = b.data.toList) := by
  rw [ByteArray.toList_eq, ByteArray.toList_eq]
  exact beq_dec _ _

set_option maxRecDepth 100000 in
set_option maxHeartbeats 1000000 in
theorem is_k {w : World} {B : Nat} {S : Nat → Prop} {p : Nat} {d : DS} (h : DK w B S p d) (s : ByteArray) (bd bf : Nat) (cd : w.cell? ⟨bd, 0, none⟩ = some (.pointer (some ⟨p, 0, none⟩))) (cf : w.cell? ⟨bf, 0, none⟩ = some (.string s)) :
    Calls Tryz.prog 67 #[.pointer (some ⟨bd, 0, none⟩), .pointer (some ⟨bf, 0, none⟩)] w fun e w' => e = .returned (.bool (isIn d s.data.toList)) ∧ Below w.heap.size w w' := by
  have HI := Lib.hid (mem_is h.ok s.data.toList)
  have hfew : (namesOf d).length ≤ 1000000 := by have := h.ok.few; simpa [namesOf] using this
  have hlf : bf < w.heap.size := block_lt_of_cell cf
  go_enter Tryz.func67, Tryz.ntmps67
  go_wp2_with fail
  refine (list_k h).mono ?_
  obtain ⟨ns, hns⟩ : ∃ ns, namesOf d = ns := ⟨_, rfl⟩
  rw [hns] at HI hfew ⊢
  clear hns
  rintro e w1 ⟨a, c, rfl, hrow, hb1⟩
  have hc1 : w1.cell? ⟨bf, 0, none⟩ = some (.string s) := (hb1.cell (p := ⟨bf, 0, none⟩) hlf).trans cf
  clear cf cd h
  go_wp2_with fail
  go_loop [8] (fun v => ∃ i : Nat, v = .int .i64 i ∧ i ≤ ns.length ∧ s.data.toList ∉ ns.take i) (fun v => ns.length - (intOf v).toNat)
  case atStart => exact ⟨0, rfl, Nat.zero_le _, by simp⟩
  case round =>
    obtain ⟨i, rfl, hi, hnot⟩ := hrel
    by_cases hlt : i < ns.length
    · obtain ⟨nm, hnm⟩ : ∃ nm, ns[i]? = some nm := ⟨_, List.getElem?_eq_getElem hlt⟩
      obtain ⟨g, rfl, hgB, hgl, hgc⟩ := hrow.at_ (j := i) (x := encStr nm) (by rw [List.getElem?_map, hnm]; rfl)
      have hgc' : w1.cell? ⟨g, i, none⟩ = some (.string ⟨nm.toArray⟩) := hgc
      have hlt' : (i : Int) < (ns.length : Int) := by omega
      have hNM := Lib.hid hnm
      have HNOT := Lib.hid hnot
      clear hnm hnot hgc
      by_cases he : nm = s.data.toList
      · have hcmp1 : (nm == s.toList) = true := by rw [ByteArray.toList_eq, beq_dec]; exact decide_eq_true he
        have hin : s.data.toList ∈ ns := he ▸ List.mem_of_getElem? hNM.out
        have HE := Lib.hid hin
        clear he hin
        go_wp2_with fail
        go_ret
        exact ⟨by rw [HI.out, decide_eq_true HE.out]; rfl, hb1⟩
      · have hcmp1 : (nm == s.toList) = false := by rw [ByteArray.toList_eq, beq_dec]; exact decide_eq_false he
        have hnin : s.data.toList ∉ ns.take (i + 1) := by
          rw [List.take_add_one, hNM.out]
          intro hm
          rcases List.mem_append.1 hm with h1 | h1
          · exact HNOT.out h1
          · simp at h1; exact he h1.symm
        have HE := Lib.hid hnin
        clear he hnin
        go_wp2_with fail
        go_round
        case rel => exact ⟨i + 1, by go_num, by omega, HE.out⟩
        case measure => simp [intOf]; omega
    · obtain rfl : i = ns.length := by omega
      rw [List.take_length] at hnot
      have HNOT := Lib.hid hnot
      clear hnot
      go_wp2_with fail
      go_ret
      exact ⟨by rw [HI.out, decide_eq_false HNOT.out]; rfl, hb1⟩
end Go.Proofs.YtopnhplacdbkdaaGreat
end

section
namespace Go.Proofs.YtopnhplacdbkdaaGreat
open Go.RowKit DiskM Go.Shelf
section
variable {w : World} {B : Nat} {S : Nat → Prop} {p : Nat} {d : DS}
theorem DK.cell_keep {w' : World} {B : Nat} {S : Nat → Prop} {x : Addr} {v : Value} (ht : Turn (off B S) w w') (hs : S x.block) (hx : w.cell? x = some v) : w'.cell? x = some v :=
  (ht.cell (block_lt_of_cell hx) fun h => h.2 hs).trans hx

set_option maxRecDepth 100000 in
set_option maxHeartbeats 1000000 in
theorem clear_k (h : DK w B S p d) (s : ByteArray) (hs : s.size ≤ maxLen) (bi bd bf : Nat) (ci : w.cell? ⟨bi, 0, none⟩ = some (.func (.func 67) #[] #[.pointer (some ⟨bd, 0, none⟩), .pointer (some ⟨bf, 0, none⟩)])) (cd : w.cell? ⟨bd, 0, none⟩ = some (.pointer (some ⟨p, 0, none⟩))) (cf : w.cell? ⟨bf, 0, none⟩ = some (.string s)) :
    Calls Tryz.prog 68 #[.pointer (some ⟨bi, 0, none⟩), .pointer (some ⟨bd, 0, none⟩), .pointer (some ⟨bf, 0, none⟩)] w (WroteK w B S p (clr d s.data.toList)) := by
  have hent := enters_of Tryz.func67 (by kernel_rfl) rfl
  have hld : bd < w.heap.size := block_lt_of_cell cd
  have hlf : bf < w.heap.size := block_lt_of_cell cf
  have HS := Lib.hid hs
  clear hs
  go_enter Tryz.func68, Tryz.ntmps68
  go_wp2_with fail
  refine (is_k h s bd bf cd cf).mono ?_
  rintro e w1 ⟨rfl, hb1⟩
  have hd1 := (hb1.cell (p := ⟨bd, 0, none⟩) hld).trans cd
  have hf1 := (hb1.cell (p := ⟨bf, 0, none⟩) hlf).trans cf
  have hk1 := h.below hb1
  by_cases hi : isIn d s.data.toList = true
  · have HC := Lib.hid (show clr d s.data.toList = remove d s.data.toList by unfold clr; rw [if_pos hi])
    rw [hi]
    clear hi h cd cf ci
    go_wp2_with fail
    refine (remove_k hk1 s HS.out).mono ?_
    rintro e w2 ⟨rfl, hk2, ht2⟩
    go_wp2_with fail
    go_ret
    rw [HC.out]
    exact ⟨rfl, hk2, (Turn.of_below hb1 _).trans0 ht2⟩
  · have hi' : isIn d s.data.toList = false := by simpa using hi
    have HC := Lib.hid (show clr d s.data.toList = (0, d) by unfold clr; rw [if_neg hi])
    rw [hi']
    clear hi hi' h cd cf ci
    go_wp2_with fail
    go_ret
    rw [HC.out]
    exact ⟨rfl, hk1, Turn.of_below hb1 _⟩
theorem rappend_k (h : DK w B S p d) (s : ByteArray) (hs : s.size ≤ maxLen) (a : Option Addr) (n c : Nat) (bs : List UInt8) (hn : bs.length = n) (hrd : Rd w w.heap.size a bs) (hna : ∀ x, a = some x → S x.block ∨ x.block < B) (hfew : d.files.length < 1000000)
    (bd bf bb : Nat) (cd : w.cell? ⟨bd, 0, none⟩ = some (.pointer (some ⟨p, 0, none⟩))) (cf : w.cell? ⟨bf, 0, none⟩ = some (.string s)) (cb : w.cell? ⟨bb, 0, none⟩ = some (.slice a n c)) :
    Calls Tryz.prog 69 #[.pointer (some ⟨bd, 0, none⟩), .pointer (some ⟨bf, 0, none⟩), .pointer (some ⟨bb, 0, none⟩)] w (WroteK w B S p (append d s.data.toList bs)) := by
  go_enter Tryz.func69, Tryz.ntmps69
  go_wp2_with fail
  refine (append_k h s hs a n c bs hn hrd (.inr hna) hfew).mono ?_
  rintro e w2 ⟨rfl, hk2, ht2⟩
  go_wp2_with fail
  go_ret
  exact ⟨rfl, hk2, ht2⟩
theorem rsync_k (h : DK w B S p d) (s : ByteArray) (hs : s.size ≤ maxLen) (bd bf : Nat) (cd : w.cell? ⟨bd, 0, none⟩ = some (.pointer (some ⟨p, 0, none⟩))) (cf : w.cell? ⟨bf, 0, none⟩ = some (.string s)) :
    Calls Tryz.prog 70 #[.pointer (some ⟨bd, 0, none⟩), .pointer (some ⟨bf, 0, none⟩)] w (WroteK w B S p (sync d s.data.toList)) := by
  go_enter Tryz.func70, Tryz.ntmps70
  go_wp2_with fail
  refine (sync_k h s hs).mono ?_
  rintro e w2 ⟨rfl, hk2, ht2⟩
  go_wp2_with fail
  go_ret
  exact ⟨rfl, hk2, ht2⟩
theorem rrename_k (h : DK w B S p d) (s t : ByteArray) (hs : s.size ≤ maxLen) (ht : t.size ≤ maxLen) (bd bf bn : Nat) (cd : w.cell? ⟨bd, 0, none⟩ = some (.pointer (some ⟨p, 0, none⟩))) (cf : w.cell? ⟨bf, 0, none⟩ = some (.string s)) (cn : w.cell? ⟨bn, 0, none⟩ = some (.string t)) :
    Calls Tryz.prog 72 #[.pointer (some ⟨bd, 0, none⟩), .pointer (some ⟨bf, 0, none⟩), .pointer (some ⟨bn, 0, none⟩)] w (WroteK w B S p (rename d s.data.toList t.data.toList)) := by
  go_enter Tryz.func72, Tryz.ntmps72
  go_wp2_with fail
  refine (rename_k h s t hs ht).mono ?_
  rintro e w2 ⟨rfl, hk2, ht2⟩
  go_wp2_with fail
  go_ret
  exact ⟨rfl, hk2, ht2⟩
end
end Go.Proofs.YtopnhplacdbkdaaGreat
end

section
namespace Go.Proofs.YtopnhplacdbkdaaGreat
open Go.RowKit DiskM Go.Shelf

theorem remove_len (d : DS) (k : Nm) : (remove d k).2.files.length ≤ d.files.length := by
  have hg : (gone d).files = d.files := (gone_files d).1
  have hd : (removeDo k (gone d)).files.length ≤ d.files.length := by
    show (DiskM.del k (gone d).files).length ≤ _
    rw [hg]; exact del_length _ _
  unfold remove write
  split
  · exact Nat.le_refl _
  · split
    · exact Nat.le_refl _
    · split
      · exact hd
      · split
        · exact hd
        · show (gone d).files.length ≤ _
          rw [hg]; exact Nat.le_refl _
theorem clr_len (d : DS) (k : Nm) : (clr d k).2.files.length ≤ d.files.length := by
  unfold clr
  split
  · exact remove_len d k
  · exact Nat.le_refl _

/-- a turn of Replace: the function that lies in the row, what it promises -/
def TurnAt (B : Nat) (S : Nat → Prop) (p : Nat) (k : Nm) (b : List UInt8) (W0 : World) (g : Nat) (i : Nat) : Prop :=
  ∃ f caps, W0.cell? ⟨g, i, none⟩ = some (.func (.func f) #[] caps) ∧ (∀ args w, (callFunc f args).run Tryz.prog w = .ok (.enter f args) w) ∧
    ∀ W d, DK W B S p d → Turn (off B S) W0 W → (i = 1 → d.files.length < 1000000) → Calls Tryz.prog f caps W (WroteK W B S p (turn k b i d))

theorem old_laid {W : World} {k : Nat} {x : Obj} (h : W.heap[k]? = some x) (o : Obj) : (W.alloc o).heap[k]? = some x := (Below.heap_alloc _ _ _ (Array.getElem?_eq_some_iff.1 h).1).trans h
theorem new_laid (W : World) (o : Obj) (k : Nat) (h : W.heap.size = k) : (W.alloc o).heap[k]? = some o := by subst h; exact World.alloc_heap_new W o
/-- six blocks are laid -/
theorem six_laid (w W : World) (o0 o1 o2 o3 o4 o5 : Obj) (hW : W = (((((w.alloc o0).alloc o1).alloc o2).alloc o3).alloc o4).alloc o5) :
    W.heap.size = w.heap.size + 6 ∧ W.heap[w.heap.size]? = some o0 ∧ W.heap[w.heap.size + 1]? = some o1 ∧ W.heap[w.heap.size + 1 + 1]? = some o2 ∧ W.heap[w.heap.size + 1 + 1 + 1]? = some o3 ∧ W.heap[w.heap.size + 1 + 1 + 1 + 1]? = some o4 ∧ W.heap[w.heap.size + 1 + 1 + 1 + 1 + 1]? = some o5 ∧ Below w.heap.size w W := by
  subst hW
  refine ⟨by simp, ?_, ?_, ?_, ?_, ?_, ?_, ?_⟩
  · exact old_laid (old_laid (old_laid (old_laid (old_laid (new_laid _ _ _ rfl) _) _) _) _) _
  · exact old_laid (old_laid (old_laid (old_laid (new_laid _ _ _ (by simp)) _) _) _) _
  · exact old_laid (old_laid (old_laid (new_laid _ _ _ (by simp)) _) _) _
  · exact old_laid (old_laid (new_laid _ _ _ (by simp)) _) _
  · exact old_laid (new_laid _ _ _ (by simp)) _
  · exact new_laid _ _ _ (by simp)
  · exact ((((((Below.refl _ _).alloc (Nat.le_refl _) _).alloc (by simp) _).alloc (by simp; omega) _).alloc (by simp; omega) _).alloc (by simp; omega) _).alloc (by simp; omega) _

theorem replFrom_step (k : Nm) (b : List UInt8) (i : Nat) (hi : i < 4) (d : DS) : replFrom k b (4 - i) d = if (turn k b i d).1 = 14 then (if (clr (turn k b i d).2 (fr k)).1 = 15 then 15 else 14, (clr (turn k b i d).2 (fr k)).2) else if (turn k b i d).1 = 0 then replFrom k b (4 - (i + 1)) (turn k b i d).2 else turn k b i d := by
  obtain ⟨r, hr⟩ : ∃ r, 4 - i = r + 1 := ⟨3 - i, by omega⟩
  rw [hr]
  show (if (turn k b (3 - r) d).1 = 14 then _ else if (turn k b (3 - r) d).1 = 0 then replFrom k b r (turn k b (3 - r) d).2 else _) = _
  rw [show 3 - r = i by omega, show r = 4 - (i + 1) by omega]

set_option maxRecDepth 100000 in
set_option maxHeartbeats 4000000 in
theorem replace_k {w : World} {B : Nat} {S : Nat → Prop} {p : Nat} {d : DS} (h : DK w B S p d) (s : ByteArray) (hs : s.size + 4 ≤ maxLen) (a : Option Addr) (n c : Nat) (bs : List UInt8) (hn : bs.length = n) (hrd : Rd w w.heap.size a bs) (hna : ∀ x, a = some x → S x.block ∨ x.block < B) (hfew : d.files.length < 1000000) :
    Calls Tryz.prog 41 #[.pointer (some ⟨p, 0, none⟩), .string s, .slice a n c] w (WroteK w B S p (replace d s.data.toList bs)) := by
  have hs' : ¬ (9223372036854775807 < s.size + 4) := by unfold maxLen at hs; omega
  have HFEW := Lib.hid hfew
  have HRD := Lib.hid hrd
  have HNA := Lib.hid hna
  have HN := Lib.hid hn
  have HS := Lib.hid hs
  have HK := Lib.hid h
  clear hfew hrd hna hn hs h
  go_enter Tryz.func41, Tryz.ntmps41
  go_wp2_with fail
  obtain ⟨F, hF⟩ : ∃ F, F = s ++ (⟨#[46, 110, 101, 119]⟩ : ByteArray) := ⟨_, rfl⟩
  have hFd : F.data.toList = fr s.data.toList := by rw [hF]; show (s ++ (⟨#[46, 110, 101, 119]⟩ : ByteArray)).data.toList = s.data.toList ++ [46, 110, 101, 119]; simp
  have hFs : F.size ≤ maxLen := by rw [hF, ByteArray.size_append]; exact HS.out
  rw [← hF]
  clear hF
  obtain ⟨W0, hW0⟩ : ∃ W0, W0 = ((((((w.alloc (.cells #[.pointer (some ⟨p, 0, none⟩)] 25)).alloc (.cells #[.string s] 9)).alloc (.cells #[.slice a n c] 30)).alloc (.cells #[.string F] 9)).alloc (.cells #[.func (.func 67) #[] #[.pointer (some ⟨w.heap.size, 0, none⟩), .pointer (some ⟨w.heap.size + 1 + 1 + 1, 0, none⟩)]] 23)).alloc (.cells #[.func (.func 68) #[] #[.pointer (some ⟨w.heap.size + 1 + 1 + 1 + 1, 0, none⟩), .pointer (some ⟨w.heap.size, 0, none⟩), .pointer (some ⟨w.heap.size + 1 + 1 + 1, 0, none⟩)], .func (.func 69) #[] #[.pointer (some ⟨w.heap.size, 0, none⟩), .pointer (some ⟨w.heap.size + 1 + 1 + 1, 0, none⟩), .pointer (some ⟨w.heap.size + 1 + 1, 0, none⟩)], .func (.func 70) #[] #[.pointer (some ⟨w.heap.size, 0, none⟩), .pointer (some ⟨w.heap.size + 1 + 1 + 1, 0, none⟩)], .func (.func 72) #[] #[.pointer (some ⟨w.heap.size, 0, none⟩), .pointer (some ⟨w.heap.size + 1 + 1 + 1, 0, none⟩), .pointer (some ⟨w.heap.size + 1, 0, none⟩)]] 53)) := ⟨_, rfl⟩
  rw [← hW0]
  obtain ⟨hz, h0, h1, h2, h3, h4, h5, hB0⟩ := six_laid w W0 _ _ _ _ _ _ hW0
  clear hW0
  obtain ⟨S', hS'⟩ : ∃ S' : Nat → Prop, S' = fun k => S k ∨ (w.heap.size ≤ k ∧ k < W0.heap.size) := ⟨_, rfl⟩
  have hin : ∀ k, w.heap.size ≤ k → k < w.heap.size + 6 → S' k := fun k h1 h2 => by rw [hS']; exact .inr ⟨h1, by omega⟩
  have hk0 : DK W0 B S' p d := HK.out.more hB0 (fun k hk => by rw [hS'] at hk; exact hk)
  have hr0 : Rd W0 w.heap.size a bs := HRD.out.below hB0
  have hturns : ∀ i, i < 4 → TurnAt B S' p s.data.toList bs W0 (w.heap.size + 1 + 1 + 1 + 1 + 1) i := by
    have cell : ∀ (W : World) (j : Nat) (v : Value), Turn (off B S') W0 W → W0.cell? ⟨j, 0, none⟩ = some v → w.heap.size ≤ j → j < w.heap.size + 6 → W.cell? ⟨j, 0, none⟩ = some v := fun W j v ht hc h1 h2 => DK.cell_keep (x := ⟨j, 0, none⟩) ht (hin j h1 h2) hc
    have c0 : W0.cell? ⟨w.heap.size, 0, none⟩ = some (.pointer (some ⟨p, 0, none⟩)) := cell_of_row _ _ 0 _ _ _ h0
    have c1 : W0.cell? ⟨w.heap.size + 1, 0, none⟩ = some (.string s) := cell_of_row _ _ 0 _ _ _ h1
    have c2 : W0.cell? ⟨w.heap.size + 1 + 1, 0, none⟩ = some (.slice a n c) := cell_of_row _ _ 0 _ _ _ h2
    have c3 : W0.cell? ⟨w.heap.size + 1 + 1 + 1, 0, none⟩ = some (.string F) := cell_of_row _ _ 0 _ _ _ h3
    have c4 : W0.cell? ⟨w.heap.size + 1 + 1 + 1 + 1, 0, none⟩ = some (.func (.func 67) #[] #[.pointer (some ⟨w.heap.size, 0, none⟩), .pointer (some ⟨w.heap.size + 1 + 1 + 1, 0, none⟩)]) := cell_of_row _ _ 0 _ _ _ h4
    intro i hi
    rcases (by omega : i = 0 ∨ i = 1 ∨ i = 2 ∨ i = 3) with rfl | rfl | rfl | rfl
    · refine ⟨68, _, cell_of_row _ _ 0 _ _ _ h5, enters_of Tryz.func68 (by kernel_rfl) rfl, fun W d hk ht _ => ?_⟩
      have := clear_k hk F hFs _ _ _ (cell W _ _ ht c4 (by omega) (by omega)) (cell W _ _ ht c0 (by omega) (by omega)) (cell W _ _ ht c3 (by omega) (by omega))
      rw [hFd] at this
      exact this
    · refine ⟨69, _, cell_of_row _ _ 1 _ _ _ h5, enters_of Tryz.func69 (by kernel_rfl) rfl, fun W d hk ht hf => ?_⟩
      have := rappend_k hk F hFs a n c bs HN.out ((hr0.turn ht (by omega) (fun x hx h => by
        rcases HNA.out x hx with h1 | h1
        · exact h.2 (by rw [hS']; exact .inl h1)
        · have := h.1; omega)).more (by have := ht.size; omega)) (fun x hx => by
        rcases HNA.out x hx with h1 | h1
        · exact .inl (by rw [hS']; exact .inl h1)
        · exact .inr h1) (hf rfl) _ _ _ (cell W _ _ ht c0 (by omega) (by omega)) (cell W _ _ ht c3 (by omega) (by omega)) (cell W _ _ ht c2 (by omega) (by omega))
      rw [hFd] at this
      exact this
    · refine ⟨70, _, cell_of_row _ _ 2 _ _ _ h5, enters_of Tryz.func70 (by kernel_rfl) rfl, fun W d hk ht _ => ?_⟩
      have := rsync_k hk F hFs _ _ (cell W _ _ ht c0 (by omega) (by omega)) (cell W _ _ ht c3 (by omega) (by omega))
      rw [hFd] at this
      exact this
    · refine ⟨72, _, cell_of_row _ _ 3 _ _ _ h5, enters_of Tryz.func72 (by kernel_rfl) rfl, fun W d hk ht _ => ?_⟩
      have := rrename_k hk F s hFs (by have := HS.out; omega) _ _ _ (cell W _ _ ht c0 (by omega) (by omega)) (cell W _ _ ht c3 (by omega) (by omega)) (cell W _ _ ht c1 (by omega) (by omega))
      rw [hFd] at this
      exact this
  have hclear : ∀ W d, DK W B S' p d → Turn (off B S') W0 W → Calls Tryz.prog 68 #[.pointer (some ⟨w.heap.size + 1 + 1 + 1 + 1, 0, none⟩), .pointer (some ⟨w.heap.size, 0, none⟩), .pointer (some ⟨w.heap.size + 1 + 1 + 1, 0, none⟩)] W (WroteK W B S' p (clr d (fr s.data.toList))) := fun W d hk ht => by
    have cell : ∀ (W : World) (j : Nat) (v : Value), Turn (off B S') W0 W → W0.cell? ⟨j, 0, none⟩ = some v → w.heap.size ≤ j → j < w.heap.size + 6 → W.cell? ⟨j, 0, none⟩ = some v := fun W j v ht hc h1 h2 => DK.cell_keep (x := ⟨j, 0, none⟩) ht (hin j h1 h2) hc
    have := clear_k hk F hFs _ _ _ (cell W _ _ ht (cell_of_row _ _ 0 _ _ _ h4) (by omega) (by omega)) (cell W _ _ ht (cell_of_row _ _ 0 _ _ _ h0) (by omega) (by omega)) (cell W _ _ ht (cell_of_row _ _ 0 _ _ _ h3) (by omega) (by omega))
    rw [hFd] at this
    exact this
  have hrow : S' (w.heap.size + 1 + 1 + 1 + 1 + 1) := hin _ (by omega) (by omega)
  have hback : ∀ r e W', WroteK W0 B S' p r e W' → WroteK w B S p r e W' := fun r e W' hw => by
    obtain ⟨h1, h2, h3⟩ := hw
    exact ⟨h1, h2.less fun k hk => by rw [hS']; exact .inl hk, (Turn.of_below hB0 _).trans0 (h3.more fun k _ hk => off_less (fun k hk => by rw [hS']; exact .inl hk) k hk)⟩
  have HT := Lib.hid hturns
  have HC := Lib.hid hclear
  have HBK := Lib.hid hback
  have HRW := Lib.hid hrow
  have HK0 := Lib.hid hk0
  clear hturns hclear hback hrow hk0 hr0 hin hS' h0 h1 h2 h3 h4 h5 hB0 hFd hFs HS HN HNA HRD HK hs'
  obtain ⟨R, hR⟩ : ∃ R, replace d s.data.toList bs = R := ⟨_, rfl⟩
  rw [hR]
  have HR := Lib.hid hR
  clear hR
  go_loopw [25] (fun v wr => ∃ (i : Nat) (d' : DS), v = .int .i64 i ∧ i ≤ 4 ∧ DK wr B S' p d' ∧ Turn (off B S') W0 wr ∧ replFrom s.data.toList bs (4 - i) d' = R ∧ (i ≤ 1 → d'.files.length < 1000000)) (fun v _ => 4 - (intOf v).toNat)
  case atStart => exact ⟨0, d, rfl, by omega, HK0.out, Turn.refl _ _, HR.out, fun _ => HFEW.out⟩
  case round =>
    obtain ⟨i, d', rfl, hi, hk, ht, hr, hf⟩ := hrel
    by_cases hlt : i < 4
    · obtain ⟨f, caps, hcell, hent, hcall⟩ := HT.out i hlt
      have hcell' : wr.cell? ⟨w.heap.size + 1 + 1 + 1 + 1 + 1, i, none⟩ = some (.func (.func f) #[] caps) := DK.cell_keep (x := ⟨w.heap.size + 1 + 1 + 1 + 1 + 1, i, none⟩) ht HRW.out hcell
      have hlt' : (i : Int) < 4 := by omega
      rw [replFrom_step _ _ i hlt] at hr
      have hcl := hcall wr d' hk ht (fun h => hf (by omega))
      have hlen : i = 0 → (turn s.data.toList bs i d').2.files.length < 1000000 := fun h => by
        subst h
        exact Nat.lt_of_le_of_lt (clr_len d' _) (hf (by omega))
      obtain ⟨t, htn⟩ : ∃ t, turn s.data.toList bs i d' = t := ⟨_, rfl⟩
      rw [htn] at hr hcl hlen
      have HRR := Lib.hid hr
      have HCL := Lib.hid hcl
      have HTT := Lib.hid ht
      have HLEN := Lib.hid hlen
      clear hr hcl hk ht hf hcall hcell htn hlen
      have hzero : #[] ++ caps = caps := by simp
      go_wp2_with fail
      refine HCL.out.mono ?_
      obtain ⟨te, td⟩ := t
      rintro e w2 ⟨rfl, hk2, ht2⟩
      have HT2 := Lib.hid (HTT.out.trans0 ht2)
      have HK2 := Lib.hid hk2
      clear hk2 ht2 HTT HCL hcell' hent hzero
      by_cases h14 : te = 14
      · subst h14
        have hr := HRR.out
        rw [if_pos rfl] at hr
        have HC2 := Lib.hid (HC.out w2 td HK2.out HT2.out)
        obtain ⟨q, hq⟩ : ∃ q, clr td (fr s.data.toList) = q := ⟨_, rfl⟩
        rw [show clr (14, td).2 (fr s.data.toList) = q from hq] at hr
        rw [hq] at HC2
        have HR2 := Lib.hid hr
        clear hr hq HRR HLEN
        go_wp2_with fail
        refine HC2.out.mono ?_
        obtain ⟨qe, qd⟩ := q
        rintro e w3 ⟨rfl, hk3, ht3⟩
        have HT3 := Lib.hid (HT2.out.trans0 ht3)
        have HK3 := Lib.hid hk3
        clear hk3 ht3 HT2 HK2 HC2
        by_cases h15 : qe = 15
        · subst h15
          have HE := Lib.hid (show R = (15, qd) from HR2.out.symm)
          go_wp2_with fail
          go_ret
          first | rw [HE.out] | rw [HR.out, HE.out]
          exact HBK.out (15, qd) _ w3 ⟨rfl, HK3.out, HT3.out⟩
        · have HE := Lib.hid (show R = (14, qd) from by rw [← HR2.out, if_neg h15])
          have hne : ((qe : Int) == 15) = false := by rw [beq_eq_false_iff_ne]; omega
          have hne' : ¬ ((qe : Int) = 15) := by omega
          go_wp2_with fail
          go_ret
          first | rw [HE.out] | rw [HR.out, HE.out]
          exact HBK.out (14, qd) _ w3 ⟨rfl, HK3.out, HT3.out⟩
      · have hne : ((te : Int) == 14) = false := by rw [beq_eq_false_iff_ne]; omega
        have hne' : ¬ ((te : Int) = 14) := by omega
        by_cases h0 : te = 0
        · subst h0
          have hr : replFrom s.data.toList bs (4 - (i + 1)) td = R := by
            have := HRR.out
            rw [if_neg (show ¬ ((0, td).1 : Nat) = 14 by show ¬ (0 = 14); omega), if_pos rfl] at this
            exact this
          have HR2 := Lib.hid hr
          clear hr HRR
          go_wp2_with fail
          go_roundw
          case rel => exact ⟨i + 1, td, by go_num, by omega, HK2.out, HT2.out, HR2.out, fun h => HLEN.out (by omega)⟩
          case measure => simp [intOf]; omega
        · have HE := Lib.hid (show R = (te, td) from by rw [← HRR.out, if_neg h14, if_neg h0])
          have hne2 : ((te : Int) != 0) = true := by rw [bne_iff_ne]; omega
          have hne2' : ¬ ((te : Int) = 0) := by omega
          go_wp2_with fail
          go_ret
          first | rw [HE.out] | rw [HR.out, HE.out]
          exact HBK.out (te, td) _ w2 ⟨rfl, HK2.out, HT2.out⟩
    · obtain rfl : i = 4 := by omega
      have hRe : R = (0, d') := hr.symm
      subst hRe
      have HB' := Lib.hid (HBK.out (0, d') _ wr ⟨rfl, hk, ht⟩)
      clear hr hk ht hf
      go_wp2_with fail
      go_ret
      rw [HR.out]
      exact HB'.out
end Go.Proofs.YtopnhplacdbkdaaGreat
end

section
namespace Go.Proofs.YtopnhplacdbkdaaGreat
open Go.RowKit DiskM Go.Shelf

set_option maxRecDepth 100000 in
set_option maxHeartbeats 4000000 in
theorem save_k {w : World} {B : Nat} {S : Nat → Prop} {p : Nat} {d : DS} (h : DK w B S p d) (s : ByteArray) (hs : s.size + 4 ≤ maxLen) (a : Option Addr) (n c : Nat) (bs : List UInt8) (hn : bs.length = n) (hm : n ≤ 65536) (hrd : Rd w w.heap.size a bs) (hfew : d.files.length < 1000000) :
    Calls Tryz.prog 10 #[.pointer (some ⟨p, 0, none⟩), .string s, .slice a n c] w (WroteK w B S p (save d s.data.toList bs)) := by
  have hs' : ¬ (9223372036854775807 < s.size + 4) := by unfold maxLen at hs; omega
  obtain ⟨F, hF⟩ : ∃ F, F = s ++ (⟨#[46, 110, 101, 119]⟩ : ByteArray) := ⟨_, rfl⟩
  have hFd : F.data.toList = fr s.data.toList := by rw [hF]; show (s ++ (⟨#[46, 110, 101, 119]⟩ : ByteArray)).data.toList = s.data.toList ++ [46, 110, 101, 119]; simp
  have hFs : F.size ≤ maxLen := by rw [hF, ByteArray.size_append]; exact hs
  have HS := Lib.hid hs
  have HK := Lib.hid h
  have HN := Lib.hid hn
  have HRD := Lib.hid hrd
  have HFEW := Lib.hid hfew
  have HFS := Lib.hid hFs
  clear hs h hn hrd hfew hFs
  by_cases h1 : named s.data.toList = true
  rotate_left
  · have hv : save d s.data.toList bs = (1, d) := by unfold save saves; rw [show named s.data.toList = false by simpa using h1]; rfl
    rw [hv]
    have h1' : named s.data.toList = false := by simpa using h1
    have H1 := Lib.hid h1'
    clear h1 hv h1' hF hFd
    go_enter Tryz.func10, Tryz.ntmps10
    go_wp2_with fail
    refine (named_any s _ (by have := HS.out; omega)).mono ?_
    rw [H1.out]
    rintro e w' ⟨rfl, rfl⟩
    go_wp2_with fail
    go_ret
    exact ⟨rfl, HK.out, Turn.refl _ _⟩
  by_cases h2 : named (fr s.data.toList) = true
  rotate_left
  · have h2' : named (fr s.data.toList) = false := by simpa using h2
    have hv : save d s.data.toList bs = (1, d) := by unfold save saves; rw [h1, h2']; rfl
    rw [hv]
    have H1 := Lib.hid h1
    have H2 := Lib.hid h2'
    have HFD := Lib.hid hFd
    clear h1 h2 hv h2' hFd
    go_enter Tryz.func10, Tryz.ntmps10
    go_wp2_with fail
    refine (named_any s _ (by have := HS.out; omega)).mono ?_
    rw [H1.out]
    rintro e w' ⟨rfl, rfl⟩
    go_wp2_with fail
    rw [← hF]
    refine (named_any F _ HFS.out).mono ?_
    rw [HFD.out, H2.out]
    rintro e w' ⟨rfl, rfl⟩
    go_wp2_with fail
    go_ret
    exact ⟨rfl, HK.out, Turn.refl _ _⟩
  have H1 := Lib.hid h1
  have H2 := Lib.hid h2
  have HFD := Lib.hid hFd
  clear h1 h2 hFd
  go_enter Tryz.func10, Tryz.ntmps10
  go_wp2_with fail
  refine (named_any s _ (by have := HS.out; omega)).mono ?_
  rw [H1.out]
  rintro e w' ⟨rfl, rfl⟩
  go_wp2_with fail
  rw [← hF]
  refine (named_any F _ HFS.out).mono ?_
  rw [HFD.out, H2.out]
  rintro e w' ⟨rfl, rfl⟩
  go_wp2_with fail
  refine (suffix_any s _ (by have := HS.out; omega)).mono ?_
  rintro e w' ⟨rfl, rfl⟩
  by_cases h3 : suf s.data.toList = true
  · have hv : save d s.data.toList bs = (1, d) := by unfold save saves; rw [H1.out, H2.out, h3]; rfl
    have HV := Lib.hid hv
    rw [h3]
    clear hv h3
    go_wp2_with fail
    go_ret
    rw [HV.out]
    exact ⟨rfl, HK.out, Turn.refl _ _⟩
  have h3' : suf s.data.toList = false := by simpa using h3
  have hsv : saves s.data.toList = true := by unfold saves; rw [H1.out, H2.out, h3']; rfl
  rw [h3']
  have HSV := Lib.hid hsv
  clear h3 h3' hsv
  go_wp2_with fail
  refine (put_any a n c bs _ HN.out hm HRD.out).mono ?_
  rintro e w1 ⟨a1, c1, rfl, ho1, hb1⟩
  have HO1 := Lib.hid ho1
  have hk1 : DK w1 B (fun k => S k ∨ (w.heap.size ≤ k ∧ k < w1.heap.size)) p d := HK.out.more hb1 (fun k hk => hk)
  have HK1 := Lib.hid hk1
  have HB1 := Lib.hid hb1
  clear ho1 hk1 hb1
  go_wp2_with fail
  refine (down_k HK1.out).mono ?_
  rintro e w2 ⟨rfl, rfl⟩
  by_cases h4 : d.down = true
  · have HV := Lib.hid (show save d s.data.toList bs = (15, d) by unfold save; rw [HSV.out, h4]; rfl)
    rw [h4]
    clear h4
    go_wp2_with fail
    go_ret
    rw [HV.out]
    exact ⟨rfl, HK.out.below HB1.out, Turn.of_below HB1.out _⟩
  have h4' : d.down = false := by simpa using h4
  have HV := Lib.hid (show save d s.data.toList bs = replace d s.data.toList (LogM.put bs) by unfold save; rw [HSV.out, h4']; rfl)
  rw [h4']
  clear h4 h4'
  go_wp2_with fail
  refine (replace_k HK1.out s HS.out a1 (n + 12) c1 (LogM.put bs) HO1.out.len (HO1.out.rd) (fun x hx => .inl (.inr (HO1.out.blk_lt _ ⟨x, hx, rfl⟩))) HFEW.out).mono ?_
  rintro e w3 ⟨rfl, hk3, ht3⟩
  go_wp2_with fail
  go_ret
  rw [HV.out]
  exact ⟨rfl, hk3.less fun k hk => .inl hk, (Turn.of_below HB1.out _).trans0 (ht3.more fun k _ hk => off_less (fun k hk => .inl hk) k hk)⟩
end Go.Proofs.YtopnhplacdbkdaaGreat
end

section
namespace Go.Proofs.YtopnhplacdbkdaaGreat
open Go.RowKit DiskM Go.Shelf

theorem read_len {d : DS} (h : d.Ok) (k : Nm) : (DiskM.read d k).1.length ≤ 16777216 := by
  have h1 := old_used h k
  have h2 := h.used
  unfold DiskM.read
  split
  · show 0 ≤ _; omega
  · split
    · show (DiskM.old d k).1.length ≤ _; omega
    · show 0 ≤ _; omega

set_option maxRecDepth 100000 in
set_option maxHeartbeats 4000000 in
theorem load_k {w : World} {B : Nat} {S : Nat → Prop} {p : Nat} {d : DS} (h : DK w B S p d) (s : ByteArray) (hs : s.size ≤ maxLen) :
    Calls Tryz.prog 11 #[.pointer (some ⟨p, 0, none⟩), .string s] w (BytesIs w (DiskM.load d s.data.toList)) := by
  have hlen := read_len h.ok s.data.toList
  go_enter Tryz.func11, Tryz.ntmps11
  go_wp2_with fail
  refine (read_k h s hs).mono ?_
  have HL := Lib.hid (show DiskM.load d s.data.toList = if (DiskM.read d s.data.toList).2 = 0 then loadOf (DiskM.read d s.data.toList).1 else ([], (DiskM.read d s.data.toList).2) from rfl)
  obtain ⟨r, hr⟩ : ∃ r, DiskM.read d s.data.toList = r := ⟨_, rfl⟩
  rw [hr] at HL hlen ⊢
  clear hr
  obtain ⟨X, e⟩ := r
  rintro _ w1 ⟨a, c, rfl, hown, hb1⟩
  have HO := Lib.hid hown
  have HB := Lib.hid hb1
  have hlX : X.length ≤ 16777216 := hlen
  clear hown hb1 hlen h
  by_cases h0 : e = 0
  rotate_left
  · have hne : ((e : Int) != 0) = true := by rw [bne_iff_ne]; omega
    have hne' : ¬ ((e : Int) = 0) := by omega
    have HV := Lib.hid (show DiskM.load d s.data.toList = ([], e) by rw [HL.out, if_neg h0])
    clear h0
    go_wp2_with fail
    go_ret2
    rw [HV.out]
    exact ⟨none, 0, rfl, Own.nil_ _ _, HB.out⟩
  subst h0
  have hcap : X.length ≤ c ∧ c ≤ maxLen := HO.out.cap
  unfold maxLen at hcap
  go_wp2_with fail
  refine (lognext_any a X.length c X _ rfl (by omega) hcap.1 hcap.2 (HO.out.rd)).mono ?_
  have HL2 := Lib.hid (show DiskM.load d s.data.toList = loadOf X from HL.out)
  obtain ⟨q, hq⟩ : ∃ q, LogM.next X = q := ⟨_, rfl⟩
  have hlo : loadOf X = if q.2.2 = 0 ∧ ¬ q.2.1 < X.length then (q.1, 0) else ([], 11) := by unfold loadOf; rw [hq]
  rw [hq]
  obtain ⟨Y, N, E⟩ := q
  have HLO := Lib.hid (show loadOf X = if E = 0 ∧ ¬ N < X.length then (Y, 0) else ([], 11) from hlo)
  clear hq hlo HL
  rintro _ w2 ⟨a2, c2, rfl, ho2, hb2⟩
  have HO2 := Lib.hid (show Own w2 w1.heap.size a2 Y.length c2 Y from ho2)
  have HB2 := Lib.hid (Below.next0 HB.out hb2)
  have HS1 := Lib.hid HB.out.size
  clear ho2 hb2
  by_cases hE : E = 0
  · subst hE
    by_cases hN : N < X.length
    · have HV := Lib.hid (show DiskM.load d s.data.toList = ([], 11) by rw [HL2.out, HLO.out, if_neg (fun h => h.2 hN)])
      have hN' : (N : Int) < (X.length : Int) := by omega
      clear hN
      go_wp2_with fail
      go_ret2
      rw [HV.out]
      exact ⟨none, 0, rfl, Own.nil_ _ _, HB2.out⟩
    · have HV := Lib.hid (show DiskM.load d s.data.toList = (Y, 0) by rw [HL2.out, HLO.out, if_pos ⟨rfl, hN⟩])
      have hN' : ¬ ((N : Int) < (X.length : Int)) := by omega
      clear hN
      go_wp2_with fail
      go_ret2
      rw [HV.out]
      exact ⟨a2, c2, rfl, HO2.out.lower HS1.out, HB2.out⟩
  · have HV := Lib.hid (show DiskM.load d s.data.toList = ([], 11) by rw [HL2.out, HLO.out, if_neg (fun h => hE h.1)])
    have hne : ((E : Int) != 0) = true := by rw [bne_iff_ne]; omega
    have hne' : ¬ ((E : Int) = 0) := by omega
    clear hE
    go_wp2_with fail
    go_ret2
    rw [HV.out]
    exact ⟨none, 0, rfl, Own.nil_ _ _, HB2.out⟩

/-- clean's loop, from some name on -/
theorem cleanL_drop (ns : List Nm) (i : Nat) (x : Nm) (h : ns[i]? = some x) (d : DS) : cleanL (ns.drop i) d = if suf x then (if (remove d x).1 = 0 then cleanL (ns.drop (i + 1)) (remove d x).2 else remove d x) else cleanL (ns.drop (i + 1)) d := by
  obtain ⟨hl, he⟩ := List.getElem?_eq_some_iff.1 h
  rw [List.drop_eq_getElem_cons hl, he]
  rfl
set_option maxRecDepth 100000 in
set_option maxHeartbeats 4000000 in
theorem clean_k {w : World} {B : Nat} {S : Nat → Prop} {p : Nat} {d : DS} (h : DK w B S p d) :
    Calls Tryz.prog 13 #[.pointer (some ⟨p, 0, none⟩)] w (WroteK w B S p (clean d)) := by
  go_enter Tryz.func13, Tryz.ntmps13
  go_wp2_with fail
  refine (down_k h).mono ?_
  rintro e w' ⟨rfl, rfl⟩
  by_cases h4 : d.down = true
  · have HV := Lib.hid (show clean d = (15, d) by unfold clean; rw [h4]; rfl)
    rw [h4]
    clear h4
    go_wp2_with fail
    go_ret
    rw [HV.out]
    exact ⟨rfl, h, Turn.refl _ _⟩
  have h4' : d.down = false := by simpa using h4
  have HV := Lib.hid (show clean d = cleanL (namesOf d) d by unfold clean; rw [h4']; rfl)
  rw [h4']
  have hfew : (namesOf d).length ≤ 1000000 := by have := h.ok.few; simpa [namesOf] using this
  have hnl : ∀ x ∈ namesOf d, x.length ≤ 16 := fun x hx => by
    obtain ⟨y, hy, rfl⟩ := List.mem_map.1 hx
    exact h.ok.name y hy
  clear h4 h4'
  go_wp2_with fail
  refine (list_k h).mono ?_
  obtain ⟨ns, hns⟩ : ∃ ns, namesOf d = ns := ⟨_, rfl⟩
  rw [hns] at HV hfew hnl ⊢
  rintro e w1 ⟨a, c, rfl, hrow, hb1⟩
  have hk1 := h.more (S' := fun k => S k ∨ (w.heap.size ≤ k ∧ k < w1.heap.size)) hb1 (fun k hk => hk)
  have ht1 : Turn (off B S) w w1 := Turn.of_below hb1 _
  obtain ⟨R, hR⟩ : ∃ R, R = cleanL ns d := ⟨_, rfl⟩
  rw [← hR] at HV
  have HR := Lib.hid hR
  have HNL := Lib.hid hnl
  have HK1 := Lib.hid hk1
  have HT1 := Lib.hid ht1
  clear hns hb1 hk1 ht1 h hR hnl
  go_wp2_with fail
  go_loopw [11] (fun v wr => ∃ (i : Nat) (d' : DS), v = .int .i64 i ∧ i ≤ ns.length ∧ DK wr B (fun k => S k ∨ (w.heap.size ≤ k ∧ k < w1.heap.size)) p d' ∧ Turn (off B fun k => S k ∨ (w.heap.size ≤ k ∧ k < w1.heap.size)) w1 wr ∧ cleanL (ns.drop i) d' = R) (fun v _ => ns.length - (intOf v).toNat)
  case atStart => exact ⟨0, d, rfl, Nat.zero_le _, HK1.out, Turn.refl _ _, HR.out.symm⟩
  case round =>
    obtain ⟨i, d', rfl, hi, hk, ht, hc⟩ := hrel
    have HK := Lib.hid hk
    have HT := Lib.hid ht
    have fin : ∀ (r : Nat × DS) (W : World), R = r → DK W B (fun k => S k ∨ (w.heap.size ≤ k ∧ k < w1.heap.size)) p r.2 → Turn (off B fun k => S k ∨ (w.heap.size ≤ k ∧ k < w1.heap.size)) w1 W → WroteK w B S p R (.returned (.int .i64 (r.1 : Nat))) W := fun r W he h1 h2 => by
      rw [he]
      exact ⟨rfl, h1.less fun k hk => .inl hk, HT1.out.trans0 (h2.more fun k _ hk => off_less (fun k hk => .inl hk) k hk)⟩
    have FIN := Lib.hid fin
    by_cases hlt : i < ns.length
    · obtain ⟨nm, hnm⟩ : ∃ nm, ns[i]? = some nm := ⟨_, List.getElem?_eq_getElem hlt⟩
      obtain ⟨g, rfl, hgB, hgl, hgc⟩ := hrow.at_ (j := i) (x := encStr nm) (by rw [List.getElem?_map, hnm]; rfl)
      have hgc' : wr.cell? ⟨g, i, none⟩ = some (.string ⟨nm.toArray⟩) := DK.cell_keep (x := ⟨g, i, none⟩) ht (.inr ⟨hgB, hgl⟩) hgc
      have hlt' : (i : Int) < (ns.length : Int) := by omega
      rw [cleanL_drop ns i nm hnm] at hc
      have hsz : (⟨nm.toArray⟩ : ByteArray).size ≤ maxLen := by
        have := HNL.out nm (List.mem_of_getElem? hnm)
        show nm.toArray.size ≤ _
        unfold maxLen; simp; omega
      have HC := Lib.hid hc
      have HSZ := Lib.hid hsz
      clear hk ht hc fin hgc hnm hsz
      go_wp2_with fail
      refine (suffix_any ⟨nm.toArray⟩ _ HSZ.out).mono ?_
      rintro e w' ⟨rfl, rfl⟩
      rw [show suf (⟨nm.toArray⟩ : ByteArray).data.toList = suf nm from rfl]
      by_cases hsf : suf nm = true
      · have hc := HC.out
        rw [if_pos hsf] at hc
        have HC2 := Lib.hid hc
        rw [hsf]
        clear hc HC hsf
        go_wp2_with fail
        refine (remove_k HK.out ⟨nm.toArray⟩ HSZ.out).mono ?_
        rw [show remove d' (⟨nm.toArray⟩ : ByteArray).data.toList = remove d' nm from rfl]
        obtain ⟨q, hq⟩ : ∃ q, remove d' nm = q := ⟨_, rfl⟩
        rw [hq] at HC2 ⊢
        clear hq
        obtain ⟨qe, qd⟩ := q
        rintro e w3 ⟨rfl, hk3, ht3⟩
        have HK3 := Lib.hid hk3
        have HT3 := Lib.hid (HT.out.trans0 ht3)
        clear hk3 ht3 HK HT
        by_cases h0 : qe = 0
        · subst h0
          have HC3 := Lib.hid (show cleanL (ns.drop (i + 1)) qd = R from HC2.out)
          go_wp2_with fail
          go_roundw
          case rel => exact ⟨i + 1, qd, by go_num, by omega, HK3.out, HT3.out, HC3.out⟩
          case measure => simp [intOf]; omega
        · have HE := Lib.hid (show R = (qe, qd) from by rw [← HC2.out, if_neg h0])
          have hne2 : ((qe : Int) != 0) = true := by rw [bne_iff_ne]; omega
          have hne2' : ¬ ((qe : Int) = 0) := by omega
          go_wp2_with fail
          go_ret
          first | exact FIN.out (qe, qd) _ HE.out HK3.out HT3.out | (rw [HV.out]; exact FIN.out (qe, qd) _ HE.out HK3.out HT3.out)
      · have hc := HC.out
        rw [if_neg hsf] at hc
        have hsf' : suf nm = false := by simpa using hsf
        have HC2 := Lib.hid hc
        rw [hsf']
        clear hc HC hsf hsf'
        go_wp2_with fail
        go_roundw
        case rel => exact ⟨i + 1, d', by go_num, by omega, HK.out, HT.out, HC2.out⟩
        case measure => simp [intOf]; omega
    · obtain rfl : i = ns.length := by omega
      rw [List.drop_length] at hc
      have HE := Lib.hid (show R = (0, d') from hc.symm)
      clear hk ht hc fin
      go_wp2_with fail
      go_ret
      first | exact FIN.out (0, d') _ HE.out HK.out HT.out | (rw [HV.out]; exact FIN.out (0, d') _ HE.out HK.out HT.out)
end Go.Proofs.YtopnhplacdbkdaaGreat
end

section
namespace Go.Proofs.YtopnhplacdbkdaaGreat
open Go.RowKit DiskM Go.Shelf

set_option maxRecDepth 100000 in
set_option maxHeartbeats 4000000 in
theorem snapknown_any (w : World) : Calls Tryz.prog 4 #[] w fun e w' => e = .returned (.bool true) ∧ Below w.heap.size w w' := by
  go_enter Tryz.func4, Tryz.ntmps4
  go_wp2_with fail
  refine (new_k 100 _ w.heap.size (fun _ => False) (Nat.le_refl _) (fun _ h => h.elim)).mono ?_
  rintro e w0 ⟨p, rfl, hk0, hb0⟩
  have hT0 : Turn (off w.heap.size fun _ => False) w w0 := Turn.of_below hb0 _
  change DK w0 _ _ p sn0 at hk0
  have HK0 := Lib.hid hk0
  have HT0 := Lib.hid hT0
  clear hb0 hk0 hT0
  have hcv := Lib.run_convert_bytes_const (P := Tryz.prog) w0 30 5 #[.int .u8 97, .int .u8 98, .int .u8 99] 3 3 Tryz.underlying30 Tryz.underlying5
  go_wp2_with fail
  have hb1 : Below w0.heap.size w0 (w0.alloc (.cells #[.int .u8 97, .int .u8 98, .int .u8 99] 5 (3, 4))) := (Below.refl _ _).alloc (Nat.le_refl _) _
  refine (save_k (HK0.out.below hb1) ⟨#[115]⟩ (by decide) _ 3 3 [97, 98, 99] rfl (by omega) (Rd.new w0 #[.int .u8 97, .int .u8 98, .int .u8 99] 5 (3, 4) [97, 98, 99] rfl |>.more (by simp)) sn0_few).mono ?_
  rintro e w1 ⟨rfl, hk1, hT1⟩
  have HT1 := Lib.hid ((HT0.out.trans0 (Turn.of_below hb1 _)).trans0 hT1)
  change DK w1 _ _ p sn1 at hk1
  have HK1 := Lib.hid hk1
  rw [show (save sn0 (⟨#[115]⟩ : ByteArray).data.toList [97, 98, 99]).1 = 0 from sn1_e]
  clear hcv hb1 hk1 hT1 HK0 HT0
  go_wp2_with fail
  refine (load_k HK1.out ⟨#[115]⟩ (by decide)).mono ?_
  rw [show DiskM.load sn1 (⟨#[115]⟩ : ByteArray).data.toList = _ from sn1_l]
  rintro e w2 ⟨a, c, rfl, hown, hb2⟩
  have HO2 := Lib.hid (show Own w2 w1.heap.size a 3 c [97, 98, 99] from hown)
  have HK2 := Lib.hid (HK1.out.below hb2)
  have HT2 := Lib.hid (HT1.out.trans0 (Turn.of_below hb2 _))
  have hk2' : DK w2 w.heap.size (blk a) p sn1 := HK1.out.more hb2 (fun k hk => .inr (HO2.out.blk_lt k hk))
  have HK2' := Lib.hid hk2'
  clear hb2 HK1 hown hk2'
  have hcv := Lib.run_convert_bytes_const (P := Tryz.prog) w2 30 5 #[.int .u8 49] 1 1 Tryz.underlying30 Tryz.underlying5
  go_wp2_with fail
  have hb3 : Below w2.heap.size w2 (w2.alloc (.cells #[.int .u8 49] 5 (1, 2))) := (Below.refl _ _).alloc (Nat.le_refl _) _
  refine (append_new HK2'.out hb3 ⟨#[120, 46, 110, 101, 119]⟩ (by decide) _ 1 1 [49] rfl (Rd.new w2 #[.int .u8 49] 5 (1, 2) [49] rfl |>.more (by simp)) (fun x hx => by injection hx with hx; subst hx; exact ⟨Nat.le_refl _, by simp⟩) sn1_few).mono ?_
  rintro e w3 ⟨rfl, hk3, hT3⟩
  have HT3 := Lib.hid ((Turn.of_below hb3 _).trans0 hT3)
  have HTT3 := Lib.hid ((HT2.out.trans0 (Turn.of_below hb3 _)).trans0 (hT3.more fun k _ hk => off_less (fun _ h => h.elim) k hk))
  change DK w3 _ _ p sn2 at hk3
  have HK3 := Lib.hid hk3
  rw [show (append sn1 (⟨#[120, 46, 110, 101, 119]⟩ : ByteArray).data.toList [49]).1 = 0 from sn2_e]
  have HO3 := Lib.hid (HO2.out.turn HT3.out (fun x hx h => h.2 ⟨x, hx, rfl⟩))
  clear hcv hb3 hk3 hT3 HK2 HK2' HO2 HT2 HT1 HT3
  go_wp2_with fail
  refine (clean_k HK3.out).mono ?_
  rintro e w4 ⟨rfl, hk4, hT4⟩
  change DK w4 _ _ p sn3 at hk4
  have HK4 := Lib.hid hk4
  have HO4 := Lib.hid (HO3.out.turn hT4 (fun x hx h => h.2 ⟨x, hx, rfl⟩))
  have HT4 := Lib.hid (HTT3.out.trans0 (hT4.more fun k _ hk => off_less (fun _ h => h.elim) k hk))
  rw [show (clean sn2).1 = 0 from sn3_e]
  clear hk4 hT4 HK3 HO3 HTT3
  go_wp2_with fail
  refine (load_k HK4.out ⟨#[116]⟩ (by decide)).mono ?_
  rw [show DiskM.load sn3 (⟨#[116]⟩ : ByteArray).data.toList = _ from sn3_l]
  rintro e w5 ⟨a5, c5, rfl, _, hb5⟩
  have HO5 := Lib.hid (HO4.out.call hb5)
  have HK5 := Lib.hid (HK4.out.below hb5)
  have HT5 := Lib.hid (HT4.out.trans0 (Turn.of_below hb5 _))
  have hstr := run_string_b w5 _ a 3 c [97, 98, 99] HO5.out.rd rfl
  clear hb5 HK4 HT4 HO4
  go_wp2_with fail
  refine (list_k HK5.out).mono ?_
  rintro e w7 ⟨a7, c7, rfl, hrow7, hb7⟩
  rw [show (namesOf sn3).length = 1 from sn3_n]
  have HK7 := Lib.hid (HK5.out.below hb7)
  have HT7 := Lib.hid (HT5.out.trans0 (Turn.of_below hb7 _))
  clear hb7 HK5 HT5 hrow7 hstr
  go_wp2_with fail
  refine (sure_k HK7.out ⟨#[115]⟩ (by decide)).mono ?_
  rw [show (DiskM.old sn3 (⟨#[115]⟩ : ByteArray).data.toList).2 = 15 from sn3_s]
  rintro e w8 ⟨rfl, rfl⟩
  go_wp2_with fail
  refine (save_k HK7.out ⟨#[115, 46, 110, 101, 119]⟩ (by decide) none 0 0 [] rfl (by omega) (.inl rfl) sn3_few).mono ?_
  rw [show save sn3 (⟨#[115, 46, 110, 101, 119]⟩ : ByteArray).data.toList [] = (1, sn3) from sn3_f []]
  rintro e w9 ⟨rfl, _, hT9⟩
  have HT9 := Lib.hid (HT7.out.trans0 (hT9.more fun k _ hk => off_less (fun _ h => h.elim) k hk))
  clear hT9 HT7 HK7
  go_wp2_with fail
  go_ret
  exact ⟨rfl, Below.turn (Below.refl _ _) HT9.out (Nat.le_refl _) (fun k h => h.1)⟩
end Go.Proofs.YtopnhplacdbkdaaGreat
end
