/- The program's disk and the reference disk side by side; Texts. Condition: both lie behind their pointers, apart. -/
import Derived.Test.YtopnhplacdbkdaaGreatRefCrash
namespace Go.Proofs.YtopnhplacdbkdaaGreat
open Go.RowKit DiskM

/-- both disks, from B on, off each other, and off S -/
def Both (w : World) (B : Nat) (S : Nat → Prop) (p r : Nat) (d : DS) : Prop := ∃ fq, RefAt w fq r d ∧ DK w B (fun k => fq k ∨ S k) p d ∧ ∀ k, fq k → B ≤ k ∧ ¬ S k
section
variable {w w' : World} {B p r : Nat} {S S' : Nat → Prop} {d d' : DS}
theorem Both.below (h : Both w B S p r d) (hb : Below w.heap.size w w') : Both w' B S p r d := by
  obtain ⟨fq, h1, h2, h3⟩ := h
  exact ⟨fq, h1.below hb, h2.below hb, h3⟩
theorem Both.ok (h : Both w B S p r d) : d.Ok := by
  obtain ⟨fq, h1, h2, h3⟩ := h
  exact h1.ok
theorem Both.base (h : Both w B S p r d) : B ≤ w.heap.size := by
  obtain ⟨fq, h1, h2, h3⟩ := h
  exact h2.2.2
theorem Both.offs (h : Both w B S p r d) : ∀ k, S k → k < w.heap.size := by
  obtain ⟨fq, h1, h2, h3⟩ := h
  exact fun k hk => h2.2.1 k (.inr hk)
theorem Both.cell (h : Both w B S p r d) : w.cell? ⟨r, 1, none⟩ = some (.int .i64 (d.room : Int)) ∧ w.cell? ⟨r, 5, none⟩ = some (.bool d.down) := by
  obtain ⟨fq, ⟨a, n, c, L, fv, h⟩, h2, h3⟩ := h
  exact ⟨cell_of_row _ _ 1 _ _ _ h.cells, cell_of_row _ _ 5 _ _ _ h.cells⟩
/-- blocks that were laid since are kept off -/
theorem Both.more (h : Both w B S p r d) (hb : Below w.heap.size w w') (hs : ∀ k, S' k → S k ∨ (w.heap.size ≤ k ∧ k < w'.heap.size)) : Both w' B S' p r d := by
  obtain ⟨fq, h1, h2, h3⟩ := h
  refine ⟨fq, h1.below hb, h2.more hb fun k hk => ?_, fun k hk => ⟨(h3 k hk).1, fun hk' => ?_⟩⟩
  · rcases hk with hk | hk
    · exact .inl (.inl hk)
    · rcases hs k hk with h | h
      · exact .inl (.inr h)
      · exact .inr h
  · rcases hs k hk' with h | h
    · exact (h3 k hk).2 h
    · have := h1.lt k hk; omega
/-- the program's disk is turned, then the reference disk: from B on alone, and off S -/
theorem both_after {fq : Nat → Prop} {w1 : World} (h1 : RefAt w fq r d) (h3 : ∀ k, fq k → B ≤ k ∧ ¬ S k) (hk : DK w1 B (fun k => fq k ∨ S k) p d') (ht : Turn (off B fun k => fq k ∨ S k) w w1)
    (href : RefAt w1 fq r d → ∃ fq', RefAt w' fq' r d' ∧ (∀ k, fq' k → fq k ∨ w1.heap.size ≤ k) ∧ Turn fq w1 w') : Both w' B S p r d' ∧ Turn (off B S) w w' := by
  have hr1 : RefAt w1 fq r d := h1.turn ht fun k hk hf => hf.2 (.inl hk)
  obtain ⟨fq', h4, h5, h6⟩ := href hr1
  have hBs : B ≤ w1.heap.size := hk.2.2
  have hSs : ∀ k, S k → k < w1.heap.size := fun k h => hk.2.1 k (.inr h)
  refine ⟨⟨fq', h4, ?_, fun k hk' => ?_⟩, (ht.more fun k _ h => ⟨h.1, fun h' => h.2 (.inr h')⟩).trans0 (h6.more fun k _ h => ⟨(h3 k h).1, (h3 k h).2⟩)⟩
  · obtain ⟨⟨fp, hd, hf⟩, hs, hB⟩ := hk
    refine ⟨⟨fp, hd.keep (fun k hk => h6.block k (hd.lt k hk) fun hq => (hf k hk).2 (.inl hq)) h6.size, fun k hk => ⟨(hf k hk).1, fun hq => ?_⟩⟩, fun k hk => ?_, Nat.le_trans hB h6.size⟩
    · rcases hq with hq | hq
      · rcases h5 k hq with h | h
        · exact (hf k hk).2 (.inl h)
        · have := hd.lt k hk; omega
      · exact (hf k hk).2 (.inr hq)
    · rcases hk with hk | hk
      · exact h4.lt k hk
      · have := hSs k hk; have := h6.size; omega
  · rcases h5 k hk' with h | h
    · exact h3 k h
    · exact ⟨by omega, fun h' => by have := hSs k h'; omega⟩
end

def strs (ns : List Nm) : List Value := ns.map encStr
set_option maxRecDepth 100000 in
set_option maxHeartbeats 1000000 in
theorem texts_any (w : World) {B1 B2 : Nat} (a1 a2 : Option Addr) (n1 c1 n2 c2 : Nat) (ns ms : List Nm) (h1 : Row w B1 9 1 a1 n1 c1 (strs ns)) (h2 : Row w B2 9 1 a2 n2 c2 (strs ms)) (hm : n1 ≤ 1000000) :
    Calls Tryz.prog 30 #[.slice a1 n1 c1, .slice a2 n2 c2] w fun e w' => e = .returned (.bool (decide (ns = ms))) ∧ ∃ k, w' = w.drewN k := by
  have hl1 : ns.length = n1 := by have := h1.len; unfold strs at this; simpa using this
  have hl2 : ms.length = n2 := by have := h2.len; unfold strs at this; simpa using this
  have H1 := Lib.hid h1
  have H2 := Lib.hid h2
  by_cases hn : n1 = n2
  rotate_left
  · have HF := Lib.hid (show decide (ns = ms) = false from decide_eq_false fun e => hn (by rw [← hl1, ← hl2, e]))
    have hne : ((n1 : Int) == (n2 : Int)) = false := by rw [beq_eq_false_iff_ne]; omega
    have hne' : ((n1 : Int) != (n2 : Int)) = true := by rw [bne_iff_ne]; omega
    clear h1 h2 hl1 hl2
    go_enter Tryz.func30, Tryz.ntmps30
    go_wp2_with fail
    go_ret
    exact ⟨ret_bool' HF.out.symm, 0, rfl⟩
  subst hn
  have HL1 := Lib.hid hl1
  have HL2 := Lib.hid hl2
  clear h1 h2 hl1 hl2
  go_enter Tryz.func30, Tryz.ntmps30
  go_wp2_with fail
  go_loopw [5] (fun v wr => ∃ (k j : Nat), v = .int .i64 k ∧ k ≤ n1 ∧ wr = w.drewN j ∧ ns.take k = ms.take k) (fun v _ => n1 - (intOf v).toNat)
  case atStart => exact ⟨0, 0, rfl, Nat.zero_le _, rfl, rfl⟩
  case round =>
    obtain ⟨k, j, rfl, hk, rfl, heq⟩ := hrel
    by_cases hlt : k < n1
    · obtain ⟨x, hx⟩ : ∃ x, ns[k]? = some x := ⟨_, List.getElem?_eq_getElem (by rw [HL1.out]; exact hlt)⟩
      obtain ⟨y, hy⟩ : ∃ y, ms[k]? = some y := ⟨_, List.getElem?_eq_getElem (by rw [HL2.out]; exact hlt)⟩
      obtain ⟨g1, rfl, _, _, e1⟩ := H1.out.at_ (j := k) (x := encStr x) (by unfold strs; rw [List.getElem?_map, hx]; rfl)
      obtain ⟨g2, rfl, _, _, e2⟩ := H2.out.at_ (j := k) (x := encStr y) (by unfold strs; rw [List.getElem?_map, hy]; rfl)
      have e1' : ∀ q, (w.drewN q).cell? ⟨g1, k, none⟩ = some (.string ⟨x.toArray⟩) := fun _ => e1
      have e2' : ∀ q, (w.drewN q).cell? ⟨g2, k, none⟩ = some (.string ⟨y.toArray⟩) := fun _ => e2
      have hlt' : (k : Int) < (n1 : Int) := by omega
      have HEQ := Lib.hid heq
      have HX := Lib.hid hx
      have HY := Lib.hid hy
      clear heq hx hy e1 e2
      by_cases he : x = y
      · have hcmp : (x == y) = true := by rw [beq_dec']; exact decide_eq_true he
        have hc2 : (x != y) = false := by simp [bne, hcmp]
        have HE := Lib.hid he
        clear he
        go_wp2_with fail
        go_quiet (fail)
        go_wp2_with fail
        go_roundw
        case rel => exact ⟨k + 1, _, by go_num, by omega, rfl, by rw [List.take_add_one, List.take_add_one, HEQ.out, HX.out, HY.out, HE.out]⟩
        case measure => simp [intOf]; omega
      · have hcmp : (x == y) = false := by rw [beq_dec']; exact decide_eq_false he
        have hc2 : (x != y) = true := by simp [bne, hcmp]
        have HF := Lib.hid (show decide (ns = ms) = false from decide_eq_false fun e => he (by
          have h3 := HX.out
          rw [e, HY.out] at h3
          injection h3 with h3
          exact h3.symm))
        clear he
        go_wp2_with fail
        go_quiet (fail)
        go_wp2_with fail
        go_ret
        exact ⟨ret_bool' HF.out.symm, _, World.drewN_drewN _ _ _⟩
    · obtain rfl : n1 = k := by omega
      have HT := Lib.hid (show decide (ns = ms) = true from decide_eq_true (by
        rw [List.take_of_length_le (by rw [HL1.out]; omega), List.take_of_length_le (by rw [HL2.out]; omega)] at heq
        exact heq))
      clear heq
      go_wp2_with fail
      go_ret
      exact ⟨ret_bool' HT.out.symm, _, rfl⟩
theorem texts_same (w : World) (a1 a2 : Option Addr) (n1 c1 n2 c2 : Nat) (ns : List Nm) (h1 : ∃ B, Row w B 9 1 a1 n1 c1 (strs ns)) (h2 : ∃ B, Row w B 9 1 a2 n2 c2 (strs ns)) (hm : n1 ≤ 1000000) :
    Calls Tryz.prog 30 #[.slice a1 n1 c1, .slice a2 n2 c2] w fun e w' => e = .returned (.bool true) ∧ Below w.heap.size w w' :=
  (texts_any w a1 a2 n1 c1 n2 c2 ns ns h1.choose_spec h2.choose_spec hm).mono fun e w' h => by
    obtain ⟨rfl, k, rfl⟩ := h
    exact ⟨by rw [decide_eq_true rfl], ⟨rfl, rfl, rfl, Nat.le_refl _, fun _ _ => rfl⟩⟩
section
variable {w : World} {B p r : Nat} {S : Nat → Prop} {d : DS}
theorem b_list (h : Both w B S p r d) {ns : List Nm} (hns : namesOf d = ns) : Calls Tryz.prog 14 #[.pointer (some ⟨p, 0, none⟩)] w fun e w' => ∃ a c, e = .returned (.slice a ns.length c) ∧ Row w' w.heap.size 9 1 a ns.length c (strs ns) ∧ Below w.heap.size w w' := by
  obtain ⟨fq, h1, h2, h3⟩ := h
  subst hns
  exact list_k h2
theorem b_rlist (h : Both w B S p r d) {ns : List Nm} (hns : namesOf d = ns) : Calls Tryz.prog 29 #[.pointer (some ⟨r, 0, none⟩)] w fun e w' => ∃ a c, e = .returned (.slice a ns.length c) ∧ Row w' w.heap.size 9 1 a ns.length c (strs ns) ∧ Below w.heap.size w w' := by
  obtain ⟨fq, h1, h2, h3⟩ := h
  subst hns
  exact reflist_any h1
theorem b_used (h : Both w B S p r d) : Calls Tryz.prog 31 #[.pointer (some ⟨p, 0, none⟩)] w fun e w' => e = .returned (.int .i64 (used d.files : Nat)) ∧ Below w.heap.size w w' := by
  obtain ⟨fq, h1, h2, h3⟩ := h
  exact used_k h2
theorem b_rused (h : Both w B S p r d) : Calls Tryz.prog 32 #[.pointer (some ⟨r, 0, none⟩)] w fun e w' => e = .returned (.int .i64 (used d.files : Nat)) ∧ w = w' := by
  obtain ⟨fq, h1, h2, h3⟩ := h
  exact refused_any h1
theorem b_room (h : Both w B S p r d) : Calls Tryz.prog 33 #[.pointer (some ⟨p, 0, none⟩)] w fun e w' => e = .returned (.int .i64 (d.room : Int)) ∧ w = w' := by
  obtain ⟨fq, h1, h2, h3⟩ := h
  exact room_k h2
theorem b_down (h : Both w B S p r d) : Calls Tryz.prog 34 #[.pointer (some ⟨p, 0, none⟩)] w fun e w' => e = .returned (.bool d.down) ∧ w = w' := by
  obtain ⟨fq, h1, h2, h3⟩ := h
  exact down_k h2
theorem b_sure (h : Both w B S p r d) (s : ByteArray) (hs : s.size ≤ maxLen) : Calls Tryz.prog 15 #[.pointer (some ⟨p, 0, none⟩), .string s] w fun e w' => e = .returned (.int .i64 ((DiskM.old d s.data.toList).2 : Nat)) ∧ w = w' := by
  obtain ⟨fq, h1, h2, h3⟩ := h
  exact sure_k h2 s hs
theorem b_rsure (h : Both w B S p r d) (s : ByteArray) : Calls Tryz.prog 37 #[.pointer (some ⟨r, 0, none⟩), .string s] w fun e w' => e = .returned (.int .i64 ((DiskM.old d s.data.toList).2 : Nat)) ∧ w = w' := by
  obtain ⟨fq, h1, h2, h3⟩ := h
  exact refsure_any h1 s
theorem b_rbytes (h : Both w B S p r d) (s : ByteArray) : Calls Tryz.prog 36 #[.pointer (some ⟨r, 0, none⟩), .string s] w fun e w' => ∃ a c, e = .returned (.slice a (DiskM.old d s.data.toList).1.length c) ∧ Own w' w.heap.size a (DiskM.old d s.data.toList).1.length c (DiskM.old d s.data.toList).1 ∧ Below w.heap.size w w' := by
  obtain ⟨fq, h1, h2, h3⟩ := h
  exact refbytes_any h1 s
end
end Go.Proofs.YtopnhplacdbkdaaGreat
