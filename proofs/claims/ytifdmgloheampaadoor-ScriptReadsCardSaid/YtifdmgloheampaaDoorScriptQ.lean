/- The walk of the script's words at a crash. Condition: the act is fresh; the texts lie apart from it; the world is laid. -/
import Derived.Test.YtifdmgloheampaaDoorScriptP
namespace Go.Proofs.YtifdmgloheampaaDoor
open Go.RowKit DiskM ScriptM

section
variable {w0 w w' : World} {p H : Nat} {cs hs : Array Value} {B : Nat} {a : Option Addr} {n c : Nat} {bs : List UInt8}
/-- a row of bytes is no box -/
theorem WordsAt.apart (h : WordsAt w0 w p H cs hs) (ho : Own w B a n c bs) : (∀ x, a = some x → x.block ≠ p) ∧ (∀ x, a = some x → x.block ≠ H) := by
  rcases ho.form with ⟨rfl, _⟩ | ⟨g, cur, rfl, _, _, hh, _⟩
  · exact ⟨fun x hx => (by cases hx), fun x hx => (by cases hx)⟩
  · refine ⟨fun x hx e => ?_, fun x hx e => ?_⟩
    all_goals
      injection hx with hx
      subst hx
      have e : g = _ := e
      subst e
    · rw [h.act] at hh; injection hh with hh; injection hh with _ h2; exact absurd h2 (by decide)
    · rw [h.has] at hh; injection hh with hh; injection hh with _ h2; exact absurd h2 (by decide)
theorem WordsAt.grown (h : WordsAt w0 w p H cs hs) (ho : Own w B a n c bs) (hg : w.grownBy w' (a.map (·.block))) (hb : Below p w0 w') : WordsAt w0 w' p H cs hs := by
  obtain ⟨h1, h2⟩ := h.apart ho
  refine ⟨hb, (hg.block p (Array.getElem?_eq_some_iff.1 h.act).1 fun e => ?_).trans h.act, (hg.block H (Array.getElem?_eq_some_iff.1 h.has).1 fun e => ?_).trans h.has, h.ord⟩
  · cases a with
    | none => cases e
    | some x => exact h1 x rfl (by simpa using e.symm)
  · cases a with
    | none => cases e
    | some x => exact h2 x rfl (by simpa using e.symm)
end
theorem rd_new (w : World) (V : Nat) (h : V < 256) : Rd (w.alloc (.cells #[.int .u8 (V : Int)] 5)) (w.heap.size + 1) (some ⟨w.heap.size, 0, none⟩) [UInt8.ofNat V] := by
  refine .inr ⟨w.heap.size, 0, rfl, by omega, fun j x hx => ?_⟩
  cases j with
  | zero =>
    have hx : some (UInt8.ofNat V) = some x := hx
    injection hx with hx
    subst hx
    rw [cell_of_row _ _ _ _ _ _ (heap_alloc_new _ _)]
    have : (UInt8.ofNat V).toNat = V := by rw [UInt8.toNat_ofNat']; omega
    unfold bv
    rw [this]
    rfl
  | succ j => cases hx
theorem pu8_lt (l : List UInt8) : pu8 l < 256 := by
  unfold pu8
  cases h : Lib.parseUintB 8 l with
  | ok v =>
    simp only
    have key : ∀ (l : List UInt8) (acc : Nat), acc ≤ 255 → ∀ v, Lib.parseUintM 255 acc l = .ok v → v ≤ 255 := by
      intro l
      induction l with
      | nil => intro acc ha v hv; simp only [Lib.parseUintM] at hv; injection hv with hv; omega
      | cons c r ih =>
        intro acc ha v hv
        simp only [Lib.parseUintM] at hv
        split at hv
        · split at hv
          · cases hv
          · split at hv
            · cases hv
            · exact ih _ (by omega) v hv
        · cases hv
    unfold Lib.parseUintB at h
    split at h
    · cases h
    · have := key l 0 (by omega) v h
      omega
  | range => simp
  | _ => simp
theorem keep_snoc (xs : List (List UInt8)) (j : Nat) (x : List UInt8) (h : xs[j]? = some x) : ((xs.take (j + 1)).map fun w => UInt8.ofNat (pu8 w)) = ((xs.take j).map fun w => UInt8.ofNat (pu8 w)) ++ [UInt8.ofNat (pu8 x)] := by
  rw [List.take_add_one, h]; simp
set_option maxRecDepth 100000 in
set_option maxHeartbeats 4000000 in
theorem words_6 (p b o n : Nat) (xs : List (List UInt8)) (w : World) (hn : xs.length = n) (hm : n ≤ 1000000) (hb : b < p) (hp8 : 8 ≤ p) (hp : w.heap.size = p + 1)
    (hx : w.heap[p]? = some (.cells #[.int .i64 6, .int .i64 0, .bool false, .slice none 0 0, .string .empty, .int .u32 0] 30 (0, 0)))
    (htx : ∀ (j : Nat) x, xs[j]? = some x → w.cell? ⟨b, o + j, none⟩ = some (sv x) ∧ x.length ≤ 1000000) (hl : Laid w) :
    Calls Tryd.prog 46 #[.pointer (some ⟨p, 0, none⟩), .slice (some ⟨b, o, none⟩) n n] w fun e w' => e = .returned (.tuple #[]) ∧ ∃ ka kc, w'.heap[p]? = some (.cells #[.int .i64 6, .int .i64 0, .bool false, .slice ka n kc, .string .empty, .int .u32 0] 30 (0, 0)) ∧ Own w' p ka n kc (xs.map fun w => UInt8.ofNat (pu8 w)) ∧ Below p w w' := by
  have HL := Lib.hid hl
  have HO : Hid (∀ w, Calls Tryd.prog 20 #[.int .i64 6] w fun e w' => e = .returned (.tuple #[.agg #[.bool false, .bool false, .bool true, .bool false], .bool true]) ∧ Below w.heap.size w w') := Lib.hid (of_any 6)
  have c0 : w.cell? ⟨p, 0, none⟩ = some (.int .i64 6) := cell_of_row _ _ 0 _ _ _ hx
  have HS := Lib.hid (fun (w1 : World) (hb : Below w.heap.size w w1) => WordsAt.start (hs := #[.bool false, .bool false, .bool true, .bool false]) hp hx hb)
  have HP := Lib.hid hp8
  have HT := Lib.hid (And.intro htx hn)
  clear hl hx hp htx hn
  go_enter Tryd.func46, Tryd.ntmps46
  go_wp2_with (refine (HO.out _).mono ?_; rintro e w1 ⟨rfl, hb1⟩; have A := Lib.hid (HS.out _ hb1); clear hb1 c0; have hord := A.out.ord; have d0 := A.out.its (j := 0) rfl; have d1 := A.out.its (j := 1) rfl; have d2 := A.out.its (j := 2) rfl; have d3 := A.out.its (j := 3) rfl)
  clear d0 d1 d2 d3
  have hH : ∃ H, w1.heap.size = H := ⟨_, rfl⟩
  obtain ⟨H, hH⟩ := hH
  rw [hH] at A hord
  go_loopw [94] (fun iv wr => ∃ (j : Nat) (ka : Option Addr) (kc : Nat), iv = .int .i64 (j : Int) ∧ j ≤ n ∧ WordsAt w wr p H #[.int .i64 6, .int .i64 0, .bool false, .slice ka j kc, .string .empty, .int .u32 0] #[.bool false, .bool false, .bool true, .bool false] ∧ Own wr p ka j kc ((xs.take j).map fun w => UInt8.ofNat (pu8 w))) (fun iv _ => n - (intOf iv).toNat)
  case atStart => exact ⟨0, none, 0, rfl, Nat.zero_le _, A.out, Own.nil_ _ _⟩
  case round =>
    clear A hH
    obtain ⟨j, ka, kc, rfl, hj, hA, hown⟩ := hrel
    by_cases hlt : j < n
    · obtain ⟨x, hx⟩ : ∃ x, xs[j]? = some x := ⟨_, List.getElem?_eq_getElem (by rw [HT.out.2]; exact hlt)⟩
      have hk := hA.old hb (HT.out.1 j x hx).1
      have hlx := (HT.out.1 j x hx).2
      have HU : Hid (∀ w', Laid w' → Calls Tryd.prog 60 #[sv x, .int .i64 10, .int .i64 8] w' fun e w'' => ∃ er, e = .returned (.tuple #[.int .u64 (pu8 x : Nat), er]) ∧ Below w'.heap.size w' w'') := Lib.hid (fun w' hl' => pu8_any ⟨x.toArray⟩ w' (by show x.toArray.size ≤ _; rw [List.size_toArray]; omega) hl')
      have hsn := keep_snoc xs j x hx
      have h256 := pu8_lt x
      obtain ⟨V, hV⟩ : ∃ V, pu8 x = V := ⟨_, rfl⟩
      rw [hV] at HU hsn h256
      have HSN := Lib.hid hsn
      have HA := Lib.hid (And.intro hA hown)
      clear hx hlx hsn hV hA hown
      go_wp2_with (first | (refine (HU.out _ (laid_words HL.out HP.out HA.out.1)).mono ?_; rintro e w2 ⟨er, rfl, hb2⟩; have HB := Lib.hid (And.intro (HA.out.1.call hb2) (HA.out.2.call hb2)); have c3 := HB.out.1.cell (j := 3) rfl; have f3 := HB.out.1.free 3; clear hb2 hk) | (at_builtin; refine wpList_append_b rfl (.tmp 107) (.tmp 110) rfl w _ p (HB.out.1.alloc _).bel (Nat.le_of_lt (Array.getElem?_eq_some_iff.1 (HB.out.1.alloc _).act).1) ka j kc _ rfl (HB.out.2.alloc _) (w2.heap.size + 1) (some ⟨w2.heap.size, 0, none⟩) 1 1 [UInt8.ofNat V] rfl (rd_new w2 V h256) rfl (j + 1) rfl (by omega) ?_; intro a3 c3' w3 ho3 hg3 hb3 _; have HD := Lib.hid (And.intro ((HB.out.1.alloc _).grown (HB.out.2.alloc _) hg3 hb3) ho3); clear c3 f3 ho3 hg3 hb3; have c3 := HD.out.1.cell (j := 3) rfl; have f3 := HD.out.1.free 3))
      go_roundw
      case rel =>
        refine ⟨j + 1, a3, c3', by go_num, by omega, HD.out.1.set 3 (.slice a3 (j + 1) c3'), ?_⟩
        rw [HSN.out]
        exact HD.out.2.far (HD.out.1.apart HD.out.2).1 _
      case measure => simp [intOf]; omega
    · obtain rfl : j = n := by omega
      rw [List.take_of_length_le (by rw [HT.out.2]; exact Nat.le_refl _)] at hown
      have HA := Lib.hid (And.intro hA hown)
      clear hA hown
      go_wp2_with fail
      go_end0
      exact ⟨rfl, ka, kc, HA.out.1.act, HA.out.2, HA.out.1.bel⟩
end Go.Proofs.YtifdmgloheampaaDoor
