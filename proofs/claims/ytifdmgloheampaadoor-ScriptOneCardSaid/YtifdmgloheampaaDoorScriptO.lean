/- The library's ParseUint at base 16, 32 bits, with its errors. Condition: the world is laid. -/
import Derived.Test.YtifdmgloheampaaDoorScriptN
namespace Go.Proofs.YtifdmgloheampaaDoor
open Go.RowKit DiskM ScriptM

set_option maxRecDepth 100000 in
theorem pui16_empty (w : World) : Calls Tryd.prog 75 #[.string ⟨#[]⟩, .int .i64 16, .int .i64 32] w fun e w' => e = .returned (.tuple #[.int .u64 0, errV 2]) ∧ Below w.heap.size w w' := by
  go_enter Tryd.func75, Tryd.ntmps75
  go_wp2_with fail
  go_ret2
  exact ⟨rfl, Below.refl _ _⟩
theorem pui16_any (s : ByteArray) (w : World) (hmax : s.size ≤ 281474976710656) : Calls Tryd.prog 75 #[.string s, .int .i64 16, .int .i64 32] w fun e w' => e = .returned (.tuple #[.int .u64 ((pu16E s.data.toList).1 : Int), errV (pu16E s.data.toList).2]) ∧ Below w.heap.size w w' := by
  by_cases h0 : s.size = 0
  · have hd : s.data.toList = [] := (nm_nil s).2 h0
    have hs : s = ⟨#[]⟩ := ByteArray.ext (by rw [← Array.toList_inj, hd])
    rw [hd, hs]
    exact pui16_empty w
  · have hd : s.data.toList ≠ [] := fun e => h0 ((nm_nil s).1 e)
    unfold pu16E
    rw [if_neg hd]
    exact pui16 s w h0 (by omega)
theorem puE_codes : ∀ (l : List UInt8) (n : Nat), (puE n l).2 = 0 ∨ (puE n l).2 = 1 ∨ (puE n l).2 = 2
  | [], n => .inl rfl
  | c :: r, n => by
    simp only [puE]
    cases hexV c with
    | none => exact .inr (.inr rfl)
    | some d =>
      simp only
      split
      · exact .inr (.inl rfl)
      · exact puE_codes r _
set_option maxRecDepth 100000 in
theorem pu16_any (s : ByteArray) (w : World) (hs : s.size ≤ 281474976710656) (hl : Laid w) : Calls Tryd.prog 60 #[.string s, .int .i64 16, .int .i64 32] w fun e w' => ∃ er, e = .returned (.tuple #[.int .u64 (pu16 s.data.toList : Int), er]) ∧ Below w.heap.size w w' := by
  have hcode : (pu16E s.data.toList).2 = 0 ∨ (pu16E s.data.toList).2 = 1 ∨ (pu16E s.data.toList).2 = 2 := by
    unfold pu16E
    split
    · exact .inr (.inr rfl)
    · exact puE_codes _ _
  have HI := Lib.hid (fun w => pui16_any s w hs)
  rw [pu16E_val] at HI
  obtain ⟨V, hV⟩ : ∃ V, pu16 s.data.toList = V := ⟨_, rfl⟩
  rw [hV] at HI ⊢
  obtain ⟨C, hC⟩ : ∃ C, (pu16E s.data.toList).2 = C := ⟨_, rfl⟩
  rw [hC] at HI hcode
  have HL := Lib.hid hl
  clear hl hV hC
  rcases hcode with rfl | rfl | rfl
  · have HI2 : Hid (∀ w, Calls Tryd.prog 75 #[.string s, .int .i64 16, .int .i64 32] w fun e w' => e = .returned (.tuple #[.int .u64 (V : Int), .nilIface]) ∧ Below w.heap.size w w') := Lib.hid HI.out
    clear HI
    go_enter Tryd.func60, Tryd.ntmps60
    go_wp2_with (refine (HI2.out _).mono ?_; rintro e w1 ⟨rfl, hb⟩)
    go_ret2
    exact ⟨_, rfl, hb⟩
  · obtain ⟨te, pe, hv⟩ := HL.out.rng
    have HV := Lib.hid hv
    have HI2 : Hid (∀ w, Calls Tryd.prog 75 #[.string s, .int .i64 16, .int .i64 32] w fun e w' => e = .returned (.tuple #[.int .u64 (V : Int), .iface 114 (.int .i64 1)]) ∧ Below w.heap.size w w') := Lib.hid HI.out
    clear HI hv
    go_enter Tryd.func60, Tryd.ntmps60
    go_wp2_with (first | (refine (HI2.out _).mono ?_; rintro e w1 ⟨rfl, hb⟩; have HB := Lib.hid hb; have HV1 := Lib.hid ((HB.out.cell (Nat.lt_of_lt_of_le (by decide) HL.out.big)).trans HV.out); clear hb) | (refine (Any.strconv_toError_range Tryd.laysC245 _ s 16 32 _ w1 hs HV1.out (.inr ⟨te, pe, rfl⟩)).mono ?_; rintro e w2 ⟨N, rfl, _, _, hb2⟩))
    go_ret2
    exact ⟨_, rfl, Below.next0 HB.out hb2⟩
  · obtain ⟨te, pe, hv⟩ := HL.out.syn
    have HV := Lib.hid hv
    have HI2 : Hid (∀ w, Calls Tryd.prog 75 #[.string s, .int .i64 16, .int .i64 32] w fun e w' => e = .returned (.tuple #[.int .u64 (V : Int), .iface 114 (.int .i64 2)]) ∧ Below w.heap.size w w') := Lib.hid HI.out
    clear HI hv
    go_enter Tryd.func60, Tryd.ntmps60
    go_wp2_with (first | (refine (HI2.out _).mono ?_; rintro e w1 ⟨rfl, hb⟩; have HB := Lib.hid hb; have HV1 := Lib.hid ((HB.out.cell (Nat.lt_of_lt_of_le (by decide) HL.out.big)).trans HV.out); clear hb) | (refine (Any.strconv_toError_syntax Tryd.laysC245 _ s 16 32 _ w1 hs HV1.out (.inr ⟨te, pe, rfl⟩)).mono ?_; rintro e w2 ⟨N, rfl, _, _, hb2⟩))
    go_ret2
    exact ⟨_, rfl, Below.next0 HB.out hb2⟩
end Go.Proofs.YtifdmgloheampaaDoor
