/- The walk of the law's reads. Condition: the text is not too long; the library's tables lie. -/
import Derived.Test.YtmocmkfpblakbaaGreatDoorLaw4B
namespace Go.Proofs.YtmocmkfpblakbaaGreatDoor
open Go.RowKit WordsM DecM

theorem make_unique {neg : Bool} {v : Nat} {exp : Int} {n1 n2 : Bool} {e1 e2 : Int} {L1 L2 : List Nat} {r1 r2 : Int} (h1 : MakeOut neg v exp n1 e1 L1 r1) (h2 : MakeOut neg v exp n2 e2 L2 r2) : n1 = n2 ∧ e1 = e2 ∧ L1 = L2 ∧ r1 = r2 := by
  rcases h1 with ⟨h0, rfl, rfl, rfl, rfl⟩ | ⟨z, hz, h1⟩
  · rcases h2 with ⟨_, rfl, rfl, rfl, rfl⟩ | ⟨y, hy, _⟩
    · exact ⟨rfl, rfl, rfl, rfl⟩
    · exact absurd h0 hy.pos
  · rcases h2 with ⟨h0, _⟩ | ⟨y, hy, h2⟩
    · exact absurd h0 hz.pos
    · obtain rfl := hz.eq hy
      rcases h1 with ⟨ha, rfl, rfl, rfl, rfl⟩ | ⟨a1, a2, a3, rfl, rfl, rfl, rfl⟩
      · rcases h2 with ⟨_, rfl, rfl, rfl, rfl⟩ | ⟨b1, b2, b3, _⟩
        · exact ⟨rfl, rfl, rfl, rfl⟩
        · rcases ha with h | h | h
          · omega
          · omega
          · exact absurd b3 h
      · rcases h2 with ⟨ha, _⟩ | ⟨_, _, _, rfl, rfl, rfl, rfl⟩
        · rcases ha with h | h | h
          · omega
          · omega
          · exact absurd a3 h
        · exact ⟨rfl, rfl, rfl, rfl⟩
theorem parse_unique {S : List UInt8} {n1 n2 : Bool} {e1 e2 : Int} {L1 L2 : List Nat} {r1 r2 : Int} (h1 : ParseOut S n1 e1 L1 r1) (h2 : ParseOut S n2 e2 L2 r2) : n1 = n2 ∧ e1 = e2 ∧ L1 = L2 ∧ r1 = r2 := by
  unfold ParseOut at h1 h2
  cases hf : form S with
  | none =>
    rw [hf] at h1 h2
    obtain ⟨rfl, rfl, rfl, rfl⟩ := h1
    obtain ⟨rfl, rfl, rfl, rfl⟩ := h2
    exact ⟨rfl, rfl, rfl, rfl⟩
  | some p =>
    obtain ⟨neg, v, e⟩ := p
    rw [hf] at h1 h2
    exact make_unique h1 h2
set_option maxRecDepth 100000 in
set_option maxHeartbeats 8000000 in
theorem reads_any (s : ByteArray) (w : World) (hs : s.size ≤ 281474976710656) (hL : Laid w) :
    Calls Tryz.prog 11 #[.string s] w fun e w' => e = .returned (.bool true) ∧ Below w.heap.size w w' := by
  have hp := parse_any s w hs hL.tz
  have HP := Lib.hid hp
  clear hp hL
  go_enter Tryz.func11, Tryz.ntmps11
  go_wp2_with (first
    | (go_at_call_of 12 (Value.string s); refine HP.out.mono ?_; rintro e w1 ⟨neg1, e1, a1, n1, c1, L1, er1, rfl, hp1, hW1, hb1⟩;
       have hal : Below w1.heap.size w1 (w1.alloc (.cells #[.bool neg1, .int .i64 e1, .slice a1 n1 c1] 24)) := (Below.refl _ _).alloc (Nat.le_refl _) _;
       have HA := Lib.hid (And.intro hp1 (And.intro (hW1.step hal) (Below.next0 hb1 hal))); clear hp1 hW1 hb1 hal)
    | (go_at_call_of 23 (Value.string s); refine (refparse_any s (w1.alloc (.cells #[.bool neg1, .int .i64 e1, .slice a1 n1 c1] 24)) hs).mono ?_; rintro e w2 ⟨neg2, e2, a2, n2, c2, L2, er2, rfl, hp2, hW2, hb2⟩;
       have hun := parse_unique HA.out.1 hp2; obtain ⟨hu1, hu2, hu3, hu4⟩ := hun; subst hu1 hu2 hu3 hu4;
       have hal : Below w2.heap.size w2 (w2.alloc (.cells #[.bool neg1, .int .i64 e1, .slice a2 n2 c2] 24)) := (Below.refl _ _).alloc (Nat.le_refl _) _;
       have hbx := Below.next0 hb2 hal;
       have hxx := (NumBox.new w1 (.bool neg1) (.int .i64 e1) (.slice a1 n1 c1) 24).step hbx (box_lt _ _); have hx0 := hxx.c0; have hx1 := hxx.c1; have hx2 := hxx.c2;
       have HB := Lib.hid (And.intro (HA.out.2.1.step hbx) (And.intro (hW2.step hal) (Below.next0 HA.out.2.2 hbx))); clear hp2 hW2 hb2 hal hbx hxx)
    | (refine (refsame_any neg1 e1 a1 n1 c1 L1 neg1 e1 a2 n2 c2 L1 _ HB.out.1 HB.out.2.1 (Nat.le_trans HB.out.1.cap HB.out.1.most)).mono ?_; rintro e w6 ⟨he6, hb6⟩; rw [decide_eq_true ⟨rfl, rfl, rfl⟩] at he6; subst he6; have HC := Lib.hid (Below.next0 HB.out.2.2 hb6); clear hb6))
  go_ret
  exact ⟨rfl, HC.out⟩
end Go.Proofs.YtmocmkfpblakbaaGreatDoor
