/- A number (a struct of a bool, an exponent and words) opened. Plain lemmas, no condition. -/
import Derived.Test.YtmocmkfpblakbaaGreatDoorOpenU4
import Derived.Lib.SmallJoins
namespace Go.Proofs.YtmocmkfpblakbaaGreatDoor
open Go.ChangeShapes Go.WideShapes Go.ChangeAt Go.RowKit Go.Joins WordsM

theorem open_words {H : Type} {enc : TypeId × Value → H} {W : World} {sp : Nat → Bool} {hd : Bool} {fuel : Nat} {v : Value} {y : DataW H × List MemPlace}
    (h : DataW.trod enc Tryz.prog W 0 sp hd fuel 22 [v] = some y) :
    ∃ (a : Option Addr) (n c : Nat) (ks : List Nat), v = .slice a n c ∧ WordsIn W a n c ks := by
  rcases open_ints Tryz.underlying22 Tryz.underlying40 (by kernel_rfl) h with ⟨hcs, _⟩ | ⟨x, l, c, zs, hcs, _, hl, hm, hz, _, _, _⟩
  · injection hcs with hv _
    subst hv
    obtain ⟨ls, h1, _, h3, h4⟩ := open_u64s ⟨_, h⟩
    have h5 : ls = [] := List.eq_nil_of_length_eq_zero h1
    subst h5
    exact ⟨none, 0, 0, [], rfl, ⟨rfl, Nat.le_refl _, by decide, fun _ hx => (by cases hx), Or.inl rfl⟩⟩
  · injection hcs with hv _
    subst hv
    obtain ⟨ls, h1, _, h3, h4⟩ := open_u64s ⟨_, h⟩
    unfold maxLen at hm
    exact ⟨some x, l, c, ls, rfl, ⟨h1, hl, by omega, h4, h3⟩⟩
set_option maxRecDepth 100000 in
theorem open_num {H : Type} {enc : TypeId × Value → H} {W : World} {sp : Nat → Bool} {hd : Bool} {r : Reach} {b0 : Nat} {v : Value} {d : DataW H} {p : List MemPlace}
    (hv : Value.okWide Tryz.prog W r b0 24 v) (h : DataW.Trod enc Tryz.prog W 0 sp hd 24 v d p) :
    ∃ (neg : Bool) (exp : Int) (a : Option Addr) (n c : Nat) (ks : List Nat), v = .agg #[.bool neg, .int .i64 exp, .slice a n c] ∧ -9223372036854775808 ≤ exp ∧ exp ≤ 9223372036854775807 ∧ WordsIn W a n c ks := by
  obtain ⟨v0, v1, v2, y0, y1, y2, k, rfl, _, _, h0, h1, h2⟩ := open_agg3 Tryz.underlying24 (by kernel_rfl) (by kernel_rfl) hv h
  obtain ⟨neg, e0, _⟩ := DataW.trod_bool Tryz.underlying4 h0
  obtain ⟨exp, e1, _, hw⟩ := DataW.trod_int Tryz.underlying2 h1
  obtain ⟨a, n, c, ks, e2, hws⟩ := open_words h2
  injection e0 with e0 _
  injection e1 with e1 _
  subst e0 e1 e2
  have hr : -9223372036854775808 ≤ exp ∧ exp ≤ 9223372036854775807 := by
    simpa [Lit.wf, IntKind.min, IntKind.max, IntKind.signed, IntKind.bits] using hw
  exact ⟨neg, exp, a, n, c, ks, rfl, hr.1, hr.2, hws⟩
end Go.Proofs.YtmocmkfpblakbaaGreatDoor
