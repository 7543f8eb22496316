/- The walk of the document's Words: the right words of a natural number. Condition: the argument lies as right digits, not too long. -/
import Derived.Test.YtmocmkfpblakbaaDoorRefE
import Derived.Test.YtmocmkfpblakbaaDoorNatB
namespace Go.Proofs.YtmocmkfpblakbaaDoor
open Go.RowKit WordsM

/-- digits of 32 bits two by two -/
def pairs : List Nat → List Nat
  | [] => []
  | [x] => [x]
  | x :: y :: r => (x + y * 4294967296) :: pairs r
theorem pairs_val : ∀ l : List Nat, val (2 ^ 64) (pairs l) = val (2 ^ 32) l
  | [] => rfl
  | [x] => by simp [pairs, val]
  | x :: y :: r => by
    have ih := pairs_val r
    simp only [pairs, val, ih]
    have e : (2 : Nat) ^ 64 = 4294967296 * 4294967296 := by decide
    rw [e, Nat.mul_add, show (2 : Nat) ^ 32 = 4294967296 from rfl, Nat.mul_assoc]
    omega
theorem pairs_low : ∀ l : List Nat, Low (2 ^ 32) l → Low (2 ^ 64) (pairs l)
  | [], _ => fun x hx => by cases hx
  | [x], h => fun y hy => by
    rw [pairs, List.mem_singleton] at hy
    subst hy
    have : y < 4294967296 := h y (by simp)
    show y < 18446744073709551616
    omega
  | x :: y :: r, h => fun z hz => by
    have h1 : x < 4294967296 := h x (by simp)
    have h2 : y < 4294967296 := h y (by simp)
    rcases List.mem_cons.1 hz with rfl | hz
    · show x + y * 4294967296 < 18446744073709551616
      omega
    · exact pairs_low r (fun u hu => h u (by simp [hu])) z hz
theorem pairs_last : ∀ l : List Nat, NoNought l → NoNought (pairs l)
  | [], _ => fun x hx => by cases hx
  | [x], h => h
  | [x, y], h => fun z hz => by
    simp [pairs] at hz
    have := h y (by simp)
    omega
  | x :: y :: u :: r, h => fun z hz => by
    have h2 : NoNought (u :: r) := fun a ha => h a (by rw [List.getLast?_cons_cons, List.getLast?_cons_cons]; exact ha)
    have h3 := pairs_last (u :: r) h2
    refine h3 z ?_
    rw [pairs] at hz
    cases hp : pairs (u :: r) with
    | nil => cases r <;> simp [pairs] at hp
    | cons p q => rw [hp, List.getLast?_cons_cons] at hz; exact hz
theorem pairs_dig (v : Nat) : pairs (dig (2 ^ 32) v) = dig (2 ^ 64) v := by
  have h1 := dig_val (B := 2 ^ 64) (by decide) (pairs (dig (2 ^ 32) v)) (pairs_low _ (dig_low (by decide) v)) (pairs_last _ (dig_last (by decide) v))
  rw [pairs_val, val_dig (by decide)] at h1
  exact h1.symm
theorem pairs_get : ∀ (l : List Nat) (j x : Nat), l[2 * j]? = some x → (pairs l)[j]? = some (x + (l[2 * j + 1]?).getD 0 * 4294967296)
  | [], j, x, h => by simp at h
  | [y], 0, x, h => by simp at h; simp [pairs, h]
  | [y], j + 1, x, h => by simp [Nat.mul_add] at h
  | y :: z :: r, 0, x, h => by simp at h; simp [pairs, h]
  | y :: z :: r, j + 1, x, h => by
    rw [Nat.mul_add] at h
    have := pairs_get r j x (by simpa using h)
    simpa [pairs, Nat.mul_add] using this
theorem pairs_len : ∀ l : List Nat, (pairs l).length = (l.length + 1) / 2
  | [] => rfl
  | [x] => by simp [pairs]
  | x :: y :: r => by
    have := pairs_len r
    simp only [pairs, List.length_cons, this]
    omega
theorem pairs_next {l : List Nat} {j x : Nat} (h : l[2 * j]? = some x) : (pairs l).take (j + 1) = (pairs l).take j ++ [x + (l[2 * j + 1]?).getD 0 * 4294967296] := by
  rw [List.take_add_one, pairs_get l j x h]; rfl
set_option maxRecDepth 100000 in
set_option maxHeartbeats 4000000 in
theorem refwords_any (a : Option Addr) (n c : Nat) (v : Nat) (w : World) (h : DigIn w a n c v) (hn : n ≤ 1000000) :
    Calls Tryd.prog 21 #[.slice a n c] w fun e w' => ∃ a' n' c', e = .returned (.slice a' n' c') ∧ WordsIn w' a' n' c' (dig (2 ^ 64) v) ∧ Below w.heap.size w w' := by
  have hl := dig_low (B := 2 ^ 32) (by decide) v
  have hpd := pairs_dig v
  have hA1 := h.len
  have hr := h.rd
  obtain ⟨A, hA⟩ : ∃ A, dig (2 ^ 32) v = A := ⟨_, rfl⟩
  rw [hA] at hl hA1 hr hpd
  rw [← hpd]
  subst hA1
  have hPl := pairs_len A
  have hlow := pairs_low A hl
  obtain ⟨i0, hi0, hz0, hz1, hz2⟩ := info_parts info_u64
  have HI := Lib.hid (And.intro hi0 (And.intro hz0 (And.intro hz1 hz2)))
  have H := Lib.hid (And.intro hl (And.intro hr (And.intro hPl hlow)))
  clear hl hr hA h hpd hPl hlow hi0 hz0 hz1 hz2
  go_enter Tryd.func21, Tryd.ntmps21
  go_wp2_with fail
  go_loopw [3, 4] (fun ov iv wr => ∃ (j : Nat) (ao : Option Addr) (co : Nat), ov = .slice ao j co ∧ iv = .int .i64 (2 * (j : Int)) ∧ 2 * j ≤ A.length + 1 ∧ Row wr w.heap.size 41 1 ao j co (((pairs A).take j).map (nv .u64)) ∧ Below w.heap.size w wr) (fun _ iv _ => A.length + 2 - (intOf iv).toNat)
  case atStart => exact ⟨0, none, 0, rfl, rfl, by omega, Row.nil_ _ _ _ _, Below.refl _ _⟩
  case round =>
    obtain ⟨j, ao, co, rfl, rfl, hj, hrow, hb⟩ := hrel
    by_cases hlt : 2 * j < A.length
    · have hlt' : 2 * (j : Int) < (A.length : Int) := by omega
      obtain ⟨x, hx⟩ : ∃ x, A[2 * j]? = some x := ⟨_, List.getElem?_eq_getElem hlt⟩
      have hxl : x < 4294967296 := H.out.1 x (List.mem_of_getElem? hx)
      obtain ⟨g1, o1, hae, hg1, hcx⟩ := (H.out.2.1.below hb).at_ hx
      have hnx := pairs_next hx
      have hba : ∀ o, Below w.heap.size w (wr.alloc o) := fun o => hb.alloc hb.size o
      have hbz : ∀ o, w.heap.size ≤ (wr.alloc o).heap.size := fun o => (hba o).size
      have hrr : ∀ o, Row (wr.alloc o) w.heap.size 41 1 ao j co (((pairs A).take j).map (nv .u64)) := fun o => hrow.alloc o
      have HB := Lib.hid hb
      by_cases h2 : 2 * j + 1 < A.length
      · have h2' : 2 * (j : Int) + 1 < (A.length : Int) := by omega
        obtain ⟨y, hy⟩ : ∃ y, A[2 * j + 1]? = some y := ⟨_, List.getElem?_eq_getElem h2⟩
        have hyl : y < 4294967296 := H.out.1 y (List.mem_of_getElem? hy)
        obtain ⟨g2, o2, hae2, hg2, hcy⟩ := (H.out.2.1.below hb).at_ hy
        subst hae
        injection hae2 with hae2; injection hae2 with e1 e2; subst e1 e2
        rw [hy, Option.getD_some] at hnx
        have hor := or_high x y hxl hyl
        obtain ⟨yy, hyy⟩ : ∃ yy, y * 4294967296 = yy := ⟨_, rfl⟩
        have hyyI : (y : Int) * 4294967296 = (yy : Int) := by omega
        have hyyl : yy < 18446744073709551616 := by omega
        rw [hyy] at hor hnx
        obtain ⟨q, hq⟩ : ∃ q, x + yy = q := ⟨_, rfl⟩
        rw [hq] at hor hnx
        have hql : q < 18446744073709551616 := by omega
        have HH := Lib.hid (And.intro hnx (And.intro hrr (And.intro hba hbz)))
        clear hnx hrr hba hbz hb hrow hx hy hyy hq
        go_wp2_with (at_builtin; refine wpList_append_row rfl (.tmp 31) (.tmp 33) 26 rfl w _ 41 i0 _ 1 8 Tryd.underlying26 HI.out.1 HI.out.2.1 HI.out.2.2.1 HI.out.2.2.2 rfl (by decide) w.heap.size (HH.out.2.2.1 _) (HH.out.2.2.2 _) ao j co _ rfl (HH.out.2.1 _) ⟨wr.heap.size, 0, none⟩ 1 1 [.int .u64 (q : Int)] rfl rfl (cells_new wr #[.int .u64 (q : Int)] _ _) (one_num _ _) (j + 1) rfl (by omega) (by omega) ?_; intro a3 c3 w3 ho3 hg3 hb3 hat3; have HO := Lib.hid (And.intro ho3 hb3); clear ho3 hg3 hb3 hat3)
        refine ⟨⟨j + 1, a3, c3, rfl, by simp only [Value.int.injEq, true_and]; omega, by omega, ?_, HO.out.2⟩, by simp only [intOf]; omega⟩
        rw [HH.out.1, List.map_append]; exact HO.out.1
      · have h2' : ¬ 2 * (j : Int) + 1 < (A.length : Int) := by omega
        subst hae
        rw [List.getElem?_eq_none (by omega), Option.getD_none, Nat.zero_mul, Nat.add_zero] at hnx
        have HH := Lib.hid (And.intro hnx (And.intro hrr (And.intro hba hbz)))
        clear hnx hrr hba hbz hb hrow hx
        go_wp2_with (at_builtin; refine wpList_append_row rfl (.tmp 31) (.tmp 33) 26 rfl w _ 41 i0 _ 1 8 Tryd.underlying26 HI.out.1 HI.out.2.1 HI.out.2.2.1 HI.out.2.2.2 rfl (by decide) w.heap.size (HH.out.2.2.1 _) (HH.out.2.2.2 _) ao j co _ rfl (HH.out.2.1 _) ⟨wr.heap.size, 0, none⟩ 1 1 [.int .u64 (x : Int)] rfl rfl (cells_new wr #[.int .u64 (x : Int)] _ _) (one_num _ _) (j + 1) rfl (by omega) (by omega) ?_; intro a3 c3 w3 ho3 hg3 hb3 hat3; have HO := Lib.hid (And.intro ho3 hb3); clear ho3 hg3 hb3 hat3)
        refine ⟨⟨j + 1, a3, c3, rfl, by simp only [Value.int.injEq, true_and]; omega, by omega, ?_, HO.out.2⟩, by simp only [intOf]; omega⟩
        rw [HH.out.1, List.map_append]; exact HO.out.1
    · have hlt' : ¬ 2 * (j : Int) < (A.length : Int) := by omega
      have hlen : (pairs A).length = j := by rw [H.out.2.2.1]; omega
      rw [List.take_of_length_le (by omega)] at hrow
      have hW : WordsIn wr ao j co (pairs A) := ⟨hlen, hrow.cap.1, hrow.cap.2, H.out.2.2.2, Row.rdI hrow⟩
      have HW := Lib.hid (And.intro hW hb)
      clear hW hb hrow hlen
      go_wp2_with fail
      go_ret
      exact ⟨ao, j, co, rfl, HW.out.1, HW.out.2⟩
end Go.Proofs.YtmocmkfpblakbaaDoor
