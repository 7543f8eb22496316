/- The script's words at any kind and any texts: what the plain model says. Condition: the act is fresh; the texts lie apart from it; the world is laid. -/
import Derived.Test.YtifdmgloheampaaDoorScriptQ
import Derived.Test.YtifdmgloheampaaDoorScriptI
namespace Go.Proofs.YtifdmgloheampaaDoor
open Go.RowKit DiskM ScriptM

/-- what words leaves in the act's box -/
def Filled (v : ActV) (a : ScriptM.Act) (p : Nat) (w w' : World) : Prop :=
  w'.heap[p]? = some (.cells v.x.cells 30 (0, 0)) ∧ v.abs = a ∧ v.keep.length = v.x.kn ∧ v.x.kn ≤ 1000000 ∧ Rd w' w'.heap.size v.x.ka v.keep ∧ v.x.nm.size ≤ 1000000 ∧ v.x.mask < 4294967296 ∧ Below p w w' ∧ (v.keep = [] ∨ ∃ g o, v.x.ka = some ⟨g, o, none⟩ ∧ p < g)
theorem words_any (k : Int) (hk : 1 ≤ k ∧ k ≤ 8) (p b o n : Nat) (xs : List (List UInt8)) (w : World) (hn : xs.length = n) (hm : n ≤ 1000000) (hb : b < p) (hp8 : 8 ≤ p) (hp : w.heap.size = p + 1)
    (hx : w.heap[p]? = some (.cells #[.int .i64 k, .int .i64 0, .bool false, .slice none 0 0, .string .empty, .int .u32 0] 30 (0, 0)))
    (htx : ∀ (j : Nat) x, xs[j]? = some x → w.cell? ⟨b, o + j, none⟩ = some (sv x) ∧ x.length ≤ 1000000) (hl : Laid w) :
    Calls Tryd.prog 46 #[.pointer (some ⟨p, 0, none⟩), .slice (some ⟨b, o, none⟩) n n] w fun e w' => e = .returned (.tuple #[]) ∧ ∃ v, Filled v (wordsM k xs) p w w' := by
  have mk : ∀ (N : Int) (D : Bool) (nl : List UInt8) (M : Nat) (w' : World), nl.length ≤ 1000000 → M < 4294967296 → wordsM k xs = ⟨k, N, D, [], nl, M⟩ →
      w'.heap[p]? = some (.cells #[.int .i64 k, .int .i64 N, .bool D, .slice none 0 0, sv nl, .int .u32 (M : Int)] 30 (0, 0)) ∧ Below p w w' → ∃ v, Filled v (wordsM k xs) p w w' := by
    intro N D nl M w' hnl hM he ⟨h1, h2⟩
    refine ⟨⟨⟨k, N, D, none, 0, 0, ⟨nl.toArray⟩, M⟩, []⟩, h1, he.symm, rfl, (by show (0 : Nat) ≤ _; omega), .inl rfl, ?_, hM, h2, .inl rfl⟩
    show nl.toArray.size ≤ _
    rw [List.size_toArray]; exact hnl
  have hks : k = 1 ∨ k = 2 ∨ k = 3 ∨ k = 4 ∨ k = 5 ∨ k = 6 ∨ k = 7 ∨ k = 8 := by omega
  have h0 : ∀ x, xs[0]? = some x → w.cell? ⟨b, o, none⟩ = some (sv x) ∧ x.length ≤ 1000000 := fun x h => htx 0 x h
  have numb : hasC k = #[.bool true, .bool false, .bool false, .bool false] → (∀ ys, wordsM k ys = ⟨k, (match ys with | [] => 0 | x :: _ => atoiV x), false, [], [], 0⟩) →
      Calls Tryd.prog 46 #[.pointer (some ⟨p, 0, none⟩), .slice (some ⟨b, o, none⟩) n n] w fun e w' => e = .returned (.tuple #[]) ∧ ∃ v, Filled v (wordsM k xs) p w w' := by
    intro hof hw
    match xs, hn, h0, mk, hw xs with
    | [], hn, _, mk, hw =>
      obtain rfl : n = 0 := hn.symm
      refine (words_n0 k p b o w hof hb hp8 hp hx hl).mono ?_
      rintro e w' ⟨rfl, h⟩
      exact ⟨rfl, mk 0 false [] 0 w' (by simp) (by decide) hw h⟩
    | [x], hn, h0, mk, hw =>
      obtain rfl : n = 1 := hn.symm
      refine (words_n1 k p b o x w hof hb hp8 hp hx (h0 x rfl).1 (h0 x rfl).2 hl).mono ?_
      rintro e w' ⟨rfl, h⟩
      exact ⟨rfl, mk _ false [] 0 w' (by simp) (by decide) hw h⟩
    | x :: y :: r, hn, h0, mk, hw =>
      simp only [List.length_cons] at hn
      refine (words_n2 k p b o n x w hof (by omega) hm hb hp8 hp hx (h0 x rfl).1 (h0 x rfl).2 hl).mono ?_
      rintro e w' ⟨rfl, h⟩
      exact ⟨rfl, mk _ false [] 0 w' (by simp) (by decide) hw h⟩
  rcases hks with rfl | rfl | rfl | rfl | rfl | rfl | rfl | rfl
  · exact numb rfl fun ys => rfl
  · exact numb rfl fun ys => rfl
  · exact numb rfl fun ys => rfl
  · refine (words_o 4 p b o n w rfl (Nat.zero_le _) hm hb hp8 hp hx hl).mono ?_
    rintro e w' ⟨rfl, h⟩
    exact ⟨rfl, mk 0 false [] 0 w' (by simp) (by decide) rfl h⟩
  · match xs, hn, htx, mk with
    | [], hn, _, mk =>
      obtain rfl : n = 0 := hn.symm
      refine (words_a0 5 p b o w rfl hb hp8 hp hx hl).mono ?_
      rintro e w' ⟨rfl, h⟩
      exact ⟨rfl, mk 0 false [] 0 w' (by simp) (by decide) rfl h⟩
    | [x], hn, htx, mk =>
      obtain rfl : n = 1 := hn.symm
      have h0 := htx 0 x rfl
      refine (words_a1 5 p b o x w rfl hb hp8 hp hx h0.1 h0.2 hl).mono ?_
      rintro e w' ⟨rfl, h⟩
      exact ⟨rfl, mk _ false [] 0 w' (by simp) (by decide) rfl h⟩
    | x :: y :: r, hn, htx, mk =>
      simp only [List.length_cons] at hn
      have h0 := htx 0 x rfl
      have h1 := htx 1 y rfl
      refine (words_a2 5 p b o n x y w rfl (by omega) hm hb hp8 hp hx h0.1 h0.2 h1.1 h1.2 hl).mono ?_
      rintro e w' ⟨rfl, h⟩
      exact ⟨rfl, mk _ (y == [100, 111, 110, 101]) [] 0 w' (by simp) (by decide) (by
        show (⟨5, atoiV x, decide (y = doneW), [], [], 0⟩ : ScriptM.Act) = _
        rw [show decide (y = doneW) = (y == [100, 111, 110, 101]) from (by rw [Bool.eq_iff_iff, decide_eq_true_iff]; simp [doneW])]) h⟩
  · refine (words_6 p b o n xs w hn hm hb hp8 hp hx htx hl).mono ?_
    rintro e w' ⟨rfl, ka, kc, h1, h2, h3⟩
    refine ⟨rfl, ⟨⟨6, 0, false, ka, n, kc, .empty, 0⟩, xs.map fun w => UInt8.ofNat (pu8 w)⟩, h1, ?_, by rw [List.length_map, hn], hm, h2.rd, (by show (0 : Nat) ≤ _; omega), (by show (0 : Nat) < _; omega), h3, ?_⟩
    · rfl
    · rcases h2.form with ⟨_, _, _, h⟩ | ⟨g, cur, h, hg, _, hh, _⟩
      · exact .inl h
      · refine .inr ⟨g, 0, h, ?_⟩
        rcases Nat.lt_or_ge p g with h4 | h4
        · exact h4
        · exfalso
          obtain rfl : g = p := by omega
          rw [h1] at hh; injection hh with hh; injection hh with _ h5; exact absurd h5 (by decide)
  · exact numb rfl fun ys => rfl
  · match xs, hn, htx, mk with
    | [], hn, _, mk =>
      obtain rfl : n = 0 := hn.symm
      refine (words_f0 8 p b o w rfl hb hp8 hp hx hl).mono ?_
      rintro e w' ⟨rfl, h⟩
      exact ⟨rfl, mk 0 false [] 0 w' (by simp) (by decide) rfl h⟩
    | [x], hn, htx, mk =>
      obtain rfl : n = 1 := hn.symm
      have h0 := htx 0 x rfl
      refine (words_f1 8 p b o x w rfl hb hp8 hp hx h0.1 h0.2 hl).mono ?_
      rintro e w' ⟨rfl, h⟩
      exact ⟨rfl, mk 0 false x 0 w' h0.2 (by decide) rfl h⟩
    | [x, y], hn, htx, mk =>
      obtain rfl : n = 2 := hn.symm
      have h0 := htx 0 x rfl
      have h1 := htx 1 y rfl
      refine (words_f2 8 p b o x y w rfl hb hp8 hp hx h0.1 h0.2 h1.1 h1.2 hl).mono ?_
      rintro e w' ⟨rfl, h⟩
      exact ⟨rfl, mk _ false x 0 w' h0.2 (by decide) rfl h⟩
    | x :: y :: z :: r, hn, htx, mk =>
      simp only [List.length_cons] at hn
      have h0 := htx 0 x rfl
      have h1 := htx 1 y rfl
      have h2 := htx 2 z rfl
      refine (words_f3 8 p b o n x y z w rfl (by omega) hm hb hp8 hp hx h0.1 h0.2 h1.1 h1.2 h2.1 h2.2 hl).mono ?_
      rintro e w' ⟨rfl, h⟩
      exact ⟨rfl, mk _ false x _ w' h0.2 (pu16_lt z) rfl h⟩
end Go.Proofs.YtifdmgloheampaaDoor
