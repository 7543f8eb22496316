/- Part 9 of the proof of LawParseDeep: PolyM2, ParseM, ShowM, ShowM2, ShowM3. Condition: as each theorem says; none at the end. -/
import Derived.Test.YtdilmfakkppgpaaGreatDoorPkParseDeep05
import Derived.Test.YtdilmfakkppgpaaGreatDoorPkParseDeep08
namespace Go.Proofs.YtdilmfakkppgpaaGreatDoor
open Go.RowKit WordsM
def fitsB : Dyadic → Bool
  | .zero => true
  | .ofOdd n k _ => decide (n.natAbs < (2 ^ 64) ^ 64) && (decide (-65536 ≤ -k) && decide (-k ≤ 65536))
theorem fitsB_iff (d : Dyadic) : fitsB d = true ↔ fits d := by
  cases d with
  | zero => exact ⟨fun _ => .inl rfl, fun _ => rfl⟩
  | ofOdd n k h =>
    have e : Dyadic.ofOdd n k h = dy n (-k) := by rw [dy_odd h, Int.neg_neg]
    constructor
    · intro hb
      simp only [fitsB, Bool.and_eq_true, decide_eq_true_eq] at hb
      exact .inr ⟨n, -k, e, h, hb.1, hb.2.1, hb.2.2⟩
    · rintro (h0 | ⟨m, f, h1, hm, h2, h3, h4⟩)
      · exact absurd h0 Dyadic.of_ne_zero
      · rw [e] at h1
        obtain ⟨rfl, hk⟩ := dy_inj h hm h1
        simp only [fitsB, Bool.and_eq_true, decide_eq_true_eq]
        exact ⟨h2, by omega, by omega⟩
theorem fitsB_no (d : Dyadic) : fitsB d = false ↔ ¬ fits d := by
  rw [← fitsB_iff]; simp
theorem fits_zero : fits 0 := .inl rfl
def makeM (l : List Term) : Except Int (List Term) :=
  if (gathM l).any (fun p => !fitsB p.1) = true then .error 2
  else if 24 < ((gathM l).filter fun p => decide (p.1 ≠ 0)).length then .error 6
  else .ok ((gathM l).filter fun p => decide (p.1 ≠ 0))
def RightE (n : Nat) (E : List Int) : Prop := E.length = n ∧ (∀ x ∈ E, 0 ≤ x) ∧ E.sum ≤ 8
instance (n : Nat) (E : List Int) : Decidable (RightE n E) := by unfold RightE; infer_instance
def RightT (n : Nat) (p : Term) : Prop := fits p.1 ∧ RightE n p.2
def RightP (n : Nat) (P : List Term) : Prop := Desc P ∧ P.length ≤ 24 ∧ ∀ p ∈ P, p.1 ≠ 0 ∧ RightT n p
theorem right_filter {n : Nat} {P : List Term} (h : RightP n P) : P.filter (fun p => decide (p.1 ≠ 0)) = P := by
  rw [List.filter_eq_self]
  intro p hp
  simpa using (h.2.2 p hp).1
theorem make_self {n : Nat} {P : List Term} (h : RightP n P) : makeM P = .ok P := by
  unfold makeM
  rw [gath_desc h.1, right_filter h, if_neg, if_neg (by have := h.2.1; omega)]
  intro ha
  obtain ⟨p, hp, hf⟩ := List.any_eq_true.1 ha
  have := (fitsB_iff p.1).2 (h.2.2 p hp).2.1
  rw [this] at hf
  cases hf
def addM (a b : List Term) : Except Int (List Term) := makeM (a ++ b)
def turnM (a : List Term) : List Term := a.map fun p => (-p.1, p.2)
def degM (P : List Term) : Int := P.foldl (fun d p => max d p.2.sum) 0
theorem deg_from (P : List Term) (d : Int) : d ≤ P.foldl (fun d p => max d p.2.sum) d ∧ ∀ p ∈ P, p.2.sum ≤ P.foldl (fun d p => max d p.2.sum) d := by
  induction P generalizing d with
  | nil => exact ⟨Int.le_refl _, fun p hp => by cases hp⟩
  | cons q P ih =>
    obtain ⟨h1, h2⟩ := ih (max d q.2.sum)
    rw [List.foldl_cons]
    refine ⟨by omega, fun p hp => ?_⟩
    rcases List.mem_cons.1 hp with rfl | hp
    · omega
    · exact h2 p hp
theorem deg_mem {P : List Term} {p : Term} (h : p ∈ P) : p.2.sum ≤ degM P := (deg_from P 0).2 p h
theorem deg_pos (P : List Term) : 0 ≤ degM P := (deg_from P 0).1
def mulT (a b : Term) : Term := (a.1 * b.1, List.zipWith (· + ·) a.2 b.2)
def prodM (a b : List Term) : List Term := a.flatMap fun x => b.map (mulT x)
def mulM (a b : List Term) : Except Int (List Term) :=
  if a ≠ [] ∧ b ≠ [] ∧ 8 < degM a + degM b then .error 6
  else if (prodM a b).any (fun p => !fitsB p.1) = true then .error 2
  else makeM (prodM a b)
theorem zip_sum : ∀ (x y : List Int), x.length = y.length → (List.zipWith (· + ·) x y).sum = x.sum + y.sum
  | [], [], _ => rfl
  | a :: x, b :: y, h => by
    have := zip_sum x y (by simpa using h)
    simp only [List.zipWith_cons_cons, List.sum_cons, this]
    omega
theorem zip_pos : ∀ (x y : List Int), (∀ a ∈ x, 0 ≤ a) → (∀ a ∈ y, 0 ≤ a) → ∀ a ∈ List.zipWith (· + ·) x y, 0 ≤ a
  | [], _, _, _, a, h => by simp at h
  | _ :: _, [], _, _, a, h => by simp at h
  | a :: x, b :: y, hx, hy, c, h => by
    rw [List.zipWith_cons_cons] at h
    rcases List.mem_cons.1 h with rfl | h
    · have := hx a (by simp); have := hy b (by simp); omega
    · exact zip_pos x y (fun z hz => hx z (by simp [hz])) (fun z hz => hy z (by simp [hz])) c h
theorem prod_right {n : Nat} {a b : List Term} (ha : RightP n a) (hb : RightP n b) (hd : ¬ (a ≠ [] ∧ b ≠ [] ∧ 8 < degM a + degM b)) : ∀ p ∈ prodM a b, RightE n p.2 := by
  intro p hp
  obtain ⟨x, hx, hp⟩ := List.mem_flatMap.1 hp
  obtain ⟨y, hy, rfl⟩ := List.mem_map.1 hp
  obtain ⟨_, _, hx1, hx2, hx3⟩ := ha.2.2 x hx
  obtain ⟨_, _, hy1, hy2, hy3⟩ := hb.2.2 y hy
  refine ⟨by simp [mulT, hx1, hy1], zip_pos _ _ hx2 hy2, ?_⟩
  show (List.zipWith (· + ·) x.2 y.2).sum ≤ 8
  rw [zip_sum _ _ (hx1.trans hy1.symm)]
  have h1 := deg_mem hx
  have h2 := deg_mem hy
  have h3 : ¬ 8 < degM a + degM b := fun h => hd ⟨fun e => (by rw [e] at hx; cases hx), fun e => (by rw [e] at hy; cases hy), h⟩
  omega
def powM (p : List Term) : Nat → Except Int (List Term)
  | 0 => .ok p
  | k + 1 => match powM p k with
    | .error e => .error e
    | .ok q => mulM q p
def raiseM (n : Nat) (p : List Term) (k : Nat) : Except Int (List Term) :=
  match k with
  | 0 => .ok [(1, List.replicate n 0)]
  | k + 1 => powM p k
inductive Ex where
  | num (c : Option Dyadic)
  | var (i : Nat)
  | sum (l : List (Bool × Ex))
  | prod (l : List Ex)
  | pow (b : Ex) (k : Nat)
def unitE (n i : Nat) : List Int := (List.replicate n 0).set i 1
mutual
def evalM (n : Nat) : Ex → Except Int (List Term)
  | .num none => .error 2
  | .num (some c) => makeM [(c, List.replicate n 0)]
  | .var i => makeM [(1, unitE n i)]
  | .sum l => evalS n none l
  | .prod l => evalP n none l
  | .pow b k => match evalM n b with
    | .error e => .error e
    | .ok p => raiseM n p k
def evalS (n : Nat) (acc : Option (List Term)) : List (Bool × Ex) → Except Int (List Term)
  | [] => .ok (acc.getD [])
  | (b, t) :: r => match evalM n t with
    | .error e => .error e
    | .ok p => match acc with
      | none => evalS n (some (if b then turnM p else p)) r
      | some q => match addM q (if b then turnM p else p) with
        | .error e => .error e
        | .ok q' => evalS n (some q') r
def evalP (n : Nat) (acc : Option (List Term)) : List Ex → Except Int (List Term)
  | [] => .ok (acc.getD [])
  | t :: r => match evalM n t with
    | .error e => .error e
    | .ok p => match acc with
      | none => evalP n (some p) r
      | some q => match mulM q p with
        | .error e => .error e
        | .ok q' => evalP n (some q') r
end
end Go.Proofs.YtdilmfakkppgpaaGreatDoor
namespace Go.Proofs.YtdilmfakkppgpaaGreatDoor
open Go.RowKit WordsM DecM
def byteAt (s : List UInt8) (p : Nat) : UInt8 := s.getD p 0
theorem byteAt_lt {s : List UInt8} {p : Nat} (h : byteAt s p ≠ 0) : p < s.length := by
  refine Nat.lt_of_not_le fun hle => h ?_
  unfold byteAt
  rw [List.getD_eq_getElem?_getD, List.getElem?_eq_none hle]; rfl
theorem byteAt_of {s : List UInt8} {p : Nat} {c : UInt8} (h : byteAt s p = c) (hc : c ≠ 0) : p < s.length := byteAt_lt (by rw [h]; exact hc)
def skipN : List UInt8 → Nat
  | [] => 0
  | c :: r => if c = 32 then skipN r + 1 else 0
def skipB (s : List UInt8) (p : Nat) : Nat := p + skipN (s.drop p)
theorem skipN_le : ∀ l, skipN l ≤ l.length
  | [] => Nat.le_refl _
  | c :: r => by
    have := skipN_le r
    simp only [skipN, List.length_cons]
    split <;> omega
theorem skip_ge (s : List UInt8) (p : Nat) : p ≤ skipB s p := Nat.le_add_right _ _
theorem skip_le {s : List UInt8} {p : Nat} (h : p ≤ s.length) : skipB s p ≤ s.length := by
  have := skipN_le (s.drop p)
  rw [List.length_drop] at this
  unfold skipB; omega
theorem skip_blank {s : List UInt8} {p : Nat} (h : byteAt s p = 32) : skipB s p = skipB s (p + 1) := by
  have hp := byteAt_of h (by decide)
  unfold skipB
  rw [List.drop_eq_getElem_cons hp]
  have hc : s[p] = 32 := by
    unfold byteAt at h
    rw [List.getD_eq_getElem?_getD, List.getElem?_eq_getElem hp] at h
    exact h
  rw [skipN, if_pos hc]; omega
theorem skip_stop {s : List UInt8} {p : Nat} (h : byteAt s p ≠ 32) : skipB s p = p := by
  unfold skipB
  by_cases hp : p < s.length
  · rw [List.drop_eq_getElem_cons hp]
    have hc : s[p] ≠ 32 := by
      unfold byteAt at h
      rw [List.getD_eq_getElem?_getD, List.getElem?_eq_getElem hp] at h
      exact h
    rw [skipN, if_neg hc]; rfl
  · rw [List.drop_of_length_le (by omega)]; rfl
theorem skip_skip (s : List UInt8) (p : Nat) : skipB s (skipB s p) = skipB s p := by
  have key : ∀ n p, s.length - p = n → skipB s (skipB s p) = skipB s p := by
    intro n
    induction n using Nat.strongRecOn with
    | ind n ih =>
      intro p hn
      by_cases h : byteAt s p = 32
      · have hp := byteAt_of h (by decide)
        rw [skip_blank h]
        exact ih (s.length - (p + 1)) (by omega) (p + 1) rfl
      · rw [skip_stop h, skip_stop h]
  exact key _ p rfl
abbrev PR (α : Type) := Except Nat (α × Nat)
def wordTo (s : List UInt8) (p : Nat) : Nat := p + digN (s.drop p)
theorem word_le {s : List UInt8} {p : Nat} (h : p ≤ s.length) : p ≤ wordTo s p ∧ wordTo s p ≤ s.length := by
  have := digN_le (s.drop p)
  rw [List.length_drop] at this
  unfold wordTo; omega
def numTo (s : List UInt8) (p : Nat) : Nat :=
  if byteAt s (wordTo s p) = 112 then (if byteAt s (wordTo s p + 1) = 45 then wordTo s (wordTo s p + 2) else wordTo s (wordTo s p + 1)) else wordTo s p
theorem num_le {s : List UInt8} {p : Nat} (h : p ≤ s.length) : wordTo s p ≤ numTo s p ∧ numTo s p ≤ s.length := by
  have h1 := word_le h
  unfold numTo
  split
  · rename_i h2
    have h3 := byteAt_of h2 (by decide)
    split
    · rename_i h4
      have h5 := byteAt_of h4 (by decide)
      have := word_le (s := s) (p := wordTo s p + 2) (by omega)
      omega
    · have := word_le (s := s) (p := wordTo s p + 1) (by omega)
      omega
  · omega
def numP (s : List UInt8) (p : Nat) : PR Ex :=
  match form ((s.drop p).take (numTo s p - p)) with
  | none => .error p
  | some (neg, v, e) => .ok (.num (if fitsB (dy (sgn neg v) e) = true then some (dy (sgn neg v) e) else none), numTo s p)
def baseP (sub : Nat → PR Ex) (opens : Bool) (s : List UInt8) (most : Nat) (p0 : Nat) : PR Ex :=
  if 48 ≤ (byteAt s (skipB s p0)).toNat ∧ (byteAt s (skipB s p0)).toNat ≤ 57 then numP s (skipB s p0)
  else if byteAt s (skipB s p0) = 120 then
    (if 49 ≤ (byteAt s (skipB s p0 + 1)).toNat ∧ (byteAt s (skipB s p0 + 1)).toNat ≤ 48 + most then .ok (.var ((byteAt s (skipB s p0 + 1)).toNat - 49), skipB s p0 + 2) else .error (skipB s p0 + 1))
  else if byteAt s (skipB s p0) = 40 ∧ opens = true then
    match sub (skipB s p0 + 1) with
    | .error e => .error e
    | .ok (x, q) => if byteAt s (skipB s q) = 41 then .ok (x, skipB s q + 1) else .error (skipB s q)
  else .error (skipB s p0)
def factorP (sub : Nat → PR Ex) (opens : Bool) (s : List UInt8) (most : Nat) (p : Nat) : PR Ex :=
  match baseP sub opens s most p with
  | .error e => .error e
  | .ok (b, q) => if byteAt s (skipB s q) = 94 then
      (if 48 ≤ (byteAt s (skipB s (skipB s q + 1))).toNat ∧ (byteAt s (skipB s (skipB s q + 1))).toNat ≤ 56 then .ok (.pow b ((byteAt s (skipB s (skipB s q + 1))).toNat - 48), skipB s (skipB s q + 1) + 1) else .error (skipB s (skipB s q + 1)))
    else .ok (b, skipB s q)
def termP (sub : Nat → PR Ex) (opens : Bool) (s : List UInt8) (most : Nat) : Nat → Nat → List Ex → PR Ex
  | 0, p, _ => .error p
  | f + 1, p, acc => match factorP sub opens s most p with
    | .error e => .error e
    | .ok (x, q) => if byteAt s (skipB s q) = 42 then termP sub opens s most f (skipB s q + 1) (acc ++ [x]) else .ok (.prod (acc ++ [x]), skipB s q)
def sumP (sub : Nat → PR Ex) (opens : Bool) (s : List UInt8) (most : Nat) : Nat → Nat → Bool → List (Bool × Ex) → PR Ex
  | 0, p, _, _ => .error p
  | f + 1, p, below, acc => match termP sub opens s most (s.length + 1) p [] with
    | .error e => .error e
    | .ok (x, q) => if byteAt s (skipB s q) = 43 then sumP sub opens s most f (skipB s q + 1) false (acc ++ [(below, x)])
      else if byteAt s (skipB s q) = 45 then sumP sub opens s most f (skipB s q + 1) true (acc ++ [(below, x)])
      else .ok (.sum (acc ++ [(below, x)]), skipB s q)
def exprP (sub : Nat → PR Ex) (opens : Bool) (s : List UInt8) (most : Nat) (p : Nat) : PR Ex :=
  if byteAt s (skipB s p) = 45 then sumP sub opens s most (s.length + 1) (skipB s p + 1) true [] else sumP sub opens s most (s.length + 1) (skipB s p) false []
def exprD (s : List UInt8) (most : Nat) : Nat → Nat → PR Ex
  | 0 => exprP (fun q => .error q) false s most
  | d + 1 => exprP (exprD s most d) true s most
def Moves (s : List UInt8) (p : Nat) (r : PR Ex) : Prop :=
  match r with
  | .error e => e ≤ s.length
  | .ok (_, q) => p < q ∧ q ≤ s.length
theorem num_moves {s : List UInt8} {p : Nat} (hp : p ≤ s.length) : Moves s p (numP s p) := by
  have h1 := num_le hp
  have h2 := word_le hp
  unfold numP
  split
  · exact hp
  · rename_i neg v e hf
    refine ⟨?_, h1.2⟩
    refine Nat.lt_of_not_le fun hle => ?_
    rw [show numTo s p - p = 0 by omega, List.take_zero, show form [] = none by decide] at hf
    cases hf
theorem base_moves {sub : Nat → PR Ex} {opens : Bool} {s : List UInt8} {most : Nat} (hs : opens = true → ∀ p, p ≤ s.length → Moves s p (sub p)) {p : Nat} (hp : p ≤ s.length) : Moves s p (baseP sub opens s most p) := by
  have h1 := skip_le hp
  have h2 := skip_ge s p
  unfold baseP
  split
  · have := num_moves h1
    revert this
    unfold Moves
    split
    · exact id
    · intro h; omega
  · split
    · rename_i h3
      have h4 := byteAt_of h3 (by decide)
      split
      · rename_i h5
        have h6 : skipB s p + 1 < s.length := byteAt_lt (fun e => by rw [e] at h5; exact absurd h5.1 (by decide))
        show p < skipB s p + 2 ∧ _
        omega
      · show skipB s p + 1 ≤ s.length
        omega
    · split
      · rename_i h3
        have h4 := byteAt_of h3.1 (by decide)
        have h5 := hs h3.2 (skipB s p + 1) (by omega)
        revert h5
        cases sub (skipB s p + 1) with
        | error e => exact id
        | ok r =>
          obtain ⟨x, q⟩ := r
          intro h5
          have h5' : skipB s p + 1 < q ∧ q ≤ s.length := h5
          have h6 := skip_le h5'.2
          have h7 := skip_ge s q
          simp only
          split
          · rename_i h8
            have h9 := byteAt_of h8 (by decide)
            show p < skipB s q + 1 ∧ _
            omega
          · show skipB s q ≤ s.length
            exact h6
      · exact h1
theorem factor_moves {sub : Nat → PR Ex} {opens : Bool} {s : List UInt8} {most : Nat} (hs : opens = true → ∀ p, p ≤ s.length → Moves s p (sub p)) {p : Nat} (hp : p ≤ s.length) : Moves s p (factorP sub opens s most p) := by
  have h5 := base_moves (most := most) hs hp
  unfold factorP
  revert h5
  cases baseP sub opens s most p with
  | error e => exact id
  | ok r =>
    obtain ⟨x, q⟩ := r
    intro h5
    have h5' : p < q ∧ q ≤ s.length := h5
    have h6 := skip_le h5'.2
    have h7 := skip_ge s q
    simp only
    split
    · rename_i h8
      have h9 := byteAt_of h8 (by decide)
      have h10 := skip_le (s := s) (p := skipB s q + 1) (by omega)
      have h11 := skip_ge s (skipB s q + 1)
      split
      · rename_i h12
        have h13 : skipB s (skipB s q + 1) < s.length := byteAt_lt (fun e => by rw [e] at h12; exact absurd h12.1 (by decide))
        show p < skipB s (skipB s q + 1) + 1 ∧ _
        omega
      · exact h10
    · show p < skipB s q ∧ _
      omega
theorem term_moves {sub : Nat → PR Ex} {opens : Bool} {s : List UInt8} {most : Nat} (hs : opens = true → ∀ p, p ≤ s.length → Moves s p (sub p)) : ∀ (f : Nat) {p : Nat} (acc : List Ex), p ≤ s.length → Moves s p (termP sub opens s most f p acc)
  | 0, p, acc, hp => hp
  | f + 1, p, acc, hp => by
    have h5 := factor_moves (most := most) hs hp
    unfold termP
    revert h5
    cases factorP sub opens s most p with
    | error e => exact id
    | ok r =>
      obtain ⟨x, q⟩ := r
      intro h5
      have h5' : p < q ∧ q ≤ s.length := h5
      have h6 := skip_le h5'.2
      have h7 := skip_ge s q
      simp only
      split
      · rename_i h8
        have h9 := byteAt_of h8 (by decide)
        have := term_moves (most := most) hs f (p := skipB s q + 1) (acc ++ [x]) (by omega)
        revert this
        unfold Moves
        split
        · exact id
        · intro h; omega
      · show p < skipB s q ∧ _
        omega
theorem sum_moves {sub : Nat → PR Ex} {opens : Bool} {s : List UInt8} {most : Nat} (hs : opens = true → ∀ p, p ≤ s.length → Moves s p (sub p)) : ∀ (f : Nat) {p : Nat} (below : Bool) (acc : List (Bool × Ex)), p ≤ s.length → Moves s p (sumP sub opens s most f p below acc)
  | 0, p, below, acc, hp => hp
  | f + 1, p, below, acc, hp => by
    have h5 := term_moves (most := most) hs (s.length + 1) [] hp
    unfold sumP
    revert h5
    cases termP sub opens s most (s.length + 1) p [] with
    | error e => exact id
    | ok r =>
      obtain ⟨x, q⟩ := r
      intro h5
      have h5' : p < q ∧ q ≤ s.length := h5
      have h6 := skip_le h5'.2
      have h7 := skip_ge s q
      simp only
      split
      · rename_i h8
        have h9 := byteAt_of h8 (by decide)
        have := sum_moves (most := most) hs f (p := skipB s q + 1) false (acc ++ [(below, x)]) (by omega)
        revert this
        unfold Moves
        split
        · exact id
        · intro h; omega
      · split
        · rename_i h8
          have h9 := byteAt_of h8 (by decide)
          have := sum_moves (most := most) hs f (p := skipB s q + 1) true (acc ++ [(below, x)]) (by omega)
          revert this
          unfold Moves
          split
          · exact id
          · intro h; omega
        · show p < skipB s q ∧ _
          omega
theorem exprP_moves {sub : Nat → PR Ex} {opens : Bool} {s : List UInt8} {most : Nat} (hs : opens = true → ∀ p, p ≤ s.length → Moves s p (sub p)) {p : Nat} (hp : p ≤ s.length) : Moves s p (exprP sub opens s most p) := by
  have h6 := skip_le hp
  have h7 := skip_ge s p
  unfold exprP
  split
  · rename_i h8
    have h9 := byteAt_of h8 (by decide)
    have := sum_moves (most := most) hs (s.length + 1) (p := skipB s p + 1) true [] (by omega)
    revert this
    unfold Moves
    split
    · exact id
    · intro h; omega
  · have := sum_moves (most := most) hs (s.length + 1) (p := skipB s p) false [] h6
    revert this
    unfold Moves
    split
    · exact id
    · intro h; omega
theorem expr_moves (s : List UInt8) (most : Nat) : ∀ (d p : Nat), p ≤ s.length → Moves s p (exprD s most d p)
  | 0, p, hp => exprP_moves (fun h => by cases h) hp
  | d + 1, p, hp => exprP_moves (fun _ p hp => expr_moves s most d p hp) hp
def fixedP (s : List UInt8) : List UInt8 → Nat → Except Nat Nat
  | [], p => .ok p
  | c :: r, p => if byteAt s p = c then fixedP s r (p + 1) else .error p
def headM (i : Nat) : List UInt8 := 120 :: (dec (i + 1) ++ [39, 32, 61, 32])
def lineP (s : List UInt8) (most i p : Nat) : PR Ex :=
  match fixedP s (headM i) p with
  | .error e => .error e
  | .ok p1 => match exprD s most 16 p1 with
    | .error e => .error e
    | .ok (x, q) => if byteAt s (skipB s q) = 10 then .ok (x, skipB s q + 1) else .error (skipB s q)
def linesP (s : List UInt8) (most : Nat) : Nat → Nat → List (Nat × Ex) → Except Nat (List (Nat × Ex))
  | 0, p, _ => .error p
  | f + 1, p, acc => match lineP s most acc.length p with
    | .error e => .error e
    | .ok (x, q) => if q < s.length then linesP s most f q (acc ++ [(p, x)]) else .ok (acc ++ [(p, x)])
def evalLines (n : Nat) : List (Nat × Ex) → List (List Term) → Except (Nat × Int) (List (List Term))
  | [], acc => .ok acc
  | (p, x) :: r, acc => match evalM n x with
    | .error e => .error (p, e)
    | .ok P => evalLines n r (acc ++ [P])
def parseM (s : List UInt8) : Except (Nat × Int) (List (List Term)) :=
  match linesP s (min (s.count 10) 4) 4 0 [] with
  | .error p => .error (p, 5)
  | .ok l => evalLines l.length l []
end Go.Proofs.YtdilmfakkppgpaaGreatDoor
namespace Go.Proofs.YtdilmfakkppgpaaGreatDoor
open Go.RowKit WordsM DecM
def powT (i : Nat) (k : Int) : List (List UInt8) :=
  if k = 1 then [120 :: dec (i + 1)] else if 1 < k then [120 :: (dec (i + 1) ++ 94 :: dec k.toNat)] else []
def powsT : Nat → List Int → List (List UInt8)
  | _, [] => []
  | i, k :: r => powT i k ++ powsT (i + 1) r
def belowD : Dyadic → Bool
  | .zero => false
  | .ofOdd n _ _ => decide (n < 0)
def absD (d : Dyadic) : Dyadic := if belowD d = true then -d else d
def dyT : Dyadic → List UInt8
  | .zero => [48]
  | .ofOdd n k _ => textN (decide (n < 0)) n.natAbs (-k)
def joinT : List (List UInt8) → List UInt8
  | [] => []
  | [x] => x
  | x :: y :: r => x ++ 42 :: joinT (y :: r)
def partsT (p : Term) : List (List UInt8) :=
  if powsT 0 p.2 = [] ∨ absD p.1 ≠ 1 then dyT (absD p.1) :: powsT 0 p.2 else powsT 0 p.2
def termT (p : Term) : List UInt8 := joinT (partsT p)
def signT (first : Bool) (p : Term) : List UInt8 :=
  if first = true then (if belowD p.1 = true then [45] else []) else (if belowD p.1 = true then [32, 45, 32] else [32, 43, 32])
def termsT : Bool → List Term → List UInt8
  | _, [] => []
  | first, p :: r => signT first p ++ (termT p ++ termsT false r)
def polyT (P : List Term) : List UInt8 := if P = [] then [48] else termsT true P
def lineT (i : Nat) (P : List Term) : List UInt8 := headM i ++ (polyT P ++ [10])
def fieldT : Nat → List (List Term) → List UInt8
  | _, [] => []
  | i, P :: r => lineT i P ++ fieldT (i + 1) r
theorem belowD_sgn {neg : Bool} {v : Nat} {e : Int} (ho : v % 2 = 1) : belowD (dy (sgn neg v) e) = neg := by
  rw [dy_odd (sgn_odd ho)]
  cases neg
  · simp [belowD, sgn]
  · simp [belowD, sgn]; omega
theorem dyT_sgn {neg : Bool} {v : Nat} {e : Int} (ho : v % 2 = 1) : dyT (dy (sgn neg v) e) = textN neg v e := by
  have h := belowD_sgn (neg := neg) (e := e) ho
  rw [dy_odd (sgn_odd ho)] at h ⊢
  simp only [belowD] at h
  simp only [dyT, h, sgn_abs, Int.neg_neg]
theorem absD_sgn {neg : Bool} {v : Nat} {e : Int} (ho : v % 2 = 1) : absD (dy (sgn neg v) e) = dy (sgn false v) e := by
  unfold absD
  rw [belowD_sgn ho]
  cases neg
  · rfl
  · rw [if_pos rfl, dy_neg]; congr 1; simp [sgn]
theorem dy_form (d : Dyadic) : d = 0 ∨ ∃ (neg : Bool) (v : Nat) (e : Int), v % 2 = 1 ∧ d = dy (sgn neg v) e := by
  cases d with
  | zero => exact .inl rfl
  | ofOdd n k h =>
    refine .inr ⟨decide (n < 0), n.natAbs, -k, by omega, ?_⟩
    have hs : sgn (decide (n < 0)) n.natAbs = n := by
      unfold sgn
      by_cases hn : n < 0
      · rw [if_pos (by simpa using hn)]; omega
      · rw [if_neg (by simpa using hn)]; omega
    rw [hs, dy_odd h, Int.neg_neg]
def At (s : List UInt8) (p : Nat) (t : List UInt8) : Prop := s.drop p = t
theorem At.byte {s : List UInt8} {p : Nat} {c : UInt8} {t : List UInt8} (h : At s p (c :: t)) : byteAt s p = c ∧ At s (p + 1) t := by
  unfold At at *
  have hp : p < s.length := by
    refine Nat.lt_of_not_le fun hle => ?_
    rw [List.drop_of_length_le hle] at h; cases h
  rw [List.drop_eq_getElem_cons hp] at h
  injection h with h1 h2
  refine ⟨?_, h2⟩
  unfold byteAt
  rw [List.getD_eq_getElem?_getD, List.getElem?_eq_getElem hp]
  exact h1
theorem At.end_ {s : List UInt8} {p : Nat} (h : At s p []) : byteAt s p = 0 := by
  unfold At at h
  have hp : s.length ≤ p := List.drop_eq_nil_iff.1 h
  unfold byteAt
  rw [List.getD_eq_getElem?_getD, List.getElem?_eq_none hp]; rfl
theorem At.app {s : List UInt8} {p : Nat} {t u : List UInt8} (h : At s p (t ++ u)) : At s (p + t.length) u := by
  unfold At at *
  rw [← List.drop_drop, h, List.drop_left]
theorem At.len {s : List UInt8} {p : Nat} {t : List UInt8} (h : At s p t) (hp : p ≤ s.length) : s.length = p + t.length := by
  unfold At at h
  have := congrArg List.length h
  rw [List.length_drop] at this
  omega
theorem At.fixed {s : List UInt8} : ∀ {t : List UInt8} {p : Nat} {u : List UInt8}, At s p (t ++ u) → fixedP s t p = .ok (p + t.length)
  | [], p, u, _ => rfl
  | c :: t, p, u, h => by
    obtain ⟨h1, h2⟩ := At.byte (t := t ++ u) h
    rw [fixedP, if_pos h1, At.fixed h2]
    simp only [List.length_cons]
    congr 1; omega
theorem At.skip0 {s : List UInt8} {p : Nat} {c : UInt8} {t : List UInt8} (h : At s p (c :: t)) (hc : c ≠ 32) : skipB s p = p := skip_stop (by rw [h.byte.1]; exact hc)
theorem At.word {s : List UInt8} {p : Nat} {t u : List UInt8} (h : At s p (t ++ u)) (ha : allD t) (hu : digN u = 0) : wordTo s p = p + t.length := by
  unfold wordTo At at *
  rw [h, digN_app t u ha, hu, Nat.add_zero]
def NumEnd (u : List UInt8) : Prop := digN u = 0 ∧ ∀ c r, u = c :: r → c ≠ 112
theorem expT_app (e : Int) {u : List UInt8} (hu : NumEnd u) : digN (expT e ++ u) = 0 := by
  unfold expT
  split
  · exact hu.1
  · show digN (112 :: _) = 0
    rw [digN, if_neg]; decide
theorem numTo_text {s : List UInt8} {p : Nat} {v : Nat} {e : Int} {u : List UInt8} (h : At s p (textN false v e ++ u)) (hu : NumEnd u) : numTo s p = p + (textN false v e).length := by
  have ht : textN false v e = dec v ++ expT e := rfl
  rw [ht, List.append_assoc] at h
  rw [ht]
  have hw := h.word (dec_all v) (expT_app e hu)
  have h2 := h.app
  unfold numTo
  rw [hw]
  unfold expT at h2 ⊢
  by_cases h0 : e = 0
  · rw [if_pos h0] at h2 ⊢
    rw [List.nil_append] at h2
    have hne : byteAt s (p + (dec v).length) ≠ 112 := by
      cases u with
      | nil => rw [h2.end_]; decide
      | cons c r => rw [h2.byte.1]; exact hu.2 c r rfl
    rw [if_neg hne, List.append_nil]
  · rw [if_neg h0] at h2 ⊢
    obtain ⟨h3, h4⟩ := At.byte (t := (if e < 0 then 45 :: dec e.natAbs else dec e.natAbs) ++ u) h2
    rw [if_pos h3]
    by_cases hneg : e < 0
    · rw [if_pos hneg] at h4 ⊢
      obtain ⟨h5, h6⟩ := At.byte (t := dec e.natAbs ++ u) h4
      rw [if_pos h5, h6.word (dec_all _) hu.1]
      simp only [List.length_append, List.length_cons]; omega
    · rw [if_neg hneg] at h4 ⊢
      have hd := dec_len_pos e.natAbs
      have h5 : byteAt s (p + (dec v).length + 1) ≠ 45 := by
        cases hc : dec e.natAbs with
        | nil => rw [hc] at hd; simp at hd
        | cons c r =>
          rw [hc] at h4
          have h6 := (At.byte (t := r ++ u) h4).1
          rw [h6]
          have := dec_all e.natAbs c (by rw [hc]; simp)
          rintro rfl
          exact absurd this (by decide)
      rw [if_neg h5, h4.word (dec_all _) hu.1]
      simp only [List.length_append, List.length_cons]; omega
theorem pow_lift (c a b j : Nat) (h : a * b ≤ j) (hc : 0 < c) : (c ^ a) ^ b ≤ c ^ j := by
  rw [← Nat.pow_mul]; exact Nat.pow_le_pow_right hc h
theorem pow_bound : (2 ^ 64) ^ 64 ≤ 10 ^ 1300 := by
  have h1 : ((2 : Nat) ^ 64) ^ 64 = ((2 ^ 64) ^ 2) ^ 32 := by rw [← Nat.pow_mul (2 ^ 64) 2 32]
  rw [h1]
  exact Nat.le_trans (Nat.pow_le_pow_left (show ((2 : Nat) ^ 64) ^ 2 ≤ 10 ^ 40 by decide) 32) (pow_lift 10 40 32 1300 (by decide) (by decide))
theorem text_head (v : Nat) (e : Int) : ∃ c r, textN false v e = c :: r ∧ 48 ≤ c.toNat ∧ c.toNat ≤ 57 := by
  have hd := dec_len_pos v
  cases hc : dec v with
  | nil => rw [hc] at hd; simp at hd
  | cons c r =>
    refine ⟨c, r ++ expT e, ?_, dec_all v c (by rw [hc]; simp)⟩
    show dec v ++ expT e = _
    rw [hc]; rfl
theorem numP_text {s : List UInt8} {p : Nat} {v : Nat} {e : Int} {u : List UInt8} (h : At s p (textN false v e ++ u)) (hu : NumEnd u) (h1 : -65536 ≤ e) (h2 : e ≤ 65536) (hv : v < (2 ^ 64) ^ 64) (h0 : v = 0 → e = 0) (hf : fits (dy (sgn false v) e)) :
    numP s p = .ok (.num (some (dy (sgn false v) e)), p + (textN false v e).length) := by
  have hn := numTo_text h hu
  unfold numP
  rw [hn, Nat.add_sub_cancel_left]
  have ht : (s.drop p).take (textN false v e).length = textN false v e := by
    unfold At at h; rw [h, List.take_left]
  rw [ht, form_text false v e h1 h2 (Nat.lt_of_lt_of_le hv pow_bound) (fun h => ⟨rfl, h0 h⟩)]
  simp only
  rw [if_pos ((fitsB_iff _).2 hf)]
def nb (u : List UInt8) : UInt8 := (u.drop (skipN u)).headD 0
theorem At.nb {s : List UInt8} {q : Nat} {u : List UInt8} (h : At s q u) : byteAt s (skipB s q) = nb u := by
  unfold At at h
  unfold skipB
  rw [h]
  have h2 : At s (q + skipN u) (u.drop (skipN u)) := by unfold At; rw [← List.drop_drop, h]
  unfold Go.Proofs.YtdilmfakkppgpaaGreatDoor.nb
  cases hc : u.drop (skipN u) with
  | nil => rw [hc] at h2; exact h2.end_
  | cons c r => rw [hc] at h2; exact h2.byte.1
def FacEnd (u : List UInt8) : Prop := NumEnd u ∧ nb u ≠ 94
def FR (most : Nat) (t : List UInt8) (x : Ex) : Prop := (∃ c r, t = c :: r ∧ c ≠ 32) ∧ ∀ (s : List UInt8) (sub : Nat → PR Ex) (opens : Bool) (p : Nat) (u : List UInt8), At s (skipB s p) (t ++ u) → FacEnd u → ∃ q, factorP sub opens s most p = .ok (x, q) ∧ skipB s q = skipB s (skipB s p + t.length)
theorem fr_num (most : Nat) {v : Nat} {e : Int} (h1 : -65536 ≤ e) (h2 : e ≤ 65536) (hv : v < (2 ^ 64) ^ 64) (h0 : v = 0 → e = 0) (hf : fits (dy (sgn false v) e)) : FR most (textN false v e) (.num (some (dy (sgn false v) e))) := by
  refine ⟨?_, fun s sub opens p u h hu => ?_⟩
  · obtain ⟨c, r, hc, hc1, _⟩ := text_head v e
    exact ⟨c, r, hc, fun e => by rw [e] at hc1; exact absurd hc1 (by decide)⟩
  · obtain ⟨c, r, hc, hc1, hc2⟩ := text_head v e
    have hb : byteAt s (skipB s p) = c := by
      have h' := h
      rw [hc] at h'
      exact (At.byte (t := r ++ u) h').1
    have hn := numP_text h hu.1 h1 h2 hv h0 hf
    have ha : byteAt s (skipB s (skipB s p + (textN false v e).length)) = nb u := (At.app h).nb
    refine ⟨skipB s (skipB s p + (textN false v e).length), ?_, skip_skip _ _⟩
    unfold factorP baseP
    rw [hb, if_pos ⟨hc1, hc2⟩, hn]
    simp only
    rw [if_neg (by rw [ha]; exact hu.2)]
theorem dec_one {i : Nat} (h : i < 10) : dec i = [UInt8.ofNat (48 + i)] := dec_low h
theorem of_digit {i : Nat} (h : i < 10) : (UInt8.ofNat (48 + i)).toNat = 48 + i := digit_byte i h
theorem base_var {most i : Nat} (hi : i < 9) (hm : i + 1 ≤ most) (s : List UInt8) (sub : Nat → PR Ex) (opens : Bool) (p : Nat) (u : List UInt8) (h : At s (skipB s p) (120 :: (dec (i + 1) ++ u))) : baseP sub opens s most p = .ok (.var i, skipB s p + 2) := by
  obtain ⟨h1, h2⟩ := h.byte
  rw [dec_one (by omega)] at h2
  obtain ⟨h3, h4⟩ := At.byte (t := u) h2
  unfold baseP
  rw [h1, if_neg (by decide), if_pos rfl, h3, of_digit (by omega), if_pos (by omega)]
  congr 2
  congr 1
  omega
theorem fr_var {most i : Nat} (hi : i < 9) (hm : i + 1 ≤ most) : FR most (120 :: dec (i + 1)) (.var i) := by
  refine ⟨⟨_, _, rfl, by decide⟩, fun s sub opens p u h hu => ?_⟩
  have hb := base_var hi hm s sub opens p u h
  have hl : (120 :: dec (i + 1)).length = 2 := by rw [dec_one (by omega)]; rfl
  have ha : byteAt s (skipB s (skipB s p + (120 :: dec (i + 1)).length)) = nb u := (At.app (t := 120 :: dec (i + 1)) h).nb
  rw [hl] at ha ⊢
  refine ⟨skipB s (skipB s p + 2), ?_, skip_skip _ _⟩
  unfold factorP
  rw [hb]
  simp only
  rw [if_neg (by rw [ha]; exact hu.2)]
theorem fr_pow {most i k : Nat} (hi : i < 9) (hm : i + 1 ≤ most) (hk : k ≤ 8) : FR most (120 :: (dec (i + 1) ++ 94 :: dec k)) (.pow (.var i) k) := by
  refine ⟨⟨_, _, rfl, by decide⟩, fun s sub opens p u h hu => ?_⟩
  have h' : At s (skipB s p) (120 :: (dec (i + 1) ++ (94 :: (dec k ++ u)))) := by simpa using h
  have hb := base_var hi hm s sub opens p _ h'
  have hl : (120 :: dec (i + 1)).length = 2 := by rw [dec_one (by omega)]; rfl
  have hlen : (120 :: (dec (i + 1) ++ 94 :: dec k)).length = 4 := by rw [dec_one (by omega), dec_one (i := k) (by omega)]; rfl
  have h2 : At s (skipB s p + 2) (94 :: (dec k ++ u)) := by
    have := At.app (t := 120 :: dec (i + 1)) (u := 94 :: (dec k ++ u)) h'
    rwa [hl] at this
  obtain ⟨h3, h4⟩ := h2.byte
  have hs2 := h2.skip0 (by decide)
  rw [dec_one (i := k) (by omega)] at h4
  obtain ⟨h5, h6⟩ := At.byte (t := u) h4
  have hs3 := At.skip0 (t := u) h4 (fun e => by have := congrArg UInt8.toNat e; rw [of_digit (by omega)] at this; have h32 : (32 : UInt8).toNat = 32 := rfl; omega)
  rw [hlen]
  refine ⟨skipB s p + 4, ?_, rfl⟩
  unfold factorP
  rw [hb]
  simp only
  rw [hs2, if_pos h3, hs3, h5, of_digit (by omega), if_pos (by omega)]
  congr 2
  congr 1
  omega
def FRs (most : Nat) : List (List UInt8) → List Ex → Prop
  | [], [] => True
  | t :: ts, x :: xs => FR most t x ∧ FRs most ts xs
  | _, _ => False
theorem frs_app {most : Nat} : ∀ {ts us : List (List UInt8)} {xs ys : List Ex}, FRs most ts xs → FRs most us ys → FRs most (ts ++ us) (xs ++ ys)
  | [], _, [], _, _, h => h
  | _ :: _, _, _ :: _, _, h, h' => ⟨h.1, frs_app h.2 h'⟩
  | [], _, _ :: _, _, h, _ => h.elim
  | _ :: _, _, [], _, h, _ => h.elim
theorem star_end (t : List UInt8) : FacEnd (42 :: t) := ⟨⟨by rw [digN, if_neg]; decide, fun c r h => by injection h with h1 _; rw [← h1]; decide⟩, by simp [nb, skipN]⟩
theorem term_text {most : Nat} {s : List UInt8} (sub : Nat → PR Ex) (opens : Bool) {u : List UInt8} (hu : FacEnd u) (hs : nb u ≠ 42) : ∀ (ts : List (List UInt8)) (xs : List Ex) (f p : Nat) (acc : List Ex), ts ≠ [] → FRs most ts xs → ts.length ≤ f → At s (skipB s p) (joinT ts ++ u) →
    termP sub opens s most f p acc = .ok (.prod (acc ++ xs), skipB s (skipB s p + (joinT ts).length))
  | [], _, _, _, _, h, _, _, _ => absurd rfl h
  | [t], [x], f + 1, p, acc, _, hf, _, h => by
    obtain ⟨q, h1, h2⟩ := hf.1.2 s sub opens p u h hu
    have ha : byteAt s (skipB s (skipB s p + t.length)) = nb u := (At.app (t := t) h).nb
    unfold termP
    rw [h1]
    simp only
    rw [h2, if_neg (by rw [ha]; exact hs)]
    rfl
  | t :: t' :: ts, x :: xs, f + 1, p, acc, _, hf, hl, h => by
    have h' : At s (skipB s p) (t ++ (42 :: (joinT (t' :: ts) ++ u))) := by simpa [joinT] using h
    obtain ⟨q, h1, h2⟩ := hf.1.2 s sub opens p _ h' (star_end _)
    have h3 := At.app h'
    have h4 := h3.skip0 (by decide)
    obtain ⟨h5, h6⟩ := h3.byte
    have hne : joinT (t' :: ts) ++ u ≠ [] ∧ skipB s (skipB s p + t.length + 1) = skipB s p + t.length + 1 := by
      obtain ⟨c, r, hc, hc32⟩ : ∃ c r, joinT (t' :: ts) ++ u = c :: r ∧ c ≠ 32 := by
        have hf2 := hf.2
        cases xs with
        | nil => exact hf2.elim
        | cons y ys =>
          obtain ⟨c, r, hc, hc32⟩ := hf2.1.1
          subst hc
          cases ts with
          | nil => exact ⟨c, r ++ u, rfl, hc32⟩
          | cons a b => exact ⟨c, _, rfl, hc32⟩
      rw [hc] at h6 ⊢
      exact ⟨by simp, h6.skip0 hc32⟩
    have ih := term_text sub opens hu hs (t' :: ts) xs f (skipB s p + t.length + 1) (acc ++ [x]) (by simp) hf.2 (by simpa using hl) (by rw [hne.2]; exact h6)
    unfold termP
    rw [h1]
    simp only
    rw [h2, h4, if_pos h5, ih, hne.2]
    simp only [joinT, List.length_append, List.length_cons, List.append_assoc, List.singleton_append]
    congr 3; omega
  | [t], [], _, _, _, _, hf, _, _ => hf.elim
  | _ :: _ :: _, [], _, _, _, _, hf, _, _ => hf.elim
  | [t], _ :: _ :: _, _, _, _, _, hf, _, _ => hf.2.elim
  | _ :: _, _, 0, _, _, _, _, hl, _ => by simp at hl
end Go.Proofs.YtdilmfakkppgpaaGreatDoor
namespace Go.Proofs.YtdilmfakkppgpaaGreatDoor
open Go.RowKit WordsM DecM
def facE (i : Nat) (k : Int) : List Ex := if k = 1 then [.var i] else if 1 < k then [.pow (.var i) k.toNat] else []
def facsE : Nat → List Int → List Ex
  | _, [] => []
  | i, k :: r => facE i k ++ facsE (i + 1) r
def termE (p : Term) : List Ex := if powsT 0 p.2 = [] ∨ absD p.1 ≠ 1 then .num (some (absD p.1)) :: facsE 0 p.2 else facsE 0 p.2
def sumE (p : Term) : Bool × Ex := (belowD p.1, .prod (termE p))
def polyE (P : List Term) : Ex := if P = [] then .sum [(false, .prod [.num (some 0)])] else .sum (P.map sumE)
theorem frs_pows {most : Nat} : ∀ (i : Nat) (E : List Int), i + E.length ≤ most → most ≤ 9 → (∀ x ∈ E, 0 ≤ x ∧ x ≤ 8) → FRs most (powsT i E) (facsE i E)
  | _, [], _, _, _ => trivial
  | i, k :: r, h, hm, hk => by
    have ih := frs_pows (i + 1) r (by simp only [List.length_cons] at h; omega) hm (fun x hx => hk x (by simp [hx]))
    have hk1 := hk k (by simp)
    refine frs_app ?_ ih
    simp only [List.length_cons] at h
    unfold powT facE
    split
    · exact ⟨fr_var (by omega) (by omega), trivial⟩
    · split
      · exact ⟨fr_pow (by omega) (by omega) (by omega), trivial⟩
      · trivial
theorem mem_le_sum : ∀ {E : List Int}, (∀ x ∈ E, 0 ≤ x) → 0 ≤ E.sum ∧ ∀ x ∈ E, x ≤ E.sum
  | [], _ => ⟨by simp, fun x hx => by cases hx⟩
  | a :: E, h => by
    obtain ⟨h1, h2⟩ := mem_le_sum (E := E) (fun x hx => h x (by simp [hx]))
    have h3 := h a (by simp)
    rw [List.sum_cons]
    refine ⟨by omega, fun x hx => ?_⟩
    rcases List.mem_cons.1 hx with rfl | hx
    · omega
    · have := h2 x hx; omega
theorem rightE_small {n : Nat} {E : List Int} (h : RightE n E) : ∀ x ∈ E, 0 ≤ x ∧ x ≤ 8 := fun x hx => by
  have h1 := (mem_le_sum h.2.1).2 x hx
  have h2 := h.2.1 x hx
  have h3 := h.2.2
  omega
theorem fr_abs (most : Nat) {d : Dyadic} (h0 : d ≠ 0) (hf : fits d) : FR most (dyT (absD d)) (.num (some (absD d))) := by
  rcases dy_form d with rfl | ⟨neg, v, e, ho, rfl⟩
  · exact absurd rfl h0
  · rw [absD_sgn ho]
    rw [dyT_sgn ho]
    obtain ⟨h1, h2, h3⟩ := (fits_odd (neg := neg) ho).1 hf
    exact fr_num most h2 h3 h1 (fun h => by omega) ((fits_odd (neg := false) ho).2 ⟨h1, h2, h3⟩)
theorem frs_parts {n most : Nat} {p : Term} (h0 : p.1 ≠ 0) (h : RightT n p) (hn : n ≤ most) (hm : most ≤ 9) : FRs most (partsT p) (termE p) ∧ partsT p ≠ [] := by
  have h1 := frs_pows (most := most) 0 p.2 (by rw [h.2.1]; omega) hm (rightE_small h.2)
  unfold partsT termE
  split
  · exact ⟨⟨fr_abs most h0 h.1, h1⟩, by simp⟩
  · rename_i hc
    exact ⟨h1, fun e => hc (.inl e)⟩
theorem frs_len {most : Nat} : ∀ {ts : List (List UInt8)} {xs : List Ex}, FRs most ts xs → ts.length ≤ (joinT ts).length
  | [], _, _ => by simp
  | [t], [x], h => by
    obtain ⟨c, r, hc, _⟩ := h.1.1
    simp only [joinT, hc, List.length_cons, List.length_nil]; omega
  | t :: t' :: ts, x :: xs, h => by
    have ih := frs_len h.2
    simp only [joinT, List.length_append, List.length_cons] at ih ⊢
    omega
  | [_], [], h => h.elim
  | _ :: _ :: _, [], h => h.elim
  | [_], _ :: _ :: _, h => h.2.elim
def TermEnd (u : List UInt8) : Prop := FacEnd u ∧ nb u ≠ 42
theorem term_read {n most : Nat} {p0 : Term} (h0 : p0.1 ≠ 0) (h : RightT n p0) (hn : n ≤ most) (hm : most ≤ 9) {s : List UInt8} (sub : Nat → PR Ex) (opens : Bool) {u : List UInt8} (hu : TermEnd u) {p : Nat} (hp : p ≤ s.length) (ha : At s (skipB s p) (termT p0 ++ u)) :
    termP sub opens s most (s.length + 1) p [] = .ok (.prod (termE p0), skipB s (skipB s p + (termT p0).length)) := by
  obtain ⟨h1, h2⟩ := frs_parts h0 h hn hm
  have h3 := frs_len h1
  have h4 := ha.len (skip_le hp)
  have h5 := term_text sub opens hu.1 hu.2 (partsT p0) (termE p0) (s.length + 1) p [] h2 h1 (by
    have h6 : (termT p0 ++ u).length = (joinT (partsT p0)).length + u.length := by rw [List.length_append]; rfl
    rw [h6] at h4
    omega) ha
  rw [List.nil_append] at h5
  exact h5
theorem plus_end (c : UInt8) (t : List UInt8) (hc : c ≠ 32) (hc2 : c ≠ 94) (hc3 : c ≠ 42) : TermEnd (32 :: c :: t) := by
  have hn : nb (32 :: c :: t) = c := by simp [nb, skipN, hc]
  refine ⟨⟨⟨by rw [digN, if_neg]; decide, fun x r h => by injection h with h1 _; rw [← h1]; decide⟩, by rw [hn]; exact hc2⟩, by rw [hn]; exact hc3⟩
theorem sum_text {n most : Nat} (hn : n ≤ most) (hm : most ≤ 9) {s : List UInt8} (sub : Nat → PR Ex) (opens : Bool) {u : List UInt8} (hu : TermEnd u) (hu1 : nb u ≠ 43) (hu2 : nb u ≠ 45) :
    ∀ (r : List Term) (p0 : Term) (f p : Nat) (below : Bool) (acc : List (Bool × Ex)), (∀ q ∈ p0 :: r, q.1 ≠ 0 ∧ RightT n q) → r.length < f → p ≤ s.length → At s (skipB s p) (termT p0 ++ (termsT false r ++ u)) →
    sumP sub opens s most f p below acc = .ok (.sum (acc ++ (below, .prod (termE p0)) :: r.map sumE), skipB s (skipB s p + (termT p0 ++ termsT false r).length))
  | [], p0, f + 1, p, below, acc, hr, _, hp, ha => by
    have ht := term_read (hr p0 (by simp)).1 (hr p0 (by simp)).2 hn hm sub opens hu hp ha
    have hb : byteAt s (skipB s (skipB s p + (termT p0).length)) = nb u := (At.app (t := termT p0) ha).nb
    unfold sumP
    rw [ht]
    simp only
    rw [skip_skip, hb, if_neg hu1, if_neg hu2]
    simp [termsT]
  | q :: r, p0, f + 1, p, below, acc, hr, hl, hp, ha => by
    obtain ⟨c, hc, hcc, hc2⟩ : ∃ c : UInt8, signT false q = [32, c, 32] ∧ (c = 43 ∧ belowD q.1 = false ∨ c = 45 ∧ belowD q.1 = true) ∧ c ≠ 32 := by
      unfold signT
      rw [if_neg (by decide)]
      cases hb : belowD q.1
      · exact ⟨43, by rw [if_neg (by decide)], .inl ⟨rfl, rfl⟩, by decide⟩
      · exact ⟨45, by rw [if_pos rfl], .inr ⟨rfl, rfl⟩, by decide⟩
    have ha' : At s (skipB s p) (termT p0 ++ (32 :: c :: (32 :: (termT q ++ (termsT false r ++ u))))) := by
      have e : termsT false (q :: r) ++ u = 32 :: c :: (32 :: (termT q ++ (termsT false r ++ u))) := by
        rw [termsT, hc]; simp
      rw [← e]; exact ha
    have ht := term_read (hr p0 (by simp)).1 (hr p0 (by simp)).2 hn hm sub opens (plus_end c _ hc2 (by rcases hcc with ⟨rfl, _⟩ | ⟨rfl, _⟩ <;> decide) (by rcases hcc with ⟨rfl, _⟩ | ⟨rfl, _⟩ <;> decide)) hp ha'
    have h1 := At.app ha'
    obtain ⟨h2, h3⟩ := h1.byte
    have h4 : skipB s (skipB s p + (termT p0).length) = skipB s p + (termT p0).length + 1 := by rw [skip_blank h2]; exact h3.skip0 hc2
    obtain ⟨h5, h6⟩ := h3.byte
    obtain ⟨h7, h8⟩ := h6.byte
    have hst : skipB s (skipB s p + (termT p0).length + 1 + 1) = skipB s p + (termT p0).length + 1 + 1 + 1 := by
      rw [skip_blank h7]
      obtain ⟨hf1, hf2⟩ := frs_parts (hr q (by simp)).1 (hr q (by simp)).2 hn hm
      obtain ⟨x, y, hx, hx32⟩ : ∃ x y, termT q ++ (termsT false r ++ u) = x :: y ∧ x ≠ 32 := by
        unfold termT
        cases hpt : partsT q with
        | nil => exact absurd hpt hf2
        | cons t ts =>
          rw [hpt] at hf1
          cases hte : termE q with
          | nil => rw [hte] at hf1; exact hf1.elim
          | cons z zs =>
            rw [hte] at hf1
            obtain ⟨x, y, hx, hx32⟩ := hf1.1.1
            subst hx
            cases ts with
            | nil => exact ⟨x, _, rfl, hx32⟩
            | cons a b => exact ⟨x, _, rfl, hx32⟩
      rw [hx] at h8
      exact h8.skip0 hx32
    have hlen := byteAt_of h5 (by rcases hcc with ⟨rfl, _⟩ | ⟨rfl, _⟩ <;> decide)
    have hl2 : r.length < f := by simp only [List.length_cons] at hl; omega
    have hple : skipB s p + (termT p0).length + 1 + 1 ≤ s.length := hlen
    have ih := fun (b : Bool) (acc' : List (Bool × Ex)) => sum_text hn hm sub opens hu hu1 hu2 r q f (skipB s p + (termT p0).length + 1 + 1) b acc' (fun x hx => hr x (by simp only [List.mem_cons] at hx ⊢; exact .inr hx)) hl2 hple (by rw [hst]; exact h8)
    have hfin : skipB s (skipB s p + (termT p0).length + 1 + 1 + 1 + (termT q ++ termsT false r).length) = skipB s (skipB s p + (termT p0 ++ termsT false (q :: r)).length) := by
      congr 1
      simp only [termsT, hc, List.length_append, List.length_cons, List.length_nil]; omega
    unfold sumP
    rw [ht]
    simp only
    rw [skip_skip, h4, h5]
    rcases hcc with ⟨rfl, hb⟩ | ⟨rfl, hb⟩
    · rw [if_pos rfl, ih, hst, hfin]
      simp [sumE, hb]
    · rw [if_neg (by decide), if_pos rfl, ih, hst, hfin]
      simp [sumE, hb]
  | _, _, 0, _, _, _, _, hl, _, _ => by simp at hl
theorem line_end (t : List UInt8) : TermEnd (10 :: t) ∧ nb (10 :: t) = 10 ∧ skipN (10 :: t) = 0 := by
  have hn : nb (10 :: t) = 10 := by simp [nb, skipN]
  exact ⟨⟨⟨⟨by rw [digN, if_neg]; decide, fun x r h => by injection h with h1 _; rw [← h1]; decide⟩, by rw [hn]; decide⟩, by rw [hn]; decide⟩, hn, by simp [skipN]⟩
theorem term_front {n most : Nat} {q : Term} (h0 : q.1 ≠ 0) (h : RightT n q) (hn : n ≤ most) (hm : most ≤ 9) : ∃ x y, termT q = x :: y ∧ x ≠ 32 ∧ x ≠ 45 := by
  unfold termT partsT
  split
  · rcases dy_form q.1 with h1 | ⟨neg, v, e, ho, h1⟩
    · exact absurd h1 h0
    · rw [h1, absD_sgn ho, dyT_sgn ho]
      obtain ⟨c, r, hc, hc1, hc2⟩ := text_head v e
      rw [hc]
      have a1 : c ≠ 32 := fun e => by rw [e] at hc1; exact absurd hc1 (by decide)
      have a2 : c ≠ 45 := fun e => by rw [e] at hc1; exact absurd hc1 (by decide)
      cases powsT 0 q.2 with
      | nil => exact ⟨c, r, rfl, a1, a2⟩
      | cons t ts => exact ⟨c, _, rfl, a1, a2⟩
  · rename_i hc
    have h1 := frs_pows (most := most) 0 q.2 (by rw [h.2.1]; omega) hm (rightE_small h.2)
    have hx : ∀ (i : Nat) (E : List Int) t ts, powsT i E = t :: ts → ∃ r, t = 120 :: r := by
      intro i E
      induction E generalizing i with
      | nil => intro t ts h; cases h
      | cons k r ih =>
        intro t ts h
        simp only [powsT, powT] at h
        split at h
        · injection h with h _; exact ⟨_, h.symm⟩
        · split at h
          · injection h with h _; exact ⟨_, h.symm⟩
          · exact ih (i + 1) t ts h
    cases hp : powsT 0 q.2 with
    | nil => exact absurd (.inl hp) hc
    | cons t ts =>
      obtain ⟨r, rfl⟩ := hx 0 q.2 t ts hp
      cases ts with
      | nil => exact ⟨120, r, rfl, by decide, by decide⟩
      | cons a b => exact ⟨120, _, rfl, by decide, by decide⟩
theorem poly_text {n most : Nat} (hn : n ≤ most) (hm : most ≤ 9) {s : List UInt8} (sub : Nat → PR Ex) (opens : Bool) {P : List Term} (hP : RightP n P) {p0 p : Nat} (hs0 : skipB s p0 = p) (hp : p ≤ s.length) {t : List UInt8} (h2 : At s p (polyT P ++ 10 :: t)) :
    exprP sub opens s most p0 = .ok (polyE P, p + (polyT P).length) := by
  obtain ⟨he1, he2, he3⟩ := line_end t
  cases P with
  | nil =>
    have h2' : At s p (textN false 0 0 ++ 10 :: t) := by
      have e : textN false 0 0 = [48] := by simp [textN, expT, dec_low]
      rw [e]; exact h2
    have e : (textN false 0 0).length = 1 := by simp [textN, expT, dec_low]
    have hfr := fr_num most (v := 0) (e := 0) (by decide) (by decide) (by decide) (fun _ => rfl) (by exact fits_zero)
    have h3 := term_text sub opens he1.1 he1.2 [textN false 0 0] [.num (some 0)] (s.length + 1) p [] (by simp) ⟨hfr, trivial⟩ (by simp) (by rw [h2.skip0 (by decide)]; exact h2')
    rw [h2.skip0 (by decide)] at h3
    have h4 : At s (p + 1) (10 :: t) := by have := At.app h2'; rwa [e] at this
    have h5 := h4.skip0 (by decide)
    simp only [joinT, e, h5, List.nil_append] at h3
    unfold exprP
    rw [hs0, h2.byte.1, if_neg (by decide), sumP, h3]
    simp only
    rw [h5, h4.byte.1, if_neg (by decide), if_neg (by decide)]
    rfl
  | cons q r =>
    have hq := hP.2.2 q (by simp)
    obtain ⟨x, y, hx, hx32, hx45⟩ := term_front hq.1 hq.2 hn hm
    have hlen := h2.len hp
    have hrl : r.length < s.length + 1 := by
      have : ∀ (l : List Term), l.length ≤ (termsT false l).length := fun l => by
        induction l with
        | nil => simp
        | cons a l ih =>
          have : 1 ≤ (signT false a).length := by unfold signT; rw [if_neg (by decide)]; split <;> simp
          simp only [termsT, List.length_append, List.length_cons]; omega
      have h9 := this r
      simp only [polyT, termsT, List.length_append, List.length_cons, reduceCtorEq, if_false] at hlen
      omega
    have hst := fun (b : Bool) (f' : Nat) (h : At s (skipB s f') (termT q ++ (termsT false r ++ 10 :: t))) (hf : f' ≤ s.length) => sum_text hn hm sub opens he1 (by rw [he2]; decide) (by rw [he2]; decide) r q (s.length + 1) f' b [] hP.2.2 hrl hf h
    have hpt : polyT (q :: r) = signT true q ++ (termT q ++ termsT false r) := by simp [polyT, termsT]
    rw [hpt] at h2 ⊢
    have hlast : ∀ p', At s p' (termT q ++ (termsT false r ++ 10 :: t)) → skipB s (p' + (termT q ++ termsT false r).length) = p' + (termT q ++ termsT false r).length := fun p' h => by
      have h' : At s p' ((termT q ++ termsT false r) ++ 10 :: t) := by rw [List.append_assoc]; exact h
      exact (At.app h').skip0 (by decide)
    cases hbl : belowD q.1
    · have hsg : signT true q = [] := by simp [signT, hbl]
      rw [hsg, List.nil_append] at h2
      rw [hsg, List.nil_append]
      have h2' : At s p (termT q ++ (termsT false r ++ 10 :: t)) := by rw [← List.append_assoc]; exact h2
      have h3 : At s p (x :: (y ++ (termsT false r ++ 10 :: t))) := by rw [hx] at h2'; exact h2'
      have hs1 := h3.skip0 hx32
      unfold exprP
      rw [hs0, h3.byte.1, if_neg hx45, hst false p (by rw [hs1]; exact h2') (by omega), hs1, hlast _ h2']
      simp [polyE, sumE, hbl]
    · have hsg : signT true q = [45] := by simp [signT, hbl]
      rw [hsg] at h2 ⊢
      have h2'' : At s p (45 :: (termT q ++ (termsT false r ++ 10 :: t))) := by simpa using h2
      obtain ⟨h6, h2'⟩ := h2''.byte
      have hlt := byteAt_of h6 (by decide)
      have h3 : At s (p + 1) (x :: (y ++ (termsT false r ++ 10 :: t))) := by rw [hx] at h2'; exact h2'
      have hs1 := h3.skip0 hx32
      unfold exprP
      rw [hs0, h6, if_pos rfl, hst true (p + 1) (by rw [hs1]; exact h2') (by omega), hs1, hlast _ h2']
      simp only [polyE, sumE, hbl, List.nil_append, List.map_cons, reduceCtorEq, if_false, List.length_append, List.length_cons, List.length_nil]
      congr 2
      omega
end Go.Proofs.YtdilmfakkppgpaaGreatDoor
namespace Go.Proofs.YtdilmfakkppgpaaGreatDoor
open Go.RowKit WordsM DecM
theorem fits_one : fits 1 := (fitsB_iff 1).1 (by decide)
theorem one_ne : (1 : Dyadic) ≠ 0 := by decide
theorem make1 {c : Dyadic} {E : List Int} (h0 : c ≠ 0) (hf : fits c) : makeM [(c, E)] = .ok [(c, E)] := by
  unfold makeM
  have hg : gathM [(c, E)] = [(c, E)] := rfl
  rw [hg]
  simp [(fitsB_iff c).2 hf, h0]
theorem deg1 (c : Dyadic) (E : List Int) (h : 0 ≤ E.sum) : degM [(c, E)] = E.sum := by
  simp only [degM, List.foldl_cons, List.foldl_nil]; omega
def scaleE (n i : Nat) (k : Int) : List Int := (List.replicate n 0).set i k
theorem scale_len (n i : Nat) (k : Int) : (scaleE n i k).length = n := by simp [scaleE]
theorem sum_zeros (n : Nat) : (List.replicate n (0 : Int)).sum = 0 := by
  induction n with
  | zero => rfl
  | succ n ih => rw [List.replicate_succ, List.sum_cons, ih]; rfl
theorem scale_sum : ∀ (n i : Nat) (k : Int), i < n → (scaleE n i k).sum = k
  | n + 1, 0, k, _ => by simp [scaleE, List.replicate_succ]
  | n + 1, i + 1, k, h => by
    have := scale_sum n i k (by omega)
    unfold scaleE at *
    rw [List.replicate_succ, List.set_cons_succ, List.sum_cons, this]; omega
theorem eval_var {n i : Nat} : evalM n (.var i) = .ok [(1, scaleE n i 1)] := by
  rw [evalM]; exact make1 one_ne fits_one
theorem take_sum {E : List Int} (h : ∀ x ∈ E, 0 ≤ x) (i : Nat) : 0 ≤ (E.take i).sum ∧ (E.take i).sum ≤ E.sum := by
  have h1 := (mem_le_sum (E := E.take i) (fun x hx => h x (List.mem_of_mem_take hx))).1
  have h2 := (mem_le_sum (E := E.drop i) (fun x hx => h x (List.mem_of_mem_drop hx))).1
  have h3 : E.sum = (E.take i).sum + (E.drop i).sum := by
    conv => lhs; rw [← List.take_append_drop i E]
    rw [List.sum_append]
  omega
theorem head_len (i : Nat) (hi : i < 9) : (headM i).length = 6 := by rw [headM, dec_one (by omega)]; rfl
theorem line_text {n most i : Nat} (hn : n ≤ most) (hm : most ≤ 9) {s : List UInt8} {P : List Term} (hP : RightP n P) {p : Nat} {t : List UInt8} (ha : At s p (lineT i P ++ t)) (hp : p ≤ s.length) : lineP s most i p = .ok (polyE P, p + (lineT i P).length) := by
  have h1 : At s p (headM i ++ (polyT P ++ 10 :: t)) := by simpa [lineT] using ha
  have h2 := At.fixed h1
  have h3 := At.app h1
  have hlen := h1.len hp
  rw [List.length_append] at hlen
  have hs0 : skipB s (p + (headM i).length) = p + (headM i).length := by
    cases P with
    | nil => exact At.skip0 (t := 10 :: t) h3 (by decide)
    | cons q r =>
      have hq := hP.2.2 q (by simp)
      obtain ⟨x, y, hx, hx32, hx45⟩ := term_front (most := most) hq.1 hq.2 hn hm
      cases hb : belowD q.1
      · have e : polyT (q :: r) = x :: (y ++ termsT false r) := by simp [polyT, termsT, signT, hb, hx]
        rw [e] at h3
        exact At.skip0 (t := (y ++ termsT false r) ++ 10 :: t) h3 hx32
      · have e : polyT (q :: r) = 45 :: (termT q ++ termsT false r) := by simp [polyT, termsT, signT, hb]
        rw [e] at h3
        exact At.skip0 (t := (termT q ++ termsT false r) ++ 10 :: t) h3 (by decide)
  have h4 := poly_text hn hm (exprD s most 15) true hP hs0 (by omega) h3
  have h5 := At.app h3
  have h6 := h5.skip0 (by decide)
  unfold lineP
  rw [h2]
  simp only
  rw [show exprD s most 16 = exprP (exprD s most 15) true s most from rfl, h4]
  simp only
  rw [h6, if_pos h5.byte.1]
  congr 2
  simp only [lineT, List.length_append, List.length_cons, List.length_nil]; omega
theorem lines_text {n most : Nat} (hn : n ≤ most) (hm : most ≤ 9) {s : List UInt8} : ∀ (F : List (List Term)) (f p : Nat) (acc : List (Nat × Ex)), F ≠ [] → F.length ≤ f → (∀ P ∈ F, RightP n P) → p ≤ s.length → At s p (fieldT acc.length F) →
    ∃ ls : List (Nat × Ex), linesP s most f p acc = .ok (acc ++ ls) ∧ ls.map (·.2) = F.map polyE
  | [], _, _, _, h, _, _, _, _ => absurd rfl h
  | P :: F, f + 1, p, acc, _, hf, hr, hp, ha => by
    have h1 := line_text hn hm (hr P (by simp)) (t := fieldT (acc.length + 1) F) ha hp
    have h2 := At.app (t := lineT acc.length P) ha
    have hlen0 := At.len (t := lineT acc.length P ++ fieldT (acc.length + 1) F) ha hp
    rw [List.length_append] at hlen0
    have hple : p + (lineT acc.length P).length ≤ s.length := by omega
    have hlen := h2.len hple
    unfold linesP
    rw [h1]
    simp only
    cases F with
    | nil =>
      simp only [fieldT, List.length_nil] at hlen
      rw [if_neg (by omega)]
      exact ⟨[(p, polyE P)], rfl, rfl⟩
    | cons Q F =>
      have hpos : 0 < (fieldT (acc.length + 1) (Q :: F)).length := by
        simp only [fieldT, lineT, headM, List.length_append, List.length_cons]; omega
      rw [if_pos (by omega)]
      obtain ⟨ls, h3, h4⟩ := lines_text hn hm (Q :: F) f (p + (lineT acc.length P).length) (acc ++ [(p, polyE P)]) (by simp) (by simpa using hf) (fun x hx => hr x (by simp only [List.mem_cons] at hx ⊢; exact .inr hx)) hple (by rw [List.length_append]; exact h2)
      refine ⟨(p, polyE P) :: ls, ?_, by simp [h4]⟩
      rw [h3, List.append_assoc]; rfl
  | _ :: _, 0, _, _, _, h, _, _, _ => by simp at h
theorem no_ten_dec (n : Nat) : (dec n).count 10 = 0 := by
  rw [List.count_eq_zero]
  intro h
  have := dec_all n 10 h
  exact absurd this (by decide)
theorem no_ten_text (neg : Bool) (v : Nat) (e : Int) : (textN neg v e).count 10 = 0 := by
  unfold textN expT
  have h1 := no_ten_dec v
  have h2 := no_ten_dec e.natAbs
  have h3 : (if e < 0 then 45 :: dec e.natAbs else dec e.natAbs).count 10 = 0 := by split <;> simp [h2]
  have h4 : (if e = 0 then [] else 112 :: (if e < 0 then 45 :: dec e.natAbs else dec e.natAbs)).count 10 = 0 := by
    split
    · rfl
    · rw [List.count_cons, h3]; rfl
  rw [List.count_append, List.count_append, h1, h4]
  cases neg <;> rfl
theorem no_ten_dy (d : Dyadic) : (dyT d).count 10 = 0 := by
  cases d with
  | zero => decide
  | ofOdd n k h => exact no_ten_text _ _ _
theorem no_ten_pows : ∀ (i : Nat) (E : List Int), ∀ t ∈ powsT i E, t.count 10 = 0
  | _, [], _, h => by cases h
  | i, k :: r, t, h => by
    have h1 := no_ten_dec (i + 1)
    have h2 := no_ten_dec k.toNat
    rw [powsT] at h
    rcases List.mem_append.1 h with h | h
    · unfold powT at h
      split at h
      · rw [List.mem_singleton] at h; subst h
        rw [List.count_cons, h1]; rfl
      · split at h
        · rw [List.mem_singleton] at h; subst h
          rw [List.count_cons, List.count_append, List.count_cons, h1, h2]; rfl
        · cases h
    · exact no_ten_pows (i + 1) r t h
theorem no_ten_join : ∀ (l : List (List UInt8)), (∀ t ∈ l, t.count 10 = 0) → (joinT l).count 10 = 0
  | [], _ => rfl
  | [x], h => h x (by simp)
  | x :: y :: r, h => by
    have h1 := h x (by simp)
    have ih := no_ten_join (y :: r) (fun t ht => h t (by simp only [List.mem_cons] at ht ⊢; exact .inr ht))
    rw [joinT, List.count_append, List.count_cons, h1, ih]; rfl
theorem no_ten_term (p : Term) : (termT p).count 10 = 0 := by
  refine no_ten_join _ fun t ht => ?_
  unfold partsT at ht
  split at ht
  · rcases List.mem_cons.1 ht with rfl | ht
    · exact no_ten_dy _
    · exact no_ten_pows _ _ t ht
  · exact no_ten_pows _ _ t ht
theorem no_ten_terms : ∀ (b : Bool) (l : List Term), (termsT b l).count 10 = 0
  | _, [] => rfl
  | b, p :: r => by
    have h1 : (signT b p).count 10 = 0 := by unfold signT; split <;> split <;> decide
    rw [termsT, List.count_append, List.count_append, h1, no_ten_term, no_ten_terms false r]
theorem ten_poly (P : List Term) : (polyT P).count 10 = 0 := by
  unfold polyT
  split
  · decide
  · exact no_ten_terms _ _
theorem ten_line (i : Nat) (P : List Term) : (lineT i P).count 10 = 1 := by
  rw [lineT, headM, List.count_append, List.count_cons, List.count_append, List.count_append, ten_poly, no_ten_dec]; rfl
theorem ten_field : ∀ (i : Nat) (F : List (List Term)), (fieldT i F).count 10 = F.length
  | _, [] => rfl
  | i, P :: F => by rw [fieldT, List.count_append, ten_line, ten_field (i + 1) F, List.length_cons]; omega
end Go.Proofs.YtdilmfakkppgpaaGreatDoor
