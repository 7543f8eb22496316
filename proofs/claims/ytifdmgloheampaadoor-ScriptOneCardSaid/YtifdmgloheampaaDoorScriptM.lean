/- A plain model of scripts as texts: right acts, their lines, two readers of a line; each reader gives a right act back from its line. Plain. -/
import Derived.Test.YtifdmgloheampaaDoorDiskM
import Derived.Lib.ItoaNum
import Derived.Lib.AtoiAll
import Derived.Lib.ParseIntB
import Derived.Lib.Strings
namespace Go.Proofs.YtifdmgloheampaaDoor
open DiskM
namespace ScriptM
structure Act where
  kind : Int
  n : Int
  done : Bool
  keep : List UInt8
  name : List UInt8
  mask : Nat
deriving DecidableEq
def act0 : Act := ⟨0, 0, false, [], [], 0⟩
def hasN (k : Int) : Bool := k == 1 || k == 2 || k == 3 || k == 7 || k == 5 || k == 8
def inN (a : Act) : Bool := decide (0 ≤ a.n) && decide (a.n ≤ 999999)
def right (a : Act) : Bool :=
  if a.kind = 1 ∨ a.kind = 2 ∨ a.kind = 3 ∨ a.kind = 7 then inN a && !a.done && decide (a.keep = []) && decide (a.name = []) && decide (a.mask = 0)
  else if a.kind = 4 then decide (a.n = 0) && !a.done && decide (a.keep = []) && decide (a.name = []) && decide (a.mask = 0)
  else if a.kind = 5 then inN a && decide (a.keep = []) && decide (a.name = []) && decide (a.mask = 0)
  else if a.kind = 6 then decide (a.n = 0) && !a.done && decide (a.name = []) && decide (a.mask = 0) && decide (a.keep.length ≤ 8)
  else if a.kind = 8 then inN a && !a.done && decide (a.keep = []) && named a.name && decide (a.mask ≠ 0)
  else false
/-- start, go, compact, open, arm, crash, room, flip -/
def word (k : Int) : List UInt8 :=
  if k = 1 then [115, 116, 97, 114, 116] else if k = 2 then [103, 111] else if k = 3 then [99, 111, 109, 112, 97, 99, 116] else if k = 4 then [111, 112, 101, 110]
  else if k = 5 then [97, 114, 109] else if k = 6 then [99, 114, 97, 115, 104] else if k = 7 then [114, 111, 111, 109] else [102, 108, 105, 112]
def dec (n : Nat) : List UInt8 := Lib.decDigits n
def hexc (d : Nat) : UInt8 := if d < 10 then UInt8.ofNat (48 + d) else UInt8.ofNat (87 + d)
def hexD (v : Nat) : List UInt8 := if _h : v < 16 then [hexc v] else hexD (v / 16) ++ [hexc (v % 16)]
termination_by v
decreasing_by omega
def doneW : List UInt8 := [100, 111, 110, 101]
def lostW : List UInt8 := [108, 111, 115, 116]
/-- the words of an act's line -/
def fields (a : Act) : List (List UInt8) :=
  word a.kind :: (if a.kind = 8 then [a.name] else []) ++ (if hasN a.kind then [dec a.n.toNat] else []) ++ (if a.kind = 5 then [if a.done then doneW else lostW] else []) ++ (if a.kind = 8 then [hexD a.mask] else []) ++ a.keep.map fun k => dec k.toNat
def glue : List (List UInt8) → List UInt8
  | [] => []
  | [x] => x
  | x :: y :: r => x ++ 32 :: glue (y :: r)
def shown (a : Act) : List UInt8 := glue (fields a)
def line (a : Act) : List UInt8 := shown a ++ [10]
/-- parted at each blank -/
def parts : List UInt8 → List (List UInt8)
  | [] => [[]]
  | c :: r => if c = 32 then [] :: parts r else (match parts r with | [] => [[c]] | x :: xs => (c :: x) :: xs)
def clean (x : List UInt8) : Prop := ∀ c ∈ x, c ≠ 32 ∧ c ≠ 10
theorem parts_clean (x : List UInt8) (h : clean x) : parts x = [x] := by
  induction x with
  | nil => rfl
  | cons c r ih =>
    have hc := (h c (by simp)).1
    simp only [parts]
    rw [if_neg hc, ih fun d hd => h d (by simp [hd])]
theorem parts_blank (x y : List UInt8) (h : clean x) : parts (x ++ 32 :: y) = x :: parts y := by
  induction x with
  | nil => simp [parts]
  | cons c r ih =>
    have hc := (h c (by simp)).1
    simp only [List.cons_append, parts]
    rw [if_neg hc, ih fun d hd => h d (by simp [hd])]
theorem parts_glue : ∀ (l : List (List UInt8)), l ≠ [] → (∀ x ∈ l, clean x) → parts (glue l) = l
  | [], h, _ => absurd rfl h
  | [x], _, h => parts_clean x (h x (by simp))
  | x :: y :: r, _, h => by
    show parts (x ++ 32 :: glue (y :: r)) = _
    rw [parts_blank _ _ (h x (by simp)), parts_glue (y :: r) (by simp) fun z hz => h z (by simp at hz ⊢; right; exact hz)]

theorem dec_clean (n : Nat) : clean (dec n) := by
  unfold dec
  induction n using Nat.strongRecOn with
  | _ n ih =>
    have h10 : ∀ d, d < 10 → ∀ c ∈ [UInt8.ofNat (48 + d)], c ≠ 32 ∧ c ≠ 10 := by decide
    rw [Lib.decDigits]
    split
    · rename_i h; exact h10 n h
    · intro c hc
      rcases List.mem_append.1 hc with h | h
      · exact ih (n / 10) (by omega) c h
      · exact h10 (n % 10) (by omega) c h
theorem hexc_clean : ∀ d, d < 16 → ∀ c ∈ [hexc d], c ≠ 32 ∧ c ≠ 10 := by decide
theorem hexD_clean (n : Nat) : clean (hexD n) := by
  induction n using Nat.strongRecOn with
  | _ n ih =>
    rw [hexD]
    split
    · rename_i h; exact hexc_clean n h
    · intro c hc
      rcases List.mem_append.1 hc with h | h
      · exact ih (n / 16) (by omega) c h
      · exact hexc_clean (n % 16) (by omega) c h
theorem named_clean {s : Nm} (h : named s = true) : clean s := by
  unfold named at h
  simp only [Bool.and_eq_true, List.all_eq_true] at h
  intro c hc
  have := h.1.1 c hc
  constructor
  · rintro rfl; revert this; decide
  · rintro rfl; revert this; decide
theorem word_clean (k : Int) : clean (word k) := by
  unfold word
  repeat (split; · unfold clean; decide)
  unfold clean; decide
theorem fields_clean {a : Act} (h : right a = true) : ∀ x ∈ fields a, clean x := by
  intro x hx
  simp only [fields, List.cons_append, List.mem_cons, List.mem_append, List.mem_map] at hx
  rcases hx with rfl | (((hx | hx) | hx) | hx) | ⟨k, _, rfl⟩
  · exact word_clean _
  · split at hx
    · rename_i hk
      simp only [List.mem_singleton] at hx
      subst hx
      unfold right at h
      rw [hk, if_neg (by decide), if_neg (by decide), if_neg (by decide), if_neg (by decide), if_pos rfl] at h
      simp only [Bool.and_eq_true] at h
      exact named_clean h.1.2
    · cases hx
  · split at hx
    · simp only [List.mem_singleton] at hx; subst hx; exact dec_clean _
    · cases hx
  · split at hx
    · simp only [List.mem_singleton] at hx
      subst hx
      split <;> (unfold clean; decide)
    · cases hx
  · split at hx
    · simp only [List.mem_singleton] at hx; subst hx; exact hexD_clean _
    · cases hx
  · exact dec_clean _
theorem parts_shown {a : Act} (h : right a = true) : parts (shown a) = fields a := parts_glue _ (by simp [fields]) (fields_clean h)

/-- strconv.Atoi's number, whatever the error -/
def atoiV (l : List UInt8) : Int := match Lib.atoiAll l with | .ok v => v | .range => Lib.atoiSat l | _ => 0
/-- strconv.ParseUint(.., 10, 8)'s number -/
def pu8 (l : List UInt8) : Nat := match Lib.parseUintB 8 l with | .ok v => v | .range => 255 | _ => 0
def hexV (c : UInt8) : Option Nat :=
  if 48 ≤ c.toNat ∧ c.toNat ≤ 57 then some (c.toNat - 48) else if 97 ≤ c.toNat ∧ c.toNat ≤ 102 then some (c.toNat - 87) else if 65 ≤ c.toNat ∧ c.toNat ≤ 70 then some (c.toNat - 55) else none
def puFrom (n : Nat) : List UInt8 → Nat
  | [] => n
  | c :: r => match hexV c with | none => 0 | some d => if 4294967295 < n * 16 + d then 4294967295 else puFrom (n * 16 + d) r
/-- strconv.ParseUint(.., 16, 32)'s number -/
def pu16 (l : List UInt8) : Nat := if l = [] then 0 else puFrom 0 l
/-- what words gives an act of a kind -/
def wordsM (k : Int) (l : List (List UInt8)) : Act :=
  let nm := if k = 8 then l.headD [] else []
  let l1 := if k = 8 then l.tail else l
  let n := if hasN k then (match l1 with | [] => 0 | x :: _ => atoiV x) else 0
  let l2 := if hasN k then l1.tail else l1
  ⟨k, n, decide (k = 5) && (match l2 with | [] => false | x :: _ => decide (x = doneW)), if k = 6 then l2.map fun w => UInt8.ofNat (pu8 w) else [], nm, if k = 8 then (match l2 with | [] => 0 | x :: _ => pu16 x) else 0⟩
/-- the kind of a first word, as the loop goes through them -/
def kindOf (w : List UInt8) : Option Int :=
  if w = word 1 then some 1 else if w = word 2 then some 2 else if w = word 3 then some 3 else if w = word 4 then some 4 else if w = word 5 then some 5 else if w = word 6 then some 6 else if w = word 7 then some 7 else if w = word 8 then some 8 else none
def cutLast (s : List UInt8) : List UInt8 := Lib.trimSuffix s [10]
def progRead (s : List UInt8) : Act × Bool :=
  let l := parts (cutLast s)
  match kindOf (l.headD []) with
  | none => (act0, false)
  | some k => (wordsM k l.tail, right (wordsM k l.tail) && decide (line (wordsM k l.tail) = s))

theorem kindOf_word (k : Int) (h : 1 ≤ k ∧ k ≤ 8) : kindOf (word k) = some k := by
  have : k = 1 ∨ k = 2 ∨ k = 3 ∨ k = 4 ∨ k = 5 ∨ k = 6 ∨ k = 7 ∨ k = 8 := by omega
  rcases this with rfl | rfl | rfl | rfl | rfl | rfl | rfl | rfl <;> decide
theorem right_kind {a : Act} (h : right a = true) : 1 ≤ a.kind ∧ a.kind ≤ 8 := by
  unfold right at h
  split at h
  · omega
  · split at h
    · omega
    · split at h
      · omega
      · split at h
        · omega
        · split at h
          · omega
          · cases h
theorem digit_nat (d : Nat) (h : d < 10) : (UInt8.ofNat (48 + d)).toNat = 48 + d := by
  rw [UInt8.toNat_ofNat']; omega
theorem pu10_dec (M : Nat) (n : Nat) : n ≤ M → M < 18446744073709551616 → ∀ r, Lib.parseUintM M 0 (dec n ++ r) = Lib.parseUintM M n r := by
  unfold dec
  induction n using Nat.strongRecOn with
  | _ n ih =>
    intro hM hM2 r
    rw [Lib.decDigits]
    split
    · rename_i h
      have hd := digit_nat n h
      simp only [List.singleton_append, Lib.parseUintM]
      rw [hd, if_pos (by omega), if_neg (by omega), if_neg (by omega)]
      congr 1; omega
    · have hd := digit_nat (n % 10) (by omega)
      rw [List.append_assoc, ih (n / 10) (by omega) (by omega) hM2]
      simp only [List.singleton_append, Lib.parseUintM]
      rw [hd, if_pos (by omega), if_neg (by omega), if_neg (by omega)]
      congr 1; omega
theorem pu10_dec' (n : Nat) : n < 18446744073709551616 → ∀ r, Lib.parseUint10 0 (dec n ++ r) = Lib.parseUint10 n r := by
  unfold dec
  induction n using Nat.strongRecOn with
  | _ n ih =>
    intro hM r
    rw [Lib.decDigits]
    split
    · rename_i h
      have hd := digit_nat n h
      simp only [List.singleton_append, Lib.parseUint10]
      rw [hd, if_pos (by omega), if_neg (by omega), if_neg (by omega)]
      congr 1; omega
    · have hd := digit_nat (n % 10) (by omega)
      rw [List.append_assoc, ih (n / 10) (by omega) (by omega)]
      simp only [List.singleton_append, Lib.parseUint10]
      rw [hd, if_pos (by omega), if_neg (by omega), if_neg (by omega)]
      congr 1; omega
theorem dec_ne (n : Nat) : dec n ≠ [] := by
  unfold dec
  rw [Lib.decDigits]
  split <;> simp
theorem pu8_dec (k : UInt8) : UInt8.ofNat (pu8 (dec k.toNat)) = k := by
  have h := pu10_dec 255 k.toNat (by have := k.toNat_lt; omega) (by omega) []
  rw [List.append_nil] at h
  unfold pu8 Lib.parseUintB
  rw [if_neg (dec_ne _), show 2 ^ 8 - 1 = 255 from rfl, h]
  simp [Lib.parseUintM]
/-- the first byte of a numeral is a digit -/
theorem dec_head (n : Nat) : ∃ c r, dec n = c :: r ∧ 48 ≤ c.toNat ∧ c.toNat ≤ 57 := by
  unfold dec
  induction n using Nat.strongRecOn with
  | _ n ih =>
    rw [Lib.decDigits]
    split
    · rename_i h
      exact ⟨_, [], rfl, by rw [digit_nat n h]; omega, by rw [digit_nat n h]; omega⟩
    · obtain ⟨c, r, e, h1, h2⟩ := ih (n / 10) (by omega)
      exact ⟨c, r ++ [UInt8.ofNat (48 + n % 10)], by rw [e]; rfl, h1, h2⟩
theorem atoiV_dec (n : Nat) (h : n ≤ 999999) : atoiV (dec n) = n := by
  obtain ⟨c, r, e, h1, h2⟩ := dec_head n
  have hp := pu10_dec' n (by omega) []
  rw [List.append_nil] at hp
  unfold atoiV
  have : Lib.atoiAll (dec n) = .ok (n : Int) := by
    rw [e] at hp ⊢
    simp only [Lib.atoiAll]
    rw [if_neg (show ¬ (c.toNat = 43 ∨ c.toNat = 45) by omega)]
    unfold Lib.parseMag
    rw [if_neg (by simp), hp]
    simp only [Lib.parseUint10]
    rw [if_neg (by omega), if_neg (by omega), if_neg (by omega)]
  rw [this]
theorem hexV_hexc : ∀ d, d < 16 → hexV (hexc d) = some d := by decide
theorem pu16_from (m : Nat) : m ≤ 4294967295 → ∀ r, puFrom 0 (hexD m ++ r) = puFrom m r := by
  induction m using Nat.strongRecOn with
  | _ m ih =>
    intro hm r
    rw [hexD]
    split
    · rename_i h
      simp only [List.singleton_append, puFrom]
      rw [hexV_hexc m h]
      simp only
      rw [if_neg (by omega)]
      congr 1; omega
    · rw [List.append_assoc, ih (m / 16) (by omega) (by omega)]
      simp only [List.singleton_append, puFrom]
      rw [hexV_hexc (m % 16) (by omega)]
      simp only
      rw [if_neg (by omega)]
      congr 1; omega
theorem hexD_ne (n : Nat) : hexD n ≠ [] := by
  rw [hexD]
  split <;> simp
theorem pu16_hexD (m : Nat) (h : m < 4294967296) : pu16 (hexD m) = m := by
  have := pu16_from m (by omega) []
  rw [List.append_nil] at this
  unfold pu16
  rw [if_neg (hexD_ne _), this]
  rfl

theorem cut_line (x : List UInt8) : cutLast (x ++ [10]) = x := by
  unfold cutLast Lib.trimSuffix
  rw [if_pos]
  · simp
  · unfold Lib.hasSuffix; simp
theorem words_fields {a : Act} (h : right a = true) (hm : a.mask < 4294967296) : wordsM a.kind (fields a).tail = a := by
  obtain ⟨k, n, dn, kp, nm, m⟩ := a
  have hk := right_kind h
  have hm : m < 4294967296 := hm
  have hkk : k = 1 ∨ k = 2 ∨ k = 3 ∨ k = 4 ∨ k = 5 ∨ k = 6 ∨ k = 7 ∨ k = 8 := by
    have h1 : 1 ≤ k := hk.1
    have h2 : k ≤ 8 := hk.2
    omega
  have hN : 0 ≤ n → n ≤ 999999 → atoiV (dec n.toNat) = n := fun h0 h1 => by rw [atoiV_dec _ (by omega)]; omega
  have hkeep : ∀ l : List UInt8, (l.map fun k => dec k.toNat).map (fun w => UInt8.ofNat (pu8 w)) = l := fun l => by
    rw [List.map_map]
    have : ((fun w => UInt8.ofNat (pu8 w)) ∘ fun k : UInt8 => dec k.toNat) = id := by funext k; exact pu8_dec k
    rw [this, List.map_id]
  rcases hkk with rfl | rfl | rfl | rfl | rfl | rfl | rfl | rfl
  all_goals simp [right, inN] at h
  · obtain ⟨⟨⟨⟨⟨h0, h1⟩, rfl⟩, rfl⟩, rfl⟩, rfl⟩ := h
    simp [wordsM, fields, hasN, hN h0 h1]
  · obtain ⟨⟨⟨⟨⟨h0, h1⟩, rfl⟩, rfl⟩, rfl⟩, rfl⟩ := h
    simp [wordsM, fields, hasN, hN h0 h1]
  · obtain ⟨⟨⟨⟨⟨h0, h1⟩, rfl⟩, rfl⟩, rfl⟩, rfl⟩ := h
    simp [wordsM, fields, hasN, hN h0 h1]
  · obtain ⟨⟨⟨⟨rfl, rfl⟩, rfl⟩, rfl⟩, rfl⟩ := h
    simp [wordsM, fields, hasN]
  · obtain ⟨⟨⟨⟨h0, h1⟩, rfl⟩, rfl⟩, rfl⟩ := h
    cases dn <;> simp [wordsM, fields, hasN, hN h0 h1, doneW, lostW]
  · obtain ⟨⟨⟨⟨rfl, rfl⟩, rfl⟩, rfl⟩, _⟩ := h
    simp only [wordsM, fields, hasN]
    simp [hkeep]
  · obtain ⟨⟨⟨⟨⟨h0, h1⟩, rfl⟩, rfl⟩, rfl⟩, rfl⟩ := h
    simp [wordsM, fields, hasN, hN h0 h1]
  · obtain ⟨⟨⟨⟨⟨h0, h1⟩, rfl⟩, rfl⟩, _⟩, _⟩ := h
    simp [wordsM, fields, hasN, hN h0 h1, pu16_hexD m hm]
theorem progRead_line {a : Act} (h : right a = true) (hm : a.mask < 4294967296) : progRead (line a) = (a, true) := by
  have hw := words_fields h hm
  unfold progRead
  rw [show cutLast (line a) = shown a from cut_line _, parts_shown h]
  show (match kindOf (word a.kind) with | none => (act0, false) | some k => (wordsM k (fields a).tail, right (wordsM k (fields a).tail) && decide (line (wordsM k (fields a).tail) = line a))) = _
  rw [kindOf_word _ (right_kind h)]
  simp only
  rw [hw, h, decide_eq_true rfl]
  rfl
/-- the document's reader -/
def digF (n : Nat) : List UInt8 → Option Nat
  | [] => some n
  | c :: r => if 48 ≤ c.toNat ∧ c.toNat ≤ 57 then digF (10 * n + (c.toNat - 48)) r else none
def numberM (l : List UInt8) : Int := if l.length < 1 ∨ 6 < l.length then -1 else match digF 0 l with | none => -1 | some v => v
def lowV (c : UInt8) : Option Nat := if 48 ≤ c.toNat ∧ c.toNat ≤ 57 then some (c.toNat - 48) else if 97 ≤ c.toNat ∧ c.toNat ≤ 102 then some (c.toNat - 87) else none
def maskF (n : Nat) : List UInt8 → Nat
  | [] => n
  | c :: r => match lowV c with | none => 0 | some d => maskF (n * 16 + d) r
def maskM (l : List UInt8) : Nat := if 8 < l.length then 0 else maskF 0 l
def refKeep : List (List UInt8) → Option (List UInt8)
  | [] => some []
  | w :: r => if numberM w < 0 ∨ 255 < numberM w then none else (refKeep r).map fun l => UInt8.ofNat (numberM w).toNat :: l
def kindR (w : List UInt8) : Int := (kindOf w).getD 0
def refFill (k : Int) (w : List (List UInt8)) : Option Act :=
  if k = 6 then (refKeep (w.take 9)).map fun l => ⟨6, 0, false, l, [], 0⟩
  else if k = 8 ∧ w.length = 3 then some ⟨8, numberM (w.getD 1 []), false, [], w.getD 0 [], maskM (w.getD 2 [])⟩
  else if k = 5 ∧ w.length = 2 then some ⟨5, numberM (w.getD 0 []), decide (w.getD 1 [] = doneW), [], [], 0⟩
  else if k ≠ 4 ∧ k ≠ 8 ∧ w.length = 1 then some ⟨k, numberM (w.getD 0 []), false, [], [], 0⟩
  else some ⟨k, 0, false, [], [], 0⟩
def refRead (s : List UInt8) : Option Act :=
  let w := parts s
  match refFill (kindR (w.headD [])) w.tail with
  | none => none
  | some a => if right a = true ∧ shown a = s then some a else none
theorem digF_dec (n : Nat) : ∀ r, digF 0 (dec n ++ r) = digF n r := by
  unfold dec
  induction n using Nat.strongRecOn with
  | _ n ih =>
    intro r
    rw [Lib.decDigits]
    split
    · rename_i h
      have hd := digit_nat n h
      simp only [List.singleton_append, digF]
      rw [hd, if_pos (by omega)]
      congr 1; omega
    · have hd := digit_nat (n % 10) (by omega)
      rw [List.append_assoc, ih (n / 10) (by omega)]
      simp only [List.singleton_append, digF]
      rw [hd, if_pos (by omega)]
      congr 1; omega
theorem dec_len (j : Nat) : ∀ n, n < 10 ^ j → 1 ≤ j → (dec n).length ≤ j := by
  induction j with
  | zero => intro n _ h; omega
  | succ j ih =>
    intro n hn _
    unfold dec
    rw [Lib.decDigits]
    split
    · simp
    · have hj : 1 ≤ j := by
        rcases Nat.eq_zero_or_pos j with rfl | h
        · simp at hn; omega
        · exact h
      have := ih (n / 10) (by rw [Nat.pow_succ] at hn; omega) hj
      unfold dec at this
      simp only [List.length_append, List.length_singleton]
      omega
theorem dec_pos (n : Nat) : 1 ≤ (dec n).length := by
  obtain ⟨c, r, e, _⟩ := dec_head n
  rw [e]; simp
theorem numberM_dec (n : Nat) (h : n ≤ 999999) : numberM (dec n) = n := by
  have h1 := dec_len 6 n (by omega) (by omega)
  have h2 := dec_pos n
  have h3 := digF_dec n []
  rw [List.append_nil] at h3
  unfold numberM
  rw [if_neg (by omega), h3]
  rfl
theorem lowV_hexc : ∀ d, d < 16 → lowV (hexc d) = some d := by decide
theorem maskF_hexD (m : Nat) : ∀ r, maskF 0 (hexD m ++ r) = maskF m r := by
  induction m using Nat.strongRecOn with
  | _ m ih =>
    intro r
    rw [hexD]
    split
    · rename_i h
      simp only [List.singleton_append, maskF]
      rw [lowV_hexc m h]
      simp
    · rw [List.append_assoc, ih (m / 16) (by omega)]
      simp only [List.singleton_append, maskF]
      rw [lowV_hexc (m % 16) (by omega)]
      simp only
      congr 1; omega
theorem hexD_len (j : Nat) : ∀ n, n < 16 ^ j → 1 ≤ j → (hexD n).length ≤ j := by
  induction j with
  | zero => intro n _ h; omega
  | succ j ih =>
    intro n hn _
    rw [hexD]
    split
    · simp
    · have hj : 1 ≤ j := by
        rcases Nat.eq_zero_or_pos j with rfl | h
        · simp at hn; omega
        · exact h
      have := ih (n / 16) (by rw [Nat.pow_succ] at hn; omega) hj
      simp only [List.length_append, List.length_singleton]
      omega
theorem maskM_hexD (m : Nat) (h : m < 4294967296) : maskM (hexD m) = m := by
  have h1 := hexD_len 8 m (by omega) (by omega)
  have h3 := maskF_hexD m []
  rw [List.append_nil] at h3
  unfold maskM
  rw [if_neg (by omega), h3]
  rfl
theorem refKeep_dec (l : List UInt8) : refKeep (l.map fun k => dec k.toNat) = some l := by
  induction l with
  | nil => rfl
  | cons k r ih =>
    have hk := k.toNat_lt
    simp only [List.map_cons, refKeep]
    rw [numberM_dec _ (by omega), if_neg (by omega), ih]
    simp
theorem refRead_shown {a : Act} (h : right a = true) (hm : a.mask < 4294967296) : refRead (shown a) = some a := by
  have hk := right_kind h
  have hfill : refFill a.kind (fields a).tail = some a := by
    obtain ⟨k, n, dn, kp, nm, m⟩ := a
    have hm : m < 4294967296 := hm
    have hkk : k = 1 ∨ k = 2 ∨ k = 3 ∨ k = 4 ∨ k = 5 ∨ k = 6 ∨ k = 7 ∨ k = 8 := by
      have h1 : 1 ≤ k := hk.1
      have h2 : k ≤ 8 := hk.2
      omega
    have hN : 0 ≤ n → n ≤ 999999 → numberM (dec n.toNat) = n := fun h0 h1 => by rw [numberM_dec _ (by omega)]; omega
    rcases hkk with rfl | rfl | rfl | rfl | rfl | rfl | rfl | rfl
    all_goals simp [right, inN] at h
    · obtain ⟨⟨⟨⟨⟨h0, h1⟩, rfl⟩, rfl⟩, rfl⟩, rfl⟩ := h
      simp [refFill, fields, hasN, hN h0 h1]
    · obtain ⟨⟨⟨⟨⟨h0, h1⟩, rfl⟩, rfl⟩, rfl⟩, rfl⟩ := h
      simp [refFill, fields, hasN, hN h0 h1]
    · obtain ⟨⟨⟨⟨⟨h0, h1⟩, rfl⟩, rfl⟩, rfl⟩, rfl⟩ := h
      simp [refFill, fields, hasN, hN h0 h1]
    · obtain ⟨⟨⟨⟨rfl, rfl⟩, rfl⟩, rfl⟩, rfl⟩ := h
      simp [refFill, fields, hasN]
    · obtain ⟨⟨⟨⟨h0, h1⟩, rfl⟩, rfl⟩, rfl⟩ := h
      cases dn <;> simp [refFill, fields, hasN, hN h0 h1, doneW, lostW]
    · obtain ⟨⟨⟨⟨rfl, rfl⟩, rfl⟩, rfl⟩, h8⟩ := h
      have ht : (kp.map fun k => dec k.toNat).take 9 = kp.map fun k => dec k.toNat := List.take_of_length_le (by simp; omega)
      simp only [refFill, fields, hasN]
      simp
      exact (congrArg refKeep ht).trans (refKeep_dec kp)
    · obtain ⟨⟨⟨⟨⟨h0, h1⟩, rfl⟩, rfl⟩, rfl⟩, rfl⟩ := h
      simp [refFill, fields, hasN, hN h0 h1]
    · obtain ⟨⟨⟨⟨⟨h0, h1⟩, rfl⟩, rfl⟩, _⟩, _⟩ := h
      simp [refFill, fields, hasN, hN h0 h1, maskM_hexD m hm]
  unfold refRead
  rw [parts_shown h]
  show (match refFill (kindR (word a.kind)) (fields a).tail with | none => none | some b => if right b = true ∧ shown b = shown a then some b else none) = _
  unfold kindR
  rw [kindOf_word _ hk]
  show (match refFill a.kind (fields a).tail with | none => none | some b => if right b = true ∧ shown b = shown a then some b else none) = _
  rw [hfill]
  show (if right a = true ∧ shown a = shown a then some a else none) = some a
  rw [if_pos ⟨h, rfl⟩]

/-- the right act whose line this is -/
def actM (t : List UInt8) : Option Act := if (progRead t).2 = true then some (progRead t).1 else none
theorem puFrom_lt : ∀ (l : List UInt8) (n : Nat), n < 4294967296 → puFrom n l < 4294967296
  | [], n, h => h
  | c :: r, n, h => by
    simp only [puFrom]
    split
    · omega
    · split
      · omega
      · exact puFrom_lt r _ (by omega)
theorem pu16_lt (l : List UInt8) : pu16 l < 4294967296 := by
  unfold pu16
  split
  · omega
  · exact puFrom_lt l 0 (by omega)
theorem words_mask (k : Int) (l : List (List UInt8)) : (wordsM k l).mask < 4294967296 := by
  show (if k = 8 then _ else 0) < _
  split
  · split
    · omega
    · exact pu16_lt _
  · omega
theorem prog_mask (t : List UInt8) : (progRead t).1.mask < 4294967296 := by
  unfold progRead
  simp only
  split
  · show (0 : Nat) < _; omega
  · exact words_mask _ _
theorem actM_some {t : List UInt8} {a : Act} (h : actM t = some a) : right a = true ∧ line a = t ∧ a.mask < 4294967296 := by
  have hm := prog_mask t
  unfold actM at h
  split at h
  · rename_i h2
    injection h with h
    rw [h] at hm
    refine ⟨?_, ?_, hm⟩
    all_goals
      revert h h2
      unfold progRead
      simp only
      split
      · intro h2 _; exact absurd (show false = true from h2) (by decide)
      · intro h2 h
        have h : wordsM _ _ = a := h
        have h2 : (right (wordsM _ _) && decide (line (wordsM _ _) = t)) = true := h2
        rw [h, Bool.and_eq_true, decide_eq_true_eq] at h2
        first | exact h2.1 | exact h2.2
  · cases h
theorem actM_line {a : Act} (h : right a = true) (hm : a.mask < 4294967296) : actM (line a) = some a := by
  unfold actM
  rw [progRead_line h hm]
  rfl
theorem maskF_lt : ∀ (l : List UInt8) (n j : Nat), n < 16 ^ j → maskF n l < 16 ^ (j + l.length)
  | [], n, j, h => h
  | c :: r, n, j, h => by
    simp only [maskF]
    cases hc : lowV c with
    | none => exact Nat.pos_of_ne_zero (by simp)
    | some d =>
      have hd : d < 16 := by
        unfold lowV at hc
        split at hc
        · injection hc; omega
        · split at hc
          · injection hc; omega
          · cases hc
      have := maskF_lt r (n * 16 + d) (j + 1) (by rw [Nat.pow_succ]; omega)
      rw [List.length_cons]
      rw [show j + (r.length + 1) = j + 1 + r.length by omega]
      exact this
theorem maskM_lt (l : List UInt8) : maskM l < 4294967296 := by
  unfold maskM
  split
  · omega
  · have h1 := maskF_lt l 0 0 (by simp)
    have h2 : 16 ^ (0 + l.length) ≤ 16 ^ 8 := Nat.pow_le_pow_right (by omega) (by omega)
    have h3 : (16 : Nat) ^ 8 = 4294967296 := by decide
    omega
theorem refFill_mask {k : Int} {w : List (List UInt8)} {a : Act} (h : refFill k w = some a) : a.mask < 4294967296 := by
  unfold refFill at h
  split at h
  · cases hr : refKeep (w.take 9) with
    | none => rw [hr] at h; cases h
    | some l => rw [hr] at h; injection h with h; subst h; show (0 : Nat) < _; omega
  · split at h
    · injection h with h; subst h; exact maskM_lt _
    · split at h
      · injection h with h; subst h; show (0 : Nat) < _; omega
      · split at h
        · injection h with h; subst h; show (0 : Nat) < _; omega
        · injection h with h; subst h; show (0 : Nat) < _; omega
theorem refRead_some {x : List UInt8} {a : Act} (h : refRead x = some a) : right a = true ∧ shown a = x ∧ a.mask < 4294967296 := by
  unfold refRead at h
  simp only at h
  cases hf : refFill (kindR ((parts x).headD [])) (parts x).tail with
  | none => rw [hf] at h; cases h
  | some b =>
    rw [hf] at h
    have h : (if right b = true ∧ shown b = x then some b else none) = some a := h
    split at h
    · rename_i h2
      injection h with h
      subst h
      exact ⟨h2.1, h2.2, refFill_mask hf⟩
    · cases h
/-- both readers say the same -/
theorem read_same (x : List UInt8) : refRead x = actM (x ++ [10]) := by
  cases hr : refRead x with
  | some a =>
    obtain ⟨h1, h2, h3⟩ := refRead_some hr
    have := actM_line h1 h3
    rw [show line a = x ++ [10] by unfold line; rw [h2]] at this
    exact this.symm
  | none =>
    cases hp : actM (x ++ [10]) with
    | none => rfl
    | some b =>
      obtain ⟨h1, h2, h3⟩ := actM_some hp
      have hs : shown b = x := by
        unfold line at h2
        exact List.append_cancel_right h2
      have := refRead_shown h1 h3
      rw [hs, hr] at this
      cases this
/-- what has no byte 10 at its end is no line -/
theorem actM_short {t : List UInt8} (h : ∀ x, t ≠ x ++ [10]) : actM t = none := by
  cases hp : actM t with
  | none => rfl
  | some b => exact absurd (actM_some hp).2.1.symm (h (shown b))
/-- how long the first line is -/
def nl : List UInt8 → Nat
  | [] => 0
  | c :: r => if c = 10 then 1 else nl r + 1
theorem nl_le : ∀ s : List UInt8, nl s ≤ s.length
  | [] => Nat.le_refl _
  | c :: r => by
    simp only [nl]
    split
    · simp
    · have := nl_le r; simp; omega
theorem nl_pos (c : UInt8) (r : List UInt8) : 1 ≤ nl (c :: r) := by
  simp only [nl]
  split <;> omega
/-- the script that a text tells: the acts, or the place of the first line that is none -/
def parse (at_ : Nat) (s : List UInt8) : Except Nat (List Act) :=
  match s with
  | [] => .ok []
  | c :: r =>
    match actM ((c :: r).take (nl (c :: r))) with
    | none => .error at_
    | some a => match parse (at_ + nl (c :: r)) ((c :: r).drop (nl (c :: r))) with
      | .error e => .error e
      | .ok l => .ok (a :: l)
termination_by s.length
decreasing_by
  have := nl_pos c r
  simp only [List.length_drop, List.length_cons]
  omega
end ScriptM
end Go.Proofs.YtifdmgloheampaaDoor
