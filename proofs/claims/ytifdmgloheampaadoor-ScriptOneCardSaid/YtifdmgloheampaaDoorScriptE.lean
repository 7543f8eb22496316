/- What the walks of the script ask of the world (the library's table, two sentinels, two numbers), kept by every call; the library's functions, each under one contract. Condition: the world is so laid. -/
import Derived.Test.YtifdmgloheampaaDoorShelf
import Derived.Test.YtifdmgloheampaaDoorScriptB
import Derived.Test.YtifdmgloheampaaDoorRow
import Derived.WalkSmall
import Derived.Lib.AppendIntMem
import Derived.Lib.SmallJoins
namespace Go.Proofs.YtifdmgloheampaaDoor
open Go.RowKit DiskM ScriptM

structure Laid (w : World) : Prop where
  tab : Lib.TabIs Tryd.prog w "internal/strconv.uint64pow10" .u64 Lib.pow10Tab
  syn : ∃ te pe, w.cell? ⟨2, 0, none⟩ = some (.iface te pe)
  rng : ∃ te pe, w.cell? ⟨3, 0, none⟩ = some (.iface te pe)
  max : ∃ m, w.cell? ⟨1, 0, none⟩ = some (.int .i64 m)
  bru : w.cell? ⟨5, 15, none⟩ = some (.int .u8 4)
  big : 8 ≤ w.heap.size
theorem g_tab : Tryd.prog.globalNamed "internal/strconv.uint64pow10" = some 0 := by kernel_rfl
theorem Laid.under {w w' : World} {B : Nat} (h : Laid w) (hb : Below B w w') (hB : 8 ≤ B) : Laid w' := by
  obtain ⟨t1, p1, h1⟩ := h.syn
  obtain ⟨t2, p2, h2⟩ := h.rng
  obtain ⟨m, h3⟩ := h.max
  have hg : 0 < B := by omega
  exact ⟨var?_below hb g_tab hg h.tab, ⟨t1, p1, (hb.cell (Nat.lt_of_lt_of_le (by decide) hB)).trans h1⟩, ⟨t2, p2, (hb.cell (Nat.lt_of_lt_of_le (by decide) hB)).trans h2⟩, ⟨m, (hb.cell (Nat.lt_of_lt_of_le (by decide) hB)).trans h3⟩,
    (hb.cell (Nat.lt_of_lt_of_le (by decide) hB)).trans h.bru, Nat.le_trans h.big hb.size⟩
theorem Laid.below {w w' : World} (h : Laid w) (hb : Below w.heap.size w w') : Laid w' := h.under hb h.big

/-- a text's value -/
abbrev sv (l : List UInt8) : Value := .string ⟨l.toArray⟩
theorem glue_join : ∀ xs : List (List UInt8), Lib.join xs [32] = glue xs
  | [] => rfl
  | [x] => Lib.join_one x [32]
  | x :: y :: r => by
    have := glue_join (y :: r)
    rw [Lib.join_cons] at this ⊢
    show x ++ Lib.joinTail [32] (y :: r) = x ++ 32 :: glue (y :: r)
    rw [← this]
    simp [Lib.joinTail]
theorem itoa_nat (n : Int) (h0 : 0 ≤ n) : Lib.itoa n = dec n.toNat := by
  unfold Lib.itoa
  rw [if_neg (by omega)]
  rfl
theorem itoa_any (n : Int) (w : World) (h0 : 0 ≤ n) (h1 : n ≤ 9223372036854775807) (hl : Laid w) : Calls Tryd.prog 36 #[.int .i64 n] w fun e w' => e = .returned (sv (dec n.toNat)) ∧ Below w.heap.size w w' := by
  refine (Tryd.strconv_Itoa n (by omega) h1 w hl.tab).mono ?_
  rintro e w' ⟨rfl, k, os, rfl⟩
  rw [itoa_nat n h0]
  exact ⟨rfl, Lib.below_grow _ _ (Nat.le_refl _) k os⟩
theorem sv_list (xs : List (List UInt8)) : (xs.map fun l => (⟨l.toArray⟩ : ByteArray)).map (·.data.toList) = xs := by
  rw [List.map_map]
  have : ((fun s : ByteArray => s.data.toList) ∘ fun l : List UInt8 => (⟨l.toArray⟩ : ByteArray)) = id := by funext l; rfl
  rw [this, List.map_id]
theorem join_any (a : Option Addr) (n c : Nat) (xs : List (List UInt8)) (w : World) (B : Nat) (hr : Row w B 9 1 a n c (xs.map sv)) (hne : xs ≠ []) (hlen : (glue xs).length ≤ 140737488355328) (hn : n ≤ 140737488355328) :
    Calls Tryd.prog 38 #[.slice a n c, .string ⟨#[32]⟩] w fun e w' => e = .returned (sv (glue xs)) ∧ Below w.heap.size w w' := by
  have hl := hr.len
  rw [List.length_map, Nat.mul_one] at hl
  have hcap := hr.cap
  obtain ⟨y, ys, rfl⟩ : ∃ y ys, xs = y :: ys := by cases xs with | nil => exact absurd rfl hne | cons y ys => exact ⟨y, ys, rfl⟩
  obtain ⟨g, ha, hB, hg, _⟩ := hr.at_ (j := 0) (x := sv y) rfl
  subst ha
  have hj := Tryd.strings_Join g 0 c ((y :: ys).map fun l => (⟨l.toArray⟩ : ByteArray)) ⟨#[32]⟩ w ?_ hg (by rw [List.length_map]; omega) (by rw [List.length_map]; omega) (by rw [sv_list]; show (Lib.join _ [32]).length ≤ _; rw [glue_join]; exact hlen)
  · rw [List.length_map, hl, sv_list] at hj
    refine hj.mono ?_
    rintro e w' ⟨rfl, hb⟩
    refine ⟨?_, hb⟩
    show _ = Ending.returned (sv (glue _))
    rw [← glue_join]
  · intro j x hx
    rw [List.getElem?_map] at hx
    cases hy : (y :: ys)[j]? with
    | none => rw [hy] at hx; cases hx
    | some l =>
      rw [hy] at hx
      simp only [Option.map_some, Option.some.injEq] at hx
      subst hx
      obtain ⟨g', e, _, _, hc⟩ := hr.at_ (j := j) (x := sv l) (by rw [List.getElem?_map, hy]; rfl)
      injection e with e; injection e with e
      rw [Nat.zero_add]
      rw [e]; exact hc
theorem trim_any (s : ByteArray) (w : World) (hs : s.size ≤ 9223372036854775807) : Calls Tryd.prog 45 #[.string s, .string ⟨#[10]⟩] w fun e w' => e = .returned (sv (cutLast s.data.toList)) ∧ w = w' := by
  refine (Tryd.strings_TrimSuffix s ⟨#[10]⟩ w hs).mono ?_
  rintro e w' ⟨rfl, rfl⟩
  exact ⟨rfl, rfl⟩
theorem split_parts : ∀ l : List UInt8, Lib.splitK [32] 0 (Lib.count l [32]) l = parts l
  | [] => by rw [Lib.count_one]; rfl
  | c :: r => by
    have ih := split_parts r
    by_cases h : c = 32
    · subst h
      rw [Lib.count_cons_eq, Nat.add_comm, Lib.splitK]
      have hix : Lib.index (32 :: r) [32] = 0 := by rw [Lib.index]; simp [List.isPrefixOf]
      rw [hix]
      simp only [parts]
      simpa using ih
    · have hix : Lib.index (c :: r) [32] = if Lib.index r [32] == -1 then -1 else Lib.index r [32] + 1 := by
        have hp : ([32] : List UInt8).isPrefixOf (c :: r) = false := by simp [List.isPrefixOf, Ne.symm h]
        rw [Lib.index, hp]; simp
      rw [Lib.count_cons_ne _ _ _ h]
      simp only [parts]
      rw [if_neg h]
      by_cases hm : Lib.index r [32] = -1
      · rw [Lib.count_miss hm] at ih ⊢
        rw [← ih]; rfl
      · have hge := Lib.index_ge r [32]
        obtain ⟨j, hj⟩ : ∃ j : Nat, Lib.index r [32] = j := ⟨(Lib.index r [32]).toNat, by omega⟩
        rw [Lib.count_hit (by simp) hj] at ih ⊢
        rw [Nat.add_comm 1, Lib.splitK] at ih ⊢
        rw [hix, if_neg (fun e => hm (beq_iff_eq.1 e)), hj]
        rw [hj] at ih
        have e1 : ¬ (((j : Int) == -1) = true) := fun e => by have := beq_iff_eq.1 e; omega
        have e2 : ¬ (((j : Int) + 1 == -1) = true) := fun e => by have := beq_iff_eq.1 e; omega
        rw [if_neg e1] at ih
        rw [if_neg e2, ← ih]
        have e3 : ((j : Int) + 1).toNat = j + 1 := by omega
        rw [e3]
        simp
theorem split_any (s : ByteArray) (w : World) (hs : s.size < 4294967281) (hl : Laid w) : Calls Tryd.prog 44 #[.string s, .string ⟨#[32]⟩] w fun e w' => ∃ B n, n = (parts s.data.toList).length ∧ e = .returned (.slice (some ⟨B, 0, none⟩) n n) ∧ B = w.heap.size ∧ w' = w.alloc (.cells ((parts s.data.toList).map sv).toArray 9) := by
  obtain ⟨m, hm⟩ := hl.max
  refine (Tryd.strings_Split s ⟨#[32]⟩ m w hs hm (by decide)).mono ?_
  rintro e w' ⟨rfl, rfl⟩
  have h1 : (Lib.splitB ⟨#[32]⟩ 0 (Lib.countB s ⟨#[32]⟩) s).map (·.data.toList) = parts s.data.toList := by
    rw [Lib.splitB_data]; exact split_parts _
  have h2 : (Lib.splitB ⟨#[32]⟩ 0 (Lib.countB s ⟨#[32]⟩) s).map Value.string = (parts s.data.toList).map sv := by
    rw [← h1, List.map_map]; rfl
  have h3 : (parts s.data.toList).length = Lib.countB s ⟨#[32]⟩ + 1 := by
    rw [← h1, List.length_map]
    exact Lib.splitB_all ⟨#[32]⟩ (by decide) 0 _ s rfl
  refine ⟨_, _, rfl, ?_, rfl, ?_⟩
  · rw [h3]
  · rw [h2]
theorem atoi_any (s : ByteArray) (w : World) (hs : s.size ≤ 281474976710656) (hl : Laid w) : Calls Tryd.prog 59 #[.string s] w fun e w' => ∃ er, e = .returned (.tuple #[.int .i64 (atoiV s.data.toList), er]) ∧ Below w.heap.size w w' := by
  cases h : Lib.atoiAll s.data.toList with
  | ok v =>
    refine (Any.strconv_Atoi_ok Tryd.laysC172 s (by omega) v h w).mono ?_
    rintro e w' ⟨rfl, hw⟩
    refine ⟨.nilIface, by unfold atoiV; rw [h], ?_⟩
    rcases hw with rfl | ⟨t, rfl⟩
    · exact Below.refl _ _
    · exact Joins.below_bytesWorld _ _ _ _ (Nat.le_refl _)
  | range =>
    obtain ⟨te, pe, hv⟩ := hl.rng
    refine (Any.strconv_Atoi_range Tryd.laysC172 s hs h _ w hv (.inr ⟨te, pe, rfl⟩)).mono ?_
    rintro e w' ⟨N, rfl, _, _, hb⟩
    exact ⟨_, by unfold atoiV; rw [h], hb⟩
  | _ =>
    obtain ⟨te, pe, hv⟩ := hl.syn
    refine (Any.strconv_Atoi_syntax Tryd.laysC172 s hs h _ w hv (.inr ⟨te, pe, rfl⟩)).mono ?_
    rintro e w' ⟨N, rfl, _, _, hb⟩
    exact ⟨_, by unfold atoiV; rw [h], hb⟩
theorem pu8_any (s : ByteArray) (w : World) (hs : s.size ≤ 281474976710656) (hl : Laid w) : Calls Tryd.prog 60 #[.string s, .int .i64 10, .int .i64 8] w fun e w' => ∃ er, e = .returned (.tuple #[.int .u64 (pu8 s.data.toList : Nat), er]) ∧ Below w.heap.size w w' := by
  cases h : Lib.parseUintB 8 s.data.toList with
  | ok v =>
    refine (Any.strconv_ParseUint_10_at8_ok Tryd.laysPu14 s (by omega) v h w).mono ?_
    rintro e w' ⟨rfl, hw⟩
    refine ⟨.nilIface, by unfold pu8; rw [h], ?_⟩
    rcases hw with rfl | rfl
    · exact Below.refl _ _
    · exact Joins.below_bytesWorld _ _ _ _ (Nat.le_refl _)
  | range =>
    obtain ⟨te, pe, hv⟩ := hl.rng
    refine (Any.strconv_ParseUint_10_at8_range Tryd.laysPu14 s hs h _ w hv (.inr ⟨te, pe, rfl⟩)).mono ?_
    rintro e w' ⟨N, rfl, _, _, hb⟩
    exact ⟨_, by unfold pu8; rw [h]; rfl, hb⟩
  | _ =>
    obtain ⟨te, pe, hv⟩ := hl.syn
    refine (Any.strconv_ParseUint_10_at8_syntax Tryd.laysPu14 s hs h _ w hv (.inr ⟨te, pe, rfl⟩)).mono ?_
    rintro e w' ⟨N, rfl, _, _, hb⟩
    exact ⟨_, by unfold pu8; rw [h]; rfl, hb⟩
end Go.Proofs.YtifdmgloheampaaDoor
