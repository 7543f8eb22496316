/- The walks of the document's number, mask, words. Condition: the text has a length. -/
import Derived.Test.YtifdmgloheampaaDoorScriptU
namespace Go.Proofs.YtifdmgloheampaaDoor
open Go.RowKit DiskM ScriptM

theorem drop_at (s : ByteArray) (k : Nat) (h : k < s.size) : s.data.toList.drop k = s[k] :: s.data.toList.drop (k + 1) := by
  have h2 : k < s.data.toList.length := by rw [Array.length_toList]; exact h
  rw [List.drop_eq_getElem_cons h2]; rfl
def tenP (k : Nat) : Nat := 10 ^ k
theorem tenP_succ (k : Nat) : tenP (k + 1) = 10 * tenP k := by unfold tenP; rw [Nat.pow_succ]; omega
theorem tenP_le {k : Nat} (h : k ≤ 5) : tenP k ≤ 100000 := Nat.pow_le_pow_right (n := 10) (by omega) h
theorem ret_int {a b : Int} (h : a = b) : Ending.returned (.int .i64 a) = .returned (.int .i64 b) := by rw [h]
set_option maxRecDepth 100000 in
set_option maxHeartbeats 1000000 in
theorem number_any (s : ByteArray) (w : World) (hs : s.size ≤ 1000000) : Calls Tryd.prog 54 #[.string s] w fun e w' => e = .returned (.int .i64 (numberM s.data.toList)) ∧ w = w' := by
  have hln : s.data.toList.length = s.size := by rw [Array.length_toList]; rfl
  by_cases h0 : s.size < 1
  · have hN : numberM s.data.toList = -1 := by unfold numberM; rw [if_pos (by omega)]
    have HN := Lib.hid hN
    have h0' : (s.size : Int) < 1 := by omega
    clear hN hln
    go_enter Tryd.func54, Tryd.ntmps54
    go_wp2_with fail
    go_ret
    exact ⟨ret_int HN.out.symm, rfl⟩
  by_cases h6 : 6 < s.size
  · have hN : numberM s.data.toList = -1 := by unfold numberM; rw [if_pos (by omega)]
    have HN := Lib.hid hN
    have h0' : ¬ ((s.size : Int) < 1) := by omega
    have h6' : (6 : Int) < (s.size : Int) := by omega
    clear hN hln
    go_enter Tryd.func54, Tryd.ntmps54
    go_wp2_with fail
    go_ret
    exact ⟨ret_int HN.out.symm, rfl⟩
  have h0' : ¬ ((s.size : Int) < 1) := by omega
  have h6' : ¬ ((6 : Int) < (s.size : Int)) := by omega
  have hN : numberM s.data.toList = match digF 0 s.data.toList with | none => -1 | some v => (v : Int) := by unfold numberM; rw [if_neg (by omega)]; cases digF 0 s.data.toList <;> rfl
  have HN := Lib.hid hN
  clear hN hln
  go_enter Tryd.func54, Tryd.ntmps54
  go_wp2_with fail
  go_loop [3, 4] (fun v i => ∃ (n k : Nat) (a : Int), v = .int .i64 a ∧ i = .int .i64 (k : Int) ∧ k ≤ s.size ∧ Hid (a = (n : Int) ∧ n < tenP k ∧ digF 0 s.data.toList = digF n (s.data.toList.drop k))) (fun _ i => s.size - (intOf i).toNat)
  case atStart => exact ⟨0, 0, 0, rfl, rfl, Nat.zero_le _, rfl, by decide, rfl⟩
  case round =>
    obtain ⟨n, k, a, rfl, rfl, hk, hh⟩ := hrel
    obtain ⟨ha, hn, hd⟩ := hh.out
    have a0 : 0 ≤ a := by omega
    clear hh
    by_cases hlt : k < s.size
    · have hlt' : (k : Int) < (s.size : Int) := by omega
      have hn5 : n < 100000 := Nat.lt_of_lt_of_le hn (tenP_le (by omega))
      have hstep := drop_at s k hlt
      obtain ⟨c, hc⟩ : ∃ c, c = s[k] := ⟨_, rfl⟩
      rw [hstep, ← hc] at hd
      simp only [digF] at hd
      by_cases hdig : 48 ≤ c.toNat ∧ c.toNat ≤ 57
      · rw [if_pos hdig] at hd
        have HD := Lib.hid (And.intro (show a * 10 + ((c.toNat : Int) - 48) = ((10 * n + (c.toNat - 48) : Nat) : Int) by omega) (And.intro hd (show 10 * n + (c.toNat - 48) < tenP (k + 1) by rw [tenP_succ]; omega)))
        have HC := Lib.hid hc
        have t2 : 48 ≤ (s[k].toNat : Int) := by rw [← hc]; omega
        have t3 : (s[k].toNat : Int) ≤ 57 := by rw [← hc]; omega
        have hn5' : a < 100000 := by omega
        clear hd hstep hc hn hn5 ha
        go_wp2_with fail
        go_round
        case rel => exact ⟨10 * n + (c.toNat - 48), k + 1, 10 * a + ((s[k].toNat : Int) - 48), by go_num, by go_num, by omega, by rw [← HC.out]; have := HD.out.1; omega, HD.out.2.2, HD.out.2.1⟩
        case measure => simp [intOf]; omega
      · rw [if_neg hdig] at hd
        have HD := Lib.hid hd
        have t1 : ¬ (48 ≤ (s[k].toNat : Int)) ∨ (57 : Int) < (s[k].toNat : Int) := by rw [← hc]; omega
        clear hd hstep hc hn hdig hn5 ha
        rcases t1 with t1 | t1
        · go_wp2_with fail
          go_ret
          exact ⟨ret_int (by rw [HN.out, HD.out]), rfl⟩
        · have t0 : 48 ≤ (s[k].toNat : Int) := by omega
          go_wp2_with fail
          go_ret
          exact ⟨ret_int (by rw [HN.out, HD.out]), rfl⟩
    · obtain rfl : k = s.size := by omega
      rw [List.drop_of_length_le (by rw [Array.length_toList]; exact Nat.le_refl _)] at hd
      have HD := Lib.hid (And.intro ha hd)
      have hlt' : ¬ ((s.size : Int) < (s.size : Int)) := by omega
      clear hd ha hn
      go_wp2_with fail
      go_ret
      exact ⟨ret_int (by rw [HN.out, HD.out.2]; exact HD.out.1), rfl⟩

def hexP (k : Nat) : Nat := 16 ^ k
theorem hexP_succ (k : Nat) : hexP (k + 1) = 16 * hexP k := by unfold hexP; rw [Nat.pow_succ]; omega
theorem hexP_le {k : Nat} (h : k ≤ 7) : hexP k ≤ 268435456 := Nat.pow_le_pow_right (n := 16) (by omega) h
theorem or_hex (n d : Nat) (hn : n < 268435456) (hd : d < 16) {a b : Int} (ha : a = (n : Int)) (hb : b = (d : Int)) : bits .or .u32 (a * 16) b = ((n * 16 + d : Nat) : Int) := by
  rw [ha, hb, show (n : Int) * 16 = ((n * 16 : Nat) : Int) by omega, u32_or_nat _ _ (by omega) (by omega)]
  have h := Nat.two_pow_add_eq_or_of_lt (i := 4) (b := d) hd n
  rw [show 2 ^ 4 * n = n * 16 by omega] at h
  rw [h]
theorem ret_u32 {a b : Int} (h : a = b) : Ending.returned (.int .u32 a) = .returned (.int .u32 b) := by rw [h]
set_option maxRecDepth 100000 in
set_option maxHeartbeats 1000000 in
theorem mask_any (s : ByteArray) (w : World) (hs : s.size ≤ 1000000) : Calls Tryd.prog 55 #[.string s] w fun e w' => e = .returned (.int .u32 (maskM s.data.toList : Int)) ∧ w = w' := by
  have hln : s.data.toList.length = s.size := by rw [Array.length_toList]; rfl
  by_cases h6 : 8 < s.size
  · have hN : maskM s.data.toList = 0 := by unfold maskM; rw [if_pos (by omega)]
    have HN := Lib.hid hN
    have h6' : (8 : Int) < (s.size : Int) := by omega
    clear hN hln
    go_enter Tryd.func55, Tryd.ntmps55
    go_wp2_with fail
    go_ret
    exact ⟨ret_u32 (by rw [HN.out]; rfl), rfl⟩
  have h6' : ¬ ((8 : Int) < (s.size : Int)) := by omega
  have hN : maskM s.data.toList = maskF 0 s.data.toList := by unfold maskM; rw [if_neg (by omega)]
  have HN := Lib.hid hN
  clear hN hln
  go_enter Tryd.func55, Tryd.ntmps55
  go_wp2_with fail
  go_loop [3, 4] (fun v i => ∃ (n k : Nat) (a : Int), v = .int .u32 a ∧ i = .int .i64 (k : Int) ∧ k ≤ s.size ∧ Hid (a = (n : Int) ∧ n < hexP k ∧ maskF 0 s.data.toList = maskF n (s.data.toList.drop k))) (fun _ i => s.size - (intOf i).toNat)
  case atStart => exact ⟨0, 0, 0, rfl, rfl, Nat.zero_le _, rfl, by decide, rfl⟩
  case round =>
    obtain ⟨n, k, a, rfl, rfl, hk, hh⟩ := hrel
    obtain ⟨ha, hn, hd⟩ := hh.out
    have a0 : 0 ≤ a := by omega
    clear hh
    by_cases hlt : k < s.size
    · have hlt' : (k : Int) < (s.size : Int) := by omega
      have hn5 : n < 268435456 := Nat.lt_of_lt_of_le hn (hexP_le (by omega))
      have hstep := drop_at s k hlt
      obtain ⟨c, hc⟩ : ∃ c, c = s[k] := ⟨_, rfl⟩
      rw [hstep, ← hc] at hd
      simp only [maskF] at hd
      have hcs := c.toNat_lt
      by_cases hdig : 48 ≤ c.toNat ∧ c.toNat ≤ 57
      · have hl : lowV c = some (c.toNat - 48) := by unfold lowV; rw [if_pos hdig]
        rw [hl] at hd
        have HD := Lib.hid (And.intro (or_hex n (c.toNat - 48) hn5 (by omega) (b := (c.toNat : Int) - 48) ha (by omega)) (And.intro hd (show n * 16 + (c.toNat - 48) < hexP (k + 1) by rw [hexP_succ]; omega)))
        have HC := Lib.hid hc
        have t2 : 48 ≤ (s[k].toNat : Int) := by rw [← hc]; omega
        have t3 : (s[k].toNat : Int) ≤ 57 := by rw [← hc]; omega
        have hn5' : a < 268435456 := by omega
        clear hd hstep hc hn hn5 ha hl hcs
        go_wp2_with fail
        go_round
        case rel => exact ⟨n * 16 + (c.toNat - 48), k + 1, _, rfl, by go_num, by omega, by rw [← HC.out]; exact HD.out.1, HD.out.2.2, HD.out.2.1⟩
        case measure => simp [intOf]; omega
      · by_cases hlow : 97 ≤ c.toNat ∧ c.toNat ≤ 102
        · have hl : lowV c = some (c.toNat - 87) := by unfold lowV; rw [if_neg hdig, if_pos hlow]
          rw [hl] at hd
          have HD := Lib.hid (And.intro (or_hex n (c.toNat - 87) hn5 (by omega) (b := (c.toNat : Int) - 97 + 10) ha (by omega)) (And.intro hd (show n * 16 + (c.toNat - 87) < hexP (k + 1) by rw [hexP_succ]; omega)))
          have HC := Lib.hid hc
          have t2 : 48 ≤ (s[k].toNat : Int) := by rw [← hc]; omega
          have t3 : (57 : Int) < (s[k].toNat : Int) := by rw [← hc]; omega
          have t4 : 97 ≤ (s[k].toNat : Int) := by rw [← hc]; omega
          have t5 : (s[k].toNat : Int) ≤ 102 := by rw [← hc]; omega
          have hn5' : a < 268435456 := by omega
          clear hd hstep hc hn hn5 ha hl hcs hdig hlow
          go_wp2_with fail
          go_round
          case rel => exact ⟨n * 16 + (c.toNat - 87), k + 1, _, rfl, by go_num, by omega, by rw [← HC.out]; exact HD.out.1, HD.out.2.2, HD.out.2.1⟩
          case measure => simp [intOf]; omega
        · have hl : lowV c = none := by unfold lowV; rw [if_neg hdig, if_neg hlow]
          rw [hl] at hd
          have HD := Lib.hid hd
          have t1 : (s[k].toNat : Int) < 48 ∨ ((57 : Int) < (s[k].toNat : Int) ∧ (48 : Int) ≤ (s[k].toNat : Int) ∧ (s[k].toNat : Int) < 97) ∨ ((57 : Int) < (s[k].toNat : Int) ∧ (48 : Int) ≤ (s[k].toNat : Int) ∧ (97 : Int) ≤ (s[k].toNat : Int) ∧ (102 : Int) < (s[k].toNat : Int)) := by rw [← hc]; omega
          clear hd hstep hc hn hdig hn5 ha hl hcs hlow
          rcases t1 with t1 | ⟨t1, t2, t3⟩ | ⟨t1, t2, t3, t4⟩
          · have t5 : (s[k].toNat : Int) < 97 := by omega
            go_wp2_with fail
            go_ret
            exact ⟨ret_u32 (by rw [HN.out, HD.out]; rfl), rfl⟩
          · go_wp2_with fail
            go_ret
            exact ⟨ret_u32 (by rw [HN.out, HD.out]; rfl), rfl⟩
          · go_wp2_with fail
            go_ret
            exact ⟨ret_u32 (by rw [HN.out, HD.out]; rfl), rfl⟩
    · obtain rfl : k = s.size := by omega
      rw [List.drop_of_length_le (by rw [Array.length_toList]; exact Nat.le_refl _)] at hd
      have HD := Lib.hid (And.intro ha hd)
      have hlt' : ¬ ((s.size : Int) < (s.size : Int)) := by omega
      clear hd ha hn
      go_wp2_with fail
      go_ret
      exact ⟨ret_u32 (by rw [HN.out, HD.out.2]; exact HD.out.1), rfl⟩

theorem ext_sv (b : ByteArray) : Value.string b = sv b.data.toList := by
  show Value.string b = Value.string ⟨b.data.toList.toArray⟩
  rw [Array.toArray_toList]
/-- the first word goes on behind a piece -/
def onto (p : List UInt8) : List (List UInt8) → List (List UInt8)
  | [] => [p]
  | x :: xs => (p ++ x) :: xs
theorem onto_nil (L : List UInt8) : onto [] (parts L) = parts L := by
  cases h : parts L with
  | nil => exact absurd h (parts_ne L)
  | cons x xs => rfl
theorem onto_step (p : List UInt8) (c : UInt8) (r : List UInt8) (hc : c ≠ 32) : onto p (parts (c :: r)) = onto (p ++ [c]) (parts r) := by
  simp only [parts]
  rw [if_neg hc]
  cases h : parts r with
  | nil => exact absurd h (parts_ne r)
  | cons x xs => simp [onto]
theorem onto_blank (p r : List UInt8) : onto p (parts (32 :: r)) = p :: parts r := by
  simp [parts, onto]
theorem onto_end (p : List UInt8) : onto p (parts []) = [p] := by simp [parts, onto]
theorem piece_snoc (s : ByteArray) (f i : Nat) (hf : f ≤ i) (hi : i < s.size) : (s.data.toList.drop f).take (i + 1 - f) = (s.data.toList.drop f).take (i - f) ++ [s[i]] := by
  have h2 : i < s.data.toList.length := by rw [Array.length_toList]; exact hi
  rw [show i + 1 - f = (i - f) + 1 by omega, List.take_succ_eq_append_getElem (by rw [List.length_drop]; omega), List.getElem_drop]
  congr 2
  have : f + (i - f) = i := by omega
  simp only [this]
  rfl
/-- what the words are, from a place on -/
def Words (s : ByteArray) (done : List (List UInt8)) (f i : Nat) : Prop :=
  (i ≤ s.size ∧ f ≤ i ∧ parts s.data.toList = done ++ onto ((s.data.toList.drop f).take (i - f)) (parts (s.data.toList.drop i))) ∨ (i = s.size + 1 ∧ parts s.data.toList = done)
set_option maxRecDepth 100000 in
set_option maxHeartbeats 2000000 in
theorem rwords_any (s : ByteArray) (w : World) (hs : s.size ≤ 100000) :
    Calls Tryd.prog 53 #[.string s] w fun e w' => ∃ a c, e = .returned (.slice a (parts s.data.toList).length c) ∧ Row w' w.heap.size 9 1 a (parts s.data.toList).length c ((parts s.data.toList).map sv) ∧ Below w.heap.size w w' := by
  go_enter Tryd.func53, Tryd.ntmps53
  go_wp2_with fail
  go_loopw [3, 4, 5] (fun v u x wr => ∃ (i f n : Nat) (done : List (List UInt8)) (a : Option Addr) (c : Nat), v = .slice a n c ∧ u = .int .i64 (f : Int) ∧ x = .int .i64 (i : Int) ∧ i ≤ s.size + 1 ∧ n ≤ i ∧ Hid (n = done.length ∧ Words s done f i) ∧ Row wr w.heap.size 9 1 a n c (done.map sv) ∧ Below w.heap.size w wr) (fun _ _ x _ => s.size + 1 - (intOf x).toNat)
  case atStart => exact ⟨0, 0, 0, [], none, 0, rfl, rfl, rfl, Nat.zero_le _, Nat.zero_le _, Lib.hid ⟨rfl, .inl ⟨Nat.zero_le _, Nat.zero_le _, by simp [onto_nil]⟩⟩, Row.nil_ _ _ _ _, Below.refl _ _⟩
  case round =>
    obtain ⟨i, f, n, done, a, c, rfl, rfl, rfl, hi, hni, hh, hrow, hb⟩ := hrel
    rcases hh.out.2 with ⟨h1, h2, h3⟩ | ⟨h1, h2⟩
    · have hi' : (i : Int) ≤ (s.size : Int) := by omega
      have hfi : (f : Int) ≤ (i : Int) := by omega
      have hpc : (s.extract f i).data.toList = (s.data.toList.drop f).take (i - f) := Lib.extract_data s f i
      have hxs : ∀ (w2 : World), (w2.alloc (.cells #[.string (s.extract f i)] 9)).cell? ⟨w2.heap.size, 0, none⟩ = some (sv ((s.data.toList.drop f).take (i - f))) := fun w2 => by
        rw [← hpc, ← ext_sv]; exact cell_new1 _ _ _ _ rfl
      have HX := Lib.hid hxs
      have hb1 : Below w.heap.size w (wr.alloc (.cells #[.string (s.extract f i)] 9)) := hb.alloc hb.size _
      have hrow1 : Row (wr.alloc (.cells #[.string (s.extract f i)] 9)) w.heap.size 9 1 a n c (done.map sv) := hrow.alloc _
      have hn6 : n < 1000000 := by omega
      by_cases hlt : i < s.size
      · have hlt' : (i : Int) < (s.size : Int) := by omega
        have hne : ¬ ((i : Int) = (s.size : Int)) := by omega
        obtain ⟨d, hd⟩ : ∃ d, d = s[i] := ⟨_, rfl⟩
        have hstep := drop_at s i hlt
        by_cases hc : d = 32
        · have t1 : (s[i].toNat : Int) = 32 := by rw [← hd, hc]; rfl
          rw [hstep, ← hd, hc, onto_blank] at h3
          have H3 := Lib.hid (And.intro hh.out.1 h3)
          clear h1 h2 h3 hh hpc hxs hrow hb hd hstep
          go_wp2_with (at_builtin; refine wpList_append_s rfl (.tmp 22) (.tmp 27) rfl w _ w.heap.size hb1 hb1.size a n c done rfl hrow1 ⟨wr.heap.size, 0, none⟩ _ rfl (HX.out wr) hn6 ?_; intro a3 c3 w3 ho3 hb3 _)
          go_roundw
          case rel => exact ⟨i + 1, i + 1, n + 1, done ++ [(s.data.toList.drop f).take (i - f)], a3, c3, by go_num, by go_num, by go_num, by omega, by omega, Lib.hid ⟨by rw [List.length_append, List.length_singleton, H3.out.1], .inl ⟨by omega, Nat.le_refl _, by rw [H3.out.2, Nat.sub_self, List.take_zero, onto_nil]; simp⟩⟩, ho3, hb3⟩
          case measure => simp [intOf]; omega
        · have t1 : ¬ ((s[i].toNat : Int) = 32) := by
            rw [← hd]; intro e; apply hc; apply UInt8.toNat_inj.1; show d.toNat = 32; omega
          have t2 : ((s[i].toNat : Int) == 32) = false := by rw [beq_eq_false_iff_ne]; exact t1
          rw [hstep, ← hd, onto_step _ _ _ hc] at h3
          have hsn := piece_snoc s f i h2 hlt
          rw [← hd] at hsn
          rw [← hsn] at h3
          have H3 := Lib.hid (And.intro hh.out.1 h3)
          clear h1 h3 hh hpc hxs hd hstep hsn hb1 hrow1
          go_wp2_with fail
          go_roundw
          case rel => exact ⟨i + 1, f, n, done, a, c, rfl, rfl, by go_num, by omega, by omega, Lib.hid ⟨H3.out.1, .inl ⟨by omega, by omega, H3.out.2⟩⟩, hrow, hb⟩
          case measure => simp [intOf]; omega
      · obtain rfl : i = s.size := by omega
        rw [List.drop_of_length_le (l := s.data.toList) (i := s.size) (by rw [Array.length_toList]; exact Nat.le_refl _), onto_end] at h3
        have H3 := Lib.hid (And.intro hh.out.1 h3)
        clear h1 h2 h3 hh hpc hxs hrow hb
        go_wp2_with (at_builtin; refine wpList_append_s rfl (.tmp 22) (.tmp 27) rfl w _ w.heap.size hb1 hb1.size a n c done rfl hrow1 ⟨wr.heap.size, 0, none⟩ _ rfl (HX.out wr) hn6 ?_; intro a3 c3 w3 ho3 hb3 _)
        go_roundw
        case rel => exact ⟨s.size + 1, s.size + 1, n + 1, done ++ [(s.data.toList.drop f).take (s.size - f)], a3, c3, rfl, by go_num, by go_num, by omega, by omega, Lib.hid ⟨by rw [List.length_append, List.length_singleton, H3.out.1], .inr ⟨rfl, H3.out.2⟩⟩, ho3, hb3⟩
        case measure => simp [intOf]
    · subst h1
      have hi' : ¬ (((s.size + 1 : Nat) : Int) ≤ (s.size : Int)) := by omega
      have H2 := Lib.hid (And.intro hh.out.1 h2)
      clear h2 hh
      go_wp2_with fail
      go_ret
      have hL : (parts s.data.toList).length = n := by rw [H2.out.2, H2.out.1]
      refine ⟨a, c, by rw [hL]; rfl, ?_, hb⟩
      rw [hL, H2.out.2]; exact hrow
end Go.Proofs.YtifdmgloheampaaDoor
