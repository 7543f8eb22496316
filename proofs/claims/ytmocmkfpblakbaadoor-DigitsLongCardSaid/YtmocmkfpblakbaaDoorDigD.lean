/- The walk of the digits' words. Condition: the text holds decimal digits alone, at most 1300. -/
import Derived.Test.YtmocmkfpblakbaaDoorDigA
import Derived.Test.YtmocmkfpblakbaaDoorNatC
import Derived.Test.YtmocmkfpblakbaaDoorDecM
import Derived.Lib.ParseIntBCases
import Derived.Lib.AtoiErrMem
namespace Go.Proofs.YtmocmkfpblakbaaDoor
open Go.RowKit WordsM DecM

theorem parseM_all : ∀ (l : List UInt8) (acc k : Nat), allD l → acc < 10 ^ k → k + l.length ≤ 19 → Lib.parseUintM 18446744073709551615 acc l = .ok (l.foldl (fun a b => 10 * a + (b.toNat - 48)) acc)
  | [], acc, k, _, _, _ => rfl
  | c :: r, acc, k, h, ha, hk => by
    have hc := h c (by simp)
    rw [List.length_cons] at hk
    have h18 : acc < 10 ^ 18 := Nat.lt_of_lt_of_le ha (Nat.pow_le_pow_right (by decide) (by omega))
    have h1 : acc * 10 + (c.toNat - 48) < 10 ^ (k + 1) := by rw [Nat.pow_succ]; omega
    have h2 : (10 : Nat) ^ (k + 1) ≤ 10 ^ 19 := Nat.pow_le_pow_right (by decide) (by omega)
    have e18 : (10 : Nat) ^ 18 = 1000000000000000000 := rfl
    have e19 : (10 : Nat) ^ 19 = 10000000000000000000 := rfl
    rw [e18] at h18
    rw [e19] at h2
    have ih := parseM_all r (acc * 10 + (c.toNat - 48)) (k + 1) (fun x hx => h x (by simp [hx])) h1 (by omega)
    rw [Lib.parseUintM, if_pos hc, if_neg (by omega), if_neg (by omega), ih, List.foldl_cons, Nat.mul_comm acc 10]
theorem parse64 (l : List UInt8) (h : allD l) (h0 : l ≠ []) (hl : l.length ≤ 19) : Lib.parseUintB 64 l = .ok (dv l) := by
  unfold Lib.parseUintB
  rw [if_neg h0]
  exact parseM_all l 0 0 h (by decide) (by omega)
theorem ext_take (s : ByteArray) (n : Nat) : (s.extract 0 n).data.toList = s.data.toList.take n := by simp
theorem ext_drop (s : ByteArray) (n : Nat) : (s.extract n s.size).data.toList = s.data.toList.drop n := by
  have hl : s.data.toList.length = s.size := rfl
  simp only [ByteArray.data_extract, Array.toList_extract, List.extract_eq_take_drop]
  exact List.take_of_length_le (by rw [List.length_drop, hl]; exact Nat.le_refl _)
/-- a text's length as a measure -/
def lenOf : Value → Nat
  | .string b => b.size
  | _ => 0
theorem words_one2 (w : World) (m : Nat) (hm : m < 18446744073709551616) (T : TypeId) : WordsIn (w.alloc (.cells #[.int .u64 (m : Int)] T)) (some ⟨w.heap.size, 0, none⟩) 1 1 [m] :=
  ⟨rfl, Nat.le_refl _, by omega, fun x hx => by rw [List.mem_singleton] at hx; subst hx; exact hm, .inr ⟨w.heap.size, 0, rfl, by rw [World.size_alloc]; omega, fun j x hx => by
    cases j with
    | zero => simp only [List.getElem?_cons_zero, Option.some.injEq] at hx; subst hx; rw [cell_of_row _ _ _ _ _ _ (heap_alloc_new _ _)]; rfl
    | succ j => simp at hx⟩⟩
set_option maxRecDepth 100000 in
set_option maxHeartbeats 8000000 in
theorem words_any (s : ByteArray) (w : World) (hs : s.size ≤ 1300) (ha : allD s.data.toList) :
    Calls Tryd.prog 19 #[.string s] w (NumOut w (dv s.data.toList)) := by
  have H := Lib.hid ha
  clear ha
  go_enter Tryd.func19, Tryd.ntmps19
  go_wp2_with fail
  go_loopw [0, 3] (fun tv wv wr => ∃ (t : ByteArray) (pre : List UInt8) (a : Option Addr) (n c : Nat), tv = .string t ∧ wv = .slice a n c ∧ s.data.toList = pre ++ t.data.toList ∧ WordsIn wr a n c (dig (2 ^ 64) (dv pre)) ∧ Below w.heap.size w wr) (fun tv _ _ => lenOf tv)
  case atStart => exact ⟨s, [], none, 0, 0, rfl, rfl, rfl, ⟨rfl, Nat.le_refl _, by omega, fun x hx => by simp [dv, dig_zero] at hx, .inl rfl⟩, Below.refl _ _⟩
  case round =>
    obtain ⟨t, pre, a, n, c, rfl, rfl, hpre, hW, hb⟩ := hrel
    have hlt : t.data.toList.length = t.size := rfl
    have hsz : pre.length + t.size = s.size := by
      have h1 := congrArg List.length hpre
      rw [List.length_append, hlt] at h1
      exact h1.symm
    by_cases ht : t.size = 0
    · have htI : ¬ (0 : Int) < (t.size : Int) := by omega
      have hnil : t.data.toList = [] := List.length_eq_zero_iff.1 (by rw [hlt]; exact ht)
      rw [hnil, List.append_nil] at hpre
      rw [← hpre] at hW
      have HE := Lib.hid (And.intro hW hb)
      clear hW hb hpre hnil hlt
      go_wp2_with fail
      go_ret
      exact ⟨a, n, c, rfl, HE.out.1, HE.out.2⟩
    · have htI : (0 : Int) < (t.size : Int) := by omega
      obtain ⟨k, hk⟩ : ∃ k, min t.size 19 = k := ⟨_, rfl⟩
      have hmin : min (t.size : Int) 19 = (k : Int) := by omega
      have hk1 : 1 ≤ k := by omega
      have hk19 : k ≤ 19 := by omega
      have hkt : k ≤ t.size := by omega
      obtain ⟨u, hu⟩ : ∃ u : ByteArray, t.extract 0 k = u := ⟨_, rfl⟩
      obtain ⟨rest, hrest⟩ : ∃ r : ByteArray, t.extract k t.size = r := ⟨_, rfl⟩
      have hul : u.data.toList = t.data.toList.take k := by rw [← hu]; exact ext_take t k
      have hrl : rest.data.toList = t.data.toList.drop k := by rw [← hrest]; exact ext_drop t k
      have hus : u.data.toList.length = k := by rw [hul, List.length_take, hlt]; omega
      have hrs : rest.size = t.size - k := by
        have : rest.data.toList.length = rest.size := rfl
        rw [← this, hrl, List.length_drop, hlt]
      have hat : allD t.data.toList := fun x hx => H.out x (by rw [hpre]; simp [hx])
      have hau : allD u.data.toList := fun x hx => hat x (by rw [hul] at hx; exact List.mem_of_mem_take hx)
      have hapre : allD pre := fun x hx => H.out x (by rw [hpre]; simp [hx])
      have hp := parse64 u.data.toList hau (fun e => by rw [e] at hus; simp at hus; omega) (by omega)
      have hvu : dv u.data.toList < 10 ^ 19 := Nat.lt_of_lt_of_le (dv_lt _ hau) (by rw [hus]; exact Nat.pow_le_pow_right (by decide) hk19)
      have hnew : dv (pre ++ u.data.toList) = dv pre * 10 ^ k + dv u.data.toList := by rw [dv_append, hus]
      have hpu : s.data.toList = (pre ++ u.data.toList) ++ rest.data.toList := by rw [List.append_assoc, hul, hrl, List.take_append_drop]; exact hpre
      obtain ⟨v, hv⟩ : ∃ v, dv u.data.toList = v := ⟨_, rfl⟩
      have hvpre : (dig (2 ^ 64) (dv pre)).length ≤ pre.length := dig_len_le (by decide) (Nat.lt_of_lt_of_le (dv_lt pre hapre) (Nat.pow_le_pow_left (by decide) pre.length))
      have hn13 : n ≤ 1300 := by rw [← hW.len]; omega
      rw [hv] at hp hvu hnew
      have e19 : (10 : Nat) ^ 19 = 10000000000000000000 := rfl
      rw [e19] at hvu
      have hvl : v < 18446744073709551616 := by omega
      have hpa := fun W => Tryd.strconv_ParseUint_10_at64_ok u (by have : u.data.toList.length = u.size := rfl; omega) v hp W
      have hLEN : ∀ T, T = 10 ^ k → (dig (2 ^ 64) (dv pre * T)).length ≤ 1302 := fun T hT => by
        have h1 : dv pre * T < 10 ^ (pre.length + k) := by
          rw [hT, Nat.pow_add]
          exact Nat.mul_lt_mul_of_pos_right (dv_lt pre hapre) (Nat.pow_pos (by decide))
        have h2 : (dig (2 ^ 64) (dv pre * T)).length ≤ pre.length + k := dig_len_le (by decide) (Nat.lt_of_lt_of_le h1 (Nat.pow_le_pow_left (by decide) _))
        omega
      have HLEN := Lib.hid hLEN
      clear hLEN
      have HP := Lib.hid (And.intro hpa (And.intro hnew (And.intro hpu (And.intro hW (And.intro hb hrs)))))
      clear hpa hnew hpu hW hb hrs hp hv hvpre hapre hau hat hrl hul hpre hlt e19 hvu hk hus
      go_wp2_with (refine (HP.out.1 _).mono ?_; rintro e w1 ⟨rfl, hw1⟩; have hb1 : Below wr.heap.size wr w1 := by { rcases hw1 with rfl | rfl; exact Below.refl _ _; exact Lib.bytesWorld_below _ _ _ }; have HB1 := Lib.hid hb1; clear hw1 hb1)
      go_loopw [7, 22] (fun tv iv wz => ∃ (i T : Nat), tv = .int .u64 (T : Int) ∧ iv = .int .i64 (i : Int) ∧ i ≤ k ∧ T = 10 ^ i ∧ w1 = wz) (fun _ iv _ => k - (intOf iv).toNat)
      case atStart => exact ⟨0, 1, rfl, rfl, Nat.zero_le _, rfl, rfl⟩
      case round =>
        obtain ⟨i, T, rfl, rfl, hi, hT, rfl⟩ := hrel
        have hTl : T ≤ 10000000000000000000 := by
          rw [hT]
          have h1 : (10 : Nat) ^ i ≤ 10 ^ 19 := Nat.pow_le_pow_right (by decide) (by omega)
          have h2 : (10 : Nat) ^ 19 = 10000000000000000000 := rfl
          rwa [h2] at h1
        by_cases hlk : i < k
        · have hlkI : (i : Int) < (k : Int) := by omega
          have hT18 : T ≤ 1000000000000000000 := by
            rw [hT]
            have h1 : (10 : Nat) ^ i ≤ 10 ^ 18 := Nat.pow_le_pow_right (by decide) (by omega)
            have h2 : (10 : Nat) ^ 18 = 1000000000000000000 := rfl
            rwa [h2] at h1
          obtain ⟨T2, hT2⟩ : ∃ T2, T * 10 = T2 := ⟨_, rfl⟩
          have hTI : (T : Int) * 10 = (T2 : Int) := by omega
          have hT2l : (T2 : Int) < 18446744073709551616 := by omega
          have HT := Lib.hid (show T2 = 10 ^ (i + 1) by rw [← hT2, hT, Nat.pow_succ])
          clear hT hT2 hTl hT18
          go_wp2_with fail
          exact ⟨⟨i + 1, T2, rfl, by simp, by omega, HT.out, trivial⟩, by simp only [intOf]; omega⟩
        · obtain rfl : k = i := by omega
          have hlkI : ¬ (k : Int) < (k : Int) := by omega
          have hWm := fun W (hbW : Below wr.heap.size wr W) => natmul_any a n c (dig (2 ^ 64) (dv pre)) (some ⟨W.heap.size, 0, none⟩) 1 1 [T] (W.alloc (.cells #[.int .u64 (T : Int)] 41)) ((HP.out.2.2.2.1.step hbW).step ((Below.refl _ _).alloc (Nat.le_refl _) _)) (words_one2 W T (by omega) 41) (by omega) (by decide)
          have HM := Lib.hid hWm
          have HT := Lib.hid hT
          clear hWm hT
          go_wp2_with (first
            | (go_at_call_of 33 a; refine (HM.out _ HB1.out).mono ?_; rintro e w2 ⟨a2, n2, c2, rfl, hW2, hb2⟩; rw [val_dig (by decide), show val (2 ^ 64) [T] = T by simp [val]] at hW2;
               have hn2 : n2 ≤ 1302 := by { rw [← hW2.len]; exact (HLEN.out T HT.out) };
               have HB2 := Lib.hid (And.intro hW2 (Below.next0 HB1.out (Below.next0 ((Below.refl _ _).alloc (Nat.le_refl _) _) hb2))); clear hW2 hb2)
            | (refine (natadd_any a2 n2 c2 _ (some ⟨w2.heap.size, 0, none⟩) 1 1 [v] (w2.alloc (.cells #[.int .u64 (v : Int)] 41)) (HB2.out.1.step ((Below.refl _ _).alloc (Nat.le_refl _) _)) (words_one2 w2 v hvl 41) (by omega) (by decide)).mono ?_; rintro e w3 ⟨a3, n3, c3, rfl, hW3, hb3⟩; rw [val_dig (by decide), show val (2 ^ 64) [v] = v by simp [val]] at hW3;
               have HB3 := Lib.hid (And.intro hW3 (Below.next0 HB2.out.2 (Below.next0 ((Below.refl _ _).alloc (Nat.le_refl _) _) hb3))); clear hW3 hb3))
          refine ⟨⟨rest, pre ++ u.data.toList, a3, n3, c3, rfl, rfl, HP.out.2.2.1, ?_, Below.next0 HP.out.2.2.2.2.1 HB3.out.2⟩, ?_⟩
          · rw [HP.out.2.1, ← HT.out]; exact HB3.out.1
          · show rest.size < t.size
            have := HP.out.2.2.2.2.2
            omega
end Go.Proofs.YtmocmkfpblakbaaDoor
