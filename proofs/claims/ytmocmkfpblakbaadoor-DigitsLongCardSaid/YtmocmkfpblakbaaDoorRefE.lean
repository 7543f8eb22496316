/- The document's natural numbers as right digits of 32 bits; the walks of digit and Add. Condition: the arguments lie as such digits, not too long. -/
/- The walk of the document's Mul. Condition: the arguments lie as right digits, not too long. -/
/- The walks of the document's Zeros and Down. Condition: the argument lies as right digits, not too long. -/
/- The walk of the document's Down. Condition: the argument lies as right digits, not too long. -/
import Derived.Test.YtmocmkfpblakbaaDoorRefA
import Derived.Test.YtmocmkfpblakbaaDoorWordsM2
import Derived.BigQuiet
import Derived.Deep.CutBlock
import Derived.Deep.DeepCutAuto
import Derived.Laws.BitsAllLaws
namespace Go.Proofs.YtmocmkfpblakbaaDoor
open Go.RowKit WordsM

theorem val_nat (l : List Nat) : NatM.val l = val (2 ^ 32) l := by
  induction l with
  | nil => rfl
  | cons x r ih => simp only [NatM.val, val, ih]
theorem trim_nat (l : List Nat) : NatM.trimL l = trimL l := by
  induction h : l.length generalizing l with
  | zero => obtain rfl := List.length_eq_zero_iff.1 h; rfl
  | succ n ih =>
    rcases List.eq_nil_or_concat l with rfl | ⟨r, x, rfl⟩
    · simp at h
    · rw [List.concat_eq_append] at h ⊢
      by_cases h0 : x = 0
      · subst h0
        rw [NatM.trim_snoc_zero, trimL_snoc_zero]
        exact ih r (by simpa using h)
      · rw [NatM.trim_snoc x h0, trimL_snoc r h0]
/-- a slice that holds the right digits, 32 bits each, of a value -/
structure DigIn (w : World) (a : Option Addr) (n c : Nat) (v : Nat) : Prop where
  len : (dig (2 ^ 32) v).length = n
  cap : n ≤ c
  most : c ≤ 9223372036854775807
  rd : RdI .u32 w w.heap.size a (dig (2 ^ 32) v)
theorem DigIn.step {w w' : World} {a : Option Addr} {n c v : Nat} (h : DigIn w a n c v) (hb : Below w.heap.size w w') : DigIn w' a n c v := ⟨h.len, h.cap, h.most, h.rd.step hb⟩
/-- the digits behind trim -/
theorem reftrim_dig (a : Option Addr) (n c : Nat) (ls : List Nat) (w : World) (hn : ls.length = n) (hc : n ≤ c) (hc' : c ≤ 9223372036854775807) (h : RdI .u32 w w.heap.size a ls) (hl : Low (2 ^ 32) ls) :
    Calls Tryd.prog 22 #[.slice a n c] w fun e w' => ∃ n', e = .returned (.slice a n' n') ∧ n' ≤ n ∧ DigIn w' a n' n' (val (2 ^ 32) ls) ∧ w = w' := by
  refine (reftrim_any a n c ls w hn hc hc' h).mono ?_
  rintro e w' ⟨rfl, rfl⟩
  have h1 : NatM.trimL ls = dig (2 ^ 32) (val (2 ^ 32) ls) := by rw [trim_nat, trim_dig (by decide) hl]
  have h2 := trim_len ls
  rw [← trim_nat, h1, hn] at h2
  rw [h1]
  refine ⟨_, rfl, h2, ⟨rfl, Nat.le_refl _, by omega, ?_⟩, rfl⟩
  rw [← h1, trim_nat, ← trim_take ls]
  exact h.front _
theorem low_getD {B : Nat} (hB : 0 < B) {l : List Nat} (h : Low B l) (i : Nat) : l[i]?.getD 0 < B := by
  cases hx : l[i]? with
  | none => exact hB
  | some x => exact h x (List.mem_of_getElem? hx)
theorem val_take_any {B : Nat} (l : List Nat) (i : Nat) : val B (l.take (i + 1)) = val B (l.take i) + B ^ i * l[i]?.getD 0 := by
  cases hx : l[i]? with
  | none =>
    have h : l.length ≤ i := List.getElem?_eq_none_iff.1 hx
    rw [List.take_of_length_le (by omega), List.take_of_length_le h]; simp
  | some x => exact val_take_snoc l i x hx
set_option maxRecDepth 100000 in
theorem digit_any (a : Option Addr) (n c : Nat) (ls : List Nat) (i : Nat) (w : World) {B : Nat} (hn : ls.length = n) (h : RdI .u32 w B a ls) (hl : Low (2 ^ 32) ls) :
    Calls Tryd.prog 52 #[.slice a n c, .int .i64 (i : Int)] w fun e w' => e = .returned (.int .u64 ((ls[i]?.getD 0 : Nat) : Int)) ∧ w = w' := by
  by_cases hlt : i < n
  · obtain ⟨x, hx⟩ : ∃ x, ls[i]? = some x := ⟨_, List.getElem?_eq_getElem (by omega)⟩
    have hxl : x < 4294967296 := hl x (List.mem_of_getElem? hx)
    have hlt' : (i : Int) < (n : Int) := by omega
    obtain ⟨b, o, rfl, hbl, hcell⟩ := h.at_ hx
    rw [hx, Option.getD_some]
    clear hx h hl
    go_enter Tryd.func52, Tryd.ntmps52
    go_wp2_with fail
    go_ret
    exact ⟨rfl, rfl⟩
  · have hlt' : ¬ (i : Int) < (n : Int) := by omega
    rw [List.getElem?_eq_none (by omega), Option.getD_none]
    clear h hl
    go_enter Tryd.func52, Tryd.ntmps52
    go_wp2_with fail
    go_ret
    exact ⟨rfl, rfl⟩
/-- a digit more of a sum -/
theorem sum_step {B : Nat} {A K L : List Nat} {i cr s : Nat} (hL : L.length = i) (hs : A[i]?.getD 0 + K[i]?.getD 0 + cr = s) (h : val B L + cr * B ^ i = val B (A.take i) + val B (K.take i)) :
    val B (L ++ [s % B]) + s / B * B ^ (i + 1) = val B (A.take (i + 1)) + val B (K.take (i + 1)) := by
  have h2 : (s % B + B * (s / B)) * B ^ i = s * B ^ i := by rw [Nat.mod_add_div]
  rw [Nat.add_mul] at h2
  rw [val_snoc, hL, val_take_any, val_take_any, Nat.mul_comm (B ^ i) (s % B), Nat.mul_comm (B ^ i), Nat.mul_comm (B ^ i), Nat.pow_succ, Nat.mul_comm (B ^ i) B, ← Nat.mul_assoc, Nat.mul_comm (s / B) B]
  have h3 : (A[i]?.getD 0 + K[i]?.getD 0 + cr) * B ^ i = s * B ^ i := by rw [hs]
  rw [Nat.add_mul, Nat.add_mul] at h3
  omega
theorem one_num (K : IntKind) (x : Int) : ∀ u ∈ [Value.int K x], u.oneCell' = true := by
  intro u hu; rw [List.mem_singleton] at hu; subst hu; rfl
theorem low_snoc {B : Nat} {l : List Nat} (h : Low B l) {x : Nat} (hx : x < B) : Low B (l ++ [x]) := fun y hy => by
  rcases List.mem_append.1 hy with h1 | h1
  · exact h y h1
  · rw [List.mem_singleton] at h1; subst h1; exact hx
theorem Row.rdI {k : IntKind} {w : World} {B : Nat} {e : TypeId} {a : Option Addr} {n c : Nat} {ms : List Nat} (h : Row w B e 1 a n c (ms.map (nv k))) : RdI k w w.heap.size a ms := (Row.rdN (k := k) (ms := ms) h).rdI
end Go.Proofs.YtmocmkfpblakbaaDoor
namespace Go.Proofs.YtmocmkfpblakbaaDoor
open Go.RowKit WordsM

theorem outer_step32 {B : Nat} {A K : List Nat} {i x S : Nat} (hx : A[i]? = some x) (h : S = val B (A.take i) * val B K + x * B ^ i * val B K) : S = val B (A.take (i + 1)) * val B K := by
  rw [val_take_snoc A i x hx, h, Nat.add_mul, Nat.mul_comm x]
theorem inner_step32 {B V : Nat} {K : List Nat} {i j x y : Nat} (hy : K[j]? = some y) : V + x * B ^ i * val B (K.take j) + x * y * B ^ (i + j) = V + x * B ^ i * val B (K.take (j + 1)) := by
  rw [val_take_snoc K j y hy, Nat.mul_add, Nat.pow_add, Nat.add_assoc]
  congr 2
  rw [Nat.mul_assoc x (B ^ i), ← Nat.mul_assoc (B ^ i) (B ^ j) y, Nat.mul_comm (B ^ i * B ^ j) y]
  simp only [Nat.mul_assoc]
theorem arr_drewN {T : TypeId} {K : IntKind} {w : World} {g : Nat} {ls : List Nat} (h : Arr T K w g ls) (k : Nat) : Arr T K (w.drewN k) g ls := h
theorem below_drewN' {B : Nat} {a w : World} (h : Below B a w) (k : Nat) : Below B a (w.drewN k) := ⟨h.os, h.tape, h.output, h.size, h.block⟩
end Go.Proofs.YtmocmkfpblakbaaDoor
namespace Go.Proofs.YtmocmkfpblakbaaDoor
open Go.RowKit WordsM

theorem tz_part {ls : List Nat} {i x k m : Nat} (h0 : val (2 ^ 32) (ls.take i) = 0) (hx : ls[i]? = some x) (he : x = 2 ^ k * (2 * m + 1)) (hk : k < 32) : IsTz (val (2 ^ 32) ls) (32 * i + k) := by
  have hi : i < ls.length := (List.getElem?_eq_some_iff.1 hx).1
  have hxe : ls[i] = x := (List.getElem?_eq_some_iff.1 hx).2
  have h1 := val_take_drop (B := 2 ^ 32) ls i
  rw [h0, Nat.zero_add, List.drop_eq_getElem_cons hi, hxe] at h1
  simp only [val] at h1
  obtain ⟨V, hV⟩ : ∃ V, val (2 ^ 32) (ls.drop (i + 1)) = V := ⟨_, rfl⟩
  rw [hV] at h1
  obtain ⟨t, ht⟩ : ∃ t, 32 = k + (t + 1) := ⟨31 - k, by omega⟩
  have e1 : x + 2 ^ 32 * V = 2 ^ k * (2 * (m + 2 ^ t * V) + 1) := by
    rw [he, show (2 : Nat) ^ 32 = 2 ^ k * (2 ^ t * 2) by rw [← Nat.pow_succ, ← Nat.pow_add, ← ht], Nat.mul_assoc, ← Nat.mul_add]
    congr 1
    rw [Nat.mul_comm (2 ^ t) 2, Nat.mul_assoc, Nat.mul_add]
    omega
  rw [e1, ← Nat.pow_mul, ← Nat.mul_assoc, ← Nat.pow_add] at h1
  rw [h1]
  have hp : 0 < 2 ^ (32 * i + k) := Nat.pow_pos (by decide)
  exact ⟨Nat.mul_mod_right _ _, by rw [Nat.mul_div_cancel_left _ hp]; omega⟩
theorem and1_u32 (q : Nat) (h : q < 4294967296) : bits BinOp.and IntKind.u32 (q : Int) 1 = ((q % 2 : Nat) : Int) :=
  bits_mask .u32 32 (by decide) (fun n h0 h1 => by rw [IntKind.wrap_u32]; omega) 1 (by decide) (q : Int) (by omega) (by omega)
set_option maxRecDepth 100000 in
set_option maxHeartbeats 4000000 in
theorem refzeros_any (a : Option Addr) (n c : Nat) (v : Nat) (w : World) (h : DigIn w a n c v) (hn : n ≤ 1000000) (h0 : v ≠ 0) :
    Calls Tryd.prog 34 #[.slice a n c] w fun e w' => (∃ z : Nat, e = .returned (.int .i64 (z : Int)) ∧ IsTz v z ∧ z < 32 * n) ∧ Below w.heap.size w w' := by
  have hv : val (2 ^ 32) (dig (2 ^ 32) v) = v := val_dig (by decide) v
  have hl := dig_low (B := 2 ^ 32) (by decide) v
  have hA1 := h.len
  have hr := h.rd
  obtain ⟨A, hA⟩ : ∃ A, dig (2 ^ 32) v = A := ⟨_, rfl⟩
  rw [hA] at hv hl hA1 hr
  have H := Lib.hid (And.intro hv (And.intro hl (And.intro hr h0)))
  clear hv hl hr hA h h0
  go_enter Tryd.func34, Tryd.ntmps34
  go_wp2_with fail
  go_loopw [3, 4] (fun nv iv wr => ∃ i : Nat, nv = .int .i64 (32 * (i : Int)) ∧ iv = .int .i64 (i : Int) ∧ i ≤ n ∧ val (2 ^ 32) (A.take i) = 0 ∧ Below w.heap.size w wr) (fun _ iv _ => n - (intOf iv).toNat)
  case atStart => exact ⟨0, rfl, rfl, Nat.zero_le _, by simp [val], Below.refl _ _⟩
  case round =>
    obtain ⟨i, rfl, rfl, hi, hz, hb⟩ := hrel
    by_cases hlt : i < n
    · have hlt' : (i : Int) < (n : Int) := by omega
      obtain ⟨x, hx⟩ : ∃ x, A[i]? = some x := ⟨_, List.getElem?_eq_getElem (by omega)⟩
      have hxl : x < 4294967296 := H.out.2.1 x (List.mem_of_getElem? hx)
      obtain ⟨g1, o1, hae, hg1, hcx⟩ := (H.out.2.2.1.below hb).at_ hx
      subst hae
      have HH := Lib.hid (And.intro hz (And.intro hb hx))
      clear hz hb hx
      by_cases hx0 : x = 0
      · subst hx0
        go_wp2_with fail
        refine ⟨⟨i + 1, by simp only [Value.int.injEq, true_and]; omega, by simp, by omega, ?_, HH.out.2.1⟩, by simp only [intOf]; omega⟩
        rw [val_take_snoc A i 0 HH.out.2.2, HH.out.1, Nat.mul_zero]
      · have hx0' : ((x : Int) == 0) = false := by rw [beq_eq_false_iff_ne]; omega
        go_wp2_with fail
        go_loopw [3, 5] (fun nv xv wq => ∃ k q : Nat, nv = .int .i64 (32 * (i : Int) + (k : Int)) ∧ xv = .int .u32 (q : Int) ∧ q ≠ 0 ∧ q < 4294967296 ∧ x = 2 ^ k * q ∧ k < 32 ∧ wq = wr) (fun _ xv _ => (intOf xv).toNat)
        case atStart => exact ⟨0, x, by simp, rfl, hx0, hxl, by simp, by decide, rfl⟩
        case round =>
          obtain ⟨k, q, rfl, rfl, hq0, hql, hxq, hk, rfl⟩ := hrel
          have hand := and1_u32 q hql
          by_cases hodd : q % 2 = 1
          · rw [hodd] at hand
            have htz := tz_part HH.out.1 HH.out.2.2 (m := q / 2) (k := k) (by rw [hxq]; congr 1; omega) hk
            rw [H.out.1] at htz
            have HT := Lib.hid htz
            clear htz hxq hodd
            go_wp2_with fail
            go_ret
            exact ⟨⟨32 * i + k, by simp, HT.out, by omega⟩, HH.out.2.1⟩
          · have he : q % 2 = 0 := by omega
            rw [he] at hand
            obtain ⟨p, hp⟩ : ∃ p, q = 2 * p := ⟨q / 2, by omega⟩
            have hpI : (q : Int) / 2 = (p : Int) := by omega
            have hk2 : k + 1 < 32 := by
              rcases Nat.lt_or_ge (k + 1) 32 with h | h
              · exact h
              · exfalso
                obtain rfl : k = 31 := by omega
                rw [hp, show (2 : Nat) ^ 31 = 2147483648 from rfl] at hxq
                omega
            have hxp : x = 2 ^ (k + 1) * p := by rw [hxq, hp, Nat.pow_succ, Nat.mul_assoc]
            have HX := Lib.hid (And.intro hxp hp)
            clear hxp hxq hodd he hp
            go_wp2_with fail
            refine ⟨⟨k + 1, p, ?_, rfl, ?_, ?_, HX.out.1, hk2, trivial⟩, ?_⟩
            · simp only [Value.int.injEq, true_and]; omega
            · have := HX.out.2; omega
            · have := HX.out.2; omega
            · simp only [intOf]; have := HX.out.2; omega
    · exfalso
      rw [List.take_of_length_le (by omega), H.out.1] at hz
      exact H.out.2.2.2 hz
theorem down_part {x y s : Nat} (hx : x < 2 ^ 32) (hs : s < 32) : (x + y * 2 ^ 32) / 2 ^ s % 2 ^ 32 = x / 2 ^ s + (y * 2 ^ (32 - s)) % 2 ^ 32 := by
  have hp : (2 : Nat) ^ 32 = 2 ^ s * 2 ^ (32 - s) := by rw [← Nat.pow_add]; congr 1; omega
  have h1 := shr_one (s := s) (t := 32 - s) (x := x) (y := y) (by rw [show s + (32 - s) = 32 by omega]; exact hx)
  rw [show s + (32 - s) = 32 by omega] at h1
  have e1 : (x + y * 2 ^ 32) / 2 ^ s = x / 2 ^ s + y * 2 ^ (32 - s) := by
    rw [hp, ← Nat.mul_assoc, Nat.mul_comm y, Nat.mul_assoc, Nat.add_mul_div_left _ _ (Nat.pow_pos (by decide))]
  rw [e1, Nat.add_mod, Nat.mod_eq_of_lt (a := x / 2 ^ s) (Nat.lt_of_le_of_lt (Nat.div_le_self _ _) hx), Nat.mod_eq_of_lt h1]
theorem down_val32 (A : List Nat) (hA : Low (2 ^ 32) A) (k s : Nat) (hk : k ≤ A.length) (hs : s < 32) : val (2 ^ 32) (shr s (32 - s) (A.drop k)) = val (2 ^ 32) A / 2 ^ (32 * k + s) := by
  have h1 := val_shr s (32 - s) (A.drop k)
  rw [show s + (32 - s) = 32 by omega] at h1
  rw [h1, val_drop (Nat.pow_pos (by decide)) A hA k hk, Nat.div_div_eq_div_mul, ← Nat.pow_mul, ← Nat.pow_add]
theorem down_low32 {A : List Nat} (hA : Low (2 ^ 32) A) (k s : Nat) (hs : s < 32) : Low (2 ^ 32) (shr s (32 - s) (A.drop k)) := by
  have h := shr_low (s := s) (t := 32 - s) (l := A.drop k) (by rw [show s + (32 - s) = 32 by omega]; exact fun x hx => hA x (List.mem_of_mem_drop hx))
  rwa [show s + (32 - s) = 32 by omega] at h
theorem down_nil32 {A : List Nat} (hA : Low (2 ^ 32) A) {k s : Nat} (hk : A.length ≤ k) : val (2 ^ 32) A / 2 ^ (32 * k + s) = 0 := by
  apply Nat.div_eq_of_lt
  have h1 := val_lt (B := 2 ^ 32) (Nat.pow_pos (by decide)) A hA
  rw [← Nat.pow_mul] at h1
  exact Nat.lt_of_lt_of_le h1 (Nat.pow_le_pow_right (by decide) (by omega))
end Go.Proofs.YtmocmkfpblakbaaDoor
namespace Go.Proofs.YtmocmkfpblakbaaDoor
open Go.RowKit WordsM

theorem or_high (x y : Nat) (hx : x < 4294967296) (hy : y < 4294967296) : bits BinOp.or IntKind.u64 (x : Int) ((y * 4294967296 : Nat) : Int) = ((x + y * 4294967296 : Nat) : Int) := by
  rw [u64_or_nat _ _ (by omega) (by omega), Nat.or_comm]
  have := Nat.shiftLeft_add_eq_or_of_lt (a := y) (i := 32) (b := x) hx
  rw [Nat.shiftLeft_eq] at this
  rw [show y * 4294967296 = y * 2 ^ 32 from rfl, ← this, Nat.add_comm]
theorem shr_next {s t : Nat} {l : List Nat} {j x : Nat} (h : l[j]? = some x) : (shr s t l).take (j + 1) = (shr s t l).take j ++ [x / 2 ^ s + ((l[j + 1]?).getD 0 * 2 ^ t) % 2 ^ (s + t)] := by
  rw [List.take_add_one, shr_get s t l j x h]; rfl
set_option maxRecDepth 100000 in
set_option maxHeartbeats 4000000 in
theorem refdown_any (a : Option Addr) (n c : Nat) (v z : Nat) (w : World) (h : DigIn w a n c v) (hn : n ≤ 1000000) (hz : z ≤ 100000000) :
    Calls Tryd.prog 35 #[.slice a n c, .int .i64 (z : Int)] w fun e w' => ∃ a' n' c' lb, e = .returned (.tuple #[.slice a' n' c', .bool lb]) ∧ DigIn w' a' n' c' (v / 2 ^ z) ∧ Below w.heap.size w w' := by
  have hv : val (2 ^ 32) (dig (2 ^ 32) v) = v := val_dig (by decide) v
  have hl := dig_low (B := 2 ^ 32) (by decide) v
  have hA1 := h.len
  have hr := h.rd
  obtain ⟨A, hA⟩ : ∃ A, dig (2 ^ 32) v = A := ⟨_, rfl⟩
  rw [hA] at hv hl hA1 hr
  subst hA1
  obtain ⟨k, hk⟩ : ∃ k, z / 32 = k := ⟨_, rfl⟩
  obtain ⟨s, hs⟩ : ∃ s, z % 32 = s := ⟨_, rfl⟩
  have hs32 : s < 32 := by omega
  have hzz : z = 32 * k + s := by omega
  have hkI : (z : Int).tdiv 32 = (k : Int) := by rw [Int.tdiv_eq_ediv_of_nonneg (by omega)]; omega
  have hsI : (z : Int).tmod 32 = (s : Int) := by rw [Int.tmod_eq_emod_of_nonneg (by omega)]; omega
  have hkI2 : (z : Int) / 32 = (k : Int) := by omega
  have hsI2 : (z : Int) % 32 = (s : Int) := by omega
  obtain ⟨i0, hi0, hz0, hz1, hz2⟩ := info_parts info_u32
  have HI := Lib.hid (And.intro hi0 (And.intro hz0 (And.intro hz1 hz2)))
  have H := Lib.hid (And.intro hv (And.intro hl (And.intro hr hzz)))
  clear hv hl hr hA h hk hs hzz hi0 hz0 hz1 hz2
  by_cases hkn : A.length ≤ k
  · have hkn' : (A.length : Int) ≤ (k : Int) := by omega
    have hd0 := down_nil32 (s := s) H.out.2.1 hkn
    rw [H.out.1, ← H.out.2.2.2] at hd0
    rw [hd0]
    clear hd0
    go_enter Tryd.func35, Tryd.ntmps35
    go_wp2_with fail
    refine ⟨rfl, .tuple #[.slice none 0 0, .bool (decide ((0 : Int) < (A.length : Int)))], by simp [results, go_sem], none, 0, 0, _, rfl, ⟨rfl, Nat.le_refl _, Nat.zero_le _, .inl rfl⟩, Below.refl _ _⟩
  · obtain ⟨m, hm⟩ : ∃ m, A.length = k + m := ⟨A.length - k, by omega⟩
    have hkn' : ¬ ((A.length : Int) ≤ (k : Int)) := by omega
    have hkn2 : (k : Int) < (A.length : Int) := by omega
    go_enter Tryd.func35, Tryd.ntmps35
    go_wp2_with fail
    go_loopw [6, 7] (fun lv iv wr => ∃ (i : Nat) (lb : Bool), lv = .bool lb ∧ iv = .int .i64 (i : Int) ∧ i ≤ k ∧ w = wr) (fun _ iv _ => k - (intOf iv).toNat)
    case atStart => exact ⟨0, false, rfl, rfl, Nat.zero_le _, rfl⟩
    case round =>
      obtain ⟨i, lb, rfl, rfl, hi, rfl⟩ := hrel
      by_cases hlt : i < k
      · have hlt' : (i : Int) < (k : Int) := by omega
        obtain ⟨x, hx⟩ : ∃ x, A[i]? = some x := ⟨_, List.getElem?_eq_getElem (by omega)⟩
        obtain ⟨g1, o1, hae, hg1, hcx⟩ := H.out.2.2.1.at_ hx
        subst hae
        have hil : (i : Int) < (A.length : Int) := by omega
        cases lb
        · go_wp2_with fail
          exact ⟨⟨i + 1, _, rfl, by simp, by omega, trivial⟩, by simp only [intOf]; omega⟩
        · go_wp2_with fail
          exact ⟨⟨i + 1, _, rfl, by simp, by omega, trivial⟩, by simp only [intOf]; omega⟩
      · obtain rfl : k = i := by omega
        have hlt' : ¬ ((k : Int) < (k : Int)) := by omega
        obtain ⟨x, hx⟩ : ∃ x, A[k]? = some x := ⟨_, List.getElem?_eq_getElem (by omega)⟩
        obtain ⟨g1, o1, hae, hg1, hcx⟩ := H.out.2.2.1.at_ hx
        subst hae
        clear hx
        go_upto_region 8 with fail
        go_cut [6] (fun lv wx => ∃ lb2 nq, lv = .bool lb2 ∧ w.drewN nq = wx)
        case first =>
          cases lb
          · go_quiet (fail)
            go_wp2_with fail
            go_meet
            exact ⟨_, nq, rfl, rfl⟩
          · go_quiet (fail)
            go_wp2_with fail
            go_meet
            exact ⟨_, nq, rfl, rfl⟩
        case rest =>
          obtain ⟨lb2, nq, rfl, rfl⟩ := hcut
          have HB0 := Lib.hid (below_drewN' (Below.refl w.heap.size w) nq)
          clear hcx hlt hlt' hi
          go_wp2_with fail
          go_loopw [8, 9] (fun ov iv wr => ∃ (t : Nat) (ao : Option Addr) (co : Nat), ov = .slice ao t co ∧ iv = .int .i64 ((k : Int) + (t : Int)) ∧ t ≤ m ∧ Row wr w.heap.size 23 1 ao t co (((shr s (32 - s) (A.drop k)).take t).map (nv .u32)) ∧ Below w.heap.size w wr) (fun _ iv _ => k + m - (intOf iv).toNat)
          case atStart => exact ⟨0, none, 0, rfl, by simp, Nat.zero_le _, Row.nil_ _ _ _ _, HB0.out⟩
          case round =>
            obtain ⟨t, ao, co, rfl, rfl, ht, hrow, hb⟩ := hrel
            by_cases hlt : t < m
            · have hlt' : (t : Int) < (m : Int) := by omega
              obtain ⟨y0, hy0⟩ : ∃ y, A[k + t]? = some y := ⟨_, List.getElem?_eq_getElem (by omega)⟩
              have hxl : y0 < 4294967296 := H.out.2.1 y0 (List.mem_of_getElem? hy0)
              obtain ⟨g2, o2, hae, hg2, hcx⟩ := (H.out.2.2.1.below hb).at_ hy0
              injection hae with hae; injection hae with e1 e2; subst e1 e2
              have hyl : A[k + t + 1]?.getD 0 < 4294967296 := low_getD (by decide) H.out.2.1 (k + t + 1)
              have hd : ∀ W : World, W.heap = wr.heap → Calls Tryd.prog 52 #[.slice (some ⟨g1, o1, none⟩) (k + m) c, .int .i64 ((k : Int) + (t : Int) + 1)] W fun e w' => e = .returned (.int .u64 ((A[k + t + 1]?.getD 0 : Nat) : Int)) ∧ ∃ n, w' = W.drewN n := fun W hW => by
                have h1 := digit_any (some ⟨g1, o1, none⟩) (k + m) c A (k + t + 1) W (B := w.heap.size) (by omega) (RdI.keep (H.out.2.2.1.below hb) (fun p _ => by unfold World.cell?; rw [hW])) H.out.2.1
                rw [show ((k + t + 1 : Nat) : Int) = (k : Int) + (t : Int) + 1 by omega] at h1
                refine h1.mono ?_
                rintro e w' ⟨rfl, rfl⟩
                exact ⟨rfl, 0, rfl⟩
              have hsh := shr_next (s := s) (t := 32 - s) (l := A.drop k) (j := t) (x := y0) (by rw [List.getElem?_drop]; exact hy0)
              rw [List.getElem?_drop, show k + (t + 1) = k + t + 1 by omega, show s + (32 - s) = 32 by omega] at hsh
              generalize A[k + t + 1]?.getD 0 = y at *
              have hdp := down_part (x := y0) (y := y) (s := s) hxl hs32
              rw [← hdp] at hsh
              have hor := or_high y0 y hxl hyl
              obtain ⟨q, hq⟩ : ∃ q, y0 + y * 4294967296 = q := ⟨_, rfl⟩
              obtain ⟨yy, hyy⟩ : ∃ yy, y * 4294967296 = yy := ⟨_, rfl⟩
              have hyyI : (y : Int) * 4294967296 = (yy : Int) := by omega
              have hyyl : yy < 18446744073709551616 := by omega
              have hql : q < 18446744073709551616 := by omega
              rw [hyy] at hor
              rw [← hyy, hq] at hor
              rw [hyy] at hor
              rw [show y0 + y * 2 ^ 32 = q from hq] at hsh
              obtain ⟨p, hp⟩ : ∃ p, q / 2 ^ s = p := ⟨_, rfl⟩
              have hpI : (q : Int) / 2 ^ s = (p : Int) := by rw [← hp]; norm_cast
              have hpl : p < 18446744073709551616 := by rw [← hp]; exact Nat.lt_of_le_of_lt (Nat.div_le_self _ _) hql
              have hand := and32 p hpl
              rw [hp] at hsh
              obtain ⟨lo, hlo⟩ : ∃ lo, p % 4294967296 = lo := ⟨_, rfl⟩
              have hlol : lo < 4294967296 := by omega
              rw [hlo] at hand
              rw [show p % 2 ^ 32 = lo from hlo] at hsh
              have hkt : (k : Int) + (t : Int) < (k : Int) + (m : Int) := by omega
              have hba : ∀ o nq, Below w.heap.size w ((wr.drewN nq).alloc o) := fun o nq => (below_drewN' hb nq).alloc hb.size o
              have hbz : ∀ o nq, w.heap.size ≤ ((wr.drewN nq).alloc o).heap.size := fun o nq => (hba o nq).size
              have hrr : ∀ o nq, Row ((wr.drewN nq).alloc o) w.heap.size 23 1 ao t co (((shr s (32 - s) (A.drop k)).take t).map (nv .u32)) := fun o nq => (hrow.drewN nq).alloc o
              have HH := Lib.hid (And.intro hsh (And.intro hrr (And.intro hba hbz)))
              clear hsh hrr hba hbz hb hrow hq hyy hp hlo hdp hy0
              go_wp2_with fail
              go_quiet (first | (refine Calls.quiet_of (hd _ ?_); rfl))
              go_wp2_with (at_builtin; refine wpList_append_row rfl (.tmp 66) (.tmp 73) 32 rfl w _ 23 i0 _ 1 4 Tryd.underlying32 HI.out.1 HI.out.2.1 HI.out.2.2.1 HI.out.2.2.2 rfl (by decide) w.heap.size (HH.out.2.2.1 _ _) (HH.out.2.2.2 _ _) ao t co _ rfl (HH.out.2.1 _ _) ⟨(wr.drewN nq).heap.size, 0, none⟩ 1 1 [.int .u32 (lo : Int)] rfl rfl (cells_new (wr.drewN nq) #[.int .u32 (lo : Int)] _ _) (one_num _ _) (t + 1) rfl (by omega) (by omega) ?_; intro a3 c3 w3 ho3 hg3 hb3 hat3; have HO := Lib.hid (And.intro ho3 hb3); clear ho3 hg3 hb3 hat3)
              refine ⟨⟨t + 1, a3, c3, rfl, by simp only [Value.int.injEq, true_and]; omega, by omega, ?_, HO.out.2⟩, by simp only [intOf]; omega⟩
              rw [HH.out.1, List.map_append]; exact HO.out.1
            · obtain rfl : m = t := by omega
              have hlt' : ¬ (k : Int) + (m : Int) < (k : Int) + (m : Int) := by omega
              have hsl : (shr s (32 - s) (A.drop k)).length = m := by rw [shr_len, List.length_drop]; omega
              rw [List.take_of_length_le (by omega)] at hrow
              have hT := reftrim_dig ao m co _ wr hsl hrow.cap.1 hrow.cap.2 (Row.rdI hrow) (down_low32 H.out.2.1 k s hs32)
              rw [down_val32 A H.out.2.1 k s (by omega) hs32, H.out.1, ← H.out.2.2.2] at hT
              have HT := Lib.hid (And.intro hT hb)
              clear hT hb hrow hsl
              go_wp2_with (refine HT.out.1.mono ?_; rintro e w1 ⟨n', rfl, hn', hD, rfl⟩; have HD2 := Lib.hid hD; clear hD)
              refine ⟨rfl, .tuple #[.slice ao n' n', .bool lb2], by simp [results, go_sem], ao, n', n', lb2, rfl, HD2.out, HT.out.2⟩
end Go.Proofs.YtmocmkfpblakbaaDoor
