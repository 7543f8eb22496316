/- The walk of the words' division by a word whose top bit is set. Condition: the argument lies as a slice of words, not too long. -/
import Derived.Test.YtmocmkfpblakbaaDoorNatB
import Derived.Test.YtmocmkfpblakbaaDoorDiv64
namespace Go.Proofs.YtmocmkfpblakbaaDoor
open Go.RowKit WordsM

theorem word_step {B d : Nat} {A L : List Nat} {k x rest : Nat} (hx : A[k]? = some x) (hk : k < L.length) (h : val B (L.drop (k + 1)) * d + rest = val B (A.drop (k + 1))) :
    val B ((L.set k ((rest * B + x) / d)).drop k) * d + (rest * B + x) % d = val B (A.drop k) := by
  have hka : k < A.length := (List.getElem?_eq_some_iff.1 hx).1
  have hxe : A[k] = x := (List.getElem?_eq_some_iff.1 hx).2
  have e1 : A.drop k = x :: A.drop (k + 1) := by rw [List.drop_eq_getElem_cons hka, hxe]
  have hk2 : k < (L.set k ((rest * B + x) / d)).length := by rw [List.length_set]; exact hk
  have e2 : (L.set k ((rest * B + x) / d)).drop k = (rest * B + x) / d :: L.drop (k + 1) := by
    rw [List.drop_eq_getElem_cons hk2, List.getElem_set_self, List.drop_set_of_lt (by omega)]
  rw [e1, e2]
  simp only [val]
  rw [← h]
  have h1 := Nat.div_add_mod (rest * B + x) d
  generalize (rest * B + x) / d = q at *
  generalize (rest * B + x) % d = r at *
  generalize val B (L.drop (k + 1)) = V at *
  rw [Nat.add_mul, Nat.mul_add, Nat.mul_assoc, Nat.mul_comm q d, Nat.mul_comm B rest]
  omega
set_option maxRecDepth 100000 in
set_option maxHeartbeats 2000000 in
theorem byword_any (a : Option Addr) (n c : Nat) (A : List Nat) (d : Nat) (w : World) (h : WordsIn w a n c A) (hn : n ≤ 100000) (hd : 9223372036854775808 ≤ d) (hd2 : d < 18446744073709551616) :
    Calls Tryd.prog 55 #[.slice a n c, .int .u64 (d : Int)] w fun e w' => ∃ a' n' c', e = .returned (.tuple #[.slice a' n' c', .int .u64 ((val (2 ^ 64) A % d : Nat) : Int)]) ∧ WordsIn w' a' n' c' (dig (2 ^ 64) (val (2 ^ 64) A / d)) ∧ Below w.heap.size w w' ∧ ∀ x, a' = some x → w.heap.size ≤ x.block := by
  have hlen := h.len
  have H := Lib.hid h
  have hmk := run_make_row' (P := Tryd.prog) 26 41 (.int .u64 0) 8 Tryd.underlying26 info_u64 rfl .i64 .i64 n (by omega) (by omega)
  rw [made_zeros'] at hmk
  have hB0 : Below w.heap.size w (w.alloc (.cells (Array.replicate n (nv .u64 0)) 41)) := (Below.refl _ _).alloc (Nat.le_refl _) _
  have hA0 := Arr.zeros w 41 .u64 n
  have H0 := Lib.hid (And.intro hB0 hA0)
  clear hB0 hA0 h
  go_enter Tryd.func55, Tryd.ntmps55
  go_wp2_with fail
  clear hmk
  go_loopw [7, 8] (fun rv iv wr => ∃ (k rest : Nat) (L : List Nat), rv = .int .u64 (rest : Int) ∧ iv = .int .i64 ((k : Int) - 1) ∧ k ≤ n ∧ rest < d ∧ Arr 41 .u64 wr w.heap.size L ∧ L.length = n ∧ Low (2 ^ 64) L ∧ val (2 ^ 64) (L.drop k) * d + rest = val (2 ^ 64) (A.drop k) ∧ Below w.heap.size w wr) (fun _ iv _ => (intOf iv + 1).toNat)
  case atStart =>
    refine ⟨n, 0, List.replicate n 0, rfl, rfl, Nat.le_refl _, by omega, H0.out.2, by simp, fun x hx => ?_, ?_, H0.out.1⟩
    · rw [List.eq_of_mem_replicate hx]; decide
    · rw [List.drop_eq_nil_of_le (by simp), List.drop_eq_nil_of_le (by omega)]; simp [val]
  case round =>
    obtain ⟨k, rest, L, rfl, rfl, hk, hrest, hL, hLl, hLow, hval, hbw⟩ := hrel
    cases k with
    | zero =>
      rw [List.drop_zero, List.drop_zero] at hval
      have hq : val (2 ^ 64) A / d = val (2 ^ 64) L := by
        rw [← hval, Nat.mul_comm, Nat.mul_add_div (by omega), Nat.div_eq_of_lt hrest, Nat.add_zero]
      have hr : val (2 ^ 64) A % d = rest := by
        rw [← hval, Nat.mul_comm, Nat.mul_add_mod, Nat.mod_eq_of_lt hrest]
      have hW : WordsIn wr (some ⟨w.heap.size, 0, none⟩) n n L := ⟨hLl, Nat.le_refl _, by omega, hLow, hL.rd⟩
      have hdig : trimL L = dig (2 ^ 64) (val (2 ^ 64) A / d) := by rw [trim_dig (by decide) hLow, hq]
      have HE := Lib.hid (And.intro hW (And.intro hbw hdig))
      have HR := Lib.hid hr
      clear hW hbw hdig hval hL hLow hq hr H0
      go_wp2_with (refine (cut_any _ _ _ _ _ HE.out.1).mono ?_; rintro e w5 ⟨rfl, hb5⟩; have HB5 := Lib.hid hb5; clear hb5)
      have hout := (HE.out.1.step HB5.out).trim
      rw [HE.out.2.2] at hout
      refine ⟨rfl, .tuple #[.slice (some ⟨w.heap.size, 0, none⟩) (trimL L).length n, .int .u64 (rest : Int)], by simp [results, go_sem], some ⟨w.heap.size, 0, none⟩, (trimL L).length, n, by rw [HR.out], ?_, Below.next0 HE.out.2.1 HB5.out, fun x e => by injection e with e; subst e; exact Nat.le_refl _⟩
      rw [HE.out.2.2]
      exact hout
    | succ m =>
      obtain ⟨x, hx⟩ : ∃ x, A[m]? = some x := ⟨_, List.getElem?_eq_getElem (by omega)⟩
      obtain ⟨b, o, hae, hbl, hcx⟩ := (H.out.rd.below hbw).at_ hx
      have hxl : x < 18446744073709551616 := H.out.low x (List.mem_of_getElem? hx)
      subst hae
      have hst := word_step (B := 2 ^ 64) hx (by omega) hval
      rw [show (2 : Nat) ^ 64 = 18446744073709551616 from rfl] at hst
      have hdv := fun W => div64_any rest x d W hrest hxl hd hd2
      have hr2 : (rest * 18446744073709551616 + x) % d < d := Nat.mod_lt _ (by omega)
      have hq2 : (rest * 18446744073709551616 + x) / d < 18446744073709551616 := by
        refine Nat.div_lt_of_lt_mul ?_
        have h1 : (rest + 1) * 18446744073709551616 ≤ d * 18446744073709551616 := Nat.mul_le_mul_right _ hrest
        omega
      generalize (rest * 18446744073709551616 + x) / d = q at *
      generalize (rest * 18446744073709551616 + x) % d = r at *
      have hmI : ((m : Int) + 1 - 1) = (m : Int) := by omega
      have HDV := Lib.hid hdv
      have hzf : wr.frozen? ⟨w.heap.size, m, none⟩ = false := hL.frozen m
      obtain ⟨z, hz⟩ : ∃ z, L[m]? = some z := ⟨_, List.getElem?_eq_getElem (by omega)⟩
      have hzc : wr.cell? ⟨w.heap.size, m, none⟩ = some (.int .u64 (z : Int)) := hL.cell hz
      have hgl : w.heap.size < wr.heap.size := hL.lt
      have HH := Lib.hid (And.intro hst (And.intro hL (And.intro hLow hbw)))
      clear hdv hst hL hLow hval hbw hx hz
      go_wp2_with (refine (HDV.out _).mono ?_; rintro e w5 ⟨rfl, hb5⟩; have hzf5 := (hb5.frozen (p := ⟨w.heap.size, m, none⟩) hgl).trans hzf; have hzc5 := (hb5.cell (p := ⟨w.heap.size, m, none⟩) hgl).trans hzc; have HB5 := Lib.hid hb5; clear hb5)
      refine ⟨⟨m, r, L.set m q, rfl, rfl, by omega, hr2, (HH.out.2.1.call HB5.out).set m q, by simp [hLl], low_set HH.out.2.2.1 hq2, HH.out.1, (Below.next0 HH.out.2.2.2 HB5.out).setCell (p := ⟨w.heap.size, m, none⟩) (Nat.le_refl _) _⟩, by simp only [intOf]; omega⟩
end Go.Proofs.YtmocmkfpblakbaaDoor
