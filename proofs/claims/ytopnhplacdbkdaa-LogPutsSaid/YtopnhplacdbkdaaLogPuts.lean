/- The walk of the statement LogPuts: the record of any bytes, up to the greatest one. Condition: the argument reads as bytes. -/
import Derived.Test.YtopnhplacdbkdaaLogKnown
import Derived.Test.YtopnhplacdbkdaaLogRef
import Derived.Test.YtopnhplacdbkdaaZeros
namespace Go.Proofs.Ytopnhplacdbkdaa
open Go.RowKit

theorem Own.row_le {w : World} {B n c : Nat} {a : Option Addr} {bs : List UInt8} (h : Own w B a n c bs) : ∀ k, a.map (·.block) = some k → B ≤ k := by
  intro k hk
  rcases h.form with ⟨rfl, _⟩ | ⟨g, cur, rfl, hg, _⟩
  · cases hk
  · simp at hk; omega

set_option maxRecDepth 100000 in
set_option maxHeartbeats 4000000 in
theorem walkLogPuts (a : Option Addr) (n c : Nat) (bs : List UInt8) (more : Nat) (v : Int) (w : World) (hn : bs.length = n) (hm : n ≤ 9223372036854775807) (h : Rd w w.heap.size a bs) (_hc : n ≤ c) (_hcm : c ≤ 9223372036854775807) (hmore : more < 256) (hv0 : -9223372036854775808 ≤ v) (hv1 : v ≤ 9223372036854775807) :
    Calls Try.prog 7 #[.slice a n c, .int .u8 (more : Int), .int .i64 v] w fun e w' => e = .returned (.bool true) ∧ Below w.heap.size w w' := by
  have HN := Lib.hid hn
  clear hn
  by_cases h5 : 500 < n
  · go_enter Try.func7, Try.ntmps7
    go_wp2_with fail
    refine (logknown_any w).mono ?_
    rintro e w1 ⟨rfl, hB1⟩
    go_wp2_with fail
    go_ret
    exact ⟨rfl, hB1⟩
  obtain ⟨K, hK, hKe, hKn⟩ : ∃ K : Nat, 0 < K ∧ ((K : Int) = 65536 - (n : Int) - 2 + (more : Int) % 5) ∧ n + K ≤ 65538 := ⟨65534 - n + more % 5, by omega, by omega, by omega⟩
  have HK := Lib.hid hKe
  have hs1 : max (min (n : Int) 65536) 0 + 12 = ((n + 12 : Nat) : Int) := by omega
  have HS1 := Lib.hid hs1
  have hs2 : max (min v 65536) 0 + 12 = min (max v 0) 65536 + 12 := by omega
  have HS2 := Lib.hid hs2
  clear hKe hs1 hs2
  have hCl : (bs ++ List.replicate K (0 : UInt8)).length = n + K := by simp [HN.out]
  have HCL := Lib.hid hCl
  clear hCl
  go_enter Try.func7, Try.ntmps7
  go_wp2_with fail
  refine (logknown_any w).mono ?_
  rintro e w1 ⟨rfl, hB1⟩
  have hr1 := h.step hB1
  have hbl : Below w1.heap.size w1 (w1.alloc (.cells #[] 5)) := (Below.refl _ _).alloc (Nat.le_refl _) _
  have hrl := hr1.below hbl
  have hsl : w1.heap.size ≤ (w1.alloc (.cells #[] 5)).heap.size := by simp
  clear h
  have tok1 : True := trivial
  go_wp2_with (first
    | (at_builtin; have _t := tok1; refine wpList_append_b rfl (.tmp 21) (.tmp 22) rfl w1 _ w1.heap.size hbl hsl _ 0 0 [] rfl (Own.lit (B := w1.heap.size) (bs := []) w1 (Nat.le_refl _) #[] rfl (by simp)) _ a n c bs rfl hrl HN.out n (by omega) (by omega) ?_; intro a2 c2 w2 ho2 hg2 hb2 hat2; obtain ⟨a3, c3, w3, hrun, ho3, hg3⟩ := run_append_zeros_b w2 23 w1.heap.size hb2.size _ _ _ _ ho2 K hK (by omega); rw [HK.out] at hrun; have hb3 := hb2.grown hg3 hb2.size (Own.row_le ho2); clear tok1 hrl hsl hbl hg2 hat2)
    | (at_builtin; refine wpList_append_run rfl (.tmp 23) (.tmp 31) 23 3 rfl _ _ rfl rfl _ _ hrun ?_; clear hrun))
  rw [List.nil_append] at ho3
  have hr3 := hr1.step hb3
  have hB3 := Below.next0 hB1 hb3
  have hC3 := ho3.rd
  clear ho2 hb2 hg3 ho3 hr1 hB1 hb3
  generalize bs ++ List.replicate K (0 : UInt8) = C at *
  refine (put_any a n c bs _ HN.out (by omega) hr3).mono ?_
  rintro e w4 ⟨ax, cx, rfl, hox, hb4⟩
  have hr4 := hr3.step hb4
  have hB4 := Below.next0 hB3 hb4
  have hC4 := hC3.step hb4
  have hx4 := hox.rd
  clear hb4 hr3 hB3 hC3 hox
  go_wp2_with fail
  refine (refput_any a n c bs _ HN.out (by omega) hr4).mono ?_
  rintro e w5 ⟨ay, cy, rfl, hoy, hb5⟩
  have hB5 := Below.next0 hB4 hb5
  have hC5 := hC4.step hb5
  have hx5 := hx4.step hb5
  have hy5 := hoy.rd
  clear hb5 hr4 hB4 hC4 hx4 hoy
  have hlp : (LogM.put bs).length = n + 12 := by rw [LogM.put_length, HN.out]
  have HLP := Lib.hid hlp
  clear hlp
  generalize LogM.put bs = X at *
  by_cases hbig : n + K ≤ 65536
  · go_wp2_with fail
    refine (put_any a3 (n + K) c3 C _ HCL.out hbig hC5).mono ?_
    rintro e w6 ⟨az, cz, rfl, hoz, hb6⟩
    have hB6 := Below.next0 hB5 hb6
    have hC6 := hC5.step hb6
    have hx6 := hx5.step hb6
    have hy6 := hy5.step hb6
    have hz6 := hoz.rd
    clear hb6 hB5 hC5 hx5 hy5 hoz
    go_wp2_with fail
    refine (refput_any a3 (n + K) c3 C _ HCL.out hbig hC6).mono ?_
    rintro e w7 ⟨aw, cw, rfl, how, hb7⟩
    have hB7 := Below.next0 hB6 hb7
    have hx7 := hx6.step hb7
    have hy7 := hy6.step hb7
    have hz7 := hz6.step hb7
    have hw7 := how.rd
    clear hb7 hB6 hC6 hx6 hy6 hz6 how
    have hlz : (LogM.put C).length = n + K + 12 := by rw [LogM.put_length, HCL.out]
    have HLZ := Lib.hid hlz
    clear hlz
    generalize LogM.put C = Z at *
    have sx := run_string_b w7 _ ax (n + 12) cx X hx7 HLP.out
    have sy := run_string_b w7 _ ay (n + 12) cy X hy7 HLP.out
    have sz := run_string_b w7 _ az (n + K + 12) cz Z hz7 HLZ.out
    have sw := run_string_b w7 _ aw (n + K + 12) cw Z hw7 HLZ.out
    go_wp2_with fail
    refine (size_any v _).mono ?_
    rintro e w8 ⟨rfl, rfl⟩
    rw [HS2.out]
    go_wp2_with fail
    all_goals
      refine (size_any (n : Int) _).mono ?_
      rintro e w8 ⟨rfl, rfl⟩
      rw [HS1.out]
      go_wp2_with fail
      go_ret
      exact ⟨rfl, hB7⟩
  · have hbig' : 65536 < n + K := by omega
    go_wp2_with fail
    refine (put_long a3 (n + K) c3 _ (by omega) hbig').mono ?_
    rintro e w6 ⟨rfl, rfl⟩
    go_wp2_with fail
    refine (refput_long a3 (n + K) c3 _ (by omega) hbig').mono ?_
    rintro e w6 ⟨rfl, rfl⟩
    have sx := run_string_b w5 _ ax (n + 12) cx X hx5 HLP.out
    have sy := run_string_b w5 _ ay (n + 12) cy X hy5 HLP.out
    have sz := run_string_b w5 0 none 0 0 [] (.inl rfl) rfl
    go_wp2_with fail
    refine (size_any v _).mono ?_
    rintro e w8 ⟨rfl, rfl⟩
    rw [HS2.out]
    go_wp2_with fail
    all_goals
      refine (size_any (n : Int) _).mono ?_
      rintro e w8 ⟨rfl, rfl⟩
      rw [HS1.out]
      go_wp2_with fail
      go_ret
      exact ⟨rfl, hB5⟩
end Go.Proofs.Ytopnhplacdbkdaa
