/- The walks of the reference's Left and Whole. Conditions: the number's digits lie; the shift is not great. -/
import Derived.Test.YtmocmkfpblakbaaDoorRefH
import Derived.Test.YtmocmkfpblakbaaDoorRefI
import Derived.Test.YtmocmkfpblakbaaDoorRefK
import Derived.BigQuiet
namespace Go.Proofs.YtmocmkfpblakbaaDoor
open Go.RowKit WordsM

theorem left_step {B : Nat} {L A : List Nat} {k i s x y lo hi : Nat} (hL : val B L = val B (A.take i) * (B ^ k * 2 ^ s)) (hx : A[i]? = some x) (hy : L[k + i]? = some y) (h0 : L[k + i + 1]? = some 0)
    (hp : x * 2 ^ s = lo + B * hi) : val B ((L.set (k + i) (y + lo)).set (k + i + 1) hi) = val B (A.take (i + 1)) * (B ^ k * 2 ^ s) := by
  have h1 := val_set (B := B) L (k + i) (y + lo) y hy
  have h2 := val_set (B := B) (L.set (k + i) (y + lo)) (k + i + 1) hi 0 (by rw [List.getElem?_set_ne (by omega)]; exact h0)
  rw [val_take_snoc A i x hx, Nat.add_mul, ← hL]
  have e1 : B ^ i * x * (B ^ k * 2 ^ s) = lo * B ^ (k + i) + hi * B ^ (k + i + 1) := by
    have e2 : B ^ i * x * (B ^ k * 2 ^ s) = (x * 2 ^ s) * B ^ (k + i) := by
      rw [Nat.pow_add, Nat.mul_comm (B ^ i) x, Nat.mul_assoc x, ← Nat.mul_assoc (B ^ i), Nat.mul_comm (B ^ i), Nat.mul_assoc (B ^ k), Nat.mul_comm (B ^ i), ← Nat.mul_assoc (B ^ k), Nat.mul_comm (B ^ k) (2 ^ s), Nat.mul_assoc (2 ^ s), ← Nat.mul_assoc x]
    rw [e2, hp, Nat.add_mul, Nat.pow_succ, Nat.mul_comm B hi, Nat.mul_assoc hi, Nat.mul_comm B]
  rw [Nat.add_mul] at h1
  omega
theorem left_or {s t x y : Nat} (hst : s + t = 32) (hx : x < 2 ^ 32) (hy : y < 2 ^ s) : y ||| x * 2 ^ s % 2 ^ 32 = y + x * 2 ^ s % 2 ^ 32 ∧ y + x * 2 ^ s % 2 ^ 32 < 2 ^ 32 ∧ x * 2 ^ s / 2 ^ 32 < 2 ^ s := by
  have e : (2 : Nat) ^ 32 = 2 ^ t * 2 ^ s := by rw [← Nat.pow_add, ← hst, Nat.add_comm]
  have e2 : x * 2 ^ s % 2 ^ 32 = 2 ^ s * (x % 2 ^ t) := by rw [e, Nat.mul_mod_mul_right, Nat.mul_comm]
  have hm : x % 2 ^ t < 2 ^ t := Nat.mod_lt _ (Nat.pow_pos (by decide))
  have hle : 2 ^ s * (x % 2 ^ t + 1) ≤ 2 ^ s * 2 ^ t := Nat.mul_le_mul_left _ hm
  rw [Nat.mul_add, Nat.mul_one, Nat.mul_comm (2 ^ s) (2 ^ t), ← e] at hle
  refine ⟨?_, ?_, ?_⟩
  · rw [e2, Nat.or_comm, ← Nat.two_pow_add_eq_or_of_lt hy, Nat.add_comm]
  · rw [e2]; omega
  · rw [Nat.mul_comm]
    exact Nat.div_lt_of_lt_mul (by rw [Nat.mul_comm (2 ^ 32)]; exact Nat.mul_lt_mul_of_pos_left hx (Nat.pow_pos (by decide)))
set_option maxRecDepth 100000 in
set_option maxHeartbeats 4000000 in
theorem refleft_any (a : Option Addr) (n c : Nat) (v z : Nat) (w : World) (h : DigIn w a n c v) (hn : n ≤ 1000000) (hz : z ≤ 100000000) :
    Calls Tryd.prog 10 #[.slice a n c, .int .i64 (z : Int)] w fun e w' => ∃ a' n', e = .returned (.slice a' n' n') ∧ n' ≤ n + z / 32 + 1 ∧ DigIn w' a' n' n' (v * 2 ^ z) ∧ Below w.heap.size w w' := by
  have hv : val (2 ^ 32) (dig (2 ^ 32) v) = v := val_dig (by decide) v
  have hl := dig_low (B := 2 ^ 32) (by decide) v
  have hA1 := h.len
  have hr := h.rd
  obtain ⟨A, hA⟩ : ∃ A, dig (2 ^ 32) v = A := ⟨_, rfl⟩
  rw [hA] at hv hl hA1 hr
  subst hA1
  by_cases h0 : A.length = 0
  · have hA0 : A = [] := List.length_eq_zero_iff.1 h0
    have hv0 : v = 0 := by rw [← hv, hA0]; rfl
    rw [hv0, Nat.zero_mul, h0]
    go_enter Tryd.func10, Tryd.ntmps10
    go_wp2_with fail
    go_ret
    exact ⟨none, 0, rfl, Nat.zero_le _, DigIn.nil_ w, Below.refl _ _⟩
  have h0' : ¬ ((A.length : Int) = 0) := by omega
  have h0b : ((A.length : Int) == 0) = false := by rw [beq_eq_false_iff_ne]; exact h0'
  obtain ⟨k, hk⟩ : ∃ k, z / 32 = k := ⟨_, rfl⟩
  obtain ⟨s, hs⟩ : ∃ s, z % 32 = s := ⟨_, rfl⟩
  have hs32 : s < 32 := by omega
  have hzz : z = 32 * k + s := by omega
  have hkI : (z : Int).tdiv 32 = (k : Int) := by rw [Int.tdiv_eq_ediv_of_nonneg (by omega)]; omega
  have hsI : (z : Int).tmod 32 = (s : Int) := by rw [Int.tmod_eq_emod_of_nonneg (by omega)]; omega
  have hkI2 : (z : Int) / 32 = (k : Int) := by omega
  have hsI2 : (z : Int) % 32 = (s : Int) := by omega
  have hzv : v * 2 ^ z = v * ((2 ^ 32) ^ k * 2 ^ s) := by rw [hzz, Nat.pow_add, Nat.pow_mul]
  rw [hzv, hk]
  have hmk := run_make_row' (P := Tryd.prog) 32 23 (.int .u32 0) 4 Tryd.underlying32 info_u32 rfl .i64 .i64 (k + A.length + 1) (by omega) (by omega)
  rw [show ((k + A.length + 1 : Nat) : Int) = (k : Int) + (A.length : Int) + 1 by omega, made_zeros'] at hmk
  have H := Lib.hid (And.intro hv (And.intro hl hr))
  clear hv hl hr hA h hk hs hzv hzz h0
  go_enter Tryd.func10, Tryd.ntmps10
  go_wp2_with fail
  have hB0 : Below w.heap.size w (w.alloc (.cells (Array.replicate (k + A.length + 1) (nv .u32 0)) 23)) := (Below.refl _ _).alloc (Nat.le_refl _) _
  have hA0 := Arr.zeros w 23 .u32 (k + A.length + 1)
  have H0 := Lib.hid (And.intro hB0 hA0)
  clear hB0 hA0 hmk
  go_loopw [6] (fun iv wr => ∃ (i : Nat) (L : List Nat), iv = .int .i64 (i : Int) ∧ i ≤ A.length ∧ Arr 23 .u32 wr w.heap.size L ∧ L.length = k + A.length + 1 ∧ Low (2 ^ 32) L ∧ val (2 ^ 32) L = val (2 ^ 32) (A.take i) * ((2 ^ 32) ^ k * 2 ^ s) ∧ (∀ t, k + i < t → t < k + A.length + 1 → L[t]? = some 0) ∧ (∃ y, L[k + i]? = some y ∧ y < 2 ^ s) ∧ Below w.heap.size w wr) (fun iv _ => A.length - (intOf iv).toNat)
  case atStart =>
    refine ⟨0, List.replicate (k + A.length + 1) 0, rfl, Nat.zero_le _, H0.out.2, by simp, fun x hx => ?_, by rw [val_zeros]; simp [val], fun t _ ht => ?_, ⟨0, ?_, Nat.pow_pos (by decide)⟩, H0.out.1⟩
    · rw [List.eq_of_mem_replicate hx]; decide
    · rw [List.getElem?_replicate]; simp [ht]
    · rw [List.getElem?_replicate, if_pos (by omega)]
  case round =>
    obtain ⟨i, L, rfl, hi, hL, hLl, hLow, hval, hzer, ⟨y, hy, hys⟩, hbw⟩ := hrel
    by_cases hlt : i < A.length
    · have hlt' : (i : Int) < (A.length : Int) := by omega
      obtain ⟨x, hx⟩ : ∃ x, A[i]? = some x := ⟨_, List.getElem?_eq_getElem hlt⟩
      obtain ⟨ba, oa, hae, hba, hcx⟩ := (H.out.2.2.below hbw).at_ hx
      have hxl : x < 4294967296 := H.out.2.1 x (List.mem_of_getElem? hx)
      have hyl : y < 4294967296 := hLow y (List.mem_of_getElem? hy)
      subst hae
      obtain ⟨hor, hlo32, hhis⟩ := left_or (s := s) (t := 32 - s) (x := x) (y := y) (by omega) hxl hys
      have h0i := hzer (k + i + 1) (by omega) (by omega)
      have hps : x * 2 ^ s < 18446744073709551616 := by
        have h1 : x * 2 ^ s ≤ x * 2 ^ 32 := Nat.mul_le_mul_left _ (Nat.pow_le_pow_right (by decide) (by omega))
        have h2 : x * 2 ^ 32 < 2 ^ 32 * 2 ^ 32 := Nat.mul_lt_mul_of_pos_right hxl (by decide)
        exact Nat.lt_of_le_of_lt h1 h2
      have hstep := fun lo hi (hp : x * 2 ^ s = lo + 2 ^ 32 * hi) => left_step (lo := lo) (hi := hi) hval hx hy h0i hp
      obtain ⟨p, hp⟩ : ∃ p, x * 2 ^ s = p := ⟨_, rfl⟩
      have hpI : (x : Int) * 2 ^ s = (p : Int) := by rw [← hp]; norm_cast
      rw [hp] at hor hlo32 hhis hps hstep
      have hand := and32 p hps
      obtain ⟨lo, hlo⟩ : ∃ lo, p % 4294967296 = lo := ⟨_, rfl⟩
      obtain ⟨hi', hhi⟩ : ∃ hi, p / 4294967296 = hi := ⟨_, rfl⟩
      rw [hlo] at hand
      have hlol : lo < 4294967296 := by omega
      have hhil : hi' < 4294967296 := by omega
      have hhiI : (p : Int) / 4294967296 = (hi' : Int) := by omega
      rw [show p % 2 ^ 32 = lo from hlo] at hor hlo32
      rw [show p / 2 ^ 32 = hi' from hhi] at hhis
      have hst := hstep lo hi' (by omega)
      have ho32 := u32_or_nat y lo hyl hlol
      rw [hor] at ho32
      obtain ⟨q, hq⟩ : ∃ q, y + lo = q := ⟨_, rfl⟩
      rw [hq] at ho32 hlo32 hst
      have hzc : wr.cell? ⟨w.heap.size, k + i, none⟩ = some (.int .u32 (y : Int)) := hL.cell hy
      have hzf : wr.frozen? ⟨w.heap.size, k + i, none⟩ = false := hL.frozen _
      have hL1 := hL.set (k + i) q
      have hy1 : (L.set (k + i) q)[k + i + 1]? = some 0 := by rw [List.getElem?_set_ne (by omega)]; exact h0i
      have hzc1 := hL1.cell hy1
      have hzf1 : (wr.setCell ⟨w.heap.size, k + i, none⟩ (.int .u32 (q : Int))).frozen? ⟨w.heap.size, k + i + 1, none⟩ = false := hL1.frozen _
      have hL2 := hL1.set (k + i + 1) hi'
      have hki : (k : Int) + (i : Int) < (k : Int) + (A.length : Int) + 1 := by omega
      have hki1 : (k : Int) + (i : Int) + 1 < (k : Int) + (A.length : Int) + 1 := by omega
      have HH := Lib.hid (And.intro hst (And.intro hL2 (And.intro hLow (And.intro hbw (And.intro hzer hhis)))))
      clear hst hL hL1 hL2 hLow hval hbw hzer hlo hhi hp hx hy h0i hstep hor hy1 hhis hq
      go_wp2_with fail
      refine ⟨⟨i + 1, (L.set (k + i) q).set (k + i + 1) hi', by simp, by omega, HH.out.2.1, by simp [hLl], low_set (low_set HH.out.2.2.1 hlo32) hhil, HH.out.1, fun t ht1 ht2 => ?_, ⟨hi', ?_, HH.out.2.2.2.2.2⟩, (HH.out.2.2.2.1.setCell (p := ⟨w.heap.size, k + i, none⟩) (Nat.le_refl _) _).setCell (p := ⟨w.heap.size, k + i + 1, none⟩) (Nat.le_refl _) _⟩, by simp only [intOf]; omega⟩
      · rw [List.getElem?_set_ne (by omega), List.getElem?_set_ne (by omega)]
        exact HH.out.2.2.2.2.1 t (by omega) ht2
      · rw [show k + (i + 1) = k + i + 1 by omega, List.getElem?_set_self (by rw [List.length_set]; omega)]
    · obtain rfl : i = A.length := by omega
      have hlt' : ¬ ((A.length : Int) < (A.length : Int)) := by omega
      rw [List.take_length, H.out.1] at hval
      have hT := reftrim_dig (some ⟨w.heap.size, 0, none⟩) (k + A.length + 1) (k + A.length + 1) L wr hLl (Nat.le_refl _) (by omega) hL.rd hLow
      rw [hval] at hT
      have HE := Lib.hid (And.intro hT hbw)
      clear hT hbw hval hL hLow hzer
      go_wp2_with (refine HE.out.1.mono ?_; rintro e w1 ⟨n', rfl, hn', hD, rfl⟩; have HD2 := Lib.hid (And.intro hD hn'); clear hD hn')
      go_ret
      exact ⟨_, n', rfl, by have := HD2.out.2; omega, HD2.out.1, HE.out.2⟩
set_option maxRecDepth 100000 in
set_option maxHeartbeats 4000000 in
theorem refwhole_any (v : Nat) (w : World) (hv : v < 9223372036854775808) :
    Calls Tryd.prog 7 #[.int .i64 (v : Int)] w fun r w' => ∃ neg' a' n' c' v' e', r = .returned (.agg #[.bool neg', .slice a' n' c', .int .i64 e']) ∧ OddOut false v 0 neg' v' e' ∧ DigIn w' a' n' c' v' ∧ n' ≤ 2 ∧ -1000000000 ≤ e' ∧ e' ≤ 2000000000 ∧ Below w.heap.size w w' := by
  have hneg : ¬ (v : Int) < 0 := by omega
  have hv2 : (v : Int) < 18446744073709551616 := by omega
  go_enter Tryd.func7, Tryd.ntmps7
  have hsz : (w.alloc (.cells #[.bool false, .slice none 0 0, .int .i64 0] 34)).heap.size = w.heap.size + 1 := World.size_alloc _ _
  have hwd := words_one (w.alloc (.cells #[.bool false, .slice none 0 0, .int .i64 0] 34)) v (by omega) 41
  rw [hsz] at hwd
  have hp1 := refpart_dig (some ⟨w.heap.size + 1, 0, none⟩) 1 1 [v] _ hwd (by decide)
  have hN := NumBox.new w (.bool false) (.slice none 0 0) (.int .i64 0) 34
  have hl0 := box_lt w (.cells #[.bool false, .slice none 0 0, .int .i64 0] 34)
  have hb0 : Below w.heap.size w ((w.alloc (.cells #[.bool false, .slice none 0 0, .int .i64 0] 34)).alloc (.cells #[.int .u64 (v : Int)] 41)) := Below.next0 ((Below.refl _ _).alloc (Nat.le_refl _) _) ((Below.refl _ _).alloc (Nat.le_refl _) _)
  have hb00 : Below (w.alloc (.cells #[.bool false, .slice none 0 0, .int .i64 0] 34)).heap.size (w.alloc (.cells #[.bool false, .slice none 0 0, .int .i64 0] 34)) ((w.alloc (.cells #[.bool false, .slice none 0 0, .int .i64 0] 34)).alloc (.cells #[.int .u64 (v : Int)] 41)) := (Below.refl _ _).alloc (Nat.le_refl _) _
  have HP := Lib.hid (And.intro hp1 (And.intro (hN.step hb00 hl0) hb0))
  have hl1 : w.heap.size < ((w.alloc (.cells #[.bool false, .slice none 0 0, .int .i64 0] 34)).alloc (.cells #[.int .u64 (v : Int)] 41)).heap.size := Nat.lt_of_lt_of_le hl0 hb00.size
  have HL1 := Lib.hid hl1
  clear hsz hwd hp1 hN hl0 hb0 hb00 hl1
  go_wp2_with (first
    | (refine HP.out.1.mono ?_; rintro e w1 ⟨a1, n1, c1, rfl, hn1, hD, hb1⟩; rw [val_one] at hD; have HA := Lib.hid (And.intro hD (And.intro hn1 (And.intro (HP.out.2.1.step hb1 HL1.out) (And.intro (Nat.lt_of_lt_of_le HL1.out hb1.size) (Below.next0 HP.out.2.2 hb1))))); clear hD hn1 hb1)
    | (refine (refodd_any false a1 n1 c1 v 0 w1 HA.out.1 (by have := HA.out.2.1; omega) (by decide) (by decide)).mono ?_; rintro e w2 ⟨neg', a', n', c', v', e', rfl, ho, hD, hn', he1, he2, hb2⟩; have hNN := HA.out.2.2.1.step hb2 HA.out.2.2.2.1; have hc0 := hNN.c0; have hc1 := hNN.c1; have hc2 := hNN.c2; have hf0 := hNN.f0; have hf1 := hNN.f1; have hf2 := hNN.f2; have hd1' := hNN.d1 (.bool neg'); have hd2' := hNN.d2 (.bool neg') (.slice a' n' c'); have HB := Lib.hid (And.intro hNN (And.intro ho (And.intro hD (And.intro hn' (And.intro he1 (And.intro he2 (Below.next0 HA.out.2.2.2.2 hb2))))))); clear hNN ho hD hn' he1 he2 hb2))
  have hS := HB.out.1.store (.bool neg') (.slice a' n' c') (.int .i64 e')
  have k0 := hS.c0
  have k1 := hS.c1
  have k2 := hS.c2
  have hb3 := NumBox.below HB.out.2.2.2.2.2.2 (Nat.le_refl _) (.bool neg') (.slice a' n' c') (.int .i64 e')
  have hD := HB.out.2.2.1
  have hD3 : DigIn _ a' n' c' v' := ⟨hD.len, hD.cap, hD.most, (hD.rd.store3 HB.out.1 (fun _ => by simp [nv]) (fun _ => by simp [nv]) (fun _ => by simp [nv]) (.bool neg') (.slice a' n' c') (.int .i64 e')).more (box_size _ _ _ _ _)⟩
  clear hc0 hc1 hc2 hf0 hf1 hf2 hd1' hd2' hS hD
  generalize World.setCell _ _ _ = W3 at k0 k1 k2 hb3 hD3 ⊢
  refine ⟨rfl, .agg #[.bool neg', .slice a' n' c', .int .i64 e'], by simp [results, go_sem, k0, k1, k2], neg', a', n', c', v', e', rfl, HB.out.2.1, hD3, by have := HB.out.2.2.2.1; have := HA.out.2.1; omega, HB.out.2.2.2.2.1, by have := HB.out.2.2.2.2.2.1; have := HA.out.2.1; omega, hb3⟩
end Go.Proofs.YtmocmkfpblakbaaDoor
