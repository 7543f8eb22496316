/- The walk of the document's count: decimal digits from a place on. Condition: the place lies in the text; Go's own limit of a text. -/
import Derived.Test.YtmocmkfpblakbaaGreatDoorDecM
import Derived.Test.YtmocmkfpblakbaaGreatDoorDigA
namespace Go.Proofs.YtmocmkfpblakbaaGreatDoor
open Go.RowKit WordsM DecM

/-- what count gives, from a place on -/
def cnt (l : List UInt8) (at_ most : Nat) : Int := if digN l < 1 ∨ most < digN l ∨ (l.headD 0 = 48 ∧ 1 < digN l) then -1 else ((at_ + digN l : Nat) : Int)
theorem bytes_at (s : ByteArray) (j : Nat) (h : j < s.size) : s.data.toList[j]? = some (s[j]'h) := by
  rw [Array.getElem?_toList]
  exact Array.getElem?_eq_getElem h
theorem run_digN {s : ByteArray} {at_ k : Nat} (h1 : at_ ≤ k) (h2 : k ≤ s.size) (hd : ∀ j (h : j < s.size), at_ ≤ j → j < k → isDig (s[j]'h)) (hs : ∀ h : k < s.size, ¬ isDig (s[k]'h)) : digN (s.data.toList.drop at_) = k - at_ := by
  have hl : s.data.toList.length = s.size := rfl
  apply digN_spec
  · rw [List.length_drop, hl]; omega
  · intro j c hc hj
    rw [List.getElem?_drop] at hc
    have hjs : at_ + j < s.size := by omega
    rw [bytes_at s _ hjs] at hc
    injection hc with hc
    subst hc
    exact hd _ hjs (by omega) (by omega)
  · intro c hc
    rw [List.getElem?_drop, show at_ + (k - at_) = k by omega] at hc
    have hks : k < s.size := by
      rw [← hl]; exact (List.getElem?_eq_some_iff.1 hc).1
    rw [bytes_at s _ hks] at hc
    injection hc with hc
    subst hc
    exact hs hks
theorem head_at {s : ByteArray} {at_ : Nat} (h : at_ < s.size) : (s.data.toList.drop at_).headD 0 = s[at_]'h := by
  have h1 := bytes_at s at_ h
  rw [← List.head?_drop] at h1
  rw [List.headD_eq_head?_getD, h1]; rfl
set_option maxRecDepth 100000 in
set_option maxHeartbeats 4000000 in
theorem count_any (s : ByteArray) (at_ most : Nat) (w : World) (hs : s.size ≤ 281474976710656) (hat : at_ ≤ s.size) (hmo : most ≤ 1000000) :
    Calls Tryz.prog 39 #[.string s, .int .i64 (at_ : Int), .int .i64 (most : Int)] w fun e w' => e = .returned (.int .i64 (cnt (s.data.toList.drop at_) at_ most)) ∧ w = w' := by
  go_enter Tryz.func39, Tryz.ntmps39
  go_wp2_with fail
  go_loopw [7] (fun v wr => ∃ k : Nat, v = .int .i64 (k : Int) ∧ at_ ≤ k ∧ k ≤ s.size ∧ (∀ j (h : j < s.size), at_ ≤ j → j < k → isDig (s[j]'h)) ∧ w = wr) (fun v _ => s.size - (intOf v).toNat)
  case atStart => exact ⟨at_, rfl, Nat.le_refl _, hat, fun j _ h h2 => by omega, rfl⟩
  case round =>
    obtain ⟨k, rfl, hk, hks, hpre, rfl⟩ := hrel
    by_cases hlt : k < s.size
    · have hlt' : (k : Int) < (s.size : Int) := by omega
      by_cases h1 : (s[k]'hlt).toNat < 48
      · have h1' : ¬ (48 : Int) ≤ ((s[k]'hlt).toNat : Int) := by omega
        have HD := Lib.hid (run_digN hk hks hpre (fun _ h => by have := h.1; omega))
        clear hpre
        by_cases hd0 : k = at_
        · subst hd0
          have hc : cnt (s.data.toList.drop k) k most = -1 := by { unfold cnt; rw [HD.out, if_pos (.inl (by omega))] }
          have HC := Lib.hid hc
          clear hc HD
          go_wp2_with fail
          go_ret
          exact ⟨by rw [HC.out]; rfl, rfl⟩
        · have hd0' : ((k : Int) == (at_ : Int)) = false := by { rw [beq_eq_false_iff_ne]; omega }
          have has : at_ < s.size := by omega
          have HH := Lib.hid (head_at has)
          by_cases hm : most < k - at_
          · have hm' : (most : Int) < (k : Int) - (at_ : Int) := by omega
            have hc : cnt (s.data.toList.drop at_) at_ most = -1 := by { unfold cnt; rw [HD.out, if_pos (.inr (.inl hm))] }
            have HC := Lib.hid hc
            clear hc HD HH
            go_wp2_with fail
            go_ret
            exact ⟨by rw [HC.out]; rfl, rfl⟩
          · have hm' : ¬ (most : Int) < (k : Int) - (at_ : Int) := by omega
            by_cases h48 : (s[at_]'has).toNat = 48
            · have h48' : (((s[at_]'has).toNat : Int) == 48) = true := by simp [h48]
              have h48b : s[at_]'has = 48 := UInt8.toNat_inj.1 h48
              by_cases h1 : 1 < k - at_
              · have h1' : (1 : Int) < (k : Int) - (at_ : Int) := by omega
                have hc : cnt (s.data.toList.drop at_) at_ most = -1 := by { unfold cnt; rw [HD.out, HH.out, if_pos (.inr (.inr ⟨h48b, h1⟩))] }
                have HC := Lib.hid hc
                clear hc HD HH
                go_wp2_with fail
                go_ret
                exact ⟨by rw [HC.out]; rfl, rfl⟩
              · have h1' : ¬ (1 : Int) < (k : Int) - (at_ : Int) := by omega
                have hc : cnt (s.data.toList.drop at_) at_ most = (k : Int) := by { unfold cnt; rw [HD.out, HH.out, if_neg (by rintro (h | h | h) <;> omega)]; omega }
                have HC := Lib.hid hc
                clear hc HD HH
                go_wp2_with fail
                go_ret
                exact ⟨by rw [HC.out]; rfl, rfl⟩
            · have h48' : (((s[at_]'has).toNat : Int) == 48) = false := by { rw [beq_eq_false_iff_ne]; omega }
              have h48b : s[at_]'has ≠ 48 := fun e => h48 (by rw [e]; rfl)
              have hc : cnt (s.data.toList.drop at_) at_ most = (k : Int) := by { unfold cnt; rw [HD.out, HH.out, if_neg (by rintro (h | h | ⟨h, _⟩) <;> first | omega | exact h48b h)]; omega }
              have HC := Lib.hid hc
              clear hc HD HH
              go_wp2_with fail
              go_ret
              exact ⟨by rw [HC.out]; rfl, rfl⟩
      · have h1' : (48 : Int) ≤ ((s[k]'hlt).toNat : Int) := by omega
        by_cases h2 : 57 < (s[k]'hlt).toNat
        · have h2' : ¬ ((s[k]'hlt).toNat : Int) ≤ 57 := by omega
          have HD := Lib.hid (run_digN hk hks hpre (fun _ h => by have := h.2; omega))
          clear hpre
          by_cases hd0 : k = at_
          · subst hd0
            have hc : cnt (s.data.toList.drop k) k most = -1 := by { unfold cnt; rw [HD.out, if_pos (.inl (by omega))] }
            have HC := Lib.hid hc
            clear hc HD
            go_wp2_with fail
            go_ret
            exact ⟨by rw [HC.out]; rfl, rfl⟩
          · have hd0' : ((k : Int) == (at_ : Int)) = false := by { rw [beq_eq_false_iff_ne]; omega }
            have has : at_ < s.size := by omega
            have HH := Lib.hid (head_at has)
            by_cases hm : most < k - at_
            · have hm' : (most : Int) < (k : Int) - (at_ : Int) := by omega
              have hc : cnt (s.data.toList.drop at_) at_ most = -1 := by { unfold cnt; rw [HD.out, if_pos (.inr (.inl hm))] }
              have HC := Lib.hid hc
              clear hc HD HH
              go_wp2_with fail
              go_ret
              exact ⟨by rw [HC.out]; rfl, rfl⟩
            · have hm' : ¬ (most : Int) < (k : Int) - (at_ : Int) := by omega
              by_cases h48 : (s[at_]'has).toNat = 48
              · have h48' : (((s[at_]'has).toNat : Int) == 48) = true := by simp [h48]
                have h48b : s[at_]'has = 48 := UInt8.toNat_inj.1 h48
                by_cases h1 : 1 < k - at_
                · have h1' : (1 : Int) < (k : Int) - (at_ : Int) := by omega
                  have hc : cnt (s.data.toList.drop at_) at_ most = -1 := by { unfold cnt; rw [HD.out, HH.out, if_pos (.inr (.inr ⟨h48b, h1⟩))] }
                  have HC := Lib.hid hc
                  clear hc HD HH
                  go_wp2_with fail
                  go_ret
                  exact ⟨by rw [HC.out]; rfl, rfl⟩
                · have h1' : ¬ (1 : Int) < (k : Int) - (at_ : Int) := by omega
                  have hc : cnt (s.data.toList.drop at_) at_ most = (k : Int) := by { unfold cnt; rw [HD.out, HH.out, if_neg (by rintro (h | h | h) <;> omega)]; omega }
                  have HC := Lib.hid hc
                  clear hc HD HH
                  go_wp2_with fail
                  go_ret
                  exact ⟨by rw [HC.out]; rfl, rfl⟩
              · have h48' : (((s[at_]'has).toNat : Int) == 48) = false := by { rw [beq_eq_false_iff_ne]; omega }
                have h48b : s[at_]'has ≠ 48 := fun e => h48 (by rw [e]; rfl)
                have hc : cnt (s.data.toList.drop at_) at_ most = (k : Int) := by { unfold cnt; rw [HD.out, HH.out, if_neg (by rintro (h | h | ⟨h, _⟩) <;> first | omega | exact h48b h)]; omega }
                have HC := Lib.hid hc
                clear hc HD HH
                go_wp2_with fail
                go_ret
                exact ⟨by rw [HC.out]; rfl, rfl⟩
        · have h2' : ((s[k]'hlt).toNat : Int) ≤ 57 := by omega
          have hnx : ∀ j (h : j < s.size), at_ ≤ j → j < k + 1 → isDig (s[j]'h) := fun j h h3 h4 => by
            by_cases hjk : j = k
            · subst hjk; exact ⟨by omega, by omega⟩
            · exact hpre j h h3 (by omega)
          have HX := Lib.hid hnx
          clear hnx hpre
          go_wp2_with fail
          exact ⟨⟨k + 1, by simp, by omega, by omega, HX.out, trivial⟩, by simp only [intOf]; omega⟩
    · have hlt' : ¬ ((k : Int) < (s.size : Int)) := by omega
      have HD := Lib.hid (run_digN hk hks hpre (fun h => absurd h hlt))
      clear hpre
      by_cases hd0 : k = at_
      · subst hd0
        have hc : cnt (s.data.toList.drop k) k most = -1 := by { unfold cnt; rw [HD.out, if_pos (.inl (by omega))] }
        have HC := Lib.hid hc
        clear hc HD
        go_wp2_with fail
        go_ret
        exact ⟨by rw [HC.out]; rfl, rfl⟩
      · have hd0' : ((k : Int) == (at_ : Int)) = false := by { rw [beq_eq_false_iff_ne]; omega }
        have has : at_ < s.size := by omega
        have HH := Lib.hid (head_at has)
        by_cases hm : most < k - at_
        · have hm' : (most : Int) < (k : Int) - (at_ : Int) := by omega
          have hc : cnt (s.data.toList.drop at_) at_ most = -1 := by { unfold cnt; rw [HD.out, if_pos (.inr (.inl hm))] }
          have HC := Lib.hid hc
          clear hc HD HH
          go_wp2_with fail
          go_ret
          exact ⟨by rw [HC.out]; rfl, rfl⟩
        · have hm' : ¬ (most : Int) < (k : Int) - (at_ : Int) := by omega
          by_cases h48 : (s[at_]'has).toNat = 48
          · have h48' : (((s[at_]'has).toNat : Int) == 48) = true := by simp [h48]
            have h48b : s[at_]'has = 48 := UInt8.toNat_inj.1 h48
            by_cases h1 : 1 < k - at_
            · have h1' : (1 : Int) < (k : Int) - (at_ : Int) := by omega
              have hc : cnt (s.data.toList.drop at_) at_ most = -1 := by { unfold cnt; rw [HD.out, HH.out, if_pos (.inr (.inr ⟨h48b, h1⟩))] }
              have HC := Lib.hid hc
              clear hc HD HH
              go_wp2_with fail
              go_ret
              exact ⟨by rw [HC.out]; rfl, rfl⟩
            · have h1' : ¬ (1 : Int) < (k : Int) - (at_ : Int) := by omega
              have hc : cnt (s.data.toList.drop at_) at_ most = (k : Int) := by { unfold cnt; rw [HD.out, HH.out, if_neg (by rintro (h | h | h) <;> omega)]; omega }
              have HC := Lib.hid hc
              clear hc HD HH
              go_wp2_with fail
              go_ret
              exact ⟨by rw [HC.out]; rfl, rfl⟩
          · have h48' : (((s[at_]'has).toNat : Int) == 48) = false := by { rw [beq_eq_false_iff_ne]; omega }
            have h48b : s[at_]'has ≠ 48 := fun e => h48 (by rw [e]; rfl)
            have hc : cnt (s.data.toList.drop at_) at_ most = (k : Int) := by { unfold cnt; rw [HD.out, HH.out, if_neg (by rintro (h | h | ⟨h, _⟩) <;> first | omega | exact h48b h)]; omega }
            have HC := Lib.hid hc
            clear hc HD HH
            go_wp2_with fail
            go_ret
            exact ⟨by rw [HC.out]; rfl, rfl⟩
end Go.Proofs.YtmocmkfpblakbaaGreatDoor
