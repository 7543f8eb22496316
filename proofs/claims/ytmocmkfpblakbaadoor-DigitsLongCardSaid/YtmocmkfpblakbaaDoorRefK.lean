/- The walk of the document's Text. Condition: the words lie as a slice of words, not too long. -/
import Derived.Test.YtmocmkfpblakbaaDoorRefI
import Derived.Test.YtmocmkfpblakbaaDoorRefJ
import Derived.Test.YtmocmkfpblakbaaDoorRefM1
namespace Go.Proofs.YtmocmkfpblakbaaDoor
open Go.RowKit WordsM DecM

theorem refdec_dig (a : Option Addr) (n c v : Nat) (w : World) (h : DigIn w a n c v) (hn : n ≤ 1000000) :
    Calls Tryd.prog 9 #[.slice a n c] w fun e w' => e = .returned (sv (dec v)) ∧ Below w.heap.size w w' := by
  have h1 := refdec_any a n c (dig (2 ^ 32) v) w h.len hn h.cap h.most h.rd.rdN (show NatM.small (dig (2 ^ 32) v) from dig_low (B := 2 ^ 32) (by decide) v)
  rwa [val_nat, val_dig (by decide)] at h1
theorem words_one (w : World) (m : Nat) (hm : m < 18446744073709551616) (T : TypeId) : WordsIn (w.alloc (.cells #[.int .u64 (m : Int)] T)) (some ⟨w.heap.size, 0, none⟩) 1 1 [m] :=
  ⟨rfl, Nat.le_refl _, by omega, fun x hx => by rw [List.mem_singleton] at hx; subst hx; exact hm, .inr ⟨w.heap.size, 0, rfl, box_lt _ _, fun j x hx => by
    cases j with
    | zero => simp only [List.getElem?_cons_zero, Option.some.injEq] at hx; subst hx; rw [cell_of_row _ _ _ _ _ _ (heap_alloc_new _ _)]; rfl
    | succ j => simp at hx⟩⟩
/-- the text of a number, "" where it is none -/
def textOut (neg : Bool) (exp : Int) (ls : List Nat) : List UInt8 := if IsNum neg exp ls then textN neg (val (2 ^ 64) ls) exp else []
theorem IsNum.exp {neg : Bool} {exp : Int} {ls : List Nat} (h : IsNum neg exp ls) : -65536 ≤ exp ∧ exp ≤ 65536 ∧ ls.length ≤ 64 := by
  unfold IsNum at h
  split at h
  · rename_i h0
    rw [h0, h.2]; simp
  · exact ⟨h.2.2.2.1, h.2.2.2.2, h.2.1⟩
theorem dec_words {w : World} {a : Option Addr} {n c : Nat} {ls : List Nat} (h : WordsIn w a n c ls) (hn : n ≤ 64) : (dec (val (2 ^ 64) ls)).length ≤ 1281 := by
  have h1 := NatM.dec_val_len (NatM.halves_small h.low)
  rw [halves_val, NatM.halves_len, h.len] at h1
  exact Nat.le_trans h1 (by omega)
end Go.Proofs.YtmocmkfpblakbaaDoor
