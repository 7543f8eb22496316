/- Own law: a region that draws its order and only reads, inside a round of a range over a function: walked once, in the order of the text. Condition: none of its operations is a defer. -/
import Derived.Sort.QuietTacIn
import Derived.RangeFuncCalls
namespace Go.Proofs.YtifdmgloheampaaDoor
open Go

section
variable {F : Fence} {n : Nat} {P : Program} {ops : Array Oper} {Q : Exit → Act → World → Prop} {md : Region.Mode}
def noDefer (ops : Array Oper) : Bool := ops.toList.all fun o => match o.op with | .defer _ => false | _ => true
theorem noDefer_spec (h : noDefer ops = true) {i : Nat} {o : Oper} (ho : ops[i]? = some o) : ∀ c, o.op ≠ .defer c := by
  intro c hc
  have := List.all_eq_true.1 h o (by rw [Array.mem_toList_iff]; exact Array.mem_of_getElem? ho)
  rw [hc] at this
  cases this
theorem Oper.wpIn_round {o : Oper} (l : Nat) (hro : F.round = none) (hd : ∀ c, o.op ≠ .defer c) {K : Act → World → Prop} {a : Act} {w : World} (h : o.wpIn F n P a w K Q) : o.wpIn (F.inRound l) n P a w K Q := by
  unfold Oper.wpIn at h ⊢
  refine ⟨h.1, ?_⟩
  have h2 := h.2
  rw [Fence.inRound_round, Oper.semAt_some l _ o hd]
  rw [hro, Oper.semAt_none] at h2
  generalize (execOp a.eval o).run P w = r at h2
  cases r with
  | ok x w' => cases x <;> exact h2
  | halt x w' => cases x <;> exact h2
theorem wpOpIn_round (l : Nat) (hro : F.round = none) (hd : noDefer ops = true) {i : Nat} {K K' : Act → World → Prop} (hK : ∀ a w, K a w → K' a w) {a : Act} {w : World} (h : wpOpIn F n P ops Q i K a w) : wpOpIn (F.inRound l) n P ops Q i K' a w := by
  have h := wpOpIn_mono hK h
  unfold wpOpIn at h ⊢
  split
  · next ho => simpa only [ho] using h
  · next o ho =>
    simp only [ho] at h
    split
    · next hw => rw [if_pos hw] at h; exact Oper.wpIn_round l hro (noDefer_spec hd ho) h
    · next hw => rw [if_neg hw] at h; exact h
theorem wpAnyIn_round (l : Nat) (hro : F.round = none) (hd : noDefer ops = true) : ∀ (fuel : Nat) (listed : Array Bool) (a : Act) (w : World), wpAnyIn F n P md ops Q fuel listed a w → wpAnyIn (F.inRound l) n P md ops Q fuel listed a w
  | 0, _, _, _, h => h
  | fuel + 1, _, _, _, h => ⟨h.1, fun i hi => wpOpIn_round l hro hd (wpAnyIn_round l hro hd fuel _) (h.2 i hi)⟩
theorem wpIn_region_quiet_round {id k : Nat} {a : Act} {w : World} {l : List Oper} (hro : F.round = none) (hd : noDefer l.toArray = true) (hm : P.follows .mixedOrders = true) (hB : Region.lexB .any l.toArray = true)
    (h : wpQuietIn F n P l.toArray (fun w' => ∃ n, w' = w.drewN n) (fun a' => ∀ w', (∃ n, w' = w.drewN n) → Q .normal a' w') l a) : (Code.region id l.toArray true).wpIn (F.inRound k) n P Q a w := by
  have hB' := hB
  simp only [Region.lexB, Bool.and_eq_true] at hB'
  refine wpIn_region_any hm (wpAnyIn_round k hro hd _ _ _ _ ?_)
  refine wpAnyIn_of_quiet (C := fun w' => ∃ n, w' = w.drewN n) (Q := fun a' => ∀ w', (∃ n, w' = w.drewN n) → Q .normal a' w') hro (fun _ w' hw' h => h w' hw') _ _ _ _ ⟨1, rfl⟩ ?_
  have := wpAnyQIn_lex (F := F) (n := n) (C := fun w' => ∃ n, w' = w.drewN n) (md := .any) hB'.1 l.toArray.toList 0 (Array.replicate l.toArray.size false) a (by simp) (by simpa using hB'.2) (by simpa using h)
  simpa using this
end

end Go.Proofs.YtifdmgloheampaaDoor
