/- append onto a row of bytes of the call's own, inside a fence. No condition. -/
import Derived.Test.YtmocmkfpblakbaaDoorOwn
import Derived.OwnWalkIn
namespace Go.Proofs.YtmocmkfpblakbaaDoor
open Go.RowKit
section
variable {F : Fence} {k : Nat} {o : Oper} {act : Act} {Q : Exit → Act → World → Prop}
theorem wpListIn_append_b {ops : Array Oper} {rest : List Oper} (hgd : o.guard = none) (s x : Operand) (ho : o.op = .call { callee := .builtin .append, args := #[s, x], argTypes := #[25, 25] })
    (w0 w : World) (B : Nat) (hb0 : Below B w0 w) (hB : B ≤ w.heap.size) (a : Option Addr) (n c : Nat) (bs : List UInt8) (hs : act.eval s = .slice a n c) (hown : Own w B a n c bs)
    (B2 : Nat) (A : Option Addr) (m d : Nat) (cs : List UInt8) (hx : act.eval x = .slice A m d) (hr : Rd w B2 A cs) (hm : cs.length = m) (N : Nat) (hN : n + m = N) (hsum : N ≤ 140737488355328)
    (h : ∀ a' c' w', Own w' B a' N c' (bs ++ cs) → w.grownBy w' (a.map (·.block)) → Below B w0 w' → (a'.map (·.block) = a.map (·.block) ∨ a'.map (·.block) = some w.heap.size) → wpListIn F k Tryd.prog ops Q rest (act.put o.dst (.slice a' N c')) w') : wpListIn F k Tryd.prog ops Q (o :: rest) act w := by
  refine wpListIn_plain hgd fun K hK' => ?_
  obtain ⟨a', c', w', hrun, h1, h2, h3, h4⟩ := run_append_b w0 w o.type B hb0 hB a n c bs hown B2 A m d cs hr hm N hN hsum
  unfold Oper.wpIn
  refine ⟨?_, ?_⟩
  · simp [Oper.about, ho, resolve, Target.leads, Sem.run_pure]
  · rw [Oper.semAt_plain F _ _ (by rw [ho]; intro c hc'; cases hc')]
    simp [execOp, ho, resolve, invoke, builtin, hs, hx, hrun, Result.andThen]
    exact hK' _ _ (h a' c' w' h1 h2 h3 h4)
end
end Go.Proofs.YtmocmkfpblakbaaDoor
