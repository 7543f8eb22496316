/- The walks of the document's Same and Right. Condition: the words lie as slices of words. -/
import Derived.Test.YtmocmkfpblakbaaDoorNumB
namespace Go.Proofs.YtmocmkfpblakbaaDoor
open Go.RowKit WordsM

theorem trim_full {ls : List Nat} {k x : Nat} (hl : ls.length = k + 1) (hx : ls[k]? = some x) : (trimL ls).length = ls.length ↔ x ≠ 0 := by
  have he : ls = ls.take k ++ [x] := by
    have h1 := List.take_add_one (l := ls) (i := k)
    rw [hx, Option.toList_some, ← hl, List.take_length] at h1
    exact h1
  constructor
  · rintro h rfl
    rw [he, trimL_snoc_zero, ← he] at h
    have := trim_len (ls.take k)
    rw [List.length_take] at this
    omega
  · intro h
    rw [he, trimL_snoc _ h]
end Go.Proofs.YtmocmkfpblakbaaDoor
