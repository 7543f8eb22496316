/- The walk of the law's light. Condition: the acts lie so. -/
import Derived.Test.YtifdmgloheampaaDoorScriptZ
namespace Go.Proofs.YtifdmgloheampaaDoor
open Go.RowKit DiskM ScriptM
def LightIs (n : Nat) (e : Ending) : Prop := ∃ b : Bool, e = .returned (.bool b) ∧ (b = true → n ≤ 40)
set_option maxRecDepth 100000 in
set_option maxHeartbeats 4000000 in
theorem light_any (a : Option Addr) (n c : Nat) (xs : List ActV) (w : World) (hn : xs.length = n) (hm : n ≤ 9223372036854775807) (h : RdV w w.heap.size a xs) :
    Calls Tryd.prog 9 #[.slice a n c] w fun e w' => LightIs n e ∧ w = w' := by
  have H := Lib.hid (And.intro h hn)
  clear h hn
  by_cases h40 : 40 < n
  · have h40' : (40 : Int) < (n : Int) := by omega
    go_enter Tryd.func9, Tryd.ntmps9
    go_wp2_with fail
    go_ret
    exact ⟨⟨false, rfl, fun h => Bool.noConfusion h⟩, rfl⟩
  have h40' : ¬ ((40 : Int) < (n : Int)) := by omega
  go_enter Tryd.func9, Tryd.ntmps9
  go_wp2_with fail
  go_loop [3] (fun i => ∃ (j : Nat), j ≤ n ∧ i = .int .i64 (j : Int)) (fun i => n - (intOf i).toNat)
  case atStart => exact ⟨0, Nat.zero_le _, rfl⟩
  case round =>
    obtain ⟨j, hj, rfl⟩ := hrel
    by_cases hlt : j < n
    · obtain ⟨v, hv⟩ : ∃ v, xs[j]? = some v := ⟨_, List.getElem?_eq_getElem (by rw [H.out.2]; exact hlt)⟩
      obtain ⟨b, o, rfl, hb, hc, hok⟩ := H.out.1.at_ hv
      obtain ⟨⟨kd, vn, dn, ka, kn, kc, nm, m⟩, keep⟩ := v
      have k3 : w.cell? ⟨b, o + j * 6 + 3, none⟩ = some (.slice ka kn kc) := hc 3 _ rfl
      have k4 : w.cell? ⟨b, o + j * 6 + 4, none⟩ = some (.string nm) := hc 4 _ rfl
      have hlt' : (j : Int) < (n : Int) := by omega
      clear hc hok hv
      by_cases c1 : (40 : Int) < (nm.size : Int)
      · go_wp2_with fail
        go_ret
        exact ⟨⟨false, rfl, fun h => Bool.noConfusion h⟩, rfl⟩
      · by_cases c2 : (40 : Int) < (kn : Int)
        · go_wp2_with fail
          go_ret
          exact ⟨⟨false, rfl, fun h => Bool.noConfusion h⟩, rfl⟩
        · go_wp2_with fail
          go_round
          case rel => exact ⟨j + 1, by omega, by go_num⟩
          case measure => simp [intOf]; omega
    · obtain rfl : j = n := by omega
      have hlt' : ¬ ((j : Int) < (j : Int)) := by omega
      go_wp2_with fail
      go_ret
      exact ⟨⟨true, rfl, fun _ => by omega⟩, rfl⟩
end Go.Proofs.YtifdmgloheampaaDoor
