/- The walk of the helper that compares acts: it says yes of equal ones. Condition: the acts lie so. -/
import Derived.Test.YtifdmgloheampaaDoorScriptX
import Derived.BigRegion
namespace Go.Proofs.YtifdmgloheampaaDoor
open Go.RowKit DiskM ScriptM
set_option maxRecDepth 100000 in
set_option maxHeartbeats 4000000 in
theorem acts_any (a b : Option Addr) (n c d : Nat) (xs ys : List ActV) (w : World) (hx : xs.length = n) (hy : ys.length = n) (he : xs.map ActV.abs = ys.map ActV.abs) (hm : n ≤ 1000000) (h1 : RdV w w.heap.size a xs) (h2 : RdV w w.heap.size b ys) :
    Calls Tryd.prog 19 #[.slice a n c, .slice b n d] w fun e w' => e = .returned (.bool true) ∧ Below w.heap.size w w' := by
  have H := Lib.hid (And.intro h1 (And.intro h2 (And.intro hx (And.intro hy he))))
  clear h1 h2 hx hy he
  have hmix : Tryd.prog.follows .mixedOrders = true := by kernel_rfl
  go_enter Tryd.func19, Tryd.ntmps19
  go_wp2_with fail
  go_loopw [5] (fun i wr => ∃ (j : Nat), j ≤ n ∧ i = .int .i64 (j : Int) ∧ Below w.heap.size w wr) (fun i _ => n - (intOf i).toNat)
  case atStart => exact ⟨0, Nat.zero_le _, rfl, Below.refl _ _⟩
  case round =>
    obtain ⟨j, hj, rfl, hbel⟩ := hrel
    by_cases hlt : j < n
    · obtain ⟨v, hv⟩ : ∃ v, xs[j]? = some v := ⟨_, List.getElem?_eq_getElem (by rw [H.out.2.2.1]; exact hlt)⟩
      obtain ⟨u, hu⟩ : ∃ u, ys[j]? = some u := ⟨_, List.getElem?_eq_getElem (by rw [H.out.2.2.2.1]; exact hlt)⟩
      have hvu : v.abs = u.abs := by
        have h := congrArg (fun l => l[j]?) H.out.2.2.2.2
        simp only [List.getElem?_map, hv, hu, Option.map_some, Option.some.injEq] at h
        exact h
      obtain ⟨bx, ox, rfl, hbx, hcx, hokx⟩ := (H.out.1.below hbel).at_ hv
      obtain ⟨by_, oy, rfl, hby, hcy, hoky⟩ := (H.out.2.1.below hbel).at_ hu
      obtain ⟨⟨kd, vn, dn, ka, kn, kc, nm, m⟩, keep⟩ := v
      obtain ⟨⟨kd', vn', dn', ka', kn', kc', nm', m'⟩, keep'⟩ := u
      simp only [ActV.abs, ActC.abs, ScriptM.Act.mk.injEq] at hvu
      obtain ⟨rfl, rfl, rfl, hkk, hnn, rfl⟩ := hvu
      subst hkk
      obtain rfl : nm = nm' := ByteArray.ext (Array.toList_inj.1 hnn)
      have k0 : wr.cell? ⟨bx, ox + j * 6, none⟩ = some (.int .i64 kd) := hcx 0 _ rfl
      have k1 : wr.cell? ⟨bx, ox + j * 6 + 1, none⟩ = some (.int .i64 vn) := hcx 1 _ rfl
      have k2 : wr.cell? ⟨bx, ox + j * 6 + 2, none⟩ = some (.bool dn) := hcx 2 _ rfl
      have k3 : wr.cell? ⟨bx, ox + j * 6 + 3, none⟩ = some (.slice ka kn kc) := hcx 3 _ rfl
      have k4 : wr.cell? ⟨bx, ox + j * 6 + 4, none⟩ = some (.string nm) := hcx 4 _ rfl
      have k5 : wr.cell? ⟨bx, ox + j * 6 + 5, none⟩ = some (.int .u32 (m : Int)) := hcx 5 _ rfl
      have q0 : wr.cell? ⟨by_, oy + j * 6, none⟩ = some (.int .i64 kd) := hcy 0 _ rfl
      have q1 : wr.cell? ⟨by_, oy + j * 6 + 1, none⟩ = some (.int .i64 vn) := hcy 1 _ rfl
      have q2 : wr.cell? ⟨by_, oy + j * 6 + 2, none⟩ = some (.bool dn) := hcy 2 _ rfl
      have q3 : wr.cell? ⟨by_, oy + j * 6 + 3, none⟩ = some (.slice ka' kn' kc') := hcy 3 _ rfl
      have q4 : wr.cell? ⟨by_, oy + j * 6 + 4, none⟩ = some (.string nm) := hcy 4 _ rfl
      have q5 : wr.cell? ⟨by_, oy + j * 6 + 5, none⟩ = some (.int .u32 (m : Int)) := hcy 5 _ rfl
      have hsw := hbel.size
      have hA1 : ∀ (o1 : Obj) {b o : Nat} {v : Value}, b < w.heap.size → wr.cell? ⟨b, o, none⟩ = some v → (wr.alloc o1).cell? ⟨b, o, none⟩ = some v := fun o1 {b o v} hb hc => (((Below.refl wr.heap.size wr).alloc (Nat.le_refl _) _).cell (p := ⟨b, o, none⟩) (Nat.lt_of_lt_of_le hb hsw)).trans hc
      have hA2 : ∀ (o1 o2 : Obj) {b o : Nat} {v : Value}, b < w.heap.size → wr.cell? ⟨b, o, none⟩ = some v → ((wr.alloc o1).alloc o2).cell? ⟨b, o, none⟩ = some v := fun o1 o2 {b o v} hb hc => ((((Below.refl wr.heap.size wr).alloc (Nat.le_refl _) _).alloc (by simp) _).cell (p := ⟨b, o, none⟩) (Nat.lt_of_lt_of_le hb hsw)).trans hc
      have q0a : (wr.alloc (.cells #[.int .i64 0, .int .i64 0, .bool false, .slice none 0 0, .string ⟨#[]⟩, .int .u32 0] 30)).cell? ⟨by_, oy + j * 6, none⟩ = some (.int .i64 kd) := hA1 _ hby q0
      have k0a : (wr.alloc (.cells #[.int .i64 0, .int .i64 0, .bool false, .slice none 0 0, .string ⟨#[]⟩, .int .u32 0] 30)).cell? ⟨bx, ox + j * 6, none⟩ = some (.int .i64 kd) := hA1 _ hbx k0
      have q0b : ((wr.alloc (.cells #[.int .i64 0, .int .i64 0, .bool false, .slice none 0 0, .string ⟨#[]⟩, .int .u32 0] 30)).alloc (.cells #[.int .i64 0, .int .i64 0, .bool false, .slice none 0 0, .string ⟨#[]⟩, .int .u32 0] 30)).cell? ⟨by_, oy + j * 6, none⟩ = some (.int .i64 kd) := hA2 _ _ hby q0
      have k0b : ((wr.alloc (.cells #[.int .i64 0, .int .i64 0, .bool false, .slice none 0 0, .string ⟨#[]⟩, .int .u32 0] 30)).alloc (.cells #[.int .i64 0, .int .i64 0, .bool false, .slice none 0 0, .string ⟨#[]⟩, .int .u32 0] 30)).cell? ⟨bx, ox + j * 6, none⟩ = some (.int .i64 kd) := hA2 _ _ hbx k0
      have q0c : (wr.alloc (.cells #[.int .i64 kd, .int .i64 vn, .bool dn, .slice ka kn kc, .string nm, .int .u32 (m : Int)] 30)).cell? ⟨by_, oy + j * 6, none⟩ = some (.int .i64 kd) := hA1 _ hby q0
      have q0d : ((wr.alloc (.cells #[.int .i64 kd, .int .i64 vn, .bool dn, .slice ka kn kc, .string nm, .int .u32 (m : Int)] 30)).alloc (.cells #[.int .i64 0, .int .i64 0, .bool false, .slice none 0 0, .string ⟨#[]⟩, .int .u32 0] 30)).cell? ⟨by_, oy + j * 6, none⟩ = some (.int .i64 kd) := hA2 _ _ hby q0
      have q0e : ((wr.alloc (.cells #[.int .i64 0, .int .i64 0, .bool false, .slice none 0 0, .string ⟨#[]⟩, .int .u32 0] 30)).alloc (.cells #[.int .i64 kd, .int .i64 vn, .bool dn, .slice ka kn kc, .string nm, .int .u32 (m : Int)] 30)).cell? ⟨by_, oy + j * 6, none⟩ = some (.int .i64 kd) := hA2 _ _ hby q0
      have q1a : (wr.alloc (.cells #[.int .i64 0, .int .i64 0, .bool false, .slice none 0 0, .string ⟨#[]⟩, .int .u32 0] 30)).cell? ⟨by_, oy + j * 6 + 1, none⟩ = some (.int .i64 vn) := hA1 _ hby q1
      have k1a : (wr.alloc (.cells #[.int .i64 0, .int .i64 0, .bool false, .slice none 0 0, .string ⟨#[]⟩, .int .u32 0] 30)).cell? ⟨bx, ox + j * 6 + 1, none⟩ = some (.int .i64 vn) := hA1 _ hbx k1
      have q1b : ((wr.alloc (.cells #[.int .i64 0, .int .i64 0, .bool false, .slice none 0 0, .string ⟨#[]⟩, .int .u32 0] 30)).alloc (.cells #[.int .i64 0, .int .i64 0, .bool false, .slice none 0 0, .string ⟨#[]⟩, .int .u32 0] 30)).cell? ⟨by_, oy + j * 6 + 1, none⟩ = some (.int .i64 vn) := hA2 _ _ hby q1
      have k1b : ((wr.alloc (.cells #[.int .i64 0, .int .i64 0, .bool false, .slice none 0 0, .string ⟨#[]⟩, .int .u32 0] 30)).alloc (.cells #[.int .i64 0, .int .i64 0, .bool false, .slice none 0 0, .string ⟨#[]⟩, .int .u32 0] 30)).cell? ⟨bx, ox + j * 6 + 1, none⟩ = some (.int .i64 vn) := hA2 _ _ hbx k1
      have q1c : (wr.alloc (.cells #[.int .i64 kd, .int .i64 vn, .bool dn, .slice ka kn kc, .string nm, .int .u32 (m : Int)] 30)).cell? ⟨by_, oy + j * 6 + 1, none⟩ = some (.int .i64 vn) := hA1 _ hby q1
      have q1d : ((wr.alloc (.cells #[.int .i64 kd, .int .i64 vn, .bool dn, .slice ka kn kc, .string nm, .int .u32 (m : Int)] 30)).alloc (.cells #[.int .i64 0, .int .i64 0, .bool false, .slice none 0 0, .string ⟨#[]⟩, .int .u32 0] 30)).cell? ⟨by_, oy + j * 6 + 1, none⟩ = some (.int .i64 vn) := hA2 _ _ hby q1
      have q1e : ((wr.alloc (.cells #[.int .i64 0, .int .i64 0, .bool false, .slice none 0 0, .string ⟨#[]⟩, .int .u32 0] 30)).alloc (.cells #[.int .i64 kd, .int .i64 vn, .bool dn, .slice ka kn kc, .string nm, .int .u32 (m : Int)] 30)).cell? ⟨by_, oy + j * 6 + 1, none⟩ = some (.int .i64 vn) := hA2 _ _ hby q1
      have q2a : (wr.alloc (.cells #[.int .i64 0, .int .i64 0, .bool false, .slice none 0 0, .string ⟨#[]⟩, .int .u32 0] 30)).cell? ⟨by_, oy + j * 6 + 2, none⟩ = some (.bool dn) := hA1 _ hby q2
      have k2a : (wr.alloc (.cells #[.int .i64 0, .int .i64 0, .bool false, .slice none 0 0, .string ⟨#[]⟩, .int .u32 0] 30)).cell? ⟨bx, ox + j * 6 + 2, none⟩ = some (.bool dn) := hA1 _ hbx k2
      have q2b : ((wr.alloc (.cells #[.int .i64 0, .int .i64 0, .bool false, .slice none 0 0, .string ⟨#[]⟩, .int .u32 0] 30)).alloc (.cells #[.int .i64 0, .int .i64 0, .bool false, .slice none 0 0, .string ⟨#[]⟩, .int .u32 0] 30)).cell? ⟨by_, oy + j * 6 + 2, none⟩ = some (.bool dn) := hA2 _ _ hby q2
      have k2b : ((wr.alloc (.cells #[.int .i64 0, .int .i64 0, .bool false, .slice none 0 0, .string ⟨#[]⟩, .int .u32 0] 30)).alloc (.cells #[.int .i64 0, .int .i64 0, .bool false, .slice none 0 0, .string ⟨#[]⟩, .int .u32 0] 30)).cell? ⟨bx, ox + j * 6 + 2, none⟩ = some (.bool dn) := hA2 _ _ hbx k2
      have q2c : (wr.alloc (.cells #[.int .i64 kd, .int .i64 vn, .bool dn, .slice ka kn kc, .string nm, .int .u32 (m : Int)] 30)).cell? ⟨by_, oy + j * 6 + 2, none⟩ = some (.bool dn) := hA1 _ hby q2
      have q2d : ((wr.alloc (.cells #[.int .i64 kd, .int .i64 vn, .bool dn, .slice ka kn kc, .string nm, .int .u32 (m : Int)] 30)).alloc (.cells #[.int .i64 0, .int .i64 0, .bool false, .slice none 0 0, .string ⟨#[]⟩, .int .u32 0] 30)).cell? ⟨by_, oy + j * 6 + 2, none⟩ = some (.bool dn) := hA2 _ _ hby q2
      have q2e : ((wr.alloc (.cells #[.int .i64 0, .int .i64 0, .bool false, .slice none 0 0, .string ⟨#[]⟩, .int .u32 0] 30)).alloc (.cells #[.int .i64 kd, .int .i64 vn, .bool dn, .slice ka kn kc, .string nm, .int .u32 (m : Int)] 30)).cell? ⟨by_, oy + j * 6 + 2, none⟩ = some (.bool dn) := hA2 _ _ hby q2
      have q3a : (wr.alloc (.cells #[.int .i64 0, .int .i64 0, .bool false, .slice none 0 0, .string ⟨#[]⟩, .int .u32 0] 30)).cell? ⟨by_, oy + j * 6 + 3, none⟩ = some (.slice ka' kn' kc') := hA1 _ hby q3
      have k3a : (wr.alloc (.cells #[.int .i64 0, .int .i64 0, .bool false, .slice none 0 0, .string ⟨#[]⟩, .int .u32 0] 30)).cell? ⟨bx, ox + j * 6 + 3, none⟩ = some (.slice ka kn kc) := hA1 _ hbx k3
      have q3b : ((wr.alloc (.cells #[.int .i64 0, .int .i64 0, .bool false, .slice none 0 0, .string ⟨#[]⟩, .int .u32 0] 30)).alloc (.cells #[.int .i64 0, .int .i64 0, .bool false, .slice none 0 0, .string ⟨#[]⟩, .int .u32 0] 30)).cell? ⟨by_, oy + j * 6 + 3, none⟩ = some (.slice ka' kn' kc') := hA2 _ _ hby q3
      have k3b : ((wr.alloc (.cells #[.int .i64 0, .int .i64 0, .bool false, .slice none 0 0, .string ⟨#[]⟩, .int .u32 0] 30)).alloc (.cells #[.int .i64 0, .int .i64 0, .bool false, .slice none 0 0, .string ⟨#[]⟩, .int .u32 0] 30)).cell? ⟨bx, ox + j * 6 + 3, none⟩ = some (.slice ka kn kc) := hA2 _ _ hbx k3
      have q3c : (wr.alloc (.cells #[.int .i64 kd, .int .i64 vn, .bool dn, .slice ka kn kc, .string nm, .int .u32 (m : Int)] 30)).cell? ⟨by_, oy + j * 6 + 3, none⟩ = some (.slice ka' kn' kc') := hA1 _ hby q3
      have q3d : ((wr.alloc (.cells #[.int .i64 kd, .int .i64 vn, .bool dn, .slice ka kn kc, .string nm, .int .u32 (m : Int)] 30)).alloc (.cells #[.int .i64 0, .int .i64 0, .bool false, .slice none 0 0, .string ⟨#[]⟩, .int .u32 0] 30)).cell? ⟨by_, oy + j * 6 + 3, none⟩ = some (.slice ka' kn' kc') := hA2 _ _ hby q3
      have q3e : ((wr.alloc (.cells #[.int .i64 0, .int .i64 0, .bool false, .slice none 0 0, .string ⟨#[]⟩, .int .u32 0] 30)).alloc (.cells #[.int .i64 kd, .int .i64 vn, .bool dn, .slice ka kn kc, .string nm, .int .u32 (m : Int)] 30)).cell? ⟨by_, oy + j * 6 + 3, none⟩ = some (.slice ka' kn' kc') := hA2 _ _ hby q3
      have q4a : (wr.alloc (.cells #[.int .i64 0, .int .i64 0, .bool false, .slice none 0 0, .string ⟨#[]⟩, .int .u32 0] 30)).cell? ⟨by_, oy + j * 6 + 4, none⟩ = some (.string nm) := hA1 _ hby q4
      have k4a : (wr.alloc (.cells #[.int .i64 0, .int .i64 0, .bool false, .slice none 0 0, .string ⟨#[]⟩, .int .u32 0] 30)).cell? ⟨bx, ox + j * 6 + 4, none⟩ = some (.string nm) := hA1 _ hbx k4
      have q4b : ((wr.alloc (.cells #[.int .i64 0, .int .i64 0, .bool false, .slice none 0 0, .string ⟨#[]⟩, .int .u32 0] 30)).alloc (.cells #[.int .i64 0, .int .i64 0, .bool false, .slice none 0 0, .string ⟨#[]⟩, .int .u32 0] 30)).cell? ⟨by_, oy + j * 6 + 4, none⟩ = some (.string nm) := hA2 _ _ hby q4
      have k4b : ((wr.alloc (.cells #[.int .i64 0, .int .i64 0, .bool false, .slice none 0 0, .string ⟨#[]⟩, .int .u32 0] 30)).alloc (.cells #[.int .i64 0, .int .i64 0, .bool false, .slice none 0 0, .string ⟨#[]⟩, .int .u32 0] 30)).cell? ⟨bx, ox + j * 6 + 4, none⟩ = some (.string nm) := hA2 _ _ hbx k4
      have q4c : (wr.alloc (.cells #[.int .i64 kd, .int .i64 vn, .bool dn, .slice ka kn kc, .string nm, .int .u32 (m : Int)] 30)).cell? ⟨by_, oy + j * 6 + 4, none⟩ = some (.string nm) := hA1 _ hby q4
      have q4d : ((wr.alloc (.cells #[.int .i64 kd, .int .i64 vn, .bool dn, .slice ka kn kc, .string nm, .int .u32 (m : Int)] 30)).alloc (.cells #[.int .i64 0, .int .i64 0, .bool false, .slice none 0 0, .string ⟨#[]⟩, .int .u32 0] 30)).cell? ⟨by_, oy + j * 6 + 4, none⟩ = some (.string nm) := hA2 _ _ hby q4
      have q4e : ((wr.alloc (.cells #[.int .i64 0, .int .i64 0, .bool false, .slice none 0 0, .string ⟨#[]⟩, .int .u32 0] 30)).alloc (.cells #[.int .i64 kd, .int .i64 vn, .bool dn, .slice ka kn kc, .string nm, .int .u32 (m : Int)] 30)).cell? ⟨by_, oy + j * 6 + 4, none⟩ = some (.string nm) := hA2 _ _ hby q4
      have q5a : (wr.alloc (.cells #[.int .i64 0, .int .i64 0, .bool false, .slice none 0 0, .string ⟨#[]⟩, .int .u32 0] 30)).cell? ⟨by_, oy + j * 6 + 5, none⟩ = some (.int .u32 (m : Int)) := hA1 _ hby q5
      have k5a : (wr.alloc (.cells #[.int .i64 0, .int .i64 0, .bool false, .slice none 0 0, .string ⟨#[]⟩, .int .u32 0] 30)).cell? ⟨bx, ox + j * 6 + 5, none⟩ = some (.int .u32 (m : Int)) := hA1 _ hbx k5
      have q5b : ((wr.alloc (.cells #[.int .i64 0, .int .i64 0, .bool false, .slice none 0 0, .string ⟨#[]⟩, .int .u32 0] 30)).alloc (.cells #[.int .i64 0, .int .i64 0, .bool false, .slice none 0 0, .string ⟨#[]⟩, .int .u32 0] 30)).cell? ⟨by_, oy + j * 6 + 5, none⟩ = some (.int .u32 (m : Int)) := hA2 _ _ hby q5
      have k5b : ((wr.alloc (.cells #[.int .i64 0, .int .i64 0, .bool false, .slice none 0 0, .string ⟨#[]⟩, .int .u32 0] 30)).alloc (.cells #[.int .i64 0, .int .i64 0, .bool false, .slice none 0 0, .string ⟨#[]⟩, .int .u32 0] 30)).cell? ⟨bx, ox + j * 6 + 5, none⟩ = some (.int .u32 (m : Int)) := hA2 _ _ hbx k5
      have q5c : (wr.alloc (.cells #[.int .i64 kd, .int .i64 vn, .bool dn, .slice ka kn kc, .string nm, .int .u32 (m : Int)] 30)).cell? ⟨by_, oy + j * 6 + 5, none⟩ = some (.int .u32 (m : Int)) := hA1 _ hby q5
      have q5d : ((wr.alloc (.cells #[.int .i64 kd, .int .i64 vn, .bool dn, .slice ka kn kc, .string nm, .int .u32 (m : Int)] 30)).alloc (.cells #[.int .i64 0, .int .i64 0, .bool false, .slice none 0 0, .string ⟨#[]⟩, .int .u32 0] 30)).cell? ⟨by_, oy + j * 6 + 5, none⟩ = some (.int .u32 (m : Int)) := hA2 _ _ hby q5
      have q5e : ((wr.alloc (.cells #[.int .i64 0, .int .i64 0, .bool false, .slice none 0 0, .string ⟨#[]⟩, .int .u32 0] 30)).alloc (.cells #[.int .i64 kd, .int .i64 vn, .bool dn, .slice ka kn kc, .string nm, .int .u32 (m : Int)] 30)).cell? ⟨by_, oy + j * 6 + 5, none⟩ = some (.int .u32 (m : Int)) := hA2 _ _ hby q5
      clear hA1 hA2
      have HH := Lib.hid (And.intro hbel (And.intro hokx hoky))
      have hlt' : (j : Int) < (n : Int) := by omega
      clear hbel hokx hoky hv hu hcx hcy
      go_upto_region 6 with fail
      have hst : ∀ o1 o2, Below wr.heap.size wr ((wr.alloc o1).alloc o2).drew := fun o1 o2 => (((Below.refl _ _).alloc (Nat.le_refl _) _).alloc (by simp) _).drew
      have st1 := run_string_b (((wr.alloc (.cells #[.int .i64 kd, .int .i64 vn, .bool dn, .slice ka kn kc, .string nm, .int .u32 (m : Int)] 30)).alloc (.cells #[.int .i64 kd, .int .i64 vn, .bool dn, .slice ka' kn' kc', .string nm, .int .u32 (m : Int)] 30)).drew) _ ka kn kc keep (HH.out.2.1.rd.below ((hst _ _).mono HH.out.1.size)) HH.out.2.1.len
      have st2 := run_string_b (((wr.alloc (.cells #[.int .i64 kd, .int .i64 vn, .bool dn, .slice ka kn kc, .string nm, .int .u32 (m : Int)] 30)).alloc (.cells #[.int .i64 kd, .int .i64 vn, .bool dn, .slice ka' kn' kc', .string nm, .int .u32 (m : Int)] 30)).drew) _ ka' kn' kc' keep ((HH.out.2.2.rd.below ((hst _ _).mono HH.out.1.size))) HH.out.2.2.len
      have st3 := run_string_b (((wr.alloc (.cells #[.int .i64 kd, .int .i64 vn, .bool dn, .slice ka' kn' kc', .string nm, .int .u32 (m : Int)] 30)).alloc (.cells #[.int .i64 kd, .int .i64 vn, .bool dn, .slice ka kn kc, .string nm, .int .u32 (m : Int)] 30)).drew) _ ka kn kc keep ((HH.out.2.1.rd.below ((hst _ _).mono HH.out.1.size))) HH.out.2.1.len
      have st4 := run_string_b (((wr.alloc (.cells #[.int .i64 kd, .int .i64 vn, .bool dn, .slice ka' kn' kc', .string nm, .int .u32 (m : Int)] 30)).alloc (.cells #[.int .i64 kd, .int .i64 vn, .bool dn, .slice ka kn kc, .string nm, .int .u32 (m : Int)] 30)).drew) _ ka' kn' kc' keep ((HH.out.2.2.rd.below ((hst _ _).mono HH.out.1.size))) HH.out.2.2.len
      have HB := Lib.hid hst
      clear hst
      go_region
      all_goals (go_wp2_with fail)
      all_goals (go_roundw)
      all_goals first
        | exact ⟨j + 1, by omega, by go_num, Below.next0 HH.out.1 (HB.out _ _)⟩
        | (simp [intOf]; omega)
    · obtain rfl : j = n := by omega
      have hlt' : ¬ ((j : Int) < (j : Int)) := by omega
      go_wp2_with fail
      go_ret
      exact ⟨rfl, hbel⟩
end Go.Proofs.YtifdmgloheampaaDoor
