/- Own law: a region that draws its order, as XFlat's, and whose operations may read a slot that the region itself fills later on: an operation that is not yet done has not turned its slot. Condition: no operation writes into memory that was there. -/
import Derived.Test.YtmocmkfpblakbaaDoorFlat
namespace Go.Proofs.YtmocmkfpblakbaaDoor
open Go Go.RowKit

section
variable {P : Program} {ops : Array Oper}
/-- as FlatStep; 'und': what is not yet done, closed upwards, the operation itself among it -/
def FlatStepU (P : Program) (ops : Array Oper) (C : World → Prop) (V : Nat → Value → World → Prop) (a0 : Act) (k : Nat) (o : Oper) : Prop :=
  ∀ a w (und : Nat → Prop), C w → Agree ops a0 a → (∀ i ∈ depsOf o, V i (slotOf ops a i) w) → und k → (∀ (j : Nat) o, ops[j]? = some o → (∃ d ∈ depsOf o, und d) → und j) → (∀ (j : Nat) o t, ops[j]? = some o → und j → o.dst = some t → a.tmps[t]? = a0.tmps[t]?) →
    if Region.wanted o (yielded ops a.tmps) then FlatUpon P (V k) w ((execOp a.eval o).run P w) else V k undef w
def FlatAllU (P : Program) (ops : Array Oper) (C : World → Prop) (V : Nat → Value → World → Prop) (a0 : Act) : List Oper → Nat → Prop
  | [], _ => True
  | o :: r, k => FlatStepU P ops C V a0 k o ∧ FlatAllU P ops C V a0 r (k + 1)
theorem FlatAllU.at_ {C : World → Prop} {V : Nat → Value → World → Prop} {a0 : Act} (l : List Oper) : ∀ (k i : Nat) (o : Oper), FlatAllU P ops C V a0 l k → l[i]? = some o → FlatStepU P ops C V a0 (k + i) o := by
  induction l with
  | nil => intro k i o _ ho; simp at ho
  | cons x r ih =>
    intro k i o h ho
    cases i with
    | zero =>
      simp only [List.getElem?_cons_zero, Option.some.injEq] at ho
      subst ho
      exact h.1
    | succ i =>
      have := ih (k + 1) i o h.2 (by simpa using ho)
      rwa [show k + 1 + i = k + (i + 1) by omega] at this
variable {F : Fence} {n : Nat} {Q : Exit → Act → World → Prop}
/-- what holds while the operations come up -/
structure FlatInvU (ops : Array Oper) (C : World → Prop) (V : Nat → Value → World → Prop) (a0 : Act) (listed : Array Bool) (a : Act) (w : World) : Prop where
  cls : C w
  agree : Agree ops a0 a
  size : listed.size = ops.size
  vals : ∀ j, listed.getD j false = true → V j (slotOf ops a j) w
  und : ∀ (j : Nat) (o : Oper) (t : Tmp), ops[j]? = some o → listed.getD j false = false → o.dst = some t → a.tmps[t]? = a0.tmps[t]?
  closed : ∀ (j : Nat) (o : Oper), ops[j]? = some o → listed.getD j false = true → ∀ d ∈ depsOf o, listed.getD d false = true

theorem wpAnyIn_flatU (hF1 : ∀ f, F.fn f) (hF2 : F.depth = none) (hF3 : ∀ m f args w R, Calls P f args w R → CallsIn F m P f args w R) (C : World → Prop) (hC : ∀ w w', C w → Below w.heap.size w w' → C w') (V : Nat → Value → World → Prop) (hV : ∀ i v w w', V i v w → Below w.heap.size w w' → V i v w') (a0 : Act) (hB : flatB ops.toList a0.tmps.size = true)
    (step : FlatAllU P ops C V a0 ops.toList 0) (fin : ∀ vs w, C w → (∀ j, j < ops.size → V j (vs j) w) → Q .normal (putAll vs ops.toList 0 a0) w) :
    ∀ (fuel : Nat) (listed : Array Bool) (a : Act) (w : World), listed.toList.count false ≤ fuel → FlatInvU ops C V a0 listed a w → wpAnyIn F n P .any ops Q fuel listed a w := by
  obtain ⟨hd1, hd2, hd3, hd4⟩ := flat_spec hB
  have done : ∀ (listed : Array Bool) (a : Act) (w : World), (∀ j, j < ops.size → listed.getD j false = true) → FlatInvU ops C V a0 listed a w → Q .normal a w := by
    intro listed a w hall inv
    have := fin (slotOf ops a) w inv.cls fun j hj => inv.vals j (hall j hj)
    rwa [putAll_eq a ops.toList 0 (slotOf ops a) a0 (fun j o ho => ?_) inv.agree.1.symm inv.agree.2.1.symm (fun t ht => (inv.agree.2.2 t ht).symm)] at this
    obtain ⟨t, h1, h2⟩ := hd1 j o ho
    refine ⟨t, h1, by rw [inv.agree.2.1]; exact h2, ?_⟩
    have ho' : ops[j]? = some o := by rw [← Array.getElem?_toList]; exact ho
    unfold slotOf
    rw [Nat.zero_add, ho']
    simp [h1]
  have none_ready : ∀ (listed : Array Bool), listed.size = ops.size → Region.ready .any ops listed = [] → ∀ j, j < ops.size → listed.getD j false = true := by
    intro listed hz hr j
    induction j using Nat.strongRecOn with
    | ind j ih =>
      intro hj
      cases hb : listed.getD j false with
      | true => rfl
      | false =>
        exfalso
        have hjl : j < listed.size := by omega
        have hb' : listed.getD j true = false := by
          rw [Array.getD_eq_getD_getElem?, Array.getElem?_eq_getElem hjl] at hb ⊢
          exact hb
        have ho : ops[j]? = some ops[j] := Array.getElem?_eq_getElem hj
        have : j ∈ Region.ready .any ops listed := mem_ready.2 ⟨hb', ops[j], ho, fun e he _ => ?_⟩
        · rw [hr] at this; cases this
        · have hlt := hd3 j ops[j] (by rw [Array.getElem?_toList]; exact ho) e (by simpa using he)
          exact ih e.on hlt (by omega)
  intro fuel
  induction fuel with
  | zero =>
    intro listed a w hc inv
    have hall : ∀ j, j < ops.size → listed.getD j false = true := fun j hj => by
      have := all_of_count listed.toList (by omega) j (by rw [Array.length_toList, inv.size]; exact hj)
      rw [Array.getElem?_toList] at this
      rw [Array.getD_eq_getD_getElem?, this]; rfl
    refine ⟨?_, done listed a w hall inv⟩
    refine List.eq_nil_iff_forall_not_mem.2 fun i hi => ?_
    obtain ⟨h1, o, ho, _⟩ := mem_ready.1 hi
    have hil : i < ops.size := (Array.getElem?_eq_some_iff.1 ho).1
    have h2 := hall i hil
    have hil' : i < listed.size := by rw [inv.size]; exact hil
    rw [Array.getD_eq_getD_getElem?, Array.getElem?_eq_getElem hil'] at h1 h2
    rw [Option.getD_some] at h1 h2
    rw [h1] at h2; cases h2
  | succ fuel ih =>
    intro listed a w hc inv
    refine ⟨fun hr => done listed a w (none_ready listed inv.size hr) inv, fun i hi => ?_⟩
    obtain ⟨h1, o, ho, hdep⟩ := mem_ready.1 hi
    have hil : i < ops.size := (Array.getElem?_eq_some_iff.1 ho).1
    have hil' : i < listed.size := by rw [inv.size]; exact hil
    have hol : ops.toList[i]? = some o := by rw [Array.getElem?_toList]; exact ho
    obtain ⟨t, hto, htl⟩ := hd1 i o hol
    have hst := FlatAllU.at_ _ _ _ _ step hol
    rw [Nat.zero_add] at hst
    have hli : listed.getD i false = false := by
      rw [Array.getD_eq_getD_getElem?, Array.getElem?_eq_getElem hil', Option.getD_some] at h1 ⊢
      exact h1
    have hstep := hst a w (fun j => listed.getD j false = false) inv.cls inv.agree (fun j hj => by
      obtain ⟨e, he, rfl⟩ := List.mem_map.1 hj
      obtain ⟨he, hb⟩ := List.mem_filter.1 he
      exact inv.vals e.on (hdep e (by simpa using he) hb)) hli (fun j oj hj ⟨d, hd, hu⟩ => by
        cases hb : listed.getD j false with
        | false => rfl
        | true =>
          have h3 : listed.getD d false = true := inv.closed j oj hj hb d hd
          have h4 : listed.getD d false = false := hu
          rw [h3] at h4; cases h4) (fun j oj tj hj hu ht => inv.und j oj tj hj hu ht)
    have hlf : listed.toList[i]? = some false := by
      rw [Array.getElem?_toList, Array.getElem?_eq_getElem hil']
      rw [Array.getD_eq_getD_getElem?, Array.getElem?_eq_getElem hil', Option.getD_some] at h1
      rw [h1]
    have hcnt : (listed.setIfInBounds i true).toList.count false ≤ fuel := by
      rw [Array.toList_setIfInBounds]
      have := count_set_true listed.toList i hlf
      omega
    have next : ∀ v w', Below w.heap.size w w' → V i v w' → wpAnyIn F n P .any ops Q fuel (listed.setIfInBounds i true) (a.put o.dst v) w' := by
      intro v w' hb hv
      refine ih _ _ _ hcnt ⟨hC _ _ inv.cls hb, ?_, by rw [Array.size_setIfInBounds]; exact inv.size, fun j hj => ?_, fun j oj tj hj hu htj => ?_, fun j oj hj hu d hd => ?_⟩
      · rw [hto]
        refine ⟨inv.agree.1, by rw [put_tmps, Array.size_setIfInBounds]; exact inv.agree.2.1, fun t' ht' => ?_⟩
        rw [put_tmps, Array.getElem?_setIfInBounds, if_neg ?_]
        · exact inv.agree.2.2 t' ht'
        · intro e
          exact ht' o (List.mem_of_getElem? hol) (by rw [hto, e])
      · by_cases hji : j = i
        · subst hji
          have : slotOf ops (a.put o.dst v) j = v := by
            unfold slotOf
            rw [ho, Option.bind_some, hto]
            show (a.put (some t) v).tmps.getD t undef = v
            rw [put_tmps, Array.getD_eq_getD_getElem?, Array.getElem?_setIfInBounds, if_pos rfl, if_pos (by rw [inv.agree.2.1]; exact htl)]; rfl
          rw [this]; exact hv
        · have hj' : listed.getD j false = true := by
            rw [Array.getD_eq_getD_getElem?, Array.getElem?_setIfInBounds, if_neg (fun e => hji e.symm)] at hj
            rw [Array.getD_eq_getD_getElem?]; exact hj
          have hjl : j < ops.size := by
            rw [← inv.size]
            refine Nat.lt_of_not_le fun hle => ?_
            rw [Array.getD_eq_getD_getElem?, Array.getElem?_eq_none hle] at hj'
            cases hj'
          have hoj : ops[j]? = some ops[j] := Array.getElem?_eq_getElem hjl
          have : slotOf ops (a.put o.dst v) j = slotOf ops a j := by
            unfold slotOf
            rw [hoj, Option.bind_some]
            cases hdj : ops[j].dst with
            | none => rfl
            | some t2 =>
              rw [hto]
              show (a.put (some t) v).tmps.getD t2 undef = a.tmps.getD t2 undef
              rw [put_tmps, Array.getD_eq_getD_getElem?, Array.getElem?_setIfInBounds, if_neg ?_, ← Array.getD_eq_getD_getElem?]
              intro e
              exact hji (hd2 j i ops[j] o (by rw [Array.getElem?_toList]; exact hoj) hol (by rw [hdj, hto, e]))
          rw [this]
          exact hV _ _ _ _ (inv.vals j hj') hb
      · have hji : j ≠ i := fun e => by
          subst e
          rw [Array.getD_eq_getD_getElem?, Array.getElem?_setIfInBounds, if_pos rfl, if_pos hil'] at hu
          cases hu
        have hu' : listed.getD j false = false := by
          rw [Array.getD_eq_getD_getElem?, Array.getElem?_setIfInBounds, if_neg (fun e => hji e.symm)] at hu
          rw [Array.getD_eq_getD_getElem?]; exact hu
        rw [hto, put_tmps, Array.getElem?_setIfInBounds, if_neg ?_]
        · exact inv.und j oj tj hj hu' htj
        · intro e
          exact hji (hd2 j i oj o (by rw [Array.getElem?_toList]; exact hj) hol (by rw [htj, hto, e]))
      · have hlt : ∀ k, listed.getD k false = true → (listed.setIfInBounds i true).getD k false = true := fun k hk => by
          by_cases hki : k = i
          · subst hki
            rw [Array.getD_eq_getD_getElem?, Array.getElem?_setIfInBounds, if_pos rfl, if_pos hil']; rfl
          · rw [Array.getD_eq_getD_getElem?, Array.getElem?_setIfInBounds, if_neg (fun e => hki e.symm), ← Array.getD_eq_getD_getElem?]; exact hk
        by_cases hji : j = i
        · subst hji
          rw [ho] at hj
          injection hj with hj
          subst hj
          obtain ⟨e, he, rfl⟩ := List.mem_map.1 hd
          obtain ⟨he, hb⟩ := List.mem_filter.1 he
          exact hlt _ (hdep e (by simpa using he) hb)
        · refine hlt _ (inv.closed j oj hj ?_ d hd)
          rw [Array.getD_eq_getD_getElem?, Array.getElem?_setIfInBounds, if_neg (fun e => hji e.symm)] at hu
          rw [Array.getD_eq_getD_getElem?]; exact hu
    unfold wpOpIn
    simp only [ho]
    split
    · next hw =>
      rw [if_pos hw] at hstep
      unfold Oper.wpIn
      refine ⟨fun f _ => hF1 f, ?_⟩
      have hsem : o.semAt F.round a.eval = execOp a.eval o := by
        cases hr : F.round with
        | none => rw [Oper.semAt_none]
        | some l => exact Oper.semAt_some l _ o (hd4 i o hol)
      rw [hsem]
      generalize (execOp a.eval o).run P w = res at hstep
      cases res with
      | ok x w' =>
        cases x with
        | value u => exact next u w' hstep.1 hstep.2
        | enter f args =>
          refine ⟨(fun h => by rw [hF2] at h; cases h), hF3 _ _ _ _ _ (Calls.mono hstep ?_)⟩
          rintro e w'' ⟨v, rfl, hb, hv⟩
          exact next v w'' hb hv
        | _ => exact hstep.elim
      | halt x w' => exact hstep.elim
    · next hw =>
      rw [if_neg hw] at hstep
      exact ⟨fun f _ => hF1 f, next undef w (Below.refl _ _) hstep⟩
/-- the law, outside of rounds -/
theorem wp_region_flatU {id : Nat} {l : List Oper} {a0 : Act} {w : World} (hm : P.follows .mixedOrders = true) (C : World → Prop) (hC : ∀ w w', C w → Below w.heap.size w w' → C w') (V : Nat → Value → World → Prop) (hV : ∀ i v w w', V i v w → Below w.heap.size w w' → V i v w') (hB : flatB l a0.tmps.size = true) (h0 : C w.drew)
    (step : FlatAllU P l.toArray C V a0 l 0) (fin : ∀ vs w, C w → (∀ j, j < l.length → V j (vs j) w) → Q .normal (putAll vs l 0 a0) w) : (Code.region id l.toArray true).wp P Q a0 w :=
  (wpIn_wide (n := 6)).1 (wpIn_region_any hm (wpAnyIn_flatU (fun _ => trivial) rfl (fun m _ _ _ _ h => callsIn_wide.2 h) C hC V hV a0 hB (by simpa using step) (by simpa using fin) _ _ _ _ (by simp)
    ⟨h0, ⟨rfl, rfl, fun _ _ => rfl⟩, by simp, (fun j hj => by
      rw [Array.getD_eq_getD_getElem?, Array.getElem?_replicate] at hj
      split at hj <;> cases hj), fun _ _ _ _ _ _ => rfl, (fun j _ _ hj => by
      rw [Array.getD_eq_getD_getElem?, Array.getElem?_replicate] at hj
      split at hj <;> cases hj)⟩))
theorem flat_madeU {V : Value → World → Prop} {w w' : World} {u : Value} {res : Result Next} (hr : res = .ok (.value u) w') (hb : Below w.heap.size w w') (h : V u w') : FlatUpon P V w res := by
  rw [hr]; exact ⟨hb, h⟩
end
end Go.Proofs.YtmocmkfpblakbaaDoor
