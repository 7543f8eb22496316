/- Own law: a region that draws its order and whose operations read, or call what reads or makes memory: what each operation promises of its value is said once, of any frame, whatever order is drawn; the worlds are held together by a relation of one's own, so that stores may stand among them. Condition: each operation keeps that relation. -/
import Derived.Sort.QuietTacIn
import Derived.RangeFuncCalls
import Derived.Below
import Derived.BigRegion
import Derived.Test.YtifdmgloheampaaDoorFlat
namespace Go.Proofs.YtifdmgloheampaaDoor
open Go Go.RowKit

section
variable {P : Program} {ops : Array Oper}

/-- a value in a world that the relation leads to -/
def FlatUponE (P : Program) (E : World → World → Prop) (V : Value → World → Prop) (w : World) : Result Next → Prop
  | .ok (.value u) w' => E w w' ∧ V u w'
  | .ok (.enter f args) w' => Calls P f args w' fun e w'' => ∃ v, e = .returned v ∧ E w w'' ∧ V v w''
  | .ok .skip w' => E w w' ∧ V undef w'
  | _ => False
def FlatStepE (P : Program) (E : World → World → Prop) (ops : Array Oper) (C : World → Prop) (V : Nat → Value → World → Prop) (a0 : Act) (k : Nat) (o : Oper) : Prop :=
  ∀ a w, C w → Agree ops a0 a → (∀ i ∈ depsOf o, V i (slotOf ops a i) w) →
    if Region.wanted o (yielded ops a.tmps) then FlatUponE P E (V k) w ((execOp a.eval o).run P w) else V k undef w
def FlatAllE (P : Program) (E : World → World → Prop) (ops : Array Oper) (C : World → Prop) (V : Nat → Value → World → Prop) (a0 : Act) : List Oper → Nat → Prop
  | [], _ => True
  | o :: r, k => FlatStepE P E ops C V a0 k o ∧ FlatAllE P E ops C V a0 r (k + 1)
theorem FlatAllE.at_ {E : World → World → Prop} {C : World → Prop} {V : Nat → Value → World → Prop} {a0 : Act} (l : List Oper) : ∀ (k i : Nat) (o : Oper), FlatAllE P E ops C V a0 l k → l[i]? = some o → FlatStepE P E ops C V a0 (k + i) o := by
  induction l with
  | nil => intro k i o _ ho; simp at ho
  | cons x r ih =>
    intro k i o h ho
    cases i with
    | zero =>
      simp only [List.getElem?_cons_zero, Option.some.injEq] at ho
      subst ho
      exact h.1
    | succ i =>
      have := ih (k + 1) i o h.2 (by simpa using ho)
      rwa [show k + 1 + i = k + (i + 1) by omega] at this
theorem putAll_eqE (a : Act) : ∀ (l : List Oper) (k : Nat) (vs : Nat → Value) (b : Act), (∀ (j : Nat) o t, l[j]? = some o → o.dst = some t → t < a.tmps.size ∧ vs (k + j) = a.tmps.getD t undef) →
    b.defers = a.defers → b.tmps.size = a.tmps.size → (∀ t, (∀ o ∈ l, o.dst ≠ some t) → b.tmps[t]? = a.tmps[t]?) → putAll vs l k b = a
  | [], _, _, b, _, hd, _, ht => by
    obtain ⟨bt, bd⟩ := b
    obtain ⟨at_, ad⟩ := a
    simp only at hd ht
    subst hd
    show (Act.mk bt bd) = _
    congr 1
    exact Array.ext_getElem? fun t => ht t (by simp)
  | o :: r, k, vs, b, hs, hd, hz, ht => by
    have hrec : ∀ (j : Nat) o' t, r[j]? = some o' → o'.dst = some t → t < a.tmps.size ∧ vs (k + 1 + j) = a.tmps.getD t undef := fun j o' t ho' hd' => by
      have := hs (j + 1) o' t (by simpa using ho') hd'
      rwa [show k + (j + 1) = k + 1 + j by omega] at this
    cases hto : o.dst with
    | none =>
      have : putAll vs (o :: r) k b = putAll vs r (k + 1) b := by
        show putAll vs r (k + 1) (b.put o.dst (vs k)) = _
        rw [hto]; rfl
      rw [this]
      refine putAll_eqE a r (k + 1) vs b hrec hd hz fun t' ht' => ht t' fun o' ho' => ?_
      rcases List.mem_cons.1 ho' with rfl | h
      · rw [hto]; simp
      · exact ht' o' h
    | some t =>
      obtain ⟨htl, hv⟩ := hs 0 o t rfl hto
      refine putAll_eqE a r (k + 1) vs (b.put o.dst (vs k)) hrec ?_ ?_ fun t' ht' => ?_
      · rw [hto]; exact hd
      · rw [hto, put_tmps, Array.size_setIfInBounds]; exact hz
      · rw [hto, put_tmps, Array.getElem?_setIfInBounds]
        split
        · next e =>
          subst e
          rw [if_pos (by rw [hz]; exact htl)]
          have : vs k = a.tmps.getD t undef := by simpa using hv
          rw [this, Array.getD_eq_getD_getElem?, Array.getElem?_eq_getElem htl]; rfl
        · next e =>
          refine ht t' fun o' ho' => ?_
          rcases List.mem_cons.1 ho' with rfl | h
          · rw [hto]; simpa using e
          · exact ht' o' h
/-- what a region must look like -/
def flatBE (ops : List Oper) (n : Nat) : Bool := ops.all (fun o => match o.dst with | some t => decide (t < n) | none => true) && (ops.zipIdx.all fun p => ops.zipIdx.all fun q => p.2 == q.2 || p.1.dst.isNone || !(p.1.dst == q.1.dst)) && (ops.zipIdx.all fun p => p.1.after.toList.all fun e => decide (e.on < p.2) || !Region.binds .any e) && ops.all fun o => match o.op with | .defer _ => false | _ => true
theorem flat_specE {l : List Oper} {n : Nat} (h : flatBE l n = true) : (∀ (i : Nat) o t, l[i]? = some o → o.dst = some t → t < n) ∧ (∀ (i j : Nat) oi oj t, l[i]? = some oi → l[j]? = some oj → oi.dst = some t → oj.dst = some t → i = j) ∧ (∀ (i : Nat) o, l[i]? = some o → ∀ e ∈ o.after.toList, Region.binds .any e = true → e.on < i) ∧ (∀ (i : Nat) o, l[i]? = some o → ∀ c, o.op ≠ .defer c) := by
  unfold flatBE at h
  simp only [Bool.and_eq_true] at h
  obtain ⟨⟨⟨h1, h2⟩, h3⟩, h4⟩ := h
  refine ⟨fun i o t ho hd => ?_, fun i j oi oj t hi hj hdi hdj => ?_, fun i o ho e he hb => ?_, fun i o ho c hc => ?_⟩
  · have := List.all_eq_true.1 h1 o (List.mem_of_getElem? ho)
    rw [hd] at this
    simpa using this
  · have hmi : (oi, i) ∈ l.zipIdx := by rw [List.mem_zipIdx_iff_getElem?]; exact hi
    have hmj : (oj, j) ∈ l.zipIdx := by rw [List.mem_zipIdx_iff_getElem?]; exact hj
    have := List.all_eq_true.1 (List.all_eq_true.1 h2 _ hmi) _ hmj
    rw [hdi, hdj] at this
    simpa using this
  · have hm : (o, i) ∈ l.zipIdx := by
      rw [List.mem_zipIdx_iff_getElem?]
      exact ho
    have := List.all_eq_true.1 (List.all_eq_true.1 h3 _ hm) e he
    rw [hb] at this
    simpa using this
  · have := List.all_eq_true.1 h4 o (List.mem_of_getElem? ho)
    rw [hc] at this
    cases this
variable {F : Fence} {n : Nat} {Q : Exit → Act → World → Prop}
/-- what holds while the operations come up -/
structure FlatInvE (ops : Array Oper) (C : World → Prop) (V : Nat → Value → World → Prop) (a0 : Act) (listed : Array Bool) (a : Act) (w : World) : Prop where
  cls : C w
  agree : Agree ops a0 a
  size : listed.size = ops.size
  vals : ∀ j, listed.getD j false = true → V j (slotOf ops a j) w

theorem wpAnyIn_flatE {E : World → World → Prop} (hE : ∀ w, E w w) (hF1 : ∀ f, F.fn f) (hF2 : F.depth = none) (hF3 : ∀ m f args w R, Calls P f args w R → CallsIn F m P f args w R) (C : World → Prop) (hC : ∀ w w', C w → E w w' → C w') (V : Nat → Value → World → Prop) (hV : ∀ i v w w', V i v w → E w w' → V i v w') (hN : ∀ (i : Nat) o, ops[i]? = some o → o.dst = none → ∀ v w, V i v w → V i undef w) (a0 : Act) (hB : flatBE ops.toList a0.tmps.size = true)
    (step : FlatAllE P E ops C V a0 ops.toList 0) (fin : ∀ vs w, C w → (∀ j, j < ops.size → V j (vs j) w) → Q .normal (putAll vs ops.toList 0 a0) w) :
    ∀ (fuel : Nat) (listed : Array Bool) (a : Act) (w : World), listed.toList.count false ≤ fuel → FlatInvE ops C V a0 listed a w → wpAnyIn F n P .any ops Q fuel listed a w := by
  obtain ⟨hd1, hd2, hd3, hd4⟩ := flat_specE hB
  have done : ∀ (listed : Array Bool) (a : Act) (w : World), (∀ j, j < ops.size → listed.getD j false = true) → FlatInvE ops C V a0 listed a w → Q .normal a w := by
    intro listed a w hall inv
    have := fin (slotOf ops a) w inv.cls fun j hj => inv.vals j (hall j hj)
    rwa [putAll_eqE a ops.toList 0 (slotOf ops a) a0 (fun j o t ho h1 => ?_) inv.agree.1.symm inv.agree.2.1.symm (fun t ht => (inv.agree.2.2 t ht).symm)] at this
    refine ⟨by rw [inv.agree.2.1]; exact hd1 j o t ho h1, ?_⟩
    have ho' : ops[j]? = some o := by rw [← Array.getElem?_toList]; exact ho
    unfold slotOf
    rw [Nat.zero_add, ho']
    simp [h1]
  have none_ready : ∀ (listed : Array Bool), listed.size = ops.size → Region.ready .any ops listed = [] → ∀ j, j < ops.size → listed.getD j false = true := by
    intro listed hz hr j
    induction j using Nat.strongRecOn with
    | ind j ih =>
      intro hj
      cases hb : listed.getD j false with
      | true => rfl
      | false =>
        exfalso
        have hjl : j < listed.size := by omega
        have hb' : listed.getD j true = false := by
          rw [Array.getD_eq_getD_getElem?, Array.getElem?_eq_getElem hjl] at hb ⊢
          exact hb
        have ho : ops[j]? = some ops[j] := Array.getElem?_eq_getElem hj
        have : j ∈ Region.ready .any ops listed := mem_ready.2 ⟨hb', ops[j], ho, fun e he hb2 => ?_⟩
        · rw [hr] at this; cases this
        · have hlt := hd3 j ops[j] (by rw [Array.getElem?_toList]; exact ho) e (by simpa using he) hb2
          exact ih e.on hlt (by omega)
  intro fuel
  induction fuel with
  | zero =>
    intro listed a w hc inv
    have hall : ∀ j, j < ops.size → listed.getD j false = true := fun j hj => by
      have := all_of_count listed.toList (by omega) j (by rw [Array.length_toList, inv.size]; exact hj)
      rw [Array.getElem?_toList] at this
      rw [Array.getD_eq_getD_getElem?, this]; rfl
    refine ⟨?_, done listed a w hall inv⟩
    refine List.eq_nil_iff_forall_not_mem.2 fun i hi => ?_
    obtain ⟨h1, o, ho, _⟩ := mem_ready.1 hi
    have hil : i < ops.size := (Array.getElem?_eq_some_iff.1 ho).1
    have h2 := hall i hil
    have hil' : i < listed.size := by rw [inv.size]; exact hil
    rw [Array.getD_eq_getD_getElem?, Array.getElem?_eq_getElem hil'] at h1 h2
    rw [Option.getD_some] at h1 h2
    rw [h1] at h2; cases h2
  | succ fuel ih =>
    intro listed a w hc inv
    refine ⟨fun hr => done listed a w (none_ready listed inv.size hr) inv, fun i hi => ?_⟩
    obtain ⟨h1, o, ho, hdep⟩ := mem_ready.1 hi
    have hil : i < ops.size := (Array.getElem?_eq_some_iff.1 ho).1
    have hil' : i < listed.size := by rw [inv.size]; exact hil
    have hol : ops.toList[i]? = some o := by rw [Array.getElem?_toList]; exact ho
    have hst := FlatAllE.at_ _ _ _ _ step hol
    rw [Nat.zero_add] at hst
    have hstep := hst a w inv.cls inv.agree fun j hj => by
      obtain ⟨e, he, rfl⟩ := List.mem_map.1 hj
      obtain ⟨he, hb⟩ := List.mem_filter.1 he
      exact inv.vals e.on (hdep e (by simpa using he) hb)
    have hlf : listed.toList[i]? = some false := by
      rw [Array.getElem?_toList, Array.getElem?_eq_getElem hil']
      rw [Array.getD_eq_getD_getElem?, Array.getElem?_eq_getElem hil', Option.getD_some] at h1
      rw [h1]
    have hcnt : (listed.setIfInBounds i true).toList.count false ≤ fuel := by
      rw [Array.toList_setIfInBounds]
      have := count_set_true listed.toList i hlf
      omega
    have next : ∀ v w', E w w' → V i v w' → wpAnyIn F n P .any ops Q fuel (listed.setIfInBounds i true) (a.put o.dst v) w' := by
      intro v w' hb hv
      have old : ∀ j, j ≠ i → (listed.setIfInBounds i true).getD j false = true → listed.getD j false = true := by
        intro j hji hj
        rw [Array.getD_eq_getD_getElem?, Array.getElem?_setIfInBounds, if_neg (fun e => hji e.symm)] at hj
        rw [Array.getD_eq_getD_getElem?]; exact hj
      cases hto : o.dst with
      | none =>
        refine ih _ _ _ hcnt ⟨hC _ _ inv.cls hb, inv.agree, by rw [Array.size_setIfInBounds]; exact inv.size, fun j hj => ?_⟩
        by_cases hji : j = i
        · subst hji
          have : slotOf ops a j = undef := by unfold slotOf; rw [ho, Option.bind_some, hto]
          show V j (slotOf ops a j) w'
          rw [this]; exact hN j o ho hto v w' hv
        · exact hV _ _ _ _ (inv.vals j (old j hji hj)) hb
      | some t =>
        have htl := hd1 i o t hol hto
        refine ih _ _ _ hcnt ⟨hC _ _ inv.cls hb, ?_, by rw [Array.size_setIfInBounds]; exact inv.size, fun j hj => ?_⟩
        · refine ⟨inv.agree.1, by rw [put_tmps, Array.size_setIfInBounds]; exact inv.agree.2.1, fun t' ht' => ?_⟩
          rw [put_tmps, Array.getElem?_setIfInBounds, if_neg ?_]
          · exact inv.agree.2.2 t' ht'
          · intro e
            exact ht' o (List.mem_of_getElem? hol) (by rw [hto, e])
        · by_cases hji : j = i
          · subst hji
            have : slotOf ops (a.put (some t) v) j = v := by
              unfold slotOf
              rw [ho, Option.bind_some, hto]
              show (a.put (some t) v).tmps.getD t undef = v
              rw [put_tmps, Array.getD_eq_getD_getElem?, Array.getElem?_setIfInBounds, if_pos rfl, if_pos (by rw [inv.agree.2.1]; exact htl)]; rfl
            rw [this]; exact hv
          · have hj' := old j hji hj
            have hjl : j < ops.size := by
              rw [← inv.size]
              refine Nat.lt_of_not_le fun hle => ?_
              rw [Array.getD_eq_getD_getElem?, Array.getElem?_eq_none hle] at hj'
              cases hj'
            have hoj : ops[j]? = some ops[j] := Array.getElem?_eq_getElem hjl
            have : slotOf ops (a.put (some t) v) j = slotOf ops a j := by
              unfold slotOf
              rw [hoj, Option.bind_some]
              cases hdj : ops[j].dst with
              | none => rfl
              | some t2 =>
                show (a.put (some t) v).tmps.getD t2 undef = a.tmps.getD t2 undef
                rw [put_tmps, Array.getD_eq_getD_getElem?, Array.getElem?_setIfInBounds, if_neg ?_, ← Array.getD_eq_getD_getElem?]
                intro e
                exact hji (hd2 j i ops[j] o t2 (by rw [Array.getElem?_toList]; exact hoj) hol hdj (by rw [hto, e]))
            rw [this]
            exact hV _ _ _ _ (inv.vals j hj') hb
    unfold wpOpIn
    simp only [ho]
    split
    · next hw =>
      rw [if_pos hw] at hstep
      unfold Oper.wpIn
      refine ⟨fun f _ => hF1 f, ?_⟩
      have hsem : o.semAt F.round a.eval = execOp a.eval o := by
        cases hr : F.round with
        | none => rw [Oper.semAt_none]
        | some l => exact Oper.semAt_some l _ o (hd4 i o hol)
      rw [hsem]
      generalize (execOp a.eval o).run P w = res at hstep
      cases res with
      | ok x w' =>
        cases x with
        | value u => exact next u w' hstep.1 hstep.2
        | enter f args =>
          refine ⟨(fun h => by rw [hF2] at h; cases h), hF3 _ _ _ _ _ (Calls.mono hstep ?_)⟩
          rintro e w'' ⟨v, rfl, hb, hv⟩
          exact next v w'' hb hv
        | skip =>
          exact next undef w' hstep.1 hstep.2
        | _ => exact hstep.elim
      | halt x w' => exact hstep.elim
    · next hw =>
      rw [if_neg hw] at hstep
      exact ⟨fun f _ => hF1 f, next undef w (hE _) hstep⟩
/-- the law, outside of rounds -/
theorem wp_region_flatE {E : World → World → Prop} (hE : ∀ w, E w w) {id : Nat} {l : List Oper} {a0 : Act} {w : World} (hm : P.follows .mixedOrders = true) (C : World → Prop) (hC : ∀ w w', C w → E w w' → C w') (V : Nat → Value → World → Prop) (hV : ∀ i v w w', V i v w → E w w' → V i v w') (hN : ∀ (i : Nat) o, l[i]? = some o → o.dst = none → ∀ v w, V i v w → V i undef w) (hB : flatBE l a0.tmps.size = true) (h0 : C w.drew)
    (step : FlatAllE P E l.toArray C V a0 l 0) (fin : ∀ vs w, C w → (∀ j, j < l.length → V j (vs j) w) → Q .normal (putAll vs l 0 a0) w) : (Code.region id l.toArray true).wp P Q a0 w :=
  (wpIn_wide (n := 6)).1 (wpIn_region_any hm (wpAnyIn_flatE hE (fun _ => trivial) rfl (fun m _ _ _ _ h => callsIn_wide.2 h) C hC V hV (by simpa using hN) a0 hB (by simpa using step) (by simpa using fin) _ _ _ _ (by simp)
    ⟨h0, ⟨rfl, rfl, fun _ _ => rfl⟩, by simp, fun j hj => by
      rw [Array.getD_eq_getD_getElem?, Array.getElem?_replicate] at hj
      split at hj <;> cases hj⟩))
theorem flatE_go {E : World → World → Prop} {o : Oper} {a : Act} {w : World} {V : Value → World → Prop} {j : Nat} {b : Bool} {t : Tmp} (hg : o.guard = some (j, b)) (ht : (ops[j]?).bind (·.dst) = some t) (he : a.eval (.tmp t) = .bool b) (h : FlatUponE P E V w ((execOp a.eval o).run P w)) :
    if Region.wanted o (yielded ops a.tmps) then FlatUponE P E V w ((execOp a.eval o).run P w) else V undef w := by
  have hy : yielded ops a.tmps j = some b := by
    unfold yielded
    rw [ht, Option.bind_some]
    have he' : a.tmps.getD t undef = .bool b := he
    rw [Array.getD_eq_getD_getElem?] at he'
    cases hx : a.tmps[t]? with
    | none => rw [hx] at he'; cases he'
    | some v => rw [hx] at he'; have h2 : v = .bool b := he'; rw [h2]
  have hw : Region.wanted o (yielded ops a.tmps) = true := by
    unfold Region.wanted
    rw [hg]
    show (yielded ops a.tmps j == some b) = true
    rw [hy]; simp
  rw [if_pos hw]; exact h
/-- an operation that its guard passes over -/
theorem flatE_not {E : World → World → Prop} {o : Oper} {a : Act} {w : World} {V : Value → World → Prop} {j : Nat} {b : Bool} {t : Tmp} (hg : o.guard = some (j, b)) (ht : (ops[j]?).bind (·.dst) = some t) (he : a.eval (.tmp t) = .bool (!b)) (h : V undef w) :
    if Region.wanted o (yielded ops a.tmps) then FlatUponE P E V w ((execOp a.eval o).run P w) else V undef w := by
  have hy : yielded ops a.tmps j = some (!b) := by
    unfold yielded
    rw [ht, Option.bind_some]
    have he' : a.tmps.getD t undef = .bool (!b) := he
    rw [Array.getD_eq_getD_getElem?] at he'
    cases hx : a.tmps[t]? with
    | none => rw [hx] at he'; cases he'
    | some v => rw [hx] at he'; have h2 : v = .bool (!b) := he'; rw [h2]
  have hw : Region.wanted o (yielded ops a.tmps) = false := by
    unfold Region.wanted
    rw [hg]
    show (yielded ops a.tmps j == some b) = false
    rw [hy]; cases b <;> rfl
  rw [hw]; exact h
theorem flatE_on {E : World → World → Prop} {o : Oper} {a : Act} {w : World} {V : Value → World → Prop} (hg : o.guard = none) (h : FlatUponE P E V w ((execOp a.eval o).run P w)) :
    if Region.wanted o (yielded ops a.tmps) then FlatUponE P E V w ((execOp a.eval o).run P w) else V undef w := by
  have hw : Region.wanted o (yielded ops a.tmps) = true := by unfold Region.wanted; rw [hg]
  rw [if_pos hw]; exact h
end
end Go.Proofs.YtifdmgloheampaaDoor
