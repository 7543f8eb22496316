/- Own law: a region that draws its order and whose operations read, or call what reads or makes memory: what each operation promises of its value is said once, of any frame, whatever order is drawn; also inside a round of a range over a function. Condition: no operation writes into memory that was there. -/
import Derived.Sort.QuietTacIn
import Derived.RangeFuncCalls
import Derived.Below
import Derived.BigRegion
namespace Go.Proofs.YtmocmkfpblakbaaDoor
open Go Go.RowKit

section
variable {P : Program} {ops : Array Oper}

/-- an operation's value as the frame has it -/
def slotOf (ops : Array Oper) (a : Act) (j : Nat) : Value := match (ops[j]?).bind (·.dst) with | some t => a.tmps.getD t undef | none => undef
/-- the frame is as it was, but for the region's own slots -/
def Agree (ops : Array Oper) (a0 a : Act) : Prop := a.defers = a0.defers ∧ a.tmps.size = a0.tmps.size ∧ ∀ t, (∀ o ∈ ops.toList, o.dst ≠ some t) → a.tmps[t]? = a0.tmps[t]?
/-- a value in a world that has grown at most -/
def FlatUpon (P : Program) (V : Value → World → Prop) (w : World) : Result Next → Prop
  | .ok (.value u) w' => Below w.heap.size w w' ∧ V u w'
  | .ok (.enter f args) w' => Calls P f args w' fun e w'' => ∃ v, e = .returned v ∧ Below w.heap.size w w'' ∧ V v w''
  | _ => False
def depsOf (o : Oper) : List Nat := (o.after.toList.filter (Region.binds .any)).map (·.on)
def FlatStep (P : Program) (ops : Array Oper) (C : World → Prop) (V : Nat → Value → World → Prop) (a0 : Act) (k : Nat) (o : Oper) : Prop :=
  ∀ a w, C w → Agree ops a0 a → (∀ i ∈ depsOf o, V i (slotOf ops a i) w) →
    if Region.wanted o (yielded ops a.tmps) then FlatUpon P (V k) w ((execOp a.eval o).run P w) else V k undef w
def FlatAll (P : Program) (ops : Array Oper) (C : World → Prop) (V : Nat → Value → World → Prop) (a0 : Act) : List Oper → Nat → Prop
  | [], _ => True
  | o :: r, k => FlatStep P ops C V a0 k o ∧ FlatAll P ops C V a0 r (k + 1)
theorem FlatAll.at_ {C : World → Prop} {V : Nat → Value → World → Prop} {a0 : Act} (l : List Oper) : ∀ (k i : Nat) (o : Oper), FlatAll P ops C V a0 l k → l[i]? = some o → FlatStep P ops C V a0 (k + i) o := by
  induction l with
  | nil => intro k i o _ ho; simp at ho
  | cons x r ih =>
    intro k i o h ho
    cases i with
    | zero =>
      simp only [List.getElem?_cons_zero, Option.some.injEq] at ho
      subst ho
      exact h.1
    | succ i =>
      have := ih (k + 1) i o h.2 (by simpa using ho)
      rwa [show k + 1 + i = k + (i + 1) by omega] at this
/-- the region's slots are filled, in the order of the text -/
def putAll (vs : Nat → Value) : List Oper → Nat → Act → Act
  | [], _, a => a
  | o :: r, k, a => putAll vs r (k + 1) (a.put o.dst (vs k))
theorem put_tmps (a : Act) (t : Tmp) (v : Value) : (a.put (some t) v).tmps = a.tmps.setIfInBounds t v := rfl
theorem putAll_eq (a : Act) : ∀ (l : List Oper) (k : Nat) (vs : Nat → Value) (b : Act), (∀ (j : Nat) o, l[j]? = some o → ∃ t, o.dst = some t ∧ t < a.tmps.size ∧ vs (k + j) = a.tmps.getD t undef) →
    b.defers = a.defers → b.tmps.size = a.tmps.size → (∀ t, (∀ o ∈ l, o.dst ≠ some t) → b.tmps[t]? = a.tmps[t]?) → putAll vs l k b = a
  | [], _, _, b, _, hd, _, ht => by
    obtain ⟨bt, bd⟩ := b
    obtain ⟨at_, ad⟩ := a
    simp only at hd ht
    subst hd
    show (Act.mk bt bd) = _
    congr 1
    exact Array.ext_getElem? fun t => ht t (by simp)
  | o :: r, k, vs, b, hs, hd, hz, ht => by
    obtain ⟨t, hto, htl, hv⟩ := hs 0 o rfl
    refine putAll_eq a r (k + 1) vs (b.put o.dst (vs k)) (fun j o' ho' => ?_) ?_ ?_ fun t' ht' => ?_
    · obtain ⟨t2, h1, h2, h3⟩ := hs (j + 1) o' (by simpa using ho')
      exact ⟨t2, h1, h2, by rw [← h3]; congr 1; omega⟩
    · rw [hto]; exact hd
    · rw [hto, put_tmps, Array.size_setIfInBounds]; exact hz
    · rw [hto, put_tmps, Array.getElem?_setIfInBounds]
      split
      · next e =>
        subst e
        rw [if_pos (by rw [hz]; exact htl)]
        have : vs k = a.tmps.getD t undef := by simpa using hv
        rw [this, Array.getD_eq_getD_getElem?, Array.getElem?_eq_getElem htl]; rfl
      · next e =>
        refine ht t' fun o' ho' => ?_
        rcases List.mem_cons.1 ho' with rfl | h
        · rw [hto]; simpa using e
        · exact ht' o' h
/-- what a region must look like -/
def flatB (ops : List Oper) (n : Nat) : Bool := ops.all (fun o => match o.dst with | some t => decide (t < n) | none => false) && decide ((ops.map (·.dst)).Nodup) && (ops.zipIdx.all fun p => p.1.after.toList.all fun e => decide (e.on < p.2)) && ops.all fun o => match o.op with | .defer _ => false | _ => true
theorem flat_spec {l : List Oper} {n : Nat} (h : flatB l n = true) : (∀ (i : Nat) o, l[i]? = some o → ∃ t, o.dst = some t ∧ t < n) ∧ (∀ (i j : Nat) oi oj, l[i]? = some oi → l[j]? = some oj → oi.dst = oj.dst → i = j) ∧ (∀ (i : Nat) o, l[i]? = some o → ∀ e ∈ o.after.toList, e.on < i) ∧ (∀ (i : Nat) o, l[i]? = some o → ∀ c, o.op ≠ .defer c) := by
  unfold flatB at h
  simp only [Bool.and_eq_true] at h
  obtain ⟨⟨⟨h1, h2⟩, h3⟩, h4⟩ := h
  refine ⟨fun i o ho => ?_, fun i j oi oj hi hj he => ?_, fun i o ho e he => ?_, fun i o ho c hc => ?_⟩
  · have := List.all_eq_true.1 h1 o (List.mem_of_getElem? ho)
    cases hd : o.dst with
    | none => rw [hd] at this; cases this
    | some t => rw [hd] at this; exact ⟨t, rfl, by simpa using this⟩
  · have hn := of_decide_eq_true h2
    have e1 : (l.map (·.dst))[i]? = some oi.dst := by rw [List.getElem?_map, hi]; rfl
    have e2 : (l.map (·.dst))[j]? = some oj.dst := by rw [List.getElem?_map, hj]; rfl
    exact (List.getElem?_inj (by simpa using (List.getElem?_eq_some_iff.1 hi).1) hn).1 (by rw [e1, e2, he])
  · have hm : (o, i) ∈ l.zipIdx := by
      rw [List.mem_zipIdx_iff_getElem?]
      exact ho
    have := List.all_eq_true.1 (List.all_eq_true.1 h3 _ hm) e he
    simpa using this
  · have := List.all_eq_true.1 h4 o (List.mem_of_getElem? ho)
    rw [hc] at this
    cases this
theorem count_set_true : ∀ (l : List Bool) (i : Nat), l[i]? = some false → (l.set i true).count false + 1 = l.count false
  | b :: r, 0, h => by
    simp only [List.getElem?_cons_zero, Option.some.injEq] at h
    subst h
    simp
  | b :: r, i + 1, h => by
    have ih := count_set_true r i (by simpa using h)
    simp only [List.set_cons_succ, List.count_cons]
    omega
theorem all_of_count : ∀ (l : List Bool), l.count false = 0 → ∀ (i : Nat), i < l.length → l[i]? = some true := by
  intro l h i hi
  have hne : l[i]? = some l[i] := List.getElem?_eq_getElem hi
  cases hb : l[i] with
  | true => rw [hne, hb]
  | false =>
    have : false ∈ l := by rw [← hb]; exact List.getElem_mem hi
    rw [List.count_eq_zero] at h
    exact absurd this h

variable {F : Fence} {n : Nat} {Q : Exit → Act → World → Prop}
/-- what holds while the operations come up -/
structure FlatInv (ops : Array Oper) (C : World → Prop) (V : Nat → Value → World → Prop) (a0 : Act) (listed : Array Bool) (a : Act) (w : World) : Prop where
  cls : C w
  agree : Agree ops a0 a
  size : listed.size = ops.size
  vals : ∀ j, listed.getD j false = true → V j (slotOf ops a j) w

theorem wpAnyIn_flat (hF1 : ∀ f, F.fn f) (hF2 : F.depth = none) (hF3 : ∀ m f args w R, Calls P f args w R → CallsIn F m P f args w R) (C : World → Prop) (hC : ∀ w w', C w → Below w.heap.size w w' → C w') (V : Nat → Value → World → Prop) (hV : ∀ i v w w', V i v w → Below w.heap.size w w' → V i v w') (a0 : Act) (hB : flatB ops.toList a0.tmps.size = true)
    (step : FlatAll P ops C V a0 ops.toList 0) (fin : ∀ vs w, C w → (∀ j, j < ops.size → V j (vs j) w) → Q .normal (putAll vs ops.toList 0 a0) w) :
    ∀ (fuel : Nat) (listed : Array Bool) (a : Act) (w : World), listed.toList.count false ≤ fuel → FlatInv ops C V a0 listed a w → wpAnyIn F n P .any ops Q fuel listed a w := by
  obtain ⟨hd1, hd2, hd3, hd4⟩ := flat_spec hB
  have done : ∀ (listed : Array Bool) (a : Act) (w : World), (∀ j, j < ops.size → listed.getD j false = true) → FlatInv ops C V a0 listed a w → Q .normal a w := by
    intro listed a w hall inv
    have := fin (slotOf ops a) w inv.cls fun j hj => inv.vals j (hall j hj)
    rwa [putAll_eq a ops.toList 0 (slotOf ops a) a0 (fun j o ho => ?_) inv.agree.1.symm inv.agree.2.1.symm (fun t ht => (inv.agree.2.2 t ht).symm)] at this
    obtain ⟨t, h1, h2⟩ := hd1 j o ho
    refine ⟨t, h1, by rw [inv.agree.2.1]; exact h2, ?_⟩
    have ho' : ops[j]? = some o := by rw [← Array.getElem?_toList]; exact ho
    unfold slotOf
    rw [Nat.zero_add, ho']
    simp [h1]
  have none_ready : ∀ (listed : Array Bool), listed.size = ops.size → Region.ready .any ops listed = [] → ∀ j, j < ops.size → listed.getD j false = true := by
    intro listed hz hr j
    induction j using Nat.strongRecOn with
    | ind j ih =>
      intro hj
      cases hb : listed.getD j false with
      | true => rfl
      | false =>
        exfalso
        have hjl : j < listed.size := by omega
        have hb' : listed.getD j true = false := by
          rw [Array.getD_eq_getD_getElem?, Array.getElem?_eq_getElem hjl] at hb ⊢
          exact hb
        have ho : ops[j]? = some ops[j] := Array.getElem?_eq_getElem hj
        have : j ∈ Region.ready .any ops listed := mem_ready.2 ⟨hb', ops[j], ho, fun e he _ => ?_⟩
        · rw [hr] at this; cases this
        · have hlt := hd3 j ops[j] (by rw [Array.getElem?_toList]; exact ho) e (by simpa using he)
          exact ih e.on hlt (by omega)
  intro fuel
  induction fuel with
  | zero =>
    intro listed a w hc inv
    have hall : ∀ j, j < ops.size → listed.getD j false = true := fun j hj => by
      have := all_of_count listed.toList (by omega) j (by rw [Array.length_toList, inv.size]; exact hj)
      rw [Array.getElem?_toList] at this
      rw [Array.getD_eq_getD_getElem?, this]; rfl
    refine ⟨?_, done listed a w hall inv⟩
    refine List.eq_nil_iff_forall_not_mem.2 fun i hi => ?_
    obtain ⟨h1, o, ho, _⟩ := mem_ready.1 hi
    have hil : i < ops.size := (Array.getElem?_eq_some_iff.1 ho).1
    have h2 := hall i hil
    have hil' : i < listed.size := by rw [inv.size]; exact hil
    rw [Array.getD_eq_getD_getElem?, Array.getElem?_eq_getElem hil'] at h1 h2
    rw [Option.getD_some] at h1 h2
    rw [h1] at h2; cases h2
  | succ fuel ih =>
    intro listed a w hc inv
    refine ⟨fun hr => done listed a w (none_ready listed inv.size hr) inv, fun i hi => ?_⟩
    obtain ⟨h1, o, ho, hdep⟩ := mem_ready.1 hi
    have hil : i < ops.size := (Array.getElem?_eq_some_iff.1 ho).1
    have hil' : i < listed.size := by rw [inv.size]; exact hil
    have hol : ops.toList[i]? = some o := by rw [Array.getElem?_toList]; exact ho
    obtain ⟨t, hto, htl⟩ := hd1 i o hol
    have hst := FlatAll.at_ _ _ _ _ step hol
    rw [Nat.zero_add] at hst
    have hstep := hst a w inv.cls inv.agree fun j hj => by
      obtain ⟨e, he, rfl⟩ := List.mem_map.1 hj
      obtain ⟨he, hb⟩ := List.mem_filter.1 he
      exact inv.vals e.on (hdep e (by simpa using he) hb)
    have hlf : listed.toList[i]? = some false := by
      rw [Array.getElem?_toList, Array.getElem?_eq_getElem hil']
      rw [Array.getD_eq_getD_getElem?, Array.getElem?_eq_getElem hil', Option.getD_some] at h1
      rw [h1]
    have hcnt : (listed.setIfInBounds i true).toList.count false ≤ fuel := by
      rw [Array.toList_setIfInBounds]
      have := count_set_true listed.toList i hlf
      omega
    have next : ∀ v w', Below w.heap.size w w' → V i v w' → wpAnyIn F n P .any ops Q fuel (listed.setIfInBounds i true) (a.put o.dst v) w' := by
      intro v w' hb hv
      refine ih _ _ _ hcnt ⟨hC _ _ inv.cls hb, ?_, by rw [Array.size_setIfInBounds]; exact inv.size, fun j hj => ?_⟩
      · rw [hto]
        refine ⟨inv.agree.1, by rw [put_tmps, Array.size_setIfInBounds]; exact inv.agree.2.1, fun t' ht' => ?_⟩
        rw [put_tmps, Array.getElem?_setIfInBounds, if_neg ?_]
        · exact inv.agree.2.2 t' ht'
        · intro e
          exact ht' o (List.mem_of_getElem? hol) (by rw [hto, e])
      · by_cases hji : j = i
        · subst hji
          have : slotOf ops (a.put o.dst v) j = v := by
            unfold slotOf
            rw [ho, Option.bind_some, hto]
            show (a.put (some t) v).tmps.getD t undef = v
            rw [put_tmps, Array.getD_eq_getD_getElem?, Array.getElem?_setIfInBounds, if_pos rfl, if_pos (by rw [inv.agree.2.1]; exact htl)]; rfl
          rw [this]; exact hv
        · have hj' : listed.getD j false = true := by
            rw [Array.getD_eq_getD_getElem?, Array.getElem?_setIfInBounds, if_neg (fun e => hji e.symm)] at hj
            rw [Array.getD_eq_getD_getElem?]; exact hj
          have hjl : j < ops.size := by
            rw [← inv.size]
            refine Nat.lt_of_not_le fun hle => ?_
            rw [Array.getD_eq_getD_getElem?, Array.getElem?_eq_none hle] at hj'
            cases hj'
          have hoj : ops[j]? = some ops[j] := Array.getElem?_eq_getElem hjl
          have : slotOf ops (a.put o.dst v) j = slotOf ops a j := by
            unfold slotOf
            rw [hoj, Option.bind_some]
            cases hdj : ops[j].dst with
            | none => rfl
            | some t2 =>
              rw [hto]
              show (a.put (some t) v).tmps.getD t2 undef = a.tmps.getD t2 undef
              rw [put_tmps, Array.getD_eq_getD_getElem?, Array.getElem?_setIfInBounds, if_neg ?_, ← Array.getD_eq_getD_getElem?]
              intro e
              exact hji (hd2 j i ops[j] o (by rw [Array.getElem?_toList]; exact hoj) hol (by rw [hdj, hto, e]))
          rw [this]
          exact hV _ _ _ _ (inv.vals j hj') hb
    unfold wpOpIn
    simp only [ho]
    split
    · next hw =>
      rw [if_pos hw] at hstep
      unfold Oper.wpIn
      refine ⟨fun f _ => hF1 f, ?_⟩
      have hsem : o.semAt F.round a.eval = execOp a.eval o := by
        cases hr : F.round with
        | none => rw [Oper.semAt_none]
        | some l => exact Oper.semAt_some l _ o (hd4 i o hol)
      rw [hsem]
      generalize (execOp a.eval o).run P w = res at hstep
      cases res with
      | ok x w' =>
        cases x with
        | value u => exact next u w' hstep.1 hstep.2
        | enter f args =>
          refine ⟨(fun h => by rw [hF2] at h; cases h), hF3 _ _ _ _ _ (Calls.mono hstep ?_)⟩
          rintro e w'' ⟨v, rfl, hb, hv⟩
          exact next v w'' hb hv
        | _ => exact hstep.elim
      | halt x w' => exact hstep.elim
    · next hw =>
      rw [if_neg hw] at hstep
      exact ⟨fun f _ => hF1 f, next undef w (Below.refl _ _) hstep⟩
theorem calls_wide_round (k m : Nat) {f : FuncId} {args : Array Value} {w : World} {R : Ending → World → Prop} (h : Calls P f args w R) : CallsIn (Fence.wide.inRound k) m P f args w R := callsIn_wide.2 h
/-- the law, in a round -/
theorem wpIn_region_flat_round {k id : Nat} {l : List Oper} {a0 : Act} {w : World} (hm : P.follows .mixedOrders = true) (C : World → Prop) (hC : ∀ w w', C w → Below w.heap.size w w' → C w') (V : Nat → Value → World → Prop) (hV : ∀ i v w w', V i v w → Below w.heap.size w w' → V i v w') (hB : flatB l a0.tmps.size = true) (h0 : C w.drew)
    (step : FlatAll P l.toArray C V a0 l 0) (fin : ∀ vs w, C w → (∀ j, j < l.length → V j (vs j) w) → Q .normal (putAll vs l 0 a0) w) : (Code.region id l.toArray true).wpIn (Fence.wide.inRound k) n P Q a0 w :=
  wpIn_region_any hm (wpAnyIn_flat (fun _ => trivial) rfl (fun m _ _ _ _ h => calls_wide_round k m h) C hC V hV a0 hB (by simpa using step) (by simpa using fin) _ _ _ _ (by simp)
    ⟨h0, ⟨rfl, rfl, fun _ _ => rfl⟩, by simp, fun j hj => by
      rw [Array.getD_eq_getD_getElem?, Array.getElem?_replicate] at hj
      split at hj <;> cases hj⟩)
/-- the law, outside of rounds -/
theorem wp_region_flat {id : Nat} {l : List Oper} {a0 : Act} {w : World} (hm : P.follows .mixedOrders = true) (C : World → Prop) (hC : ∀ w w', C w → Below w.heap.size w w' → C w') (V : Nat → Value → World → Prop) (hV : ∀ i v w w', V i v w → Below w.heap.size w w' → V i v w') (hB : flatB l a0.tmps.size = true) (h0 : C w.drew)
    (step : FlatAll P l.toArray C V a0 l 0) (fin : ∀ vs w, C w → (∀ j, j < l.length → V j (vs j) w) → Q .normal (putAll vs l 0 a0) w) : (Code.region id l.toArray true).wp P Q a0 w :=
  (wpIn_wide (n := 6)).1 (wpIn_region_any hm (wpAnyIn_flat (fun _ => trivial) rfl (fun m _ _ _ _ h => callsIn_wide.2 h) C hC V hV a0 hB (by simpa using step) (by simpa using fin) _ _ _ _ (by simp)
    ⟨h0, ⟨rfl, rfl, fun _ _ => rfl⟩, by simp, fun j hj => by
      rw [Array.getD_eq_getD_getElem?, Array.getElem?_replicate] at hj
      split at hj <;> cases hj⟩))
theorem evalD {a : Act} {t : Tmp} {v : Value} (h : a.eval (.tmp t) = v) : a.tmps[t]?.getD undef = v := by
  have h' : a.tmps.getD t undef = v := h
  rwa [Array.getD_eq_getD_getElem?] at h'
/-- the guard is decided -/
theorem flat_go {o : Oper} {a : Act} {w : World} {V : Value → World → Prop} {j : Nat} {b : Bool} {t : Tmp} (hg : o.guard = some (j, b)) (ht : (ops[j]?).bind (·.dst) = some t) (he : a.eval (.tmp t) = .bool b) (h : FlatUpon P V w ((execOp a.eval o).run P w)) :
    if Region.wanted o (yielded ops a.tmps) then FlatUpon P V w ((execOp a.eval o).run P w) else V undef w := by
  have hy : yielded ops a.tmps j = some b := by
    unfold yielded
    rw [ht, Option.bind_some]
    have he' : a.tmps.getD t undef = .bool b := he
    rw [Array.getD_eq_getD_getElem?] at he'
    cases hx : a.tmps[t]? with
    | none => rw [hx] at he'; cases he'
    | some v => rw [hx] at he'; have h2 : v = .bool b := he'; rw [h2]
  have hw : Region.wanted o (yielded ops a.tmps) = true := by
    unfold Region.wanted
    rw [hg]
    show (yielded ops a.tmps j == some b) = true
    rw [hy]; simp
  rw [if_pos hw]; exact h
theorem flat_on {o : Oper} {a : Act} {w : World} {V : Value → World → Prop} (hg : o.guard = none) (h : FlatUpon P V w ((execOp a.eval o).run P w)) :
    if Region.wanted o (yielded ops a.tmps) then FlatUpon P V w ((execOp a.eval o).run P w) else V undef w := by
  have hw : Region.wanted o (yielded ops a.tmps) = true := by unfold Region.wanted; rw [hg]
  rw [if_pos hw]; exact h
theorem flat_run {V : Value → World → Prop} {w : World} {u : Value} {res : Result Next} (hr : res = .ok (.value u) w) (h : V u w) : FlatUpon P V w res := by
  rw [hr]; exact ⟨Below.refl _ _, h⟩
theorem flat_call {V : Value → World → Prop} {w : World} {f : FuncId} {args : Array Value} {res : Result Next} (hr : res = .ok (.enter f args) w) (h : Calls P f args w fun e w'' => ∃ v, e = .returned v ∧ Below w.heap.size w w'' ∧ V v w'') : FlatUpon P V w res := by
  rw [hr]; exact h
/-- what is promised of the values: known ones, but for some -/
def detV (cs : List Value) (L : Nat → Option (Value → World → Prop)) (i : Nat) (v : Value) (w : World) : Prop := match L i with | some φ => φ v w | none => v = cs.getD i undef
theorem detV_at {cs : List Value} {L : Nat → Option (Value → World → Prop)} {i : Nat} {v : Value} {w : World} (h : L i = none) : detV cs L i v w ↔ v = cs.getD i undef := by unfold detV; rw [h]
theorem detV_some {cs : List Value} {L : Nat → Option (Value → World → Prop)} {i : Nat} {φ : Value → World → Prop} {v : Value} {w : World} (h : L i = some φ) : detV cs L i v w ↔ φ v w := by unfold detV; rw [h]
theorem detV_grow {cs : List Value} {L : Nat → Option (Value → World → Prop)} (h : ∀ i φ, L i = some φ → ∀ v w w', φ v w → Below w.heap.size w w' → φ v w') (i : Nat) (v : Value) (w w' : World) (hv : detV cs L i v w) (hb : Below w.heap.size w w') : detV cs L i v w' := by
  unfold detV at *
  cases hl : L i with
  | none => rw [hl] at hv; exact hv
  | some φ => rw [hl] at hv; exact h i φ hl v w w' hv hb
theorem flat_val {V : Value → World → Prop} {w : World} {u : Value} (h : V u w) : FlatUpon P V w (.ok (.value u) w) := ⟨Below.refl _ _, h⟩
/-- a slot that the region does not fill -/
theorem Agree.keep {a0 a : Act} (h : Agree ops a0 a) {t : Tmp} {v : Value} (ht : (ops.toList.all fun o => !(o.dst == some t)) = true) (hv : a0.tmps.getD t undef = v) : a.eval (.tmp t) = v := by
  show a.tmps.getD t undef = v
  rw [Array.getD_eq_getD_getElem?, h.2.2 t ?_, ← Array.getD_eq_getD_getElem?, hv]
  intro o ho e
  have := List.all_eq_true.1 ht o ho
  rw [e] at this
  simp at this
end
end Go.Proofs.YtmocmkfpblakbaaDoor
