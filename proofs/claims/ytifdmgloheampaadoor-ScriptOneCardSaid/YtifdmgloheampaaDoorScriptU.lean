/- The walk of the script's Parse. Condition: the text is short; the world is laid. -/
import Derived.Test.YtifdmgloheampaaDoorScriptT
import Derived.Test.YtifdmgloheampaaDoorActs
namespace Go.Proofs.YtifdmgloheampaaDoor
open Go.RowKit Go.Shelf DiskM ScriptM
attribute [local go_sem] Oper.semAt_some

theorem parse_cons (p : Nat) (l : List UInt8) (h : l ≠ []) : parse p l = match actM (l.take (nl l)) with | none => .error p | some a => match parse (p + nl l) (l.drop (nl l)) with | .error e => .error e | .ok r => .ok (a :: r) := by
  cases l with
  | nil => exact absurd rfl h
  | cons c r =>
    rw [parse]
    cases actM (List.take (nl (c :: r)) (c :: r)) with
    | none => rfl
    | some a =>
      simp only
      cases parse (p + nl (c :: r)) (List.drop (nl (c :: r)) (c :: r)) <;> rfl
theorem parse_nil (p : Nat) : parse p [] = .ok [] := by rw [parse]
/-- what has been read, and what is left -/
def Told (L : List UInt8) (l : List ScriptM.Act) (p : Nat) : Prop := parse 0 L = match parse p (L.drop p) with | .error e => .error e | .ok r => .ok (l ++ r)
theorem Told.zero (L : List UInt8) : Told L [] 0 := by
  unfold Told
  rw [List.drop_zero]
  cases parse 0 L <;> rfl
theorem Told.end_ {L : List UInt8} {l : List ScriptM.Act} {p : Nat} (h : Told L l p) (hp : p = L.length) : parse 0 L = .ok l := by
  unfold Told at h
  rw [h, hp, List.drop_length, parse_nil]
  simp
theorem Told.bad {L : List UInt8} {l : List ScriptM.Act} {p : Nat} (h : Told L l p) (hp : p < L.length) (hb : actM ((L.drop p).take (nl (L.drop p))) = none) : parse 0 L = .error p := by
  unfold Told at h
  have hne : L.drop p ≠ [] := by intro e; have := congrArg List.length e; simp at this; omega
  rw [h, parse_cons p _ hne, hb]
theorem Told.good {L : List UInt8} {l : List ScriptM.Act} {p : Nat} {a : ScriptM.Act} (h : Told L l p) (hp : p < L.length) (hb : actM ((L.drop p).take (nl (L.drop p))) = some a) : Told L (l ++ [a]) (p + nl (L.drop p)) := by
  unfold Told at h ⊢
  have hne : L.drop p ≠ [] := by intro e; have := congrArg List.length e; simp at this; omega
  rw [h, parse_cons p _ hne, hb, List.drop_drop]
  simp only
  cases parse (p + nl (L.drop p)) (L.drop (p + nl (L.drop p))) with
  | error e => rfl
  | ok r => simp
/-- what a reader of scripts hands back -/
def ParseIs (w : World) (L : List UInt8) (e : Ending) (w' : World) : Prop :=
  ((∃ vs a c, parse 0 L = .ok (vs.map ActV.abs) ∧ vs.length ≤ L.length ∧ e = .returned (.tuple #[.slice a vs.length c, .int .i64 0, .int .i64 0]) ∧ ActsAt w' w.heap.size a c vs) ∨
    (∃ p : Nat, parse 0 L = .error p ∧ e = .returned (.tuple #[.slice none 0 0, .int .i64 (p : Int), .int .i64 5]))) ∧ Below w.heap.size w w'
set_option maxRecDepth 100000 in
set_option maxHeartbeats 4000000 in
theorem parse_any (s : ByteArray) (w : World) (hs : s.size ≤ 1000) (hl : Laid w) :
    Calls Tryd.prog 18 #[.string s] w (ParseIs w s.data.toList) := by
  have HL := Lib.hid hl
  clear hl
  obtain ⟨i1, hi1, hz1, hs1, hb1⟩ := info_parts info_act
  have HI := Lib.hid (And.intro hi1 (And.intro hz1 (And.intro hs1 hb1)))
  clear hi1 hz1 hs1 hb1
  refine (callsIn_wide (n := 6)).1 ?_
  refine callsIn_of_wp_marks Tryd.func18 rfl trivial ?_ rfl
  simp only [Tryd.ntmps18, List.size_toArray, List.length_cons, List.length_nil, Nat.reduceAdd, Nat.reduceSub, Array.replicate_succ, Array.replicate_zero, List.push_toArray, List.append_toArray, List.nil_append, List.cons_append]
  gi_wp2_with fail
  refine ⟨trivial, ?_⟩
  obtain ⟨W, hW⟩ : ∃ W, (((w.alloc (.cells #[.slice none 0 0] 22)).alloc (.cells #[.int .i64 0] 3)).alloc (.cells #[.int .i64 0] 39)).alloc (.cells #[.slice none 0 0] 22) = W := ⟨_, rfl⟩
  have hWb : Below w.heap.size w W := by
    rw [← hW]; exact ((((Below.refl _ _).alloc (Nat.le_refl _) _).alloc (by simp) _).alloc (by simp only [World.size_alloc]; omega) _).alloc (by simp only [World.size_alloc]; omega) _
  have hWs : W.heap.size = w.heap.size + 4 := by rw [← hW]; simp
  have hx0 : Box W w.heap.size (.slice none 0 0) := by rw [← hW]; exact (((Box.new w _ _).alloc _).alloc _).alloc _
  have hx1 : Box W (w.heap.size + 1) (.int .i64 0) := by
    have := Box.new (w.alloc (.cells #[.slice none 0 0] 22)) (.int .i64 0) 3
    rw [World.size_alloc] at this
    rw [← hW]; exact (this.alloc _).alloc _
  have hx2 : Box W (w.heap.size + 1 + 1) (.int .i64 0) := by
    have := Box.new ((w.alloc (.cells #[.slice none 0 0] 22)).alloc (.cells #[.int .i64 0] 3)) (.int .i64 0) 39
    rw [World.size_alloc, World.size_alloc] at this
    rw [← hW]; exact this.alloc _
  have hx3 : Box W (w.heap.size + 1 + 1 + 1) (.slice none 0 0) := by
    have := Box.new (((w.alloc (.cells #[.slice none 0 0] 22)).alloc (.cells #[.int .i64 0] 3)).alloc (.cells #[.int .i64 0] 39)) (.slice none 0 0) 22
    rw [World.size_alloc, World.size_alloc, World.size_alloc] at this
    rw [← hW]; exact this
  rw [hW]
  clear hW
  refine (callsIn_wide.2 (lines_any s W)).mono ?_
  rintro e w1 ⟨rfl, hbx, hb1, hsz1⟩
  have hx0' := hx0.call hb1
  have hx1' := hx1.call hb1
  have hx2' := hx2.call hb1
  have hx3' := hx3.call hb1
  have hB1 : Below w.heap.size w w1 := hWb.trans (hb1.mono hWb.size)
  have hlt1 : w.heap.size + 4 < w1.heap.size := by omega
  have HWS := Lib.hid hWs
  clear hx0 hx1 hx2 hx3 hb1 hWb hWs
  gi_wp2_with fail
  have HBX := Lib.hid hbx
  refine wpIn_range_ok rfl (by omega) (gf := 42) (lb := #[.pointer (some ⟨W.heap.size, 0, none⟩)]) rfl trivial (enters_of Tryd.func42 (by kernel_rfl) rfl)
    (lines_stops _ (by omega) W.heap.size s (by omega) w1 hbx hsz1) (fun h k => h.trans k) (fun W l o o' hl _ _ => Stays.turn W l o' hl) (fun pre x W l o o' hk _ _ _ => hk) (Below.refl _ _) (fun _ => rfl)
    (fun pre U => ((Box U w.heap.size (.slice none 0 0) ∧ Box U (w.heap.size + 1) (.int .i64 0) ∧ Box U (w.heap.size + 1 + 1) (.int .i64 0)) ∧ ∃ vs a c, Box U (w.heap.size + 1 + 1 + 1) (.slice a vs.length c) ∧ ActsAt U w1.heap.size a c vs ∧ Told s.data.toList (vs.map ActV.abs) (endLn pre) ∧ vs.length ≤ endLn pre) ∧ Below w.heap.size w U ∧ w1.heap.size ≤ U.heap.size)
    (fun c pre U => (c = .ret ∧ ∃ p : Nat, parse 0 s.data.toList = .error p ∧ Box U w.heap.size (.slice none 0 0) ∧ Box U (w.heap.size + 1) (.int .i64 (p : Int)) ∧ Box U (w.heap.size + 1 + 1) (.int .i64 5)) ∧ Below w.heap.size w U ∧ w1.heap.size ≤ U.heap.size)
    ?o1 ?o2 ?h0 ?_ ?_ ?_ ?_ ?_
  case o1 =>
    exact OwnFrom.and (Own.from (fun pre A B row hs hg hr => by
      obtain ⟨⟨b0, b1, b2⟩, vs, a, c, b3, ha, ht, hv⟩ := hs
      exact ⟨⟨b0.turned hg hr, b1.turned hg hr, b2.turned hg hr⟩, vs, a, c, b3.turned hg hr, ha.turned hg hr, ht, hv⟩) _) (OwnFrom.and (ownFrom_below (Nat.le_refl _) (by omega)) (fun _ _ _ _ h hg _ => Nat.le_trans h hg.size))
  case o2 =>
    exact fun cd => OwnFrom.and (Own.from (fun pre A B row hs hg hr => by
      obtain ⟨hc, p, hp, b0, b1, b2⟩ := hs
      exact ⟨hc, p, hp, b0.turned hg hr, b1.turned hg hr, b2.turned hg hr⟩) _) (OwnFrom.and (ownFrom_below (Nat.le_refl _) (by omega)) (fun _ _ _ _ h hg _ => Nat.le_trans h hg.size))
  case h0 => exact ⟨⟨⟨hx0', hx1', hx2'⟩, [], none, 0, hx3', ActsAt.nil_ _ _, Told.zero _, Nat.zero_le _⟩, hB1, Nat.le_refl _⟩
  case refine_2 =>
    intro l x U K hK
    simp only [Ln.encs]
    gi_wp2
    exact hK
  case refine_4 =>
    rintro D xs U hD hend ⟨⟨⟨b0, b1, b2⟩, vs, a, c, b3, ha, ht, hv⟩, hBU, hlU⟩ hK
    have hp := ht.end_ hend
    have k0 := b0.1
    have k1 := b1.1
    have k2 := b2.1
    have k3 := b3.1
    have f0 := b0.2
    have f1 := b1.2
    have f2 := b2.2
    clear hx0' hx1' hx2' hx3'
    gi_wp2_with fail
    obtain ⟨V, hV⟩ : ∃ V, ((U.setCell ⟨w.heap.size, 0, none⟩ (.slice a vs.length c)).setCell ⟨w.heap.size + 1, 0, none⟩ (.int .i64 0)).setCell ⟨w.heap.size + 1 + 1, 0, none⟩ (.int .i64 0) = V := ⟨_, rfl⟩
    have v0 : Box V w.heap.size (.slice a vs.length c) := by rw [← hV]; exact ((b0.set _).other (by simp) _).other (by simp; omega) _
    have v1 : Box V (w.heap.size + 1) (.int .i64 0) := by rw [← hV]; exact ((b1.other (by simp) _).set _).other (by simp) _
    have v2 : Box V (w.heap.size + 1 + 1) (.int .i64 0) := by rw [← hV]; exact ((b2.other (by simp; omega) _).other (by simp) _).set _
    have va : ActsAt V w1.heap.size a c vs := by rw [← hV]; exact ((ha.far (by show w.heap.size < _; omega) _).far (by show w.heap.size + 1 < _; omega) _).far (by show w.heap.size + 1 + 1 < _; omega) _
    have vB : Below w.heap.size w V := by rw [← hV]; exact ((hBU.setCell (p := ⟨w.heap.size, 0, none⟩) (Nat.le_refl _) _).setCell (p := ⟨w.heap.size + 1, 0, none⟩) (by show _ ≤ w.heap.size + 1; omega) _).setCell (p := ⟨w.heap.size + 1 + 1, 0, none⟩) (by show _ ≤ w.heap.size + 1 + 1; omega) _
    have vK : V.heap[D]? = some (.deferred (some [])) := by rw [← hV]; exact ((KeepsOthers.setCell _ _ _).trans ((KeepsOthers.setCell _ _ _).trans (KeepsOthers.setCell _ _ _))).same D _ hK rfl
    rw [hV]
    refine ⟨by simp, .inl ⟨_, _, rfl, run_takeDeferred vK, ?_⟩⟩
    have hg := grownBy_putObj' V D (.deferred none)
    have hr : ∀ r, some D = some r → ∃ o : Obj, V.heap[r]? = some o ∧ o.isCells = false := fun r e => by cases e; exact ⟨_, vK, rfl⟩
    have z0 := (v0.turned hg hr).1
    have z1 := (v1.turned hg hr).1
    have z2 := (v2.turned hg hr).1
    refine ⟨_, by simp [results, go_sem, z0, z1, z2], .inl ⟨vs, a, c, hp, by rw [hend] at hv; exact hv, rfl, (va.turned hg hr).lower (by omega)⟩, vB.trans (belowK_b (w := w) (Nat.le_refl _) _ D _ _ (by omega) vK rfl rfl)⟩
  case refine_5 =>
    rintro D cd pre U hD _ ⟨⟨rfl, p, hp, b0, b1, b2⟩, hBU, hlU⟩ hK
    have k0 := b0.1
    have k1 := b1.1
    have k2 := b2.1
    clear hx0' hx1' hx2' hx3'
    gi_wp2_with fail
    refine ⟨by simp, .inl ⟨_, _, rfl, run_takeDeferred hK, ?_⟩⟩
    have hg := grownBy_putObj' U D (.deferred none)
    have hr : ∀ r, some D = some r → ∃ o : Obj, U.heap[r]? = some o ∧ o.isCells = false := fun r e => by cases e; exact ⟨_, hK, rfl⟩
    have z0 := (b0.turned hg hr).1
    have z1 := (b1.turned hg hr).1
    have z2 := (b2.turned hg hr).1
    refine ⟨_, by simp [results, go_sem, z0, z1, z2], .inr ⟨p, hp, rfl⟩, hBU.trans (belowK_b (w := w) (Nat.le_refl _) _ D _ _ (by omega) hK rfl rfl)⟩
  case refine_3 =>
    rintro l pre ⟨at_, t⟩ U ⟨⟨⟨b0, b1, b2⟩, vs, a, c, b3, ha, ht, hv⟩, hBU, hlU⟩ hok
    have hat : at_ = endLn pre := hok.1
    have hltp : at_ < s.data.toList.length := hok.2.1
    have htl : t.data.toList = (s.data.toList.drop at_).take (nl (s.data.toList.drop at_)) := hok.2.2
    rw [← hat] at ht hv
    have htn : t.size = nl (s.data.toList.drop at_) := by
      have h := congrArg List.length htl
      rw [List.length_take, Nat.min_eq_left (nl_le _)] at h
      rw [← h, Array.length_toList]; rfl
    have hts : t.size ≤ 1000 := by
      have h1 := nl_le (s.data.toList.drop at_)
      have h2 : s.data.toList.length = s.size := by rw [Array.length_toList]; rfl
      rw [List.length_drop] at h1
      omega
    have hcnt : vs.length ≤ 1000 := by
      have h2 : s.data.toList.length = s.size := by rw [Array.length_toList]; rfl
      omega
    have HOK := Lib.hid (And.intro hat (And.intro hltp (And.intro htl htn)))
    have HI2 := Lib.hid (And.intro b0 (And.intro b1 (And.intro b2 (And.intro b3 (And.intro ha (And.intro ht (And.intro hv (And.intro hBU hlU))))))))
    clear hok hat hltp htl htn b0 b1 b2 b3 ha ht hv hBU hlU hx0' hx1' hx2' hx3'
    gi_wp2_with fail
    refine ⟨trivial, ?_⟩
    refine (callsIn_wide.2 (act_any t U hts (HL.out.below HI2.out.2.2.2.2.2.2.2.1))).mono ?_
    rintro e U1 ⟨⟨⟨kd, vn, dn, ka, kn, kc, nm, m⟩, keep⟩, rfl, hbu1, hgood⟩
    simp only [ActC.cells]
    have HG := Lib.hid hgood
    clear hgood
    obtain ⟨b0, b1, b2, b3, ha, ht, hv, hBU, hlU⟩ := HI2.out
    have HJ2 := Lib.hid (And.intro (b0.call hbu1) (And.intro (b1.call hbu1) (And.intro (b2.call hbu1) (And.intro (b3.call hbu1) (And.intro (ha.call hbu1) (And.intro (Below.next0 hBU hbu1) hbu1))))))
    clear b0 b1 b2 b3 ha ht hv hBU hlU hbu1
    cases hR : (progRead t.data.toList).2 with
    | false =>
      obtain ⟨UA, hUA⟩ : ∃ UA, UA = U1.alloc (.cells #[.int .i64 kd, .int .i64 vn, .bool dn, .slice ka kn kc, .string nm, .int .u32 (m : Int)] 30) := ⟨_, rfl⟩
      obtain ⟨b0, b1, b2, b3, ha, hBU, hbu⟩ := HJ2.out
      have hba : Below U1.heap.size U1 UA := by rw [hUA]; exact (Below.refl _ _).alloc (Nat.le_refl _) _
      have c0 := b0.call hba
      have c1 := b1.call hba
      have c2 := b2.call hba
      have hBA := Below.next0 hBU hba
      have hbad : parse 0 s.data.toList = .error at_ := HI2.out.2.2.2.2.2.1.bad HOK.out.2.1 (by rw [← HOK.out.2.2.1]; unfold actM; rw [hR]; rfl)
      have HC := Lib.hid (And.intro c0 (And.intro c1 (And.intro c2 (And.intro hBA (And.intro hbad (And.intro (hbu.trans (hba.mono hbu.size)) HI2.out.2.2.2.2.2.2.2.2))))))
      have k0 := c0.1
      have k1 := c1.1
      have k2 := c2.1
      have f0 := c0.2
      have f1 := c1.2
      have f2 := c2.2
      clear b0 b1 b2 b3 ha hBU hbu hba c0 c1 c2 hBA hbad
      rw [hUA] at k0 k1 k2 f0 f1 f2
      gi_wp2_with fail
      rw [← hUA]
      obtain ⟨c0, c1, c2, hBA, hbad, hUUA, hlU⟩ := HC.out
      refine ⟨(KeepsFrom.of_grownBy (row := none) (grown_below hUUA none) (fun j e => by cases e)).trans (((KeepsOthers.setCell _ _ _).trans ((KeepsOthers.setCell _ _ _).trans (KeepsOthers.setCell _ _ _))).from _), ⟨rfl, at_, hbad, ?_, ?_, ?_⟩, ?_, ?_⟩
      · exact ((c0.set _).other (by simp) _).other (by simp; omega) _
      · exact ((c1.other (by simp) _).set _).other (by simp) _
      · exact ((c2.other (by simp; omega) _).other (by simp) _).set _
      · exact ((hBA.setCell (p := ⟨w.heap.size, 0, none⟩) (Nat.le_refl _) _).setCell (p := ⟨w.heap.size + 1, 0, none⟩) (by show _ ≤ w.heap.size + 1; omega) _).setCell (p := ⟨w.heap.size + 1 + 1, 0, none⟩) (by show _ ≤ w.heap.size + 1 + 1; omega) _
      · have := hUUA.size
        show w1.heap.size ≤ (((UA.setCell _ _).setCell _ _).setCell _ _).heap.size
        simp only [World.size_setCell]; omega
    | true =>
      obtain ⟨hab, hvo, hpl⟩ := HG.out hR
      obtain ⟨X, hX⟩ : ∃ X : ActV, X = ⟨⟨kd, vn, dn, ka, kn, kc, nm, m⟩, keep⟩ := ⟨_, rfl⟩
      have hXc : X.x.cells = #[.int .i64 kd, .int .i64 vn, .bool dn, .slice ka kn kc, .string nm, .int .u32 (m : Int)] := by rw [hX]; rfl
      have hXp : X.keep = [] ∨ ∃ g o, X.x.ka = some ⟨g, o, none⟩ ∧ U.heap.size ≤ g := by
        rw [hX]
        exact hpl
      rw [← hX] at hab hvo
      obtain ⟨b0, b1, b2, b3, ha, hBU, hbu⟩ := HJ2.out
      have hlU := HI2.out.2.2.2.2.2.2.2.2
      have hbb : Below U1.heap.size U1 ((U1.alloc (.cells #[.int .i64 kd, .int .i64 vn, .bool dn, .slice ka kn kc, .string nm, .int .u32 (m : Int)] 30)).alloc (.cells #[.int .i64 kd, .int .i64 vn, .bool dn, .slice ka kn kc, .string nm, .int .u32 (m : Int)] 30)) := ((Below.refl _ _).alloc (Nat.le_refl _) _).alloc (by rw [World.size_alloc]; omega) _
      have hUB : Below U.heap.size U ((U1.alloc (.cells #[.int .i64 kd, .int .i64 vn, .bool dn, .slice ka kn kc, .string nm, .int .u32 (m : Int)] 30)).alloc (.cells #[.int .i64 kd, .int .i64 vn, .bool dn, .slice ka kn kc, .string nm, .int .u32 (m : Int)] 30)) := hbu.trans (hbb.mono hbu.size)
      have hUB1 : Below w1.heap.size U ((U1.alloc (.cells #[.int .i64 kd, .int .i64 vn, .bool dn, .slice ka kn kc, .string nm, .int .u32 (m : Int)] 30)).alloc (.cells #[.int .i64 kd, .int .i64 vn, .bool dn, .slice ka kn kc, .string nm, .int .u32 (m : Int)] 30)) := hUB.mono hlU
      have haB := ha.call hbb
      have hvB := hvo.call hbb
      have hown := haB.row
      have hlB : w1.heap.size ≤ ((U1.alloc (.cells #[.int .i64 kd, .int .i64 vn, .bool dn, .slice ka kn kc, .string nm, .int .u32 (m : Int)] 30)).alloc (.cells #[.int .i64 kd, .int .i64 vn, .bool dn, .slice ka kn kc, .string nm, .int .u32 (m : Int)] 30)).heap.size := Nat.le_trans hlU hUB.size
      have c3 := b3.call ((Below.refl _ _).alloc (Nat.le_refl _) _ : Below U1.heap.size U1 (U1.alloc (.cells #[.int .i64 kd, .int .i64 vn, .bool dn, .slice ka kn kc, .string nm, .int .u32 (m : Int)] 30)))
      have k3 := c3.1
      have f3 := c3.2
      have one6 : ∀ u ∈ (#[.int .i64 kd, .int .i64 vn, .bool dn, .slice ka kn kc, .string nm, .int .u32 (m : Int)] : Array Value).toList, u.oneCell' = true := by intro u hu; simp at hu; rcases hu with rfl | rfl | rfl | rfl | rfl | rfl <;> rfl
      have q1 : vs.length + 1 ≤ 9223372036854775807 := by omega
      have q2 : (vs.length + 1) * 72 ≤ 140737488355328 := by omega
      have htold : Told s.data.toList ((vs ++ [X]).map ActV.abs) (at_ + t.size) := by
        have h := HI2.out.2.2.2.2.2.1.good HOK.out.2.1 (a := X.abs) (by rw [← HOK.out.2.2.1, hab]; unfold actM; rw [hR]; rfl)
        rw [← HOK.out.2.2.2] at h
        rw [List.map_append]; exact h
      have hts1 : 1 ≤ t.size := by
        rw [HOK.out.2.2.2]
        cases hd : s.data.toList.drop at_ with
        | nil => have h := congrArg List.length hd; have := HOK.out.2.1; rw [List.length_drop, List.length_nil] at h; omega
        | cons x r => exact nl_pos x r
      have HV := Lib.hid (And.intro hab (And.intro hvB (And.intro hXp (And.intro hXc (And.intro haB (And.intro hUB (And.intro htold (And.intro hts1 ha))))))))
      clear hab hvo hpl hX hXc hXp b0 b1 b2 b3 ha hBU hbu hbb haB hvB c3 htold hts1 HG
      gi_wp2_with (gi_at_builtin; refine wpListIn_append_row rfl (.tmp 22) (.tmp 24) 22 rfl U _ 30 i1 _ 6 72 Tryd.underlying22 HI.out.1 HI.out.2.1 HI.out.2.2.1 HI.out.2.2.2 rfl (by decide) w1.heap.size hUB1 hlB a vs.length c _ rfl hown ⟨U1.heap.size + 1, 0, none⟩ 1 1 (#[.int .i64 kd, .int .i64 vn, .bool dn, .slice ka kn kc, .string nm, .int .u32 (m : Int)] : Array Value).toList rfl rfl ?_ one6 (vs.length + 1) rfl q1 q2 ?_; (have hn := cells_new (U1.alloc (.cells #[.int .i64 kd, .int .i64 vn, .bool dn, .slice ka kn kc, .string nm, .int .u32 (m : Int)] 30)) #[.int .i64 kd, .int .i64 vn, .bool dn, .slice ka kn kc, .string nm, .int .u32 (m : Int)] 30 (0, 0); rw [World.size_alloc] at hn; exact hn); intro a3 c3 w3 ho3 hg3 hb3 hat3; have k3w : w3.cell? ⟨w.heap.size + 1 + 1 + 1, 0, none⟩ = some (.slice a vs.length c) := (hb3.cell (p := ⟨w.heap.size + 1 + 1 + 1, 0, none⟩) (by show w.heap.size + 1 + 1 + 1 < _; omega)).trans HI2.out.2.2.2.1.1; have f3w : w3.frozen? ⟨w.heap.size + 1 + 1 + 1, 0, none⟩ = false := (hb3.frozen (p := ⟨w.heap.size + 1 + 1 + 1, 0, none⟩) (by show w.heap.size + 1 + 1 + 1 < _; omega)).trans HI2.out.2.2.2.1.2)
      obtain ⟨hab, hvB, hXp, hXc, haB, hUB', htold, hts1, ha⟩ := HV.out
      obtain ⟨b0, b1, b2, b3, haU, htU, hvU, hBU, _⟩ := HI2.out
      have hrowc : ∀ (j : Nat) (o : Obj), a.map (·.block) = some j → ((U1.alloc (.cells #[.int .i64 kd, .int .i64 vn, .bool dn, .slice ka kn kc, .string nm, .int .u32 (m : Int)] 30)).alloc (.cells #[.int .i64 kd, .int .i64 vn, .bool dn, .slice ka kn kc, .string nm, .int .u32 (m : Int)] 30)).heap[j]? = some o → o.isCells = true := fun j o hj ho => by
        rcases haB.row.form with ⟨h0, _⟩ | ⟨g, cur, h1, _, _, hh, _⟩
        · rw [h0] at hj; cases hj
        · rw [h1] at hj; injection hj with hj; subst hj
          rw [hh] at ho; injection ho with ho; subst ho; rfl
      have hKO : KeepsFrom w1.heap.size U w3 := (KeepsFrom.of_grownBy (row := none) (grown_below hUB' none) (fun j e => by cases e)).trans ((KeepsOthers.of_grownBy hg3 hrowc).from _)
      have hva : X.keep = [] ∨ ∃ g o, X.x.ka = some ⟨g, o, none⟩ ∧ w1.heap.size ≤ g ∧ a.map (·.block) ≠ some g := by
        rcases hXp with h | ⟨g, o, h1, h2⟩
        · exact .inl h
        · refine .inr ⟨g, o, h1, by omega, fun e => ?_⟩
          rcases haU.row.form with ⟨h0, _⟩ | ⟨g', cur, e1, _, hg', _⟩
          · rw [h0] at e; cases e
          · rw [e1] at e; injection e with e
            have e : g' = g := e
            omega
      have hnew : ActNew ((U1.alloc (.cells #[.int .i64 kd, .int .i64 vn, .bool dn, .slice ka kn kc, .string nm, .int .u32 (m : Int)] 30)).alloc (.cells #[.int .i64 kd, .int .i64 vn, .bool dn, .slice ka kn kc, .string nm, .int .u32 (m : Int)] 30)) w1.heap.size X := ⟨hvB, hva.imp id fun ⟨g, o, h1, h2, _⟩ => ⟨g, o, h1, h2⟩⟩
      have ho3' : Row w3 w1.heap.size 30 6 a3 (vs.length + 1) c3 (cellsL vs ++ X.x.cells.toList) := by rw [hXc]; exact ho3
      have ha3 := haB.snoc hnew hg3 ho3' hat3 hva
      have hKB : Below w.heap.size w w3 := hBU.trans (hb3.mono (by omega))
      have hx : ∀ {b : Nat} {v : Value}, b < w1.heap.size → Box U b v → Box w3 b v := fun {b} {v} hlt h => ⟨(hb3.cell (p := ⟨b, 0, none⟩) hlt).trans h.1, (hb3.frozen (p := ⟨b, 0, none⟩) hlt).trans h.2⟩
      have hws := HWS.out
      refine ⟨hKO.trans ((KeepsOthers.setCell _ _ _).from _), ?_, ⟨⟨?_, ?_, ?_⟩, vs ++ [X], a3, c3, ?_, ha3.far (by show w.heap.size + 1 + 1 + 1 < _; omega) _, ?_, ?_⟩, ?_, ?_⟩
      · exact Stays.setCell (⟨hb3.size, fun k _ hk => hb3.block k hk⟩ : Stays W.heap.size w1.heap.size U w3) (.inl (by show w.heap.size + 1 + 1 + 1 < _; omega)) _
      · exact (hx (by omega) b0).other (by simp; omega) _
      · exact (hx (by omega) b1).other (by simp; omega) _
      · exact (hx (by omega) b2).other (by simp) _
      · have h := (hx (by omega) b3).set (.slice a3 (vs.length + 1) c3)
        simpa using h
      · rw [endLn_snoc]; exact htold
      · rw [endLn_snoc]
        show (vs ++ [X]).length ≤ at_ + t.size
        rw [List.length_append, List.length_singleton]; omega
      · exact hKB.setCell (p := ⟨w.heap.size + 1 + 1 + 1, 0, none⟩) (by show _ ≤ w.heap.size + 1 + 1 + 1; omega) _
      · rw [World.size_setCell]; exact Nat.le_trans hlU hb3.size
end Go.Proofs.YtifdmgloheampaaDoor
