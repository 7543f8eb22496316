/- The walk of the document's Parse. Condition: the text is short. -/
import Derived.Test.YtifdmgloheampaaDoorScriptW
namespace Go.Proofs.YtifdmgloheampaaDoor
open Go.RowKit DiskM ScriptM

theorem nl_line : ∀ (x r : List UInt8), (∀ c ∈ x, c ≠ 10) → nl (x ++ 10 :: r) = x.length + 1
  | [], r, _ => by simp [nl]
  | c :: x, r, h => by
    have hc := h c (by simp)
    simp only [List.cons_append, nl]
    rw [if_neg hc, nl_line x r fun d hd => h d (by simp [hd])]
    simp
theorem nl_none : ∀ (x : List UInt8), (∀ c ∈ x, c ≠ 10) → nl x = x.length
  | [], _ => rfl
  | c :: x, h => by
    have hc := h c (by simp)
    simp only [nl]
    rw [if_neg hc, nl_none x fun d hd => h d (by simp [hd])]
    simp
/-- in the midst of a line that begins at f -/
def Mid (L : List UInt8) (f i : Nat) : Prop := f ≤ i ∧ ∀ c ∈ (L.drop f).take (i - f), c ≠ 10
theorem Mid.zero (L : List UInt8) (f : Nat) : Mid L f f := ⟨Nat.le_refl _, by rw [Nat.sub_self, List.take_zero]; intro c hc; cases hc⟩
theorem Mid.on {L : List UInt8} {f i : Nat} {c : UInt8} (h : Mid L f i) (hi : L[i]? = some c) (hc : c ≠ 10) : Mid L f (i + 1) := by
  have h1 := h.1
  refine ⟨by omega, fun d hd => ?_⟩
  rw [show i + 1 - f = (i - f) + 1 by omega, List.take_add_one, List.getElem?_drop, show f + (i - f) = i by omega, hi] at hd
  rcases List.mem_append.1 hd with hd | hd
  · exact h.2 d hd
  · have : d = c := by simpa using hd
    rw [this]; exact hc
theorem Mid.line {L : List UInt8} {f i : Nat} (h : Mid L f i) (hi : L[i]? = some 10) : nl (L.drop f) = i + 1 - f ∧ (L.drop f).take (nl (L.drop f)) = (L.drop f).take (i - f) ++ [10] := by
  have h1 := h.1
  have hil : i < L.length := (List.getElem?_eq_some_iff.1 hi).1
  have hs : L.drop f = (L.drop f).take (i - f) ++ 10 :: L.drop (i + 1) := by
    conv => lhs; rw [← List.take_append_drop (i - f) (L.drop f)]
    rw [List.drop_drop, show f + (i - f) = i by omega, List.drop_eq_getElem_cons hil]
    rw [(List.getElem?_eq_some_iff.1 hi).2]
  have hn := nl_line _ (L.drop (i + 1)) h.2
  rw [← hs] at hn
  have hl : ((L.drop f).take (i - f)).length = i - f := by rw [List.length_take, List.length_drop]; omega
  rw [hl] at hn
  refine ⟨by omega, ?_⟩
  rw [hn, List.take_add_one, List.getElem?_drop, show f + (i - f) = i by omega, hi]
  rfl
theorem Mid.tail {L : List UInt8} {f : Nat} (h : Mid L f L.length) (_hf : f < L.length) : actM ((L.drop f).take (nl (L.drop f))) = none := by
  have hall : ∀ c ∈ L.drop f, c ≠ 10 := fun c hc => h.2 c (by rw [List.take_of_length_le (by rw [List.length_drop]; exact Nat.le_refl _)]; exact hc)
  rw [nl_none _ hall, List.take_length]
  refine actM_short fun x hx => ?_
  exact hall 10 (by rw [hx]; simp) rfl
theorem read_line {L : List UInt8} {f i : Nat} (h : Mid L f i) (hi : L[i]? = some 10) : actM ((L.drop f).take (nl (L.drop f))) = refRead ((L.drop f).take (i - f)) := by
  rw [(h.line hi).2, read_same]
set_option maxRecDepth 100000 in
set_option maxHeartbeats 4000000 in
theorem rparse_any (s : ByteArray) (w : World) (hs : s.size ≤ 1000) :
    Calls Tryd.prog 31 #[.string s] w (ParseIs w s.data.toList) := by
  obtain ⟨i1, hi1, hz1, hs1, hb1⟩ := info_parts info_act
  have HI := Lib.hid (And.intro hi1 (And.intro hz1 (And.intro hs1 hb1)))
  clear hi1 hz1 hs1 hb1
  have hln : s.data.toList.length = s.size := by rw [Array.length_toList]; rfl
  have HLN := Lib.hid hln
  clear hln
  go_enter Tryd.func31, Tryd.ntmps31
  go_wp2_with fail
  go_loopw [5, 6, 7] (fun v u x wr => ∃ (i f n : Nat) (vs : List ActV) (a : Option Addr) (c : Nat), v = .slice a n c ∧ u = .int .i64 (f : Int) ∧ x = .int .i64 (i : Int) ∧ i ≤ s.size ∧ n ≤ f ∧ f ≤ s.size ∧ Hid (n = vs.length ∧ Mid s.data.toList f i ∧ Told s.data.toList (vs.map ActV.abs) f) ∧ ActsAt wr w.heap.size a c vs ∧ Below w.heap.size w wr) (fun _ _ x _ => s.size - (intOf x).toNat)
  case atStart => exact ⟨0, 0, 0, [], none, 0, rfl, rfl, rfl, Nat.zero_le _, Nat.zero_le _, Nat.zero_le _, Lib.hid ⟨rfl, Mid.zero _ _, Told.zero _⟩, ActsAt.nil_ _ _, Below.refl _ _⟩
  case round =>
    obtain ⟨i, f, n, vs, a, c, rfl, rfl, rfl, hi, hnf, hfs, hh, ha, hb⟩ := hrel
    by_cases hlt : i < s.size
    · have hlt' : (i : Int) < (s.size : Int) := by omega
      obtain ⟨d, hd⟩ : ∃ d, d = s[i] := ⟨_, rfl⟩
      have hdi : s.data.toList[i]? = some d := by
        rw [List.getElem?_eq_getElem (by rw [HLN.out]; exact hlt), hd]; rfl
      by_cases hc : d = 10
      · have t1 : ((s[i].toNat : Int) != 10) = false := by rw [← hd, hc]; rfl
        have hfi : (f : Int) ≤ (i : Int) := by have := hh.out.2.1.1; omega
        subst hc
        have hrl := read_line hh.out.2.1 hdi
        have hln := hh.out.2.1.line hdi
        have hpc : (s.extract f i).data.toList = (s.data.toList.drop f).take (i - f) := Lib.extract_data s f i
        have hra := fun W => readact_any (s.extract f i) W (by rw [ByteArray.size_extract]; omega)
        rw [hpc] at hra
        rw [← hrl] at hra
        have hfl : f < s.data.toList.length := by rw [HLN.out]; omega
        have HX := Lib.hid (And.intro hh.out (And.intro ha (And.intro hb (And.intro hln.1 hfl))))
        clear hh ha hb hrl hln hpc hd hdi hfl
        cases hA : actM ((s.data.toList.drop f).take (nl (s.data.toList.drop f))) with
        | none =>
          rw [hA] at hra
          have hra := fun W => (hra W)
          have HRA := Lib.hid hra
          have hbad := HX.out.1.2.2.bad HX.out.2.2.2.2 hA
          have HBD := Lib.hid hbad
          clear hra hA hbad
          go_wp2_with (refine (HRA.out _).mono ?_; rintro e w1 ⟨⟨⟨kd, vn, dn, ka, kn, kc, nm, m⟩, keep⟩, rfl, hbu, hgood⟩; simp only [ActC.cells]; have HBU := Lib.hid hbu; clear hgood hbu)
          go_ret3
          refine ⟨.inr ⟨f, HBD.out, rfl⟩, (Below.next0 HX.out.2.2.1 HBU.out).trans (((Below.refl _ _).alloc (Nat.le_refl _) _).mono (Below.next0 HX.out.2.2.1 HBU.out).size)⟩
        | some b =>
          rw [hA] at hra
          have HRA := Lib.hid hra
          have HA := Lib.hid hA
          have one6 : ∀ (kd vn : Int) (dn : Bool) (ka : Option Addr) (kn kc : Nat) (nm : ByteArray) (m : Nat), ∀ u ∈ (#[.int .i64 kd, .int .i64 vn, .bool dn, .slice ka kn kc, .string nm, .int .u32 (m : Int)] : Array Value).toList, u.oneCell' = true := by intro kd vn dn ka kn kc nm m u hu; simp at hu; rcases hu with rfl | rfl | rfl | rfl | rfl | rfl <;> rfl
          have q1 : n + 1 ≤ 9223372036854775807 := by omega
          have q2 : (n + 1) * 72 ≤ 140737488355328 := by omega
          have hrow0 : Row wr w.heap.size 30 6 a n c (cellsL vs) := by have h := HX.out.2.1.row; rw [← HX.out.1.1] at h; exact h
          have HR0 := Lib.hid hrow0
          clear hra hA hrow0
          go_wp2_with (first | (refine (HRA.out _).mono ?_; rintro e w1 ⟨⟨⟨kd, vn, dn, ka, kn, kc, nm, m⟩, keep⟩, rfl, hbu, hgood⟩; simp only [ActC.cells]; have HBU := Lib.hid (And.intro hbu (hgood rfl)); clear hgood hbu; have hbb : Below w1.heap.size w1 ((w1.alloc (.cells #[.int .i64 kd, .int .i64 vn, .bool dn, .slice ka kn kc, .string nm, .int .u32 (m : Int)] 30)).alloc (.cells #[.int .i64 kd, .int .i64 vn, .bool dn, .slice ka kn kc, .string nm, .int .u32 (m : Int)] 30)) := ((Below.refl _ _).alloc (Nat.le_refl _) _).alloc (by rw [World.size_alloc]; omega) _; have hB1 : Below w.heap.size w ((w1.alloc (.cells #[.int .i64 kd, .int .i64 vn, .bool dn, .slice ka kn kc, .string nm, .int .u32 (m : Int)] 30)).alloc (.cells #[.int .i64 kd, .int .i64 vn, .bool dn, .slice ka kn kc, .string nm, .int .u32 (m : Int)] 30)) := Below.next0 (Below.next0 HX.out.2.2.1 HBU.out.1) hbb; have hrowB : Row ((w1.alloc (.cells #[.int .i64 kd, .int .i64 vn, .bool dn, .slice ka kn kc, .string nm, .int .u32 (m : Int)] 30)).alloc (.cells #[.int .i64 kd, .int .i64 vn, .bool dn, .slice ka kn kc, .string nm, .int .u32 (m : Int)] 30)) w.heap.size 30 6 a n c (cellsL vs) := (HR0.out.call HBU.out.1).call hbb) | (at_builtin; refine wpList_append_row rfl (.tmp 31) (.tmp 33) 22 rfl w _ 30 i1 _ 6 72 Tryd.underlying22 HI.out.1 HI.out.2.1 HI.out.2.2.1 HI.out.2.2.2 rfl (by decide) w.heap.size hB1 hB1.size a n c _ rfl hrowB ⟨w1.heap.size + 1, 0, none⟩ 1 1 (#[.int .i64 kd, .int .i64 vn, .bool dn, .slice ka kn kc, .string nm, .int .u32 (m : Int)] : Array Value).toList rfl rfl ?_ (one6 kd vn dn ka kn kc nm m) (n + 1) rfl q1 q2 ?_; (have hn := cells_new (w1.alloc (.cells #[.int .i64 kd, .int .i64 vn, .bool dn, .slice ka kn kc, .string nm, .int .u32 (m : Int)] 30)) #[.int .i64 kd, .int .i64 vn, .bool dn, .slice ka kn kc, .string nm, .int .u32 (m : Int)] 30 (0, 0); rw [World.size_alloc] at hn; exact hn); intro a3 c3 w3 ho3 hg3 hb3 hat3))
          go_roundw
          case rel =>
            obtain ⟨⟨hnl, hmid, htold⟩, haw, hbw, hln1, hfl⟩ := HX.out
            obtain ⟨hbu, hab, hvo, hpl⟩ := HBU.out
            have hab : some b = some (ActV.abs ⟨⟨kd, vn, dn, ka, kn, kc, nm, m⟩, keep⟩) := hab
            injection hab with hab
            obtain ⟨X, hX⟩ : ∃ X : ActV, X = ⟨⟨kd, vn, dn, ka, kn, kc, nm, m⟩, keep⟩ := ⟨_, rfl⟩
            have hXc : X.x.cells = #[.int .i64 kd, .int .i64 vn, .bool dn, .slice ka kn kc, .string nm, .int .u32 (m : Int)] := by rw [hX]; rfl
            have hXp : X.keep = [] ∨ ∃ g o, X.x.ka = some ⟨g, o, none⟩ ∧ wr.heap.size ≤ g := by rw [hX]; exact hpl
            rw [← hX] at hab hvo
            have hbr := hbw.size
            have hva : X.keep = [] ∨ ∃ g o, X.x.ka = some ⟨g, o, none⟩ ∧ w.heap.size ≤ g ∧ a.map (·.block) ≠ some g := by
              rcases hXp with h | ⟨g, o, h1, h2⟩
              · exact .inl h
              · refine .inr ⟨g, o, h1, by omega, fun e => ?_⟩
                rcases haw.row.form with ⟨h0, _⟩ | ⟨g', cur, e1, _, hg', _⟩
                · rw [h0] at e; cases e
                · rw [e1] at e; injection e with e
                  have e : g' = g := e
                  omega
            have hnew : ActNew (((w1.alloc (.cells #[.int .i64 kd, .int .i64 vn, .bool dn, .slice ka kn kc, .string nm, .int .u32 (m : Int)] 30)).alloc (.cells #[.int .i64 kd, .int .i64 vn, .bool dn, .slice ka kn kc, .string nm, .int .u32 (m : Int)] 30))) w.heap.size X := ⟨hvo.call hbb, hva.imp id fun ⟨g, o, h1, h2, _⟩ => ⟨g, o, h1, h2⟩⟩
            have ho3' : Row w3 w.heap.size 30 6 a3 (vs.length + 1) c3 (cellsL vs ++ X.x.cells.toList) := by rw [hXc, ← hnl]; exact ho3
            have ha3 := ((haw.call hbu).call hbb).snoc hnew hg3 ho3' hat3 hva
            have hfi1 := hmid.1
            have htn := htold.good hfl (a := X.abs) (by rw [HA.out, hab])
            have hend : f + nl (s.data.toList.drop f) = i + 1 := by omega
            rw [hend] at htn
            exact ⟨i + 1, i + 1, n + 1, vs ++ [X], a3, c3, rfl, by go_num, by go_num, by omega, by omega, by omega, Lib.hid ⟨by rw [List.length_append, List.length_singleton, hnl], Mid.zero _ _, by rw [List.map_append]; exact htn⟩, ha3, hb3⟩
          case measure => simp [intOf]; omega
      · have t1 : ((s[i].toNat : Int) != 10) = true := by
          rw [bne_iff_ne, ← hd]; intro e; apply hc; apply UInt8.toNat_inj.1; show d.toNat = 10; omega
        have hm := hh.out.2.1.on hdi hc
        have HX := Lib.hid (And.intro hh.out (And.intro ha (And.intro hb hm)))
        clear hh ha hb hm hd hdi
        go_wp2_with fail
        go_roundw
        case rel => exact ⟨i + 1, f, n, vs, a, c, rfl, rfl, by go_num, by omega, by omega, by omega, Lib.hid ⟨HX.out.1.1, HX.out.2.2.2, HX.out.1.2.2⟩, HX.out.2.1, HX.out.2.2.1⟩
        case measure => simp [intOf]; omega
    · obtain rfl : i = s.size := by omega
      have HX := Lib.hid (And.intro hh.out (And.intro ha hb))
      clear hh ha hb
      by_cases hf : f < s.size
      · have hf' : (f : Int) < (s.size : Int) := by omega
        have hbad : parse 0 s.data.toList = .error f := by
          have hm := HX.out.1.2.1
          rw [← HLN.out] at hm
          exact HX.out.1.2.2.bad (by rw [HLN.out]; exact hf) (hm.tail (by rw [HLN.out]; exact hf))
        have HBD := Lib.hid hbad
        clear hbad
        go_wp2_with fail
        go_ret3
        exact ⟨.inr ⟨f, HBD.out, rfl⟩, HX.out.2.2⟩
      · obtain rfl : f = s.size := by omega
        have hgood := HX.out.1.2.2.end_ HLN.out.symm
        have HGD := Lib.hid hgood
        have hf' : ¬ ((s.size : Int) < (s.size : Int)) := by omega
        clear hgood
        go_wp2_with fail
        go_ret3
        refine ⟨.inl ⟨vs, a, c, HGD.out, by rw [← HX.out.1.1, HLN.out]; exact hnf, by rw [← HX.out.1.1]; rfl, HX.out.2.1⟩, HX.out.2.2⟩
end Go.Proofs.YtifdmgloheampaaDoor
