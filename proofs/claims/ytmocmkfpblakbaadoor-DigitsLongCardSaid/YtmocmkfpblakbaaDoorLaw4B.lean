/- The walks of the help's Words and of the law's known. Condition: the library's tables lie. -/
/- The walk of the law's known. Condition: the library's tables lie. -/
import Derived.Test.YtmocmkfpblakbaaDoorDigF
import Derived.Test.YtmocmkfpblakbaaDoorDigC
import Derived.Test.YtmocmkfpblakbaaDoorRefI
import Derived.Test.YtmocmkfpblakbaaDoorTurn
import Derived.BigQuiet
import Derived.Deep.CutBlock
import Derived.Deep.DeepCutAuto
namespace Go.Proofs.YtmocmkfpblakbaaDoor
open Go.RowKit WordsM DecM

set_option maxRecDepth 100000 in
set_option maxHeartbeats 2000000 in
theorem helpwords_any (a : Option Addr) (n c : Nat) (ls : List Nat) (b : Option Addr) (m d : Nat) (ks : List Nat) (w : World) (h1 : WordsIn w a n c ls) (h2 : WordsIn w b m d ks) :
    Calls Tryd.prog 14 #[.slice a n c, .slice b m d] w fun e w' => e = .returned (.bool (decide (ls = ks))) ∧ Below w.heap.size w w' := by
  have hl1 := h1.len
  have hl2 := h2.len
  have hcm := Nat.le_trans h1.cap h1.most
  by_cases hnm : n = m
  · subst hnm
    have H1 := Lib.hid h1
    have H2 := Lib.hid h2
    clear h1 h2
    go_enter Tryd.func14, Tryd.ntmps14
    go_wp2_with fail
    go_loopw [5] (fun v wr => ∃ i : Nat, v = .int .i64 (i : Int) ∧ i ≤ n ∧ (∀ j, j < i → ls[j]? = ks[j]?) ∧ Below w.heap.size w wr) (fun v _ => n - (intOf v).toNat)
    case atStart => exact ⟨0, rfl, Nat.zero_le _, fun j h => absurd h (Nat.not_lt_zero _), Below.refl _ _⟩
    case round =>
      obtain ⟨i, rfl, hi, hpre, hb⟩ := hrel
      by_cases hlt : i < n
      · have hlt' : (i : Int) < (n : Int) := by omega
        obtain ⟨x, hx⟩ : ∃ x, ls[i]? = some x := ⟨_, List.getElem?_eq_getElem (by omega)⟩
        obtain ⟨y, hy⟩ : ∃ y, ks[i]? = some y := ⟨_, List.getElem?_eq_getElem (by omega)⟩
        obtain ⟨g1, o1, rfl, hg1, hcx⟩ := (H1.out.rd.below hb).at_ hx
        obtain ⟨g2, o2, rfl, hg2, hcy⟩ := (H2.out.rd.below hb).at_ hy
        have HP := Lib.hid (And.intro hpre (And.intro hb (And.intro hx hy)))
        clear hpre hb hx hy
        by_cases hxy : x = y
        · subst hxy
          go_wp2_with fail
          go_quiet (fail)
          go_wp2_with fail
          refine ⟨⟨i + 1, by simp, by omega, fun j hj => ?_, below_drewN HP.out.2.1 nq⟩, by simp only [intOf]; omega⟩
          by_cases hji : j = i
          · subst hji; rw [HP.out.2.2.1, HP.out.2.2.2]
          · exact HP.out.1 j (by omega)
        · have hxy' : ((x : Int) == (y : Int)) = false := by rw [beq_eq_false_iff_ne]; omega
          have hxy2 : ((x : Int) != (y : Int)) = true := by simp [bne, hxy']
          go_wp2_with fail
          go_quiet (fail)
          go_wp2_with fail
          go_ret
          have hne : ¬ ls = ks := fun e => hxy (by have h1 := HP.out.2.2.1; have h2 := HP.out.2.2.2; rw [e, h2] at h1; injection h1 with h1; exact h1.symm)
          exact ⟨by rw [decide_eq_false hne]; rfl, below_drewN HP.out.2.1 nq⟩
      · obtain rfl : i = n := by omega
        have hlt' : ¬ ((i : Int) < (i : Int)) := by omega
        have heq : ls = ks := same_all (fun j hj => hpre j (by omega)) (by omega)
        have HE := Lib.hid (And.intro heq hb)
        clear heq hb hpre
        go_wp2_with fail
        go_ret
        exact ⟨by rw [decide_eq_true HE.out.1]; rfl, HE.out.2⟩
  · have hne : ¬ ls = ks := fun e => hnm (by rw [← hl1, ← hl2, e])
    have hnI : ((n : Int) != (m : Int)) = true := by rw [bne_iff_ne]; omega
    have HN := Lib.hid hne
    clear hne h1 h2
    go_enter Tryd.func14, Tryd.ntmps14
    go_wp2_with fail
    go_ret
    exact ⟨by rw [decide_eq_false HN.out]; rfl, Below.refl _ _⟩
theorem make_one {neg : Bool} {v z : Nat} {exp : Int} {neg' : Bool} {e' : Int} {L : List Nat} {er : Int} (hz : IsTz v z) (h1 : exp ≤ 65536) (h2 : -65536 - (z : Int) ≤ exp) (hn : IsNum neg (exp + z) (dig (2 ^ 64) (v / 2 ^ z))) (h : MakeOut neg v exp neg' e' L er) : neg' = neg ∧ e' = exp + z ∧ L = dig (2 ^ 64) (v / 2 ^ z) ∧ er = 0 := by
  rcases h with ⟨h0, _⟩ | ⟨y, hy, h⟩
  · exact absurd h0 hz.pos
  · obtain rfl := hz.eq hy
    rcases h with ⟨h3, _⟩ | ⟨_, _, _, h4, h5, h6, h7⟩
    · rcases h3 with h3 | h3 | h3
      · omega
      · omega
      · exact absurd hn h3
    · exact ⟨h4, h5, h6, h7⟩
theorem dig3 : dig (2 ^ 64) 3 = [3] := by rw [dig_step (by decide) (by decide)]; rfl
theorem known1 {neg : Bool} {e : Int} {L : List Nat} {er : Int} (h : ParseOut [49, 50] neg e L er) : neg = false ∧ e = 2 ∧ L = [3] ∧ er = 0 := by
  have hf : form [49, 50] = some (false, 12, 0) := by decide
  unfold ParseOut at h
  rw [hf] at h
  have := make_one (z := 2) (by unfold IsTz; decide) (by decide) (by decide) (by rw [show 12 / 2 ^ 2 = 3 from rfl, dig3]; decide) h
  rw [show 12 / 2 ^ 2 = 3 from rfl, dig3] at this
  exact this
theorem known2 {neg : Bool} {e : Int} {L : List Nat} {er : Int} (h : ParseOut [45, 51, 112, 45, 50] neg e L er) : neg = true ∧ e = -2 ∧ L = [3] ∧ er = 0 := by
  have hf : form [45, 51, 112, 45, 50] = some (true, 3, -2) := by decide
  unfold ParseOut at h
  rw [hf] at h
  have := make_one (z := 0) (by unfold IsTz; decide) (by decide) (by decide) (by rw [show 3 / 2 ^ 0 = 3 from rfl, dig3]; decide) h
  rw [show 3 / 2 ^ 0 = 3 from rfl, dig3] at this
  exact this
theorem known3 {neg : Bool} {e : Int} {L : List Nat} {er : Int} (h : ParseOut [112, 49] neg e L er) : er = 5 := by
  have hf : form [112, 49] = none := by decide
  unfold ParseOut at h
  rw [hf] at h
  exact h.2.2.2
theorem text1 : textOut false 2 [3] = [51, 112, 50] := by
  have hn : IsNum false 2 [3] := by decide
  unfold textOut
  rw [if_pos hn]
  simp [textN, expT, val, dec_low]
theorem text2 : textOut true (-2) [3] = [45, 51, 112, 45, 50] := by
  have hn : IsNum true (-2) [3] := by decide
  unfold textOut
  rw [if_pos hn]
  simp [textN, expT, val, dec_low]
theorem text3 : textOut false 0 [] = [48] := by
  have hn : IsNum false 0 [] := by decide
  unfold textOut
  rw [if_pos hn]
  simp [textN, expT, val, dec_low]
end Go.Proofs.YtmocmkfpblakbaaDoor
namespace Go.Proofs.YtmocmkfpblakbaaDoor
open Go.RowKit WordsM DecM

/-- the library's tables lie -/
structure Laid (w : World) : Prop where
  tab : Lib.TabIs Tryd.prog w "internal/strconv.uint64pow10" .u64 Lib.pow10Tab
  tz : TabIn w
  big : 1 < w.heap.size
theorem g_tab : Tryd.prog.globalNamed "internal/strconv.uint64pow10" = some 1 := by kernel_rfl
theorem Laid.below {w w' : World} (h : Laid w) (hb : Below w.heap.size w w') : Laid w' := ⟨var?_below hb g_tab h.big h.tab, h.tz.step hb, Nat.lt_of_lt_of_le h.big hb.size⟩
theorem Laid.tabs {w : World} (h : Laid w) : ∀ W, Below w.heap.size w W → Lib.TabIs Tryd.prog W "internal/strconv.uint64pow10" .u64 Lib.pow10Tab := fun _ hb => (h.below hb).tab
set_option maxRecDepth 100000 in
set_option maxHeartbeats 8000000 in
theorem known_any (w : World) (hL : Laid w) :
    Calls Tryd.prog 5 #[] w fun e w' => e = .returned (.bool true) ∧ Below w.heap.size w w' := by
  have HL := Lib.hid (fun W (hb : Below w.heap.size w W) => hL.below hb)
  clear hL
  have htx1 := text1
  have htx2 := text2
  have htx3 := text3
  have HTX := Lib.hid (And.intro htx1 (And.intro htx2 htx3))
  clear htx1 htx2 htx3
  go_enter Tryd.func5, Tryd.ntmps5
  go_wp2_with (first
    | (go_at_call_of 6 (Value.string ⟨#[49, 50]⟩); refine (parse_any ⟨#[49, 50]⟩ _ (by decide) (HL.out _ (Below.refl _ _)).tz).mono ?_; rintro e w1 ⟨neg1, e1, a1, n1, c1, L1, er1, rfl, hp1, hW1, hb1⟩; obtain ⟨rfl, rfl, rfl, rfl⟩ := known1 hp1;
       have HA := Lib.hid (And.intro hW1 (And.intro hb1 (Below.next0 hb1 ((Below.refl _ _).alloc (Nat.le_refl _) (.cells #[.bool false, .int .i64 2, .slice a1 n1 c1] 28))))); clear hp1 hW1 hb1)
    | (go_at_call_of 6 (Value.string ⟨#[45, 51, 112, 45, 50]⟩); refine (parse_any ⟨#[45, 51, 112, 45, 50]⟩ _ (by decide) (HL.out _ HA.out.2.2).tz).mono ?_; rintro e w2 ⟨neg2, e2, a2, n2, c2, L2, er2, rfl, hp2, hW2, hb2⟩; obtain ⟨rfl, rfl, rfl, rfl⟩ := known2 hp2;
       have hba := Below.next0 hb2 ((Below.refl w2.heap.size w2).alloc (Nat.le_refl _) (.cells #[.bool true, .int .i64 (-2), .slice a2 n2 c2] 28));
       have HB := Lib.hid (And.intro hW2 (And.intro hb2 (And.intro (Below.next0 HA.out.2.2 hba) hba))); clear hp2 hW2 hb2 hba)
    | (go_at_call_of 6 (Value.string ⟨#[112, 49]⟩); refine (parse_any ⟨#[112, 49]⟩ _ (by decide) (HL.out _ HB.out.2.2.1).tz).mono ?_; rintro e w3 ⟨neg3, e3, a3, n3, c3, L3, er3, rfl, hp3, hW3, hb3⟩; obtain rfl := known3 hp3;
       have hba := Below.next0 hb3 ((Below.refl w3.heap.size w3).alloc (Nat.le_refl _) (.cells #[.bool neg3, .int .i64 e3, .slice a3 n3 c3] 28));
       have hx := (NumBox.new w1 (.bool false) (.int .i64 2) (.slice a1 n1 c1) 28).step (Below.next0 HB.out.2.2.2 hba) (box_lt _ _);
       have hy := (NumBox.new w2 (.bool true) (.int .i64 (-2)) (.slice a2 n2 c2) 28).step hba (box_lt _ _);
       have hx1 := hx.c1; have hx2 := hx.c2;
       have HC := Lib.hid (And.intro hx (And.intro hy (And.intro (Below.next0 HB.out.2.2.1 hba) (And.intro (Nat.lt_of_lt_of_le (box_lt w1 (.cells #[.bool false, .int .i64 2, .slice a1 n1 c1] 28)) (Below.next0 HB.out.2.2.2 hba).size) (And.intro (Nat.lt_of_lt_of_le (box_lt w2 (.cells #[.bool true, .int .i64 (-2), .slice a2 n2 c2] 28)) hba.size) (And.intro ((HA.out.1.step ((Below.refl _ _).alloc (Nat.le_refl _) (.cells #[.bool false, .int .i64 2, .slice a1 n1 c1] 28))).step (Below.next0 HB.out.2.2.2 hba)) ((HB.out.1.step ((Below.refl _ _).alloc (Nat.le_refl _) (.cells #[.bool true, .int .i64 (-2), .slice a2 n2 c2] 28))).step hba))))))); clear hp3 hW3 hb3 hba hx hy)
    | (go_at_call_of 14 a1; have hsz : (w3.alloc (.cells #[.bool neg3, .int .i64 e3, .slice a3 n3 c3] 28)).heap.size = w3.heap.size + 1 := World.size_alloc _ _;
       have hwd := words_one (w3.alloc (.cells #[.bool neg3, .int .i64 e3, .slice a3 n3 c3] 28)) 3 (by decide) 41; rw [hsz] at hwd;
       have hal : Below (w3.alloc (.cells #[.bool neg3, .int .i64 e3, .slice a3 n3 c3] 28)).heap.size (w3.alloc (.cells #[.bool neg3, .int .i64 e3, .slice a3 n3 c3] 28)) ((w3.alloc (.cells #[.bool neg3, .int .i64 e3, .slice a3 n3 c3] 28)).alloc (.cells #[.int .u64 3] 41)) := (Below.refl _ _).alloc (Nat.le_refl _) _;
       refine (helpwords_any a1 n1 c1 [3] (some ⟨w3.heap.size + 1, 0, none⟩) 1 1 [3] ((w3.alloc (.cells #[.bool neg3, .int .i64 e3, .slice a3 n3 c3] 28)).alloc (.cells #[.int .u64 3] 41)) (HC.out.2.2.2.2.2.1.step hal) hwd).mono ?_; rintro e w5 ⟨he5, hb5⟩; rw [decide_eq_true rfl] at he5; subst he5;
       have hbb := Below.next0 hal hb5;
       have hy := HC.out.2.1.step hbb HC.out.2.2.2.2.1; have hy0 := hy.c0; have hy1 := hy.c1; have hy2 := hy.c2;
       have HD := Lib.hid (And.intro hbb (Below.next0 HC.out.2.2.1 hbb)); clear hb5 hbb hy hal hwd hsz)
    | (go_at_call_of 15 a2; refine (text_any true (-2) a2 n2 c2 [3] w5 (HC.out.2.2.2.2.2.2.step HD.out.1) (by decide) (by decide) (HL.out w5 HD.out.2).tabs).mono ?_; rintro e w6 ⟨he6, hb6⟩; rw [HTX.out.2.1] at he6; subst he6;
       have hbb := Below.next0 HD.out.1 hb6;
       have hx := HC.out.1.step hbb HC.out.2.2.2.1; have hx0 := hx.c0; have hx1' := hx.c1; have hx2' := hx.c2;
       have HE := Lib.hid (And.intro hbb (Below.next0 HC.out.2.2.1 hbb)); clear hb6 hbb hx)
    | (go_at_call_of 15 a1; refine (text_any false 2 a1 n1 c1 [3] w6 (HC.out.2.2.2.2.2.1.step HE.out.1) (by decide) (by decide) (HL.out w6 HE.out.2).tabs).mono ?_; rintro e w7 ⟨he7, hb7⟩; rw [HTX.out.1] at he7; subst he7;
       have HF := Lib.hid (Below.next0 HE.out.2 hb7); clear hb7)
    | (refine (text_any false 0 none 0 0 [] w7 (WordsIn.nil_ _) (by decide) (by decide) (HL.out w7 HF.out).tabs).mono ?_; rintro e w8 ⟨he8, hb8⟩; rw [HTX.out.2.2] at he8; subst he8;
       have HG := Lib.hid (Below.next0 HF.out hb8); clear hb8))
  go_ret
  exact ⟨rfl, HG.out⟩
theorem make_unique {neg : Bool} {v : Nat} {exp : Int} {n1 n2 : Bool} {e1 e2 : Int} {L1 L2 : List Nat} {r1 r2 : Int} (h1 : MakeOut neg v exp n1 e1 L1 r1) (h2 : MakeOut neg v exp n2 e2 L2 r2) : n1 = n2 ∧ e1 = e2 ∧ L1 = L2 ∧ r1 = r2 := by
  rcases h1 with ⟨h0, rfl, rfl, rfl, rfl⟩ | ⟨z, hz, h1⟩
  · rcases h2 with ⟨_, rfl, rfl, rfl, rfl⟩ | ⟨y, hy, _⟩
    · exact ⟨rfl, rfl, rfl, rfl⟩
    · exact absurd h0 hy.pos
  · rcases h2 with ⟨h0, _⟩ | ⟨y, hy, h2⟩
    · exact absurd h0 hz.pos
    · obtain rfl := hz.eq hy
      rcases h1 with ⟨ha, rfl, rfl, rfl, rfl⟩ | ⟨a1, a2, a3, rfl, rfl, rfl, rfl⟩
      · rcases h2 with ⟨_, rfl, rfl, rfl, rfl⟩ | ⟨b1, b2, b3, _⟩
        · exact ⟨rfl, rfl, rfl, rfl⟩
        · rcases ha with h | h | h
          · omega
          · omega
          · exact absurd b3 h
      · rcases h2 with ⟨ha, _⟩ | ⟨_, _, _, rfl, rfl, rfl, rfl⟩
        · rcases ha with h | h | h
          · omega
          · omega
          · exact absurd a3 h
        · exact ⟨rfl, rfl, rfl, rfl⟩
theorem parse_unique {S : List UInt8} {n1 n2 : Bool} {e1 e2 : Int} {L1 L2 : List Nat} {r1 r2 : Int} (h1 : ParseOut S n1 e1 L1 r1) (h2 : ParseOut S n2 e2 L2 r2) : n1 = n2 ∧ e1 = e2 ∧ L1 = L2 ∧ r1 = r2 := by
  unfold ParseOut at h1 h2
  cases hf : form S with
  | none =>
    rw [hf] at h1 h2
    obtain ⟨rfl, rfl, rfl, rfl⟩ := h1
    obtain ⟨rfl, rfl, rfl, rfl⟩ := h2
    exact ⟨rfl, rfl, rfl, rfl⟩
  | some p =>
    obtain ⟨neg, v, e⟩ := p
    rw [hf] at h1 h2
    exact make_unique h1 h2
end Go.Proofs.YtmocmkfpblakbaaDoor
