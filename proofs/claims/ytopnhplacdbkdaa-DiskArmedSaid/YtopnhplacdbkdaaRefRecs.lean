/- The walk of the reference's Records. Condition: the slice reads as bytes, no longer than its capacity, at most a million. -/
import Derived.Test.YtopnhplacdbkdaaRefNext
import Derived.Test.YtopnhplacdbkdaaLogWhole
import Derived.Test.YtopnhplacdbkdaaRow
namespace Go.Proofs.Ytopnhplacdbkdaa
open Go.RowKit

theorem info_slice8 : (Try.prog.info? 23).map (fun i => (i.zero, i.size, i.bytes)) = some (some (.slice none 0 0), 1, 24) := by kernel_rfl
theorem info_int : (Try.prog.info? 3).map (fun i => (i.zero, i.size, i.bytes)) = some (some (.int .i64 0), 1, 8) := by kernel_rfl

def Rec.sl (r : Rec) : Value := .slice r.a r.x.length r.c
def Rec.pl (r : Rec) : Value := .int .i64 (r.at_ : Int)
/-- records collected: the list of their bytes, the list of their places -/
structure RecsAt (w : World) (B : Nat) (ao : Option Addr) (co : Nat) (ap : Option Addr) (cp : Nat) (pre : List Rec) : Prop where
  out : Row w B 23 1 ao pre.length co (pre.map Rec.sl)
  places : Row w B 3 1 ap pre.length cp (pre.map Rec.pl)
  each : ∀ r ∈ pre, Own w B r.a r.x.length r.c r.x
theorem RecsAt.call {w w' : World} {B : Nat} {ao : Option Addr} {co : Nat} {ap : Option Addr} {cp : Nat} {pre : List Rec} (h : RecsAt w B ao co ap cp pre) (hb : Below w.heap.size w w') : RecsAt w' B ao co ap cp pre :=
  ⟨h.out.call hb, h.places.call hb, fun r hr => (h.each r hr).call hb⟩
/-- what the reference's Records hands back -/
def RecsIs (w : World) (bs : List UInt8) (e : Ending) (w' : World) : Prop :=
  ∃ (ys : List Rec) (ao : Option Addr) (co : Nat) (ap : Option Addr) (cp : Nat), ys.map Rec.pair = LogM.scan bs ∧ e = .returned (.tuple #[.slice ao ys.length co, .slice ap ys.length cp, .int .i64 (LogM.whole bs : Nat)]) ∧
    RecsAt w' w.heap.size ao co ap cp ys ∧ Below w.heap.size w w'

/-- the two appends -/
theorem RecsAt.snoc {w w1 w2 w3 : World} {B : Nat} {ao ap ao' ap' : Option Addr} {co cp co' cp' : Nat} {pre : List Rec} {r : Rec} (h : RecsAt w B ao co ap cp pre) (hr : Own w B r.a r.x.length r.c r.x)
    (h1 : Row w2 B 23 1 ao' (pre.length + 1) co' (pre.map Rec.sl ++ [r.sl])) (b1 : Below w.heap.size w w1) (g1 : w1.grownBy w2 (ao.map (·.block)))
    {w2' : World} (b2 : Below w2.heap.size w2 w2') (h2 : Row w3 B 3 1 ap' (pre.length + 1) cp' (pre.map Rec.pl ++ [r.pl])) (g2 : w2'.grownBy w3 (ap.map (·.block))) (hp2 : Row w2 B 3 1 ap pre.length cp (pre.map Rec.pl)) :
    RecsAt w3 B ao' co' ap' cp' (pre ++ [r]) := by
  have hh1 := h.out.call b1
  have hh2 := hp2.call b2
  have keep : ∀ q : Rec, Own w B q.a q.x.length q.c q.x → Own w3 B q.a q.x.length q.c q.x := fun q hq => by
    have k1 := hq.call b1
    have k2 := k1.grown g1 (Row.ne k1.row hh1 (by decide))
    have k3 := k2.call b2
    exact k3.grown g2 (Row.ne k3.row hh2 (by decide))
  refine ⟨?_, ?_, ?_⟩
  · have k := (h1.call b2).grown g2 (Row.ne (h1.call b2) hh2 (by decide))
    simpa using k
  · simpa using h2
  · intro q hq
    rcases List.mem_append.1 hq with hq | hq
    · exact keep q (h.each q hq)
    · rw [List.mem_singleton.1 hq]; exact keep r hr

set_option maxRecDepth 100000 in
set_option maxHeartbeats 4000000 in
theorem refrecs_any (a : Option Addr) (n c : Nat) (bs : List UInt8) (w : World) (hn : bs.length = n) (hm : n ≤ 1000000) (hc : n ≤ c) (hcm : c ≤ 9223372036854775807) (h : Rd w w.heap.size a bs) :
    Calls Try.prog 65 #[.slice a n c] w (RecsIs w bs) := by
  have HN := Lib.hid hn
  clear hn
  obtain ⟨i1, hi1, hz1, hs1, hb1⟩ := info_parts info_slice8
  obtain ⟨i2, hi2, hz2, hs2, hb2⟩ := info_parts info_int
  have HI1 := Lib.hid (And.intro hi1 (And.intro hz1 (And.intro hs1 hb1)))
  have HI2 := Lib.hid (And.intro hi2 (And.intro hz2 (And.intro hs2 hb2)))
  clear hi1 hz1 hs1 hb1 hi2 hz2 hs2 hb2
  go_enter Try.func65, Try.ntmps65
  go_wp2_with fail
  go_loopw [5, 6, 7] (fun v u i wr => ∃ (p : Nat) (pre : List Rec) (ao : Option Addr) (co : Nat) (ap : Option Addr) (cp : Nat), i = .int .i64 p ∧ v = .slice ao pre.length co ∧ u = .slice ap pre.length cp ∧ p ≤ n ∧ 12 * pre.length ≤ p ∧ endRec pre = p ∧ (pre.map Rec.pair ++ LogM.from_ bs p = LogM.scan bs) ∧ RecsAt wr w.heap.size ao co ap cp pre ∧ Below w.heap.size w wr) (fun _ _ i _ => n - (intOf i).toNat)
  case atStart => exact ⟨0, [], none, 0, none, 0, rfl, rfl, rfl, Nat.zero_le _, by simp, rfl, by simp [LogM.from_zero], ⟨Row.nil_ _ _ _ _, Row.nil_ _ _ _ _, by simp⟩, Below.refl _ _⟩
  case round =>
    obtain ⟨p, pre, ao, co, ap, cp, rfl, rfl, rfl, hp, h12, hend, hsc, hra, hB⟩ := hrel
    have hrd := h.step hB
    have hsl := fun U => slice_l_b U a n c .i64 (p : Int) (by omega) (by omega)
    have hcut := hrd.cutA (p := p) (c := c) (by rw [HN.out]; exact hc)
    have hcap1 : n - p ≤ c - p := by omega
    have hcap2 : c - p ≤ 9223372036854775807 := by omega
    have HSC := Lib.hid hsc
    have HE := Lib.hid hend
    clear hsc hend
    go_wp2_with fail
    refine (refnext_any _ _ _ (bs.drop p) wr (by rw [List.length_drop, HN.out]) (by omega) hcap1 hcap2 hcut).mono ?_
    generalize hr : LogM.next (bs.drop p) = r
    obtain ⟨x, N, E⟩ := r
    rintro e w2 ⟨a2, c2, rfl, ho2, hb2⟩
    have HR := Lib.hid hr
    have hra2 := hra.call hb2
    have hB2 := Below.next0 hB hb2
    by_cases hE : E = 0
    · subst hE
      have hy1 := LogM.from_yes bs p (by rw [HN.out]; exact hp) (by rw [hr])
      have hy2 := LogM.next_len _ (by rw [hr])
      rw [hr] at hy1 hy2
      obtain ⟨hf, hle, hN12⟩ := hy1
      have hNx : N = x.length + 12 := hy2.1
      have HNX := Lib.hid hNx
      have HF := Lib.hid hf
      have hle' : p + N ≤ n := by have h1 : p + N ≤ bs.length := hle; have := HN.out; omega
      have hN12' : 12 ≤ N := hN12
      have ho2' : Own w2 w.heap.size a2 x.length c2 x := ho2.lower hB.size
      clear hN12
      clear hr hf hle hcut hsl hrd hra hB hy2 hNx ho2 hb2
      have hB2a : Below w.heap.size w (w2.alloc (.cells #[.slice a2 x.length c2] 23)) := hB2.alloc hB2.size _
      have hra2a := hra2.out.alloc (.cells #[.slice a2 x.length c2] 23)
      have one1 : ∀ u ∈ [Value.slice a2 x.length c2], u.oneCell' = true := by intro u hu; rw [List.mem_singleton.1 hu]; rfl
      have one2 : ∀ u ∈ [Value.int .i64 (p : Int)], u.oneCell' = true := by intro u hu; rw [List.mem_singleton.1 hu]; rfl
      have q1 : pre.length + 1 ≤ 9223372036854775807 := by omega
      have q2 : (pre.length + 1) * 24 ≤ 140737488355328 := by omega
      have q3 : (pre.length + 1) * 8 ≤ 140737488355328 := by omega
      have b1 : Below w2.heap.size w2 (w2.alloc (.cells #[.slice a2 x.length c2] 23)) := (Below.refl _ _).alloc (Nat.le_refl _) _
      go_wp2_with (first
        | (at_builtin; refine wpList_append_row rfl (.tmp 24) (.tmp 26) 38 rfl w _ 23 i1 _ 1 24 Try.underlying38 HI1.out.1 HI1.out.2.1 HI1.out.2.2.1 HI1.out.2.2.2 rfl (Nat.lt_succ_self 0) w.heap.size hB2a hB2a.size ao pre.length co _ rfl hra2a ⟨w2.heap.size, 0, none⟩ 1 1 [.slice a2 x.length c2] rfl rfl (cell_one_new _ _ _) one1 (pre.length + 1) rfl q1 q2 ?_; intro a3 c3 w3 ho3 hg3 hb3 hat3; have hp3 := (hra2.places.call b1).grown hg3 (Row.ne (hra2.places.call b1) hra2a (by decide)); have b2 : Below w3.heap.size w3 (w3.alloc (.cells #[.int .i64 (p : Int)] 3)) := (Below.refl _ _).alloc (Nat.le_refl _) _; have hb3a := hb3.alloc hb3.size (.cells #[.int .i64 (p : Int)] 3); have hp3a := hp3.call b2)
        | (at_builtin; refine wpList_append_row rfl (.tmp 28) (.tmp 30) 92 rfl w _ 3 i2 _ 1 8 Try.underlying92 HI2.out.1 HI2.out.2.1 HI2.out.2.2.1 HI2.out.2.2.2 rfl (Nat.lt_succ_self 0) w.heap.size hb3a hb3a.size ap pre.length cp _ rfl hp3a ⟨w3.heap.size, 0, none⟩ 1 1 [.int .i64 (p : Int)] rfl rfl (cell_one_new _ _ _) one2 (pre.length + 1) rfl q1 q3 ?_; intro a4 c4 w4 ho4 hg4 hb4 hat4))
      go_roundw
      case rel => exact ⟨p + N, pre ++ [⟨p, x, a2, c2⟩], a3, c3, a4, c4, by go_num, by simp, by simp, hle', by simp; omega, by rw [endRec_snoc, HNX.out], by rw [← HSC.out, HF.out]; simp [Rec.pair], RecsAt.snoc (r := ⟨p, x, a2, c2⟩) hra2 ho2' ho3 b1 hg3 b2 ho4 hg4 hp3, hb4⟩
      case measure => simp [intOf]; omega
    · have hne : ((E : Int) != 0) = true := by rw [bne_iff_ne]; omega
      have hf := LogM.from_no bs p (by rw [hr]; exact hE)
      have HF := Lib.hid hf
      clear hr hf hcut hsl hrd hra hB hE ho2 hb2
      go_wp2_with fail
      go_ret3
      have hys : pre.map Rec.pair = LogM.scan bs := by rw [← HSC.out, HF.out, List.append_nil]
      refine ⟨pre, ao, co, ap, cp, hys, ?_, hra2, hB2⟩
      rw [← endRec_scan hys, HE.out]
      rfl
end Go.Proofs.Ytopnhplacdbkdaa
