/- Words on memory: a slice value that reads as a list of bytes. Plain lemmas on worlds, no condition. -/
import Derived.Below
import Derived.Laws.OwnMore
import Derived.Laws.Rows
import Derived.Deep.Draws
import Derived.Laws.Slices
namespace Go.Proofs.YtmocmkfpblakbaaDoor
open Go.RowKit

/-- a byte as a value -/
def bv (b : UInt8) : Value := .int .u8 (b.toNat : Int)
/-- a slice that begins at a reads as bs, below block B -/
def Rd (w : World) (B : Nat) (a : Option Addr) (bs : List UInt8) : Prop :=
  bs = [] ∨ ∃ b o, a = some ⟨b, o, none⟩ ∧ b < B ∧ ∀ (j : Nat) x, bs[j]? = some x → w.cell? ⟨b, o + j, none⟩ = some (bv x)

section
variable {w w' : World} {B B' : Nat} {a : Option Addr} {bs : List UInt8}
theorem Rd.none_ : Rd w B a [] := .inl rfl
theorem Rd.at_ {k : Nat} (h : Rd w B a bs) (hk : k < bs.length) : ∃ b o x, a = some ⟨b, o, none⟩ ∧ b < B ∧ bs[k]? = some x ∧ w.cell? ⟨b, o + k, none⟩ = some (.int .u8 (x.toNat : Int)) := by
  rcases h with rfl | ⟨b, o, rfl, hb, hc⟩
  · simp at hk
  · exact ⟨b, o, bs[k], rfl, hb, List.getElem?_eq_getElem hk, hc k _ (List.getElem?_eq_getElem hk)⟩
theorem Rd.keep (h : Rd w B a bs) (hk : ∀ p : Addr, p.block < B → w'.cell? p = w.cell? p) : Rd w' B a bs := by
  rcases h with rfl | ⟨b, o, rfl, hb, hc⟩
  · exact .inl rfl
  · exact .inr ⟨b, o, rfl, hb, fun j x hx => (hk _ hb).trans (hc j x hx)⟩
theorem Rd.more (h : Rd w B a bs) (hB : B ≤ B') : Rd w B' a bs := by
  rcases h with rfl | ⟨b, o, rfl, hb, hc⟩
  · exact .inl rfl
  · exact .inr ⟨b, o, rfl, by omega, hc⟩
theorem Rd.below (h : Rd w B a bs) (hb : Below B w w') : Rd w' B a bs := h.keep fun _ hp => hb.cell hp
theorem Rd.drew (h : Rd w B a bs) : Rd w.drew B a bs := h
theorem Rd.drewN (h : Rd w B a bs) (k : Nat) : Rd (w.drewN k) B a bs := h
theorem Rd.alloc (h : Rd w B a bs) (hB : B ≤ w.heap.size) (o : Obj) : Rd (w.alloc o) B a bs := h.keep fun p hp => World.cell?_alloc_lt w o p (by omega)
theorem Rd.setCell (h : Rd w B a bs) {p : Addr} (hB : B ≤ p.block) (u : Value) : Rd (w.setCell p u) B a bs :=
  h.keep fun q hq => World.cell?_setCell_other w p q u (fun e => by subst e; omega)
theorem Rd.grown (h : Rd w B a bs) {row : Option Nat} (hg : w.grownBy w' row) (hB : B ≤ w.heap.size) (hr : ∀ g, row = some g → B ≤ g) : Rd w' B a bs :=
  h.keep fun p hp => World.cell?_of_block (hg.block p.block (by omega) (fun e => by have := hr _ e.symm; omega))
/-- a cut from k on, the model's own address -/
theorem Rd.cut (h : Rd w B a bs) {k c : Nat} (hc : bs.length ≤ c) : Rd w B (if c = k then a else a.map (·.add k)) (bs.drop k) := by
  rcases h with rfl | ⟨b, o, rfl, hb, hcell⟩
  · exact .inl (by simp)
  · by_cases hk : k < bs.length
    · refine .inr ⟨b, o + k, ?_, hb, fun j x hx => ?_⟩
      · rw [if_neg (by omega)]
        simp only [Option.map_some, Addr.add]
        split
        · simp_all
        · rfl
      · rw [Nat.add_assoc]
        exact hcell _ x (by rw [← hx, List.getElem?_drop])
    · exact .inl (List.drop_eq_nil_of_le (by omega))
/-- a front part -/
theorem Rd.front (h : Rd w B a bs) (k : Nat) : Rd w B a (bs.take k) := by
  rcases h with rfl | ⟨b, o, rfl, hb, hcell⟩
  · exact .inl (by simp)
  · refine .inr ⟨b, o, rfl, hb, fun j x hx => hcell j x ?_⟩
    rw [List.getElem?_take] at hx
    split at hx
    · exact hx
    · cases hx
end

/-- a cut's address, kept under one name -/
def cutA (a : Option Addr) (m l s : Nat) : Option Addr := if m = l then a else a.map (·.add (l * s))
theorem sliced_cut (a : Option Addr) (l h m s : Nat) : sliced a l h m s = .slice (cutA a m l s) (h - l) (m - l) := rfl
theorem cutA_zero (a : Option Addr) (m s : Nat) : cutA a m 0 s = a := by
  unfold cutA
  split
  · rfl
  · cases a with
    | none => rfl
    | some x => simp [Addr.add]
theorem Rd.cutA {w : World} {B : Nat} {a : Option Addr} {bs : List UInt8} (h : Rd w B a bs) {p c : Nat} (hc : bs.length ≤ c) : Rd w B (cutA a c p 1) (bs.drop p) := by
  have := h.cut (k := p) hc
  unfold Go.Proofs.YtmocmkfpblakbaaDoor.cutA
  rwa [Nat.mul_one]

/-- the numbers that came in, as bytes -/
theorem Rd.of_ints {w : World} {B : Nat} {x : Addr} {zs : List Int} {len : Nat} (hb : x.block < B) (hl : len ≤ zs.length)
    (hcell : ∀ i, i < zs.length → w.cell? (x.add i) = some (.int .u8 (zs.getD i 0))) (hw : ∀ n ∈ zs, (Lit.int .u8 n).wf = true) :
    Rd w B (some x) ((zs.take len).map fun n => UInt8.ofNat n.toNat) := by
  by_cases h0 : len = 0
  · exact .inl (by simp [h0])
  · obtain ⟨b, o, spot⟩ := x
    have h1 := hcell 0 (by omega)
    have hspot : spot = none := by simpa [Addr.add] using World.cell?_spot h1
    subst hspot
    refine .inr ⟨b, o, rfl, hb, fun j u hu => ?_⟩
    rw [List.getElem?_map, List.getElem?_take] at hu
    split at hu
    · next hj =>
      have hjz : j < zs.length := by omega
      rw [List.getElem?_eq_getElem hjz] at hu
      simp only [Option.map_some, Option.some.injEq] at hu
      have h2 := hcell j hjz
      have e : (⟨b, o, none⟩ : Addr).add j = ⟨b, o + j, none⟩ := by unfold Addr.add; split <;> simp_all
      rw [e] at h2
      rw [h2, ← hu]
      have hg : zs.getD j 0 = zs[j] := by simp [List.getD, hjz]
      have hz : (Lit.int .u8 zs[j]).wf = true := hw _ (List.getElem_mem hjz)
      have hr : 0 ≤ zs[j] ∧ zs[j] ≤ 255 := by simpa [Lit.wf, IntKind.min, IntKind.max, IntKind.signed, IntKind.bits] using hz
      rw [hg]
      have e2 : (UInt8.ofNat zs[j].toNat).toNat = zs[j].toNat := UInt8.toNat_ofNat_of_lt' (by show _ < 256; omega)
      simp only [bv, e2]
      congr 2
      omega
    · cases hu
/-- one slice among those that are put together -/
structure Part where
  a : Option Addr
  n : Nat
  c : Nat
  bs : List UInt8
def PartsAt (w : World) (B b o : Nat) (ps : List Part) : Prop := ∀ j p, ps[j]? = some p → w.cell? ⟨b, o + j, none⟩ = some (.slice p.a p.n p.c) ∧ p.bs.length = p.n ∧ Rd w B p.a p.bs
/-- a slice of slices of bytes -/
def RdP (w : World) (B : Nat) (a : Option Addr) (ps : List Part) : Prop := ps = [] ∨ ∃ b o, a = some ⟨b, o, none⟩ ∧ b < B ∧ PartsAt w B b o ps
section
variable {w w' : World} {B B' : Nat} {a : Option Addr} {ps : List Part}
theorem RdP.at_ {k : Nat} (h : RdP w B a ps) (hk : k < ps.length) : ∃ b o p, a = some ⟨b, o, none⟩ ∧ b < B ∧ ps[k]? = some p ∧ w.cell? ⟨b, o + k, none⟩ = some (.slice p.a p.n p.c) ∧ p.bs.length = p.n ∧ Rd w B p.a p.bs := by
  rcases h with rfl | ⟨b, o, rfl, hb, hc⟩
  · simp at hk
  · exact ⟨b, o, ps[k], rfl, hb, List.getElem?_eq_getElem hk, hc k _ (List.getElem?_eq_getElem hk)⟩
theorem RdP.keep (h : RdP w B a ps) (hk : ∀ p : Addr, p.block < B → w'.cell? p = w.cell? p) : RdP w' B a ps := by
  rcases h with rfl | ⟨b, o, rfl, hb, hc⟩
  · exact .inl rfl
  · exact .inr ⟨b, o, rfl, hb, fun j p hp => ⟨(hk _ hb).trans (hc j p hp).1, (hc j p hp).2.1, (hc j p hp).2.2.keep hk⟩⟩
theorem RdP.more (h : RdP w B a ps) (hB : B ≤ B') : RdP w B' a ps := by
  rcases h with rfl | ⟨b, o, rfl, hb, hc⟩
  · exact .inl rfl
  · exact .inr ⟨b, o, rfl, by omega, fun j p hp => ⟨(hc j p hp).1, (hc j p hp).2.1, (hc j p hp).2.2.more hB⟩⟩
theorem RdP.below (h : RdP w B a ps) (hb : Below B w w') : RdP w' B a ps := h.keep fun _ hp => hb.cell hp
theorem RdP.step (h : RdP w w.heap.size a ps) (hb : Below w.heap.size w w') : RdP w' w'.heap.size a ps := (h.below hb).more hb.size
end
end Go.Proofs.YtmocmkfpblakbaaDoor
