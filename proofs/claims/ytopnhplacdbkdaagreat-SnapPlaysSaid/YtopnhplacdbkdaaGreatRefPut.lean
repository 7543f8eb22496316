/- The walk of the reference disk's put. Condition: the reference disk lies behind its pointer; the file's bytes lie in a row that is its own. -/
/- The walk of the reference disk's drop. Condition: the reference disk lies behind its pointer. -/
/- The walks of the reference disk's Remove and Grow. Condition: the reference disk lies behind its pointer. -/
/- The walk of the reference disk's Rename. Condition: the reference disk lies behind its pointer. -/
import Derived.Test.YtopnhplacdbkdaaGreatRefAt
import Derived.Test.YtopnhplacdbkdaaGreatRefM
import Derived.BigQuiet
import Derived.Deep.QuietTactic
import Derived.Deep.CutBlock
import Derived.Deep.DeepCutAuto
namespace Go.Proofs.YtopnhplacdbkdaaGreat
open Go.RowKit DiskM

theorem bytesLess_lt : ∀ (a b : List UInt8), Op.bytesLess a b = lt a b
  | [], [] => rfl
  | [], _ :: _ => rfl
  | _ :: _, [] => rfl
  | a :: x, b :: y => by
    unfold lt
    simp only [Op.bytesLess, bytesBefore]
    rw [bytesLess_lt x y]; rfl

/-- cells that lie at an address, or none -/
def Src (w : World) (A : Option Addr) (xs : List Value) : Prop := xs = [] ∨ ∃ b o, A = some ⟨b, o, none⟩ ∧ ∀ j u, xs[j]? = some u → w.cell? ⟨b, o + j, none⟩ = some u
theorem Row.src {w : World} {B : Nat} {e : TypeId} {k : Nat} {a : Option Addr} {n c : Nat} {xs : List Value} (h : Row w B e k a n c xs) : Src w a xs := by
  rcases h.form with ⟨_, _, _, rfl⟩ | ⟨g, cur, rfl, _⟩
  · exact .inl rfl
  · refine .inr ⟨g, 0, rfl, fun j u hu => ?_⟩
    obtain ⟨g', e', _, _, hc⟩ := h.at_ hu
    injection e' with e'; injection e' with e'; subst e'
    rw [Nat.zero_add]; exact hc
theorem Src.take {w : World} {a : Option Addr} {xs : List Value} (h : Src w a xs) (k : Nat) : Src w a (xs.take k) := by
  rcases h with rfl | ⟨b, o, rfl, hc⟩
  · exact .inl (by simp)
  · refine .inr ⟨b, o, rfl, fun j u hu => hc j u ?_⟩
    rw [List.getElem?_take] at hu
    split at hu
    · exact hu
    · cases hu
theorem Src.cut {w : World} {a : Option Addr} {xs : List Value} (h : Src w a xs) (k c s : Nat) (hl : xs.length ≤ c * s) : Src w (cutA a c k s) (xs.drop (k * s)) := by
  rcases h with rfl | ⟨b, o, rfl, hc⟩
  · exact .inl (by simp)
  · unfold cutA
    by_cases hck : c = k
    · subst hck
      exact .inl (List.drop_of_length_le hl)
    · rw [if_neg hck, Option.map_some, Addr.add_lit]
      refine .inr ⟨b, o + k * s, rfl, fun j u hu => ?_⟩
      rw [Nat.add_assoc]
      exact hc _ u (by rw [← hu, List.getElem?_drop])
theorem Src.keep {w w' : World} {a : Option Addr} {xs : List Value} (h : Src w a xs) (hk : ∀ x : Addr, a = some x → w'.heap[x.block]? = w.heap[x.block]?) : Src w' a xs := by
  rcases h with rfl | ⟨b, o, rfl, hc⟩
  · exact .inl rfl
  · exact .inr ⟨b, o, rfl, fun j u hu => (World.cell?_of_block (a := ⟨b, o + j, none⟩) (hk ⟨b, o, none⟩ rfl)).trans (hc j u hu)⟩

set_option maxRecDepth 100000 in
/-- append onto a row of the call's own, of cells that lie at an address, or of none -/
theorem run_append_src (w0 w : World) (ty t e : TypeId) (i : TypeInfo) (z : Value) (size bytes : Nat) (ht : Tryz.prog.underlying t = some (.slice e)) (hi : Tryz.prog.info? e = some i) (hz : i.zero = some z)
    (hsize : i.size = size) (hby : i.bytes = bytes) (hzs : z.cells.size = size) (hsz : 0 < size)
    (B : Nat) (hb0 : Below B w0 w) (hB : B ≤ w.heap.size) (a : Option Addr) (n c : Nat) (xs : List Value) (hown : Row w B e size a n c xs)
    (A : Option Addr) (m d : Nat) (news : List Value) (hl : news.length = m * size) (hs : Src w A news) (h1 : ∀ u ∈ news, u.oneCell' = true) (N : Nat) (hN : n + m = N) (hsum : N ≤ 9223372036854775807) (hbytes : N * bytes ≤ 140737488355328) :
    ∃ a' c' w', (Builtin.append_ #[t, t] ty #[.slice a n c, .slice A m d]).run Tryz.prog w = .ok (.slice a' N c') w' ∧ Row w' B e size a' N c' (xs ++ news) ∧ w.grownBy w' (a.map (·.block)) ∧ Below B w0 w' ∧
      (a'.map (·.block) = a.map (·.block) ∨ a'.map (·.block) = some w.heap.size) := by
  rcases A with _ | ad
  · have h0 : news = [] := by rcases hs with h | ⟨_, _, h, _⟩ <;> first | exact h | cases h
    subst h0
    have hm : m = 0 := by
      rcases Nat.eq_zero_or_pos m with h | h
      · exact h
      · have : 0 < m * size := Nat.mul_pos h hsz
        rw [← hl] at this; simp at this
    subst hm
    obtain rfl : n = N := by omega
    refine ⟨a, c, w, ?_, by rw [List.append_nil]; exact hown, World.grownBy.refl w _, hb0, .inl rfl⟩
    rcases hown.form with ⟨rfl, rfl, rfl, _⟩ | ⟨g, cur, rfl, _, _, _, hnc, _⟩
    · simp [Builtin.append_, run_underlying ht, sizeOf, typeInfo, hi, Builtin.lenOf, Builtin.firstCells]
    · simp [Builtin.append_, run_underlying ht, sizeOf, typeInfo, hi, Builtin.lenOf, Builtin.firstCells, hnc, storeCells]
  · refine run_append_row w0 w ty t e i z size bytes ht hi hz hsize hby hzs hsz B hb0 hB a n c xs hown ad m d news hl (fun j u hu => ?_) h1 N hN hsum hbytes
    rcases hs with rfl | ⟨b, o, e1, hc⟩
    · simp at hu
    · injection e1 with e1; subst e1
      rw [Addr.add_lit]; exact hc j u hu
theorem wpList_append_src {o : Oper} {act : Act} {Q : Exit → Act → World → Prop} {ops : Array Oper} {rest : List Oper} (hgd : o.guard = none) (s x : Operand) (t : TypeId) (ho : o.op = .call { callee := .builtin .append, args := #[s, x], argTypes := #[t, t] })
    (w0 w : World) (e : TypeId) (i : TypeInfo) (z : Value) (size bytes : Nat) (ht : Tryz.prog.underlying t = some (.slice e)) (hi : Tryz.prog.info? e = some i) (hz : i.zero = some z)
    (hsize : i.size = size) (hby : i.bytes = bytes) (hzs : z.cells.size = size) (hsz : 0 < size)
    (B : Nat) (hb0 : Below B w0 w) (hB : B ≤ w.heap.size) (a : Option Addr) (n c : Nat) (xs : List Value) (hs : act.eval s = .slice a n c) (hown : Row w B e size a n c xs)
    (A : Option Addr) (m d : Nat) (news : List Value) (hx : act.eval x = .slice A m d) (hl : news.length = m * size) (hnews : Src w A news) (h1 : ∀ u ∈ news, u.oneCell' = true) (N : Nat) (hN : n + m = N) (hsum : N ≤ 9223372036854775807) (hbytes : N * bytes ≤ 140737488355328)
    (h : ∀ a' c' w', Row w' B e size a' N c' (xs ++ news) → w.grownBy w' (a.map (·.block)) → Below B w0 w' → (a'.map (·.block) = a.map (·.block) ∨ a'.map (·.block) = some w.heap.size) → wpList Tryz.prog ops Q rest (act.put o.dst (.slice a' N c')) w') : wpList Tryz.prog ops Q (o :: rest) act w := by
  obtain ⟨a', c', w', hrun, h2, h3, h4, h5⟩ := run_append_src w0 w o.type t e i z size bytes ht hi hz hsize hby hzs hsz B hb0 hB a n c xs hown A m d news hl hnews h1 N hN hsum hbytes
  exact wpList_append_run hgd s x t t ho _ _ hs hx _ _ hrun (h a' c' w' h2 h3 h4 h5)

theorem info_file : (Tryz.prog.info? 79).map (fun i => (i.zero, i.size, i.bytes)) = some (some (.agg #[.string .empty, .slice none 0 0, .int .i64 0]), 3, 48) := by kernel_rfl
theorem under_files : Tryz.prog.underlying 48 = some (.slice (Tryz.prog.elem 48)) := by kernel_rfl
theorem size_file (w : World) : (sizeOf (Tryz.prog.elem 48)).run Tryz.prog w = .ok 3 w := by kernel_rfl
theorem slice_l_f (w : World) (a : Option Addr) (len cap : Nat) (kl : IntKind) (l : Int) (h0 : 0 ≤ l) (h1 : l ≤ len) :
    (Instr.slice 48 (.slice a len cap) (some (.int kl l)) none none).run Tryz.prog w = .ok (.slice (cutA a cap l.toNat 3) (len - l.toNat) (cap - l.toNat)) w := by
  rw [run_slice_l w _ a len cap under_files kl l h0 h1, size_file]; rfl
theorem slice_h_f (w : World) (a : Option Addr) (len cap : Nat) (kh : IntKind) (h : Int) (h0 : 0 ≤ h) (h2 : h ≤ cap) :
    (Instr.slice 48 (.slice a len cap) none (some (.int kh h)) none).run Tryz.prog w = .ok (.slice a h.toNat cap) w := by
  rw [run_slice_h w _ a len cap under_files kh h h0 h2, size_file]
  have := cutA_zero a cap 3
  show Result.ok (Value.slice (cutA a cap 0 3) _ _) w = _
  rw [this, Nat.sub_zero, Nat.sub_zero]

theorem refFiles_take (fv : FVs) (k : Nat) : (refFiles fv).take (k * 3) = refFiles (fv.take k) := by
  induction fv generalizing k with
  | nil => simp [refFiles]
  | cons x r ih =>
    cases k with
    | zero => simp [refFiles]
    | succ k =>
      have e : refFiles (x :: r) = refFile x ++ refFiles r := rfl
      rw [List.take_succ_cons, e, show refFiles (x :: r.take k) = refFile x ++ refFiles (r.take k) from rfl, ← ih k, List.take_append, List.take_of_length_le (show (refFile x).length ≤ (k + 1) * 3 by show 3 ≤ _; omega), show (k + 1) * 3 - (refFile x).length = k * 3 by show (k + 1) * 3 - 3 = _; omega]
theorem refFiles_drop (fv : FVs) (k : Nat) : (refFiles fv).drop (k * 3) = refFiles (fv.drop k) := by
  induction fv generalizing k with
  | nil => simp [refFiles]
  | cons x r ih =>
    cases k with
    | zero => simp [refFiles]
    | succ k =>
      have e : refFiles (x :: r) = refFile x ++ refFiles r := rfl
      rw [List.drop_succ_cons, e, ← ih k, List.drop_append, List.drop_of_length_le (show (refFile x).length ≤ (k + 1) * 3 by show 3 ≤ _; omega), show (k + 1) * 3 - (refFile x).length = k * 3 by show (k + 1) * 3 - 3 = _; omega, List.nil_append]
theorem refFiles_append (a b : FVs) : refFiles (a ++ b) = refFiles a ++ refFiles b := by simp [refFiles]
theorem refFiles_one (fv : FVs) : ∀ u ∈ refFiles fv, u.oneCell' = true := by
  intro u hu
  obtain ⟨x, _, hx⟩ := List.mem_flatMap.1 hu
  simp only [refFile, List.mem_cons, List.not_mem_nil, or_false] at hx
  rcases hx with rfl | rfl | rfl <;> rfl


/-- the list of files is another one, in new memory -/
theorem RefRaw.putRow {w w3 : World} {fq : Nat → Prop} {r : Nat} {a a3 : Option Addr} {n c N c3 : Nat} {L : Int} {fv fv3 : FVs} {d : DS} {F : Files} (h : RefRaw w fq r a n c L fv d) (hb : Below w.heap.size w w3) (hrow : Row w3 w.heap.size 79 3 a3 N c3 (refFiles fv3)) (hnum : fv3.length = N)
    (hrows : ∀ x ∈ fv3, Fil w x.2.a x.2.n x.2.c x.2.bs ∧ ∀ ad, x.2.a = some ad → fq ad.block) (hF : F = fv3.map (onV FileV.abs)) (hok : ({ d with files := F } : DS).Ok) :
    RefRaw (w3.setCell ⟨r, 0, none⟩ (.slice a3 N c3)) (fun k => fq k ∨ (w.heap.size ≤ k ∧ k < w3.heap.size)) r a3 N c3 L fv3 { d with files := F } ∧ Turn (fun k => k = r) w (w3.setCell ⟨r, 0, none⟩ (.slice a3 N c3)) := by
  have hrl := h.lt _ h.fqr
  have hcells : w3.heap[r]? = some (.cells (refCells a n c L d) 50 (0, 0)) := (hb.block _ hrl).trans h.cells
  have hoth : ∀ k, k ≠ r → (w3.setCell ⟨r, 0, none⟩ (.slice a3 N c3)).heap[k]? = w3.heap[k]? := fun k hk => Below.heap_setCell _ _ _ _ hk
  have hsz : (w3.setCell ⟨r, 0, none⟩ (.slice a3 N c3)).heap.size = w3.heap.size := by simp [World.setCell]
  refine ⟨⟨?_, h.left, ?_, hnum, .inl h.fqr, fun x hx => ?_, fun x hx => ⟨?_, fun ad ha => .inl ((hrows x hx).2 ad ha)⟩, hF, fun k hk => ?_, hok⟩, ?_⟩
  · have := heap_setCell_same w3 r 0 _ _ (.slice a3 N c3) hcells
    exact this
  · refine (hrow.lower (Nat.zero_le _)).keep fun x hx => hoth _ ?_
    have := hrow.row_le x.block (by rw [hx]; rfl)
    omega
  · have h1 := hrow.row_le x.block (by rw [hx]; rfl)
    rcases hrow.form with ⟨h0, _⟩ | ⟨g, cur, e1, _, hg, _⟩
    · rw [h0] at hx; cases hx
    · rw [e1] at hx; injection hx with hx; subst hx
      exact .inr ⟨h1, hg⟩
  · refine (hrows x hx).1.keep fun ad ha => ?_
    have hlt := (hrows x hx).1.lt ad ha
    refine (hoth _ fun e => ?_).trans (hb.block _ hlt)
    obtain ⟨cur, hh⟩ := (hrows x hx).1.cellsAt ad ha
    rw [e, h.cells] at hh
    injection hh with hh
    injection hh with _ hh _
    exact absurd hh (by decide)
  · rcases hk with hk | hk
    · have := h.lt k hk; have := hb.size; omega
    · omega
  · exact ((Turn.of_below hb _).trans0 (Turn.setCell (fun k => k = r) _ (p := ⟨r, 0, none⟩) rfl _))

def RefPut (w : World) (fq : Nat → Prop) (r : Nat) (d : DS) (e : Ending) (w' : World) : Prop := e = .returned (.tuple #[]) ∧ (∃ fq', RefAt w' fq' r d ∧ (∀ k, fq' k → fq k ∨ w.heap.size ≤ k) ∧ ∀ k, fq k → fq' k) ∧ Turn (fun k => k = r) w w'
theorem put_cut {fv : FVs} (s : Nm) (f : FileV) (k : Nat) (hk : k ≤ fv.length) (hr : Rising fv) (hlt : ∀ x ∈ fv.take k, lt x.1 s = true) (hge : ∀ x, fv[k]? = some x → lt x.1 s = false) (k2 : Nat) (hk2 : (k2 = k + 1 ∧ (∃ x, fv[k]? = some x ∧ x.1 = s)) ∨ (k2 = k ∧ ∀ x, fv[k]? = some x → x.1 ≠ s)) :
    DiskM.put s f.abs (fv.map (onV FileV.abs)) = (fv.take k ++ (s, f) :: fv.drop k2).map (onV FileV.abs) := by
  rw [← put_map, put_at hr s f k hk hlt hge]
  rcases hk2 with ⟨rfl, x, hx, he⟩ | ⟨rfl, hne⟩
  · rw [hx, if_pos (by simp [he])]
  · rw [if_neg ?_]
    intro h
    rw [Option.map_eq_some_iff] at h
    obtain ⟨x, hx, e⟩ := h
    exact hne x hx e

set_option maxRecDepth 100000 in
set_option maxHeartbeats 4000000 in
theorem refput_any {w : World} {fq : Nat → Prop} {r : Nat} {a : Option Addr} {n c : Nat} {L : Int} {fv : FVs} {d : DS} (h : RefRaw w fq r a n c L fv d) (s : ByteArray) (f : FileV) (hf : Fil w f.a f.n f.c f.bs) (hfq : ∀ ad, f.a = some ad → fq ad.block) (hok : (DiskM.setF d s.data.toList f.abs).Ok) :
    Calls Tryz.prog 59 #[.pointer (some ⟨r, 0, none⟩), .agg #[.string s, .slice f.a f.n f.c, .int .i64 (f.sure : Int)]] w (RefPut w fq r (DiskM.setF d s.data.toList f.abs)) := by
  have hc0 : w.cell? ⟨r, 0, none⟩ = some (.slice a n c) := cell_of_row _ _ 0 _ _ _ h.cells
  have hf0 : w.frozen? ⟨r, 0, none⟩ = false := frozen_of_row _ _ 0 _ _ h.cells
  have hnum := h.num
  have hn : n ≤ 1000000 := by have := h.ok.few; rw [h.files] at this; simp at this; omega
  have hcap := h.row.cap
  have hris : Rising fv := by have := h.ok.rising; rw [h.files] at this; exact Rising.map.1 this
  have HRIS := Lib.hid hris
  have HCAP := Lib.hid hcap
  have HF := Lib.hid hf
  have HFQ := Lib.hid hfq
  have HOK := Lib.hid hok
  have H := Lib.hid h
  obtain ⟨i0, hi, hz0, hz1, hz2⟩ := info_parts' info_file
  have HI := Lib.hid (And.intro hi (And.intro hz0 (And.intro hz1 hz2)))
  have hrl := h.lt _ h.fqr
  clear h hf hfq hok hris hcap hi hz0 hz1 hz2
  go_enter Tryz.func59, Tryz.ntmps59
  go_upto_block 0 with fail
  have hb0 : Below w.heap.size w (w.alloc (.cells #[.string s, .slice f.a f.n f.c, .int .i64 (f.sure : Int)] 79)) := (Below.refl _ _).alloc (Nat.le_refl _) _
  have hbx := heap_alloc_new w (.cells #[.string s, .slice f.a f.n f.c, .int .i64 (f.sure : Int)] 79)
  have hsz0 : (w.alloc (.cells #[.string s, .slice f.a f.n f.c, .int .i64 (f.sure : Int)] 79)).heap.size = w.heap.size + 1 := by simp
  obtain ⟨W0, hW0⟩ : ∃ W0, W0 = w.alloc (.cells #[.string s, .slice f.a f.n f.c, .int .i64 (f.sure : Int)] 79) := ⟨_, rfl⟩
  rw [← hW0] at hb0 hbx hsz0 ⊢
  have H0 := Lib.hid (H.out.keep (w' := W0) (fun k hk => hb0.block k (H.out.lt k hk)) hb0.size)
  have b0 : W0.cell? ⟨w.heap.size, 0, none⟩ = some (.string s) := cell_of_row _ _ 0 _ _ _ hbx
  have R0 := Lib.hid (show W0.cell? ⟨r, 0, none⟩ = some (.slice a n c) from cell_of_row _ _ 0 _ _ _ H0.out.cells)
  have HBX := Lib.hid hbx
  have HSZ0 := Lib.hid hsz0
  clear hW0 hc0 hf0 hbx hsz0
  go_cut [5] (fun v wr => ∃ k : Nat, v = .int .i64 k ∧ k ≤ n ∧ Below W0.heap.size W0 wr ∧ (∀ x ∈ fv.take k, lt x.1 s.data.toList = true) ∧ (∀ x, fv[k]? = some x → lt x.1 s.data.toList = false))
  case first =>
    go_wp2_with fail
    go_loopg [5] n (fun g v wr => ∃ (k j : Nat), v = .int .i64 k ∧ k ≤ n ∧ g = n - k ∧ wr = W0.drewN j ∧ ∀ x ∈ fv.take k, lt x.1 s.data.toList = true)
    case atStart => exact ⟨0, 0, rfl, Nat.zero_le _, rfl, rfl, by simp⟩
    case round =>
      obtain ⟨k, j, rfl, hk, rfl, rfl, hlts⟩ := hrel
      have b0' : ∀ q, (W0.drewN q).cell? ⟨w.heap.size, 0, none⟩ = some (.string s) := fun _ => b0
      have HLT := Lib.hid hlts
      clear hlts
      by_cases hlt : k < n
      · obtain ⟨x, hx⟩ : ∃ x, fv[k]? = some x := ⟨_, List.getElem?_eq_getElem (by omega)⟩
        obtain ⟨g, rfl, g0, _, _⟩ := H0.out.at_ hx
        have r0' : ∀ q, (W0.drewN q).cell? ⟨r, 0, none⟩ = some (.slice (some ⟨g, 0, none⟩) n c) := fun _ => R0.out
        have g0' : ∀ q, (W0.drewN q).cell? ⟨g, k * 3, none⟩ = some (.string ⟨x.1.toArray⟩) := fun _ => g0
        have hlt' : (k : Int) < (n : Int) := by omega
        have HX := Lib.hid hx
        clear hx
        by_cases hgo : lt x.1 s.data.toList = true
        · have hcmp : Op.bytesLess x.1 s.toList = true := by rw [ByteArray.toList_eq, bytesLess_lt]; exact hgo
          have HG := Lib.hid hgo
          clear hgo
          go_wp2_with fail
          go_quiet (fail)
          go_wp2_with fail
          go_roundg (n - (k + 1))
          case rel => exact ⟨k + 1, _, by go_num, by omega, rfl, rfl, fun y hy => by
            rw [List.take_add_one, HX.out] at hy
            rcases List.mem_append.1 hy with h1 | h1
            · exact HLT.out y h1
            · simp at h1; rw [h1]; exact HG.out⟩
          case measure => omega
        · have hgo' : lt x.1 s.data.toList = false := by simpa using hgo
          have hcmp : Op.bytesLess x.1 s.toList = false := by rw [ByteArray.toList_eq, bytesLess_lt]; exact hgo'
          have HG := Lib.hid hgo'
          clear hgo hgo'
          go_wp2_with fail
          go_quiet (fail)
          go_wp2_with fail
          go_meet
          exact ⟨k, rfl, hk, ⟨rfl, rfl, rfl, Nat.le_refl _, fun _ _ => rfl⟩, HLT.out, fun y hy => by rw [HX.out] at hy; injection hy with hy; rw [← hy]; exact HG.out⟩
      · have hlt' : ¬ ((k : Int) < (n : Int)) := by omega
        have r0' : ∀ q, (W0.drewN q).cell? ⟨r, 0, none⟩ = some (.slice a n c) := fun _ => R0.out
        go_wp2_with fail
        go_quiet (fail)
        go_wp2_with fail
        go_meet
        exact ⟨k, rfl, hk, ⟨rfl, rfl, rfl, Nat.le_refl _, fun _ _ => rfl⟩, HLT.out, fun y hy => by have := (List.getElem?_eq_some_iff.1 hy).1; omega⟩
  case rest =>
    obtain ⟨k, rfl, hk, hBx, hlts, hge⟩ := hcut
    have HLT := Lib.hid hlts
    have HGE := Lib.hid hge
    clear hlts hge
    have hxr := (hBx.cell (p := ⟨r, 0, none⟩) (by rw [HSZ0.out]; show r < _; omega)).trans R0.out
    have hs1 := fun W => slice_h_f W a n c .i64 (k : Int) (by omega) (by have := HCAP.out; omega)
    have hsrc1 : Src wc a (refFiles (fv.take k)) := by
      have := (((H0.out.row.call hBx).src)).take (k * 3)
      rwa [refFiles_take] at this
    have HSRC := Lib.hid hsrc1
    have hB1 : W0.heap.size ≤ wc.heap.size := hBx.size
    have one3 : ∀ u ∈ [Value.string s, .slice f.a f.n f.c, .int .i64 (f.sure : Int)], u.oneCell' = true := by
      intro u hu
      simp only [List.mem_cons, List.not_mem_nil, or_false] at hu
      rcases hu with rfl | rfl | rfl <;> rfl
    clear hsrc1
    go_wp2_with (first
      | (at_builtin; refine wpList_append_src rfl (.tmp 28) (.tmp 34) 48 rfl W0 _ 79 i0 _ 3 48 Tryz.underlying48 HI.out.1 HI.out.2.1 HI.out.2.2.1 HI.out.2.2.2 rfl (by omega) W0.heap.size hBx hB1 none 0 0 [] rfl (Row.nil_ _ _ _ _) a k c (refFiles (fv.take k)) rfl (by rw [refFiles_length, List.length_take, Nat.min_eq_left (by omega)]) HSRC.out (refFiles_one _) k (by omega) (by omega) (by omega) ?_; intro a1 c1 w1 ho1 hg1 hb1 hat1; have hx1 := (hb1.block w.heap.size (by rw [HSZ0.out]; omega)).trans HBX.out; have k0 : w1.cell? ⟨w.heap.size, 0, none⟩ = some (.string s) := cell_of_row _ _ 0 _ _ _ hx1; have k1 : w1.cell? ⟨w.heap.size, 1, none⟩ = some (.slice f.a f.n f.c) := cell_of_row _ _ 1 _ _ _ hx1; have k2 : w1.cell? ⟨w.heap.size, 2, none⟩ = some (.int .i64 (f.sure : Int)) := cell_of_row _ _ 2 _ _ _ hx1; have hB2 : W0.heap.size ≤ w1.heap.size := hb1.size; have HX1 := Lib.hid hx1; have HO1 := Lib.hid ho1; clear hx1 ho1 hg1 hat1 hxr hs1)
      | (at_builtin; refine wpList_append_row rfl (.tmp 36) (.tmp 38) 48 rfl W0 _ 79 i0 _ 3 48 Tryz.underlying48 HI.out.1 HI.out.2.1 HI.out.2.2.1 HI.out.2.2.2 rfl (by omega) W0.heap.size (hb1.alloc hB2 _) (by simp; omega) a1 k c1 _ rfl (HO1.out.alloc _) ⟨w1.heap.size, 0, none⟩ 1 1 [.string s, .slice f.a f.n f.c, .int .i64 (f.sure : Int)] rfl rfl (cells_new w1 #[.string s, .slice f.a f.n f.c, .int .i64 (f.sure : Int)] _ _) one3 (k + 1) rfl (by omega) (by omega) ?_; intro a2 c2 w2 ho2 hg2 hb2 hat2; have HO2 := Lib.hid ho2; clear ho2 hg2 hat2 k0 k1 k2 one3))
    have hxr2 := (hb2.cell (p := ⟨r, 0, none⟩) (by rw [HSZ0.out]; show r < _; omega)).trans R0.out
    have hbx2 := (hb2.cell (p := ⟨w.heap.size, 0, none⟩) (by rw [HSZ0.out]; show w.heap.size < _; omega)).trans b0
    have hbx2' : ∀ q, (w2.drewN q).cell? ⟨w.heap.size, 0, none⟩ = some (.string s) := fun _ => hbx2
    have H2 := Lib.hid (H0.out.keep (w' := w2) (fun k hk => hb2.block k (H0.out.lt k hk)) hb2.size)
    have hB3 : W0.heap.size ≤ w2.heap.size := hb2.size
    have key : ∀ (k2 : Nat) (a3 : Option Addr) (c3 : Nat) (w3 : World), ((k2 = k + 1 ∧ (∃ x, fv[k]? = some x ∧ x.1 = s.data.toList)) ∨ (k2 = k ∧ ∀ x, fv[k]? = some x → x.1 ≠ s.data.toList)) → Below W0.heap.size W0 w3 →
        Row w3 W0.heap.size 79 3 a3 (k + 1 + (n - k2)) c3 ([] ++ refFiles (fv.take k) ++ [Value.string s, .slice f.a f.n f.c, .int .i64 (f.sure : Int)] ++ refFiles (fv.drop k2)) →
        RefPut w fq r (DiskM.setF d s.data.toList f.abs) (.returned (.tuple #[])) (w3.setCell ⟨r, 0, none⟩ (.slice a3 (k + 1 + (n - k2)) c3)) := by
      intro k2 a3 c3 w3 hk2 hb3 hrow
      have hb : Below w.heap.size w w3 := hb0.trans (hb3.mono (by rw [HSZ0.out]; omega))
      have hcut := put_cut s.data.toList f k (by omega) HRIS.out HLT.out HGE.out k2 hk2
      rw [← H.out.files] at hcut
      have hmem : ∀ x ∈ fv.take k ++ (s.data.toList, f) :: fv.drop k2, x ∈ fv ∨ x = (s.data.toList, f) := by
        intro x hx
        rcases List.mem_append.1 hx with h1 | h1
        · exact .inl (List.mem_of_mem_take h1)
        · rcases List.mem_cons.1 h1 with h1 | h1
          · exact .inr h1
          · exact .inl (List.mem_of_mem_drop h1)
      have hrow' : Row w3 w.heap.size 79 3 a3 (k + 1 + (n - k2)) c3 (refFiles (fv.take k ++ (s.data.toList, f) :: fv.drop k2)) := by
        have := hrow.lower (B' := w.heap.size) (by rw [HSZ0.out]; omega)
        rw [List.nil_append] at this
        rw [refFiles_append, show refFiles ((s.data.toList, f) :: fv.drop k2) = refFile (s.data.toList, f) ++ refFiles (fv.drop k2) from rfl, ← List.append_assoc]
        exact this
      obtain ⟨h1, h2⟩ := H.out.putRow hb hrow' (by rw [List.length_append, List.length_cons, List.length_take, List.length_drop, Nat.min_eq_left (by omega)]; omega)
        (fun x hx => by
          rcases hmem x hx with h | rfl
          · exact H.out.rows x h
          · exact ⟨HF.out, HFQ.out⟩) hcut HOK.out
      exact ⟨rfl, ⟨_, ⟨_, _, _, _, _, h1⟩, (fun j hj => hj.imp id fun h => h.1), fun _ h => .inl h⟩, h2⟩
    have KEY := Lib.hid key
    clear key
    by_cases hlt : k < n
    · obtain ⟨x, hx⟩ : ∃ x, fv[k]? = some x := ⟨_, List.getElem?_eq_getElem (by omega)⟩
      obtain ⟨g, rfl, g0, _, _⟩ := H2.out.at_ hx
      have r0' : ∀ q, (w2.drewN q).cell? ⟨r, 0, none⟩ = some (.slice (some ⟨g, 0, none⟩) n c) := fun _ => hxr2
      have g0' : ∀ q, (w2.drewN q).cell? ⟨g, k * 3, none⟩ = some (.string ⟨x.1.toArray⟩) := fun _ => g0
      have hlt' : (k : Int) < (n : Int) := by omega
      have HX := Lib.hid hx
      clear hx
      by_cases he : x.1 = s.data.toList
      · have hcmp : (x.1 == s.toList) = true := by rw [ByteArray.toList_eq, beq_dec']; exact decide_eq_true he
        have HE := Lib.hid he
        clear he
        have hs2 : ∀ W, (Instr.slice 48 (.slice (some ⟨g, 0, none⟩) n c) (some (.int .i64 ((k : Int) + 1))) none none).run Tryz.prog W = .ok (.slice (cutA (some ⟨g, 0, none⟩) c (k + 1) 3) (n - (k + 1)) (c - (k + 1))) W := fun W => by
          have := slice_l_f W (some ⟨g, 0, none⟩) n c .i64 ((k : Int) + 1) (by omega) (by omega)
          rwa [show (((k : Int) + 1)).toNat = k + 1 by omega] at this
        have hsrc2 : ∀ q, Src (w2.drewN q) (cutA (some ⟨g, 0, none⟩) c (k + 1) 3) (refFiles (fv.drop (k + 1))) := fun q => by
          have := H2.out.row.src.cut (k + 1) c 3 (by rw [refFiles_length]; have := HCAP.out; omega)
          rwa [refFiles_drop] at this
        have HS2 := Lib.hid hsrc2
        clear hsrc2
        go_quiet (fail)
        go_wp2_with (first
          | (at_builtin; refine wpList_append_src rfl (.tmp 63) (.tmp 69) 48 rfl W0 _ 79 i0 _ 3 48 Tryz.underlying48 HI.out.1 HI.out.2.1 HI.out.2.2.1 HI.out.2.2.2 rfl (by omega) W0.heap.size (below_drewN hb2 _) hB3 a2 (k + 1) c2 _ rfl (HO2.out.drewN _) (cutA (some ⟨g, 0, none⟩) c (k + 1) 3) (n - (k + 1)) (c - (k + 1)) (refFiles (fv.drop (k + 1))) rfl (by rw [refFiles_length, List.length_drop]; omega) (HS2.out _) (refFiles_one _) (k + 1 + (n - (k + 1))) rfl (by omega) (by omega) ?_; intro a3 c3 w3 ho3 hg3 hb3 hat3; have HB3 := Lib.hid hb3; have HO3 := Lib.hid ho3; have f3 : w3.frozen? ⟨r, 0, none⟩ = false := (hb3.frozen (p := ⟨r, 0, none⟩) (by rw [HSZ0.out]; show r < _; omega)).trans (frozen_of_row _ _ 0 _ _ H0.out.cells); have e3 : w3.cell? ⟨r, 0, none⟩ = some (.slice (some ⟨g, 0, none⟩) n c) := (hb3.cell (p := ⟨r, 0, none⟩) (by rw [HSZ0.out]; show r < _; omega)).trans R0.out; clear ho3 hg3 hb3 hat3 hs2))
        go_end0
        exact KEY.out _ a3 c3 w3 (.inl ⟨rfl, x, HX.out, HE.out⟩) HB3.out HO3.out
      · have hcmp : (x.1 == s.toList) = false := by rw [ByteArray.toList_eq, beq_dec']; exact decide_eq_false he
        have HE := Lib.hid he
        clear he
        have hs2 : ∀ W, (Instr.slice 48 (.slice (some ⟨g, 0, none⟩) n c) (some (.int .i64 (k : Int))) none none).run Tryz.prog W = .ok (.slice (cutA (some ⟨g, 0, none⟩) c (k) 3) (n - (k)) (c - (k))) W := fun W => by
          have := slice_l_f W (some ⟨g, 0, none⟩) n c .i64 (k : Int) (by omega) (by omega)
          rwa [show ((k : Int)).toNat = k by omega] at this
        have hsrc2 : ∀ q, Src (w2.drewN q) (cutA (some ⟨g, 0, none⟩) c (k) 3) (refFiles (fv.drop (k))) := fun q => by
          have := H2.out.row.src.cut (k) c 3 (by rw [refFiles_length]; have := HCAP.out; omega)
          rwa [refFiles_drop] at this
        have HS2 := Lib.hid hsrc2
        clear hsrc2
        go_quiet (fail)
        go_wp2_with (first
          | (at_builtin; refine wpList_append_src rfl (.tmp 63) (.tmp 69) 48 rfl W0 _ 79 i0 _ 3 48 Tryz.underlying48 HI.out.1 HI.out.2.1 HI.out.2.2.1 HI.out.2.2.2 rfl (by omega) W0.heap.size (below_drewN hb2 _) hB3 a2 (k + 1) c2 _ rfl (HO2.out.drewN _) (cutA (some ⟨g, 0, none⟩) c (k) 3) (n - (k)) (c - (k)) (refFiles (fv.drop (k))) rfl (by rw [refFiles_length, List.length_drop]; omega) (HS2.out _) (refFiles_one _) (k + 1 + (n - (k))) rfl (by omega) (by omega) ?_; intro a3 c3 w3 ho3 hg3 hb3 hat3; have HB3 := Lib.hid hb3; have HO3 := Lib.hid ho3; have f3 : w3.frozen? ⟨r, 0, none⟩ = false := (hb3.frozen (p := ⟨r, 0, none⟩) (by rw [HSZ0.out]; show r < _; omega)).trans (frozen_of_row _ _ 0 _ _ H0.out.cells); have e3 : w3.cell? ⟨r, 0, none⟩ = some (.slice (some ⟨g, 0, none⟩) n c) := (hb3.cell (p := ⟨r, 0, none⟩) (by rw [HSZ0.out]; show r < _; omega)).trans R0.out; clear ho3 hg3 hb3 hat3 hs2))
        go_end0
        exact KEY.out _ a3 c3 w3 (.inr ⟨rfl, fun y hy => by rw [HX.out] at hy; injection hy with hy; rw [← hy]; exact HE.out⟩) HB3.out HO3.out
    · have hlt' : ¬ ((k : Int) < (n : Int)) := by omega
      have r0' : ∀ q, (w2.drewN q).cell? ⟨r, 0, none⟩ = some (.slice a n c) := fun _ => hxr2
      have hs2 : ∀ W, (Instr.slice 48 (.slice a n c) (some (.int .i64 (k : Int))) none none).run Tryz.prog W = .ok (.slice (cutA a c (k) 3) (n - (k)) (c - (k))) W := fun W => by
        have := slice_l_f W a n c .i64 (k : Int) (by omega) (by omega)
        rwa [show ((k : Int)).toNat = k by omega] at this
      have hsrc2 : ∀ q, Src (w2.drewN q) (cutA a c (k) 3) (refFiles (fv.drop (k))) := fun q => by
        have := H2.out.row.src.cut (k) c 3 (by rw [refFiles_length]; have := HCAP.out; omega)
        rwa [refFiles_drop] at this
      have HS2 := Lib.hid hsrc2
      clear hsrc2
      go_quiet (fail)
      go_wp2_with (first
        | (at_builtin; refine wpList_append_src rfl (.tmp 63) (.tmp 69) 48 rfl W0 _ 79 i0 _ 3 48 Tryz.underlying48 HI.out.1 HI.out.2.1 HI.out.2.2.1 HI.out.2.2.2 rfl (by omega) W0.heap.size (below_drewN hb2 _) hB3 a2 (k + 1) c2 _ rfl (HO2.out.drewN _) (cutA a c (k) 3) (n - (k)) (c - (k)) (refFiles (fv.drop (k))) rfl (by rw [refFiles_length, List.length_drop]; omega) (HS2.out _) (refFiles_one _) (k + 1 + (n - (k))) rfl (by omega) (by omega) ?_; intro a3 c3 w3 ho3 hg3 hb3 hat3; have HB3 := Lib.hid hb3; have HO3 := Lib.hid ho3; have f3 : w3.frozen? ⟨r, 0, none⟩ = false := (hb3.frozen (p := ⟨r, 0, none⟩) (by rw [HSZ0.out]; show r < _; omega)).trans (frozen_of_row _ _ 0 _ _ H0.out.cells); have e3 : w3.cell? ⟨r, 0, none⟩ = some (.slice a n c) := (hb3.cell (p := ⟨r, 0, none⟩) (by rw [HSZ0.out]; show r < _; omega)).trans R0.out; clear ho3 hg3 hb3 hat3 hs2))
      go_end0
      exact KEY.out _ a3 c3 w3 (.inr ⟨rfl, fun y hy => by have := (List.getElem?_eq_some_iff.1 hy).1; omega⟩) HB3.out HO3.out
end Go.Proofs.YtopnhplacdbkdaaGreat
namespace Go.Proofs.YtopnhplacdbkdaaGreat
open Go.RowKit DiskM

set_option maxRecDepth 100000 in
set_option maxHeartbeats 2000000 in
theorem refdrop_any {w : World} {fq : Nat → Prop} {r : Nat} {a : Option Addr} {n c : Nat} {L : Int} {fv : FVs} {d : DS} (h : RefRaw w fq r a n c L fv d) (s : ByteArray) :
    Calls Tryz.prog 88 #[.pointer (some ⟨r, 0, none⟩), .string s] w (RefPut w fq r (DiskM.dropF d s.data.toList)) := by
  have hc0 : w.cell? ⟨r, 0, none⟩ = some (.slice a n c) := cell_of_row _ _ 0 _ _ _ h.cells
  have hf0 : w.frozen? ⟨r, 0, none⟩ = false := frozen_of_row _ _ 0 _ _ h.cells
  have hrl := h.lt _ h.fqr
  have hnum := h.num
  have hn : n ≤ 1000000 := by have := h.ok.few; rw [h.files] at this; simp at this; omega
  have H := Lib.hid h
  obtain ⟨i0, hi, hz0, hz1, hz2⟩ := info_parts' info_file
  have HI := Lib.hid (And.intro hi (And.intro hz0 (And.intro hz1 hz2)))
  clear hi hz0 hz1 hz2 h
  go_enter Tryz.func88, Tryz.ntmps88
  go_wp2_with fail
  go_loopw [4, 5] (fun u v wr => ∃ (i : Nat) (ao : Option Addr) (co : Nat), v = .int .i64 i ∧ i ≤ n ∧ u = .slice ao (DiskM.del s.data.toList (fv.take i)).length co ∧ Row wr w.heap.size 79 3 ao (DiskM.del s.data.toList (fv.take i)).length co (refFiles (DiskM.del s.data.toList (fv.take i))) ∧ Below w.heap.size w wr) (fun _ v _ => n - (intOf v).toNat)
  case atStart => exact ⟨0, none, 0, rfl, Nat.zero_le _, rfl, Row.nil_ _ _ _ _, Below.refl _ _⟩
  case round =>
    obtain ⟨i, ao, co, rfl, hi, rfl, hrow, hbel⟩ := hrel
    have hcr : wr.cell? ⟨r, 0, none⟩ = some (.slice a n c) := (hbel.cell (p := ⟨r, 0, none⟩) (block_lt_of_cell hc0)).trans hc0
    by_cases hlt : i < n
    · obtain ⟨x, hx⟩ : ∃ x, fv[i]? = some x := ⟨_, List.getElem?_eq_getElem (by omega)⟩
      obtain ⟨g, rfl, g0, g1, g2⟩ := H.out.at_ hx
      have g0r := (hbel.cell (p := ⟨g, i * 3, none⟩) (block_lt_of_cell g0)).trans g0
      have g1r := (hbel.cell (p := ⟨g, i * 3 + 1, none⟩) (block_lt_of_cell g1)).trans g1
      have g2r := (hbel.cell (p := ⟨g, i * 3 + 2, none⟩) (block_lt_of_cell g2)).trans g2
      have hlt' : (i : Int) < (n : Int) := by omega
      have hdt := del_take (k := s.data.toList) hx
      by_cases he : x.1 = s.data.toList
      · have hcmp : (x.1 == s.toList) = true := by rw [ByteArray.toList_eq, beq_dec']; exact decide_eq_true he
        rw [if_pos he, List.append_nil] at hdt
        have HDT := Lib.hid hdt
        clear hx he hdt g0 g1 g2 hc0 hf0
        go_wp2_with fail
        go_roundw
        case rel => exact ⟨i + 1, ao, co, by go_num, by omega, by rw [HDT.out], by rw [HDT.out]; exact hrow, hbel⟩
        case measure => simp [intOf]; omega
      · have hcmp : (x.1 == s.toList) = false := by rw [ByteArray.toList_eq, beq_dec']; exact decide_eq_false he
        rw [if_neg he] at hdt
        have one3 : ∀ u ∈ [Value.string ⟨x.1.toArray⟩, .slice x.2.a x.2.n x.2.c, .int .i64 (x.2.sure : Int)], u.oneCell' = true := by
          intro u hu
          simp only [List.mem_cons, List.not_mem_nil, or_false] at hu
          rcases hu with rfl | rfl | rfl <;> rfl
        obtain ⟨D, hD⟩ : ∃ D, DiskM.del s.data.toList (fv.take i) = D := ⟨_, rfl⟩
        have hdl : D.length ≤ i := by rw [← hD]; exact Nat.le_trans (del_length _ _) (List.length_take_le _ _)
        rw [hD] at hdt hrow ⊢
        have hrw : Row (wr.alloc (.cells #[.string ⟨x.1.toArray⟩, .slice x.2.a x.2.n x.2.c, .int .i64 (x.2.sure : Int)] 79)) w.heap.size 79 3 ao D.length co (refFiles D) := hrow.alloc _
        have hba : Below w.heap.size w (wr.alloc (.cells #[.string ⟨x.1.toArray⟩, .slice x.2.a x.2.n x.2.c, .int .i64 (x.2.sure : Int)] 79)) := hbel.alloc hbel.size _
        have HDT := Lib.hid hdt
        have HRW := Lib.hid hrw
        clear hx he hdt g0 g1 g2 hc0 hf0 hD hrow hrw hbel
        go_wp2_with (first
          | (at_builtin; refine wpList_append_row rfl (.tmp 25) (.tmp 33) 48 rfl w _ 79 i0 _ 3 48 Tryz.underlying48 HI.out.1 HI.out.2.1 HI.out.2.2.1 HI.out.2.2.2 rfl (by omega) w.heap.size hba hba.size ao D.length co _ rfl HRW.out ⟨wr.heap.size, 0, none⟩ 1 1 [.string ⟨x.1.toArray⟩, .slice x.2.a x.2.n x.2.c, .int .i64 (x.2.sure : Int)] rfl rfl (cells_new wr #[.string ⟨x.1.toArray⟩, .slice x.2.a x.2.n x.2.c, .int .i64 (x.2.sure : Int)] _ _) one3 (D.length + 1) rfl (by omega) (by omega) ?_; intro a3 c3 w3 ho3 hg3 hb3 hat3; have HO3 := Lib.hid ho3; have HB3 := Lib.hid hb3; clear ho3 hg3 hb3 hat3))
        go_roundw
        case rel =>
          have hl : (DiskM.del s.data.toList (fv.take (i + 1))).length = D.length + 1 := by rw [HDT.out, List.length_append]; rfl
          exact ⟨i + 1, a3, c3, by go_num, by omega, by rw [hl], by rw [hl, HDT.out, refFiles_append]; exact HO3.out, HB3.out⟩
        case measure => simp [intOf]; omega
    · obtain rfl : n = i := by omega
      have hall : fv.take n = fv := List.take_of_length_le (by omega)
      rw [hall] at hrow
      have fr : wr.frozen? ⟨r, 0, none⟩ = false := (hbel.frozen (p := ⟨r, 0, none⟩) hrl).trans hf0
      have hfe : DiskM.del s.data.toList d.files = (DiskM.del s.data.toList fv).map (onV FileV.abs) := by rw [H.out.files, ← del_map]
      obtain ⟨h1, h2⟩ := H.out.putRow hbel hrow rfl (fun x hx => H.out.rows x (mem_del.1 hx).1) hfe (dropF_ok H.out.ok s.data.toList)
      have H1 := Lib.hid h1
      have H2 := Lib.hid h2
      have HALL := Lib.hid hall
      clear h1 h2 hrow hfe hall hc0 hf0
      go_wp2_with fail
      go_end0
      rw [HALL.out]
      exact ⟨rfl, ⟨_, ⟨_, _, _, _, _, H1.out⟩, (fun j hj => hj.imp id fun h => h.1), fun _ h => .inl h⟩, H2.out⟩
end Go.Proofs.YtopnhplacdbkdaaGreat
namespace Go.Proofs.YtopnhplacdbkdaaGreat
open Go.RowKit DiskM

def RefWrote (w : World) (fq : Nat → Prop) (r : Nat) (res : Nat × DS) (e : Ending) (w' : World) : Prop := e = .returned (.int .i64 (res.1 : Nat)) ∧ (∃ fq', RefAt w' fq' r res.2 ∧ ∀ k, fq' k → fq k ∨ w.heap.size ≤ k) ∧ Turn fq w w'
def RefDone (w : World) (fq : Nat → Prop) (r : Nat) (d : DS) (e : Ending) (w' : World) : Prop := e = .returned (.tuple #[]) ∧ (∃ fq', RefAt w' fq' r d ∧ ∀ k, fq' k → fq k ∨ w.heap.size ≤ k) ∧ Turn fq w w'
theorem RefPut.after {w w1 w' : World} {fq : Nat → Prop} {r : Nat} {d : DS} {e : Ending} (hr : fq r) (ht : Turn fq w w1) (h : RefPut w1 fq r d e w') : RefDone w fq r d e w' := by
  obtain ⟨h1, ⟨fq', h2, h3, _⟩, h4⟩ := h
  exact ⟨h1, ⟨fq', h2, fun k hk => (h3 k hk).imp id fun h => by have := ht.size; omega⟩, ht.trans0 (h4.more fun k _ h => by rw [h]; exact hr)⟩
theorem write_do {d : DS} {k : Nat} {f g : DS → DS} (hdn : d.down = false) (hk : k = 0) {on dd : Bool} (hon : goes d = on) (hdd : (on || d.done) = dd) : DiskM.write d k f g = (if on then 0 else 15, if dd then f (gone d) else g (gone d)) := by
  unfold DiskM.write
  rw [if_neg (by rw [hdn]; decide), if_neg (by omega), hon]
  cases on
  · rw [Bool.false_or] at hdd
    rw [hdd, if_neg (by decide)]
    cases dd <;> rfl
  · rw [Bool.true_or] at hdd
    subst hdd; rfl
theorem write_both {d : DS} {k : Nat} {f : DS → DS} (hdn : d.down = false) (hk : k = 0) {on : Bool} (hon : goes d = on) : DiskM.write d k f f = (if on then 0 else 15, f (gone d)) := by
  rw [write_do hdn hk hon rfl]
  simp
theorem write_dead {d : DS} {k : Nat} {f g : DS → DS} (hdn : d.down = true) : DiskM.write d k f g = (15, d) := by unfold DiskM.write; rw [if_pos hdn]
theorem write_no {d : DS} {k : Nat} {f g : DS → DS} (hdn : d.down = false) (hk : k ≠ 0) : DiskM.write d k f g = (k, d) := by unfold DiskM.write; rw [if_neg (by rw [hdn]; decide), if_pos hk]

set_option maxRecDepth 100000 in
set_option maxHeartbeats 1000000 in
theorem refremove_any {w : World} {fq : Nat → Prop} {r : Nat} {d : DS} (h : RefAt w fq r d) (s : ByteArray) :
    Calls Tryz.prog 56 #[.pointer (some ⟨r, 0, none⟩), .string s] w (RefWrote w fq r (DiskM.remove d s.data.toList)) := by
  have h0 := h
  obtain ⟨a, n, c, L, fv, h⟩ := h
  have hc5 : w.cell? ⟨r, 5, none⟩ = some (.bool d.down) := cell_of_row _ _ 5 _ _ _ h.cells
  have hl : ∀ k, fq k → k < w.heap.size := h.lt
  have H := Lib.hid h
  have HA := Lib.hid h0
  have HL := Lib.hid hl
  clear h h0 hl
  by_cases hdn : d.down = true
  · have HR := Lib.hid (show DiskM.remove d s.data.toList = (15, d) from write_dead hdn)
    rw [hdn] at hc5
    clear hdn
    go_enter Tryz.func56, Tryz.ntmps56
    go_wp2_with fail
    go_ret
    rw [HR.out]
    exact ⟨rfl, ⟨fq, HA.out, fun k hk => .inl hk⟩, Turn.refl _ _⟩
  have hdn' : d.down = false := by simpa using hdn
  have HDN := Lib.hid hdn'
  rw [hdn'] at hc5
  clear hdn hdn'
  go_enter Tryz.func56, Tryz.ntmps56
  go_wp2_with fail
  refine (refat_any H.out s).mono ?_
  rintro e w' ⟨⟨z, rfl, hz⟩, rfl⟩
  rcases hz with ⟨i, x, rfl, hx, hk⟩ | ⟨rfl, hno⟩
  · have hz' : ¬ ((i : Int) < 0) := by omega
    have HK := Lib.hid (show DiskM.has d s.data.toList = 0 from has_in (hk ▸ H.out.look_in hx))
    clear hx hk
    go_wp2_with fail
    refine (refpower_any H.out false).mono ?_
    rintro e w1 ⟨rfl, ⟨L1, h1⟩, ht1⟩
    obtain ⟨on, hon⟩ : ∃ on, goes d = on := ⟨_, rfl⟩
    rw [hon, Bool.false_or]
    obtain ⟨dd, hdd⟩ : ∃ dd, (on || d.done) = dd := ⟨_, rfl⟩
    rw [hdd]
    have HR := Lib.hid (show DiskM.remove d s.data.toList = _ from write_do HDN.out HK.out hon hdd)
    have HT1 := Lib.hid ht1
    have H1 := Lib.hid h1
    clear hon hdd h1 ht1
    cases dd
    · cases on
      all_goals
        go_wp2_with fail
        refine (told_any _ _).mono ?_
        rintro e w2 ⟨rfl, rfl⟩
        go_wp2_with fail
        go_ret
        rw [HR.out]
        exact ⟨rfl, ⟨fq, ⟨_, _, _, _, _, H1.out⟩, fun k hk => .inl hk⟩, HT1.out⟩
    · cases on
      all_goals
        go_wp2_with fail
        refine (refdrop_any H1.out s).mono ?_
        intro e w2 hp
        have hp := hp.after H1.out.fqr HT1.out
        obtain ⟨rfl, hf, ht⟩ := hp
        have HF := Lib.hid hf
        have HT := Lib.hid ht
        clear hf ht
        go_wp2_with fail
        refine (told_any _ _).mono ?_
        rintro e w3 ⟨rfl, rfl⟩
        go_wp2_with fail
        go_ret
        rw [HR.out]
        exact ⟨rfl, HF.out, HT.out⟩
  · have HR := Lib.hid (show DiskM.remove d s.data.toList = (12, d) by
      have := has_no (H.out.look_no hno)
      unfold DiskM.remove
      rw [this]
      exact write_no HDN.out (by omega))
    clear hno
    go_wp2_with fail
    go_ret
    rw [HR.out]
    exact ⟨rfl, ⟨fq, HA.out, fun k hk => .inl hk⟩, Turn.refl _ _⟩

theorem refgrow_any {w : World} {fq : Nat → Prop} {r : Nat} {d : DS} (h : RefAt w fq r d) (m : Int) :
    Calls Tryz.prog 28 #[.pointer (some ⟨r, 0, none⟩), .int .i64 m] w (RefDone w fq r (DiskM.grow d m)) := by
  obtain ⟨a, n, c, L, fv, h⟩ := h
  have hc1 : w.cell? ⟨r, 1, none⟩ = some (.int .i64 (d.room : Int)) := cell_of_row _ _ 1 _ _ _ h.cells
  have hf1 : w.frozen? ⟨r, 1, none⟩ = false := frozen_of_row _ _ 1 _ _ h.cells
  have HW := Lib.hid (h.setF (L' := L) (d' := DiskM.grow d m) 1 (.int .i64 (held m : Nat)) (by simp [refCells, DiskM.grow]; rfl) (fun h' => h.left h') rfl ⟨held_le m, h.ok.used, h.ok.left0, h.ok.left1, h.ok.sure, h.ok.name, h.ok.few, h.ok.rising⟩)
  have HF := Lib.hid h.fqr
  clear h
  go_enter Tryz.func28, Tryz.ntmps28
  go_wp2_with fail
  refine (refroom_any m w).mono ?_
  rintro e w' ⟨rfl, rfl⟩
  go_wp2_with fail
  go_end0
  exact ⟨rfl, ⟨fq, ⟨_, _, _, _, _, HW.out⟩, fun k hk => .inl hk⟩, Turn.setCell fq w (p := ⟨r, 1, none⟩) HF.out _⟩
end Go.Proofs.YtopnhplacdbkdaaGreat
namespace Go.Proofs.YtopnhplacdbkdaaGreat
open Go.RowKit DiskM

set_option maxRecDepth 100000 in
set_option maxHeartbeats 4000000 in
theorem refrename_any {w : World} {fq : Nat → Prop} {r : Nat} {d : DS} (h : RefAt w fq r d) (s t : ByteArray) (ht : t.size ≤ maxLen) :
    Calls Tryz.prog 86 #[.pointer (some ⟨r, 0, none⟩), .string s, .string t] w (RefWrote w fq r (DiskM.rename d s.data.toList t.data.toList)) := by
  have h0 := h
  obtain ⟨a, n, c, L, fv, h⟩ := h
  have hc5 : w.cell? ⟨r, 5, none⟩ = some (.bool d.down) := cell_of_row _ _ 5 _ _ _ h.cells
  have hl : ∀ k, fq k → k < w.heap.size := h.lt
  have hnum := h.num
  have H := Lib.hid h
  have HA := Lib.hid h0
  have HL := Lib.hid hl
  have HTS := Lib.hid ht
  clear h h0 hl ht
  by_cases hdn : d.down = true
  · have HR := Lib.hid (show DiskM.rename d s.data.toList t.data.toList = (15, d) from write_dead hdn)
    rw [hdn] at hc5
    clear hdn
    go_enter Tryz.func86, Tryz.ntmps86
    go_wp2_with fail
    go_ret
    rw [HR.out]
    exact ⟨rfl, ⟨fq, HA.out, fun k hk => .inl hk⟩, Turn.refl _ _⟩
  have hdn' : d.down = false := by simpa using hdn
  have HDN := Lib.hid hdn'
  rw [hdn'] at hc5
  clear hdn hdn'
  go_enter Tryz.func86, Tryz.ntmps86
  go_wp2_with fail
  refine (refat_any H.out s).mono ?_
  rintro e w' ⟨⟨z, rfl, hz⟩, rfl⟩
  rcases hz with ⟨i, x, rfl, hx, hk⟩ | ⟨rfl, hno⟩
  · have hz' : ¬ ((i : Int) < 0) := by omega
    have hil : i < n := by have := (List.getElem?_eq_some_iff.1 hx).1; omega
    have hlk : DiskM.look s.data.toList d.files = some x.2.abs := hk ▸ H.out.look_in hx
    have HLK := Lib.hid hlk
    have HK := Lib.hid (show DiskM.has d s.data.toList = 0 from has_in hlk)
    have HX := Lib.hid hx
    have HXK := Lib.hid hk
    clear hx hk hlk
    go_wp2_with fail
    refine (refname_any t _ HTS.out).mono ?_
    rintro e w' ⟨rfl, rfl⟩
    by_cases hnm : named t.data.toList = true
    rotate_left
    · have hnm' : named t.data.toList = false := by simpa using hnm
      have HR := Lib.hid (show DiskM.rename d s.data.toList t.data.toList = (1, d) by
        unfold DiskM.rename
        have : renameAsk d s.data.toList t.data.toList = 1 := by unfold renameAsk; rw [if_pos HK.out, if_neg hnm]
        rw [this]
        exact write_no HDN.out (by omega))
      rw [hnm']
      clear hnm hnm'
      go_wp2_with fail
      go_ret
      rw [HR.out]
      exact ⟨rfl, ⟨fq, HA.out, fun k hk => .inl hk⟩, Turn.refl _ _⟩
    have HASK := Lib.hid (show renameAsk d s.data.toList t.data.toList = 0 by unfold renameAsk; rw [if_pos HK.out, if_pos hnm])
    have HNM := Lib.hid hnm
    rw [hnm]
    clear hnm
    go_wp2_with fail
    refine (refpower_any H.out false).mono ?_
    rintro e w1 ⟨rfl, ⟨L1, h1⟩, ht1⟩
    obtain ⟨on, hon⟩ : ∃ on, goes d = on := ⟨_, rfl⟩
    rw [hon, Bool.false_or]
    obtain ⟨dd, hdd⟩ : ∃ dd, (on || d.done) = dd := ⟨_, rfl⟩
    rw [hdd]
    have HR := Lib.hid (show DiskM.rename d s.data.toList t.data.toList = _ from write_do HDN.out HASK.out hon hdd)
    have HT1 := Lib.hid ht1
    have H1 := Lib.hid h1
    have hgf : (gone d).files = d.files := (gone_files d).1
    have HGF := Lib.hid hgf
    clear hon hdd h1 ht1 hgf
    cases dd
    · cases on
      all_goals
        go_wp2_with fail
        refine (told_any _ _).mono ?_
        rintro e w2 ⟨rfl, rfl⟩
        go_wp2_with fail
        go_ret
        rw [HR.out]
        exact ⟨rfl, ⟨fq, ⟨_, _, _, _, _, H1.out⟩, fun k hk => .inl hk⟩, HT1.out⟩
    by_cases hst : s.data.toList = t.data.toList
    · have hcmp : (s.toList == t.toList) = true := by rw [ByteArray.toList_eq, ByteArray.toList_eq, beq_dec']; exact decide_eq_true hst
      have HE := Lib.hid (show renameDo s.data.toList t.data.toList (gone d) = gone d by
        rw [← hst]
        exact rename_same (gone_ok H.out.ok) (by rw [HGF.out]; exact HLK.out))
      clear hst
      cases on
      all_goals
        go_wp2_with fail
        refine (told_any _ _).mono ?_
        rintro e w2 ⟨rfl, rfl⟩
        go_wp2_with fail
        go_ret
        rw [HR.out]
        refine ⟨rfl, ⟨fq, ?_, fun k hk => .inl hk⟩, HT1.out⟩
        show RefAt _ fq r (renameDo s.data.toList t.data.toList (gone d))
        rw [HE.out]
        exact ⟨_, _, _, _, _, H1.out⟩
    · have hcmp : (s.toList == t.toList) = false := by rw [ByteArray.toList_eq, ByteArray.toList_eq, beq_dec']; exact decide_eq_false hst
      obtain ⟨g, rfl, g0, g1, g2⟩ := H1.out.at_ HX.out
      have hc0 : w1.cell? ⟨r, 0, none⟩ = some (.slice (some ⟨g, 0, none⟩) n c) := cell_of_row _ _ 0 _ _ _ H1.out.cells
      have hil' : (i : Int) < (n : Int) := by omega
      have HGL := Lib.hid (show DiskM.look s.data.toList (gone d).files = some x.2.abs by rw [HGF.out]; exact HLK.out)
      clear hst hc5
      cases on
      all_goals
        go_wp2_with fail
        have hbf : Below w1.heap.size w1 (w1.alloc (.cells #[.string t, .slice x.2.a x.2.n x.2.c, .int .i64 (x.2.sure : Int)] 79)) := (Below.refl _ _).alloc (Nat.le_refl _) _
        have hbx := heap_alloc_new w1 (.cells #[.string t, .slice x.2.a x.2.n x.2.c, .int .i64 (x.2.sure : Int)] 79)
        have hszf : (w1.alloc (.cells #[.string t, .slice x.2.a x.2.n x.2.c, .int .i64 (x.2.sure : Int)] 79)).heap.size = w1.heap.size + 1 := by simp
        obtain ⟨Wf, hWf⟩ : ∃ Wf, Wf = w1.alloc (.cells #[.string t, .slice x.2.a x.2.n x.2.c, .int .i64 (x.2.sure : Int)] 79) := ⟨_, rfl⟩
        rw [← hWf] at hbf hbx hszf ⊢
        have hrr : r < w1.heap.size := H1.out.lt _ H1.out.fqr
        refine (refdrop_any (H1.out.keep (w' := Wf) (fun k hk => hbf.block k (H1.out.lt k hk)) hbf.size) s).mono ?_
        rintro e w2 ⟨rfl, ⟨fq2, ⟨a2, n2, c2, L2, fv2, hr2⟩, hn2, ho2⟩, ht2⟩
        have hx2 : w2.heap[w1.heap.size]? = some (.cells #[.string t, .slice x.2.a x.2.n x.2.c, .int .i64 (x.2.sure : Int)] 79 (0, 0)) := (ht2.block _ (by omega) (by show ¬ (w1.heap.size = r); omega)).trans hbx
        have k0 : w2.cell? ⟨w1.heap.size, 0, none⟩ = some (.string t) := cell_of_row _ _ 0 _ _ _ hx2
        have k1 : w2.cell? ⟨w1.heap.size, 1, none⟩ = some (.slice x.2.a x.2.n x.2.c) := cell_of_row _ _ 1 _ _ _ hx2
        have k2 : w2.cell? ⟨w1.heap.size, 2, none⟩ = some (.int .i64 (x.2.sure : Int)) := cell_of_row _ _ 2 _ _ _ hx2
        have hmem := H1.out.rows x (List.mem_of_getElem? HX.out)
        have hfil : Fil w2 x.2.a x.2.n x.2.c x.2.bs := hmem.1.keep fun ad ha => by
          have hlt := hmem.1.lt ad ha
          obtain ⟨cur, hh⟩ := hmem.1.cellsAt ad ha
          refine (ht2.block _ (by omega) fun e => ?_).trans (hbf.block _ hlt)
          have e' : ad.block = r := e
          rw [e', H1.out.cells] at hh
          injection hh with hh
          injection hh with _ hh _
          exact absurd hh (by decide)
        have HFIL := Lib.hid hfil
        have HFQ := Lib.hid (show ∀ ad, x.2.a = some ad → fq2 ad.block from fun ad ha => ho2 _ (hmem.2 ad ha))
        have HN2 := Lib.hid hn2
        have HR2 := Lib.hid hr2
        have HT2 := Lib.hid (show Turn fq w w2 from (HT1.out.trans0 (Turn.of_below hbf _)).trans0 (ht2.more fun k _ e => by rw [e]; exact H1.out.fqr))
        have hs2 : w.heap.size ≤ Wf.heap.size := by have := HT1.out.size; omega
        clear hmem hfil hr2 hn2 ho2 hx2 hbx hWf hbf ht2 hcmp g0 g1 g2 hc0
        go_wp2_with fail
        refine (refput_any HR2.out t x.2 HFIL.out HFQ.out (rename_ok (gone_ok H.out.ok) HGL.out HNM.out)).mono ?_
        intro e w3 hp
        have hs3 : w.heap.size ≤ w2.heap.size := HT2.out.size
        obtain ⟨rfl, ⟨fq3, hat3, hn3, ho3⟩, ht3⟩ := hp
        have HAT3 := Lib.hid hat3
        have HN3 := Lib.hid hn3
        have HT3 := Lib.hid (show Turn fq w w3 from HT2.out.trans0 (ht3.more fun k _ e => by rw [e]; exact H1.out.fqr))
        clear hat3 hn3 ho3 ht3 k0 k1 k2
        go_wp2_with fail
        refine (told_any _ _).mono ?_
        rintro e w4 ⟨rfl, rfl⟩
        go_wp2_with fail
        go_ret
        rw [HR.out]
        refine ⟨rfl, ⟨fq3, ?_, fun k hk => ?_⟩, HT3.out⟩
        · show RefAt _ fq3 r (renameDo s.data.toList t.data.toList (gone d))
          unfold renameDo
          rw [old_some HGL.out]
          exact HAT3.out
        · rcases HN3.out k hk with h | h
          · exact (HN2.out k h).imp id fun h => by omega
          · exact .inr (by omega)
  · have HR := Lib.hid (show DiskM.rename d s.data.toList t.data.toList = (12, d) by
      have := has_no (H.out.look_no hno)
      unfold DiskM.rename renameAsk
      rw [this, if_neg (by decide)]
      exact write_no HDN.out (by omega))
    clear hno
    go_wp2_with fail
    go_ret
    rw [HR.out]
    exact ⟨rfl, ⟨fq, HA.out, fun k hk => .inl hk⟩, Turn.refl _ _⟩
end Go.Proofs.YtopnhplacdbkdaaGreat
