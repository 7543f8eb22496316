/- The walk of log.Put. Condition: the slice reads as bytes. -/
import Derived.Test.YtopnhplacdbkdaaGreatLogB
namespace Go.Proofs.YtopnhplacdbkdaaGreat
open Go.RowKit

theorem PartsAt.new (w : World) (t : TypeId) (cs : Array Value) (ps : List Part) (hcs : cs.toList = ps.map fun p => .slice p.a p.n p.c) (hps : ∀ p ∈ ps, p.bs.length = p.n ∧ Rd w w.heap.size p.a p.bs) :
    PartsAt (w.alloc (.cells cs t)) (w.alloc (.cells cs t)).heap.size w.heap.size 0 ps := fun j p hp => by
  have hmem := List.mem_of_getElem? hp
  obtain ⟨h1, h2⟩ := hps p hmem
  refine ⟨?_, h1, (h2.alloc (Nat.le_refl _) _).more (by simp)⟩
  rw [cell_of_row _ _ _ _ _ _ (heap_alloc_new _ _), Nat.zero_add, ← Array.getElem?_toList, hcs, List.getElem?_map, hp]; rfl

set_option maxRecDepth 100000 in
theorem put_long (a : Option Addr) (n c : Nat) (w : World) (hm : n ≤ 9223372036854775807) (h : 65536 < n) :
    Calls Tryz.prog 40 #[.slice a n c] w fun e w' => e = .returned (.tuple #[.slice none 0 0, .int .i64 6]) ∧ w = w' := by
  go_enter Tryz.func40, Tryz.ntmps40
  go_wp2_with fail
  go_ret2
  exact ⟨rfl, rfl⟩

set_option maxRecDepth 100000 in
set_option maxHeartbeats 1000000 in
theorem put_any (a : Option Addr) (n c : Nat) (bs : List UInt8) (w : World) (hn : bs.length = n) (hm : n ≤ 65536) (h : Rd w w.heap.size a bs) :
    Calls Tryz.prog 40 #[.slice a n c] w fun e w' => ∃ a' c', e = .returned (.tuple #[.slice a' (n + 12) c', .int .i64 0]) ∧ Own w' w.heap.size a' (n + 12) c' (LogM.put bs) ∧ Below w.heap.size w w' := by
  have HN := Lib.hid hn
  clear hn
  go_enter Tryz.func40, Tryz.ntmps40
  go_wp2_with fail
  refine (four_any n _ (by omega)).mono ?_
  rintro e w1 ⟨a1, c1, rfl, ho1, hb1⟩
  have hr1 := h.step hb1
  have hB1 := hb1
  go_wp2_with fail
  refine (sum_any a1 4 c1 (LogM.four n) _ rfl (by omega) ho1.rd).mono ?_
  rintro e w2 ⟨rfl, hb2⟩
  have hr2 := hr1.step hb2
  have hB2 := Below.next0 hB1 hb2
  have hA2 := ho1.rd.step hb2
  clear hb2 hr1 hB1 ho1 hb1
  go_wp2_with fail
  refine (four_any (CrcM.crc 0 (LogM.four n)) _ (CrcM.crc_lt _ (by omega))).mono ?_
  rintro e w3 ⟨a3, c3, rfl, ho3, hb3⟩
  have hr3 := hr2.step hb3
  have hB3 := Below.next0 hB2 hb3
  have hA3 := hA2.step hb3
  have hC3 := ho3.rd
  clear hb3 hr2 hB2 hA2 ho3
  go_wp2_with fail
  refine (sum_any a n c bs _ HN.out (by omega) hr3).mono ?_
  rintro e w4 ⟨rfl, hb4⟩
  have hr4 := hr3.step hb4
  have hB4 := Below.next0 hB3 hb4
  have hA4 := hA3.step hb4
  have hC4 := hC3.step hb4
  clear hb4 hr3 hB3 hA3 hC3
  go_wp2_with fail
  refine (four_any (CrcM.crc 0 bs) _ (CrcM.crc_lt _ (by omega))).mono ?_
  rintro e w5 ⟨a5, c5, rfl, ho5, hb5⟩
  have hr5 := hr4.step hb5
  have hB5 := Below.next0 hB4 hb5
  have hA5 := hA4.step hb5
  have hC5 := hC4.step hb5
  have hD5 := ho5.rd
  clear hb5 hr4 hB4 hA4 hC4 ho5
  have hps := PartsAt.new w5 30 #[.slice a1 4 c1, .slice a3 4 c3, .slice a n c, .slice a5 4 c5] [⟨a1, 4, c1, LogM.four n⟩, ⟨a3, 4, c3, LogM.four (CrcM.crc 0 (LogM.four n))⟩, ⟨a, n, c, bs⟩, ⟨a5, 4, c5, LogM.four (CrcM.crc 0 bs)⟩] rfl (by
    intro p hp
    simp only [List.mem_cons, List.not_mem_nil, or_false] at hp
    rcases hp with rfl | rfl | rfl | rfl
    · exact ⟨rfl, hA5⟩
    · exact ⟨rfl, hC5⟩
    · exact ⟨HN.out, hr5⟩
    · exact ⟨rfl, hD5⟩)
  have hB6 : Below w.heap.size w (w5.alloc (.cells #[.slice a1 4 c1, .slice a3 4 c3, .slice a n c, .slice a5 4 c5] 30)) := hB5.alloc hB5.size _
  clear hr5 hA5 hC5 hD5
  go_wp2_with fail
  have hlen : partsLen [⟨a1, 4, c1, LogM.four n⟩, ⟨a3, 4, c3, LogM.four (CrcM.crc 0 (LogM.four n))⟩, ⟨a, n, c, bs⟩, ⟨a5, 4, c5, LogM.four (CrcM.crc 0 bs)⟩] = n + 12 := by simp [partsLen]; omega
  have hall : partsAll [⟨a1, 4, c1, LogM.four n⟩, ⟨a3, 4, c3, LogM.four (CrcM.crc 0 (LogM.four n))⟩, ⟨a, n, c, bs⟩, ⟨a5, 4, c5, LogM.four (CrcM.crc 0 bs)⟩] = LogM.put bs := by simp [partsAll, LogM.put, HN.out]
  refine (concat_any w5.heap.size 0 4 4 _ _ rfl (by omega) (by simp) hps (by rw [hlen]; omega)).mono ?_
  rw [hlen, hall]
  rintro e w6 ⟨a', c', rfl, ho6, hb6⟩
  have hB7 := Below.next0 hB6 hb6
  have ho7 : Own w6 w.heap.size a' (n + 12) c' (LogM.put bs) := ho6.lower hB6.size
  clear hb6 hB6 hB5 ho6 hps hlen hall
  go_wp2_with fail
  go_ret2
  exact ⟨_, _, rfl, ho7, hB7⟩
end Go.Proofs.YtopnhplacdbkdaaGreat
