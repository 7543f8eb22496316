/- The walks of the four statements on checksums: each returns true and writes nothing that was there. Condition: the arguments read as integers and bytes. -/
import Derived.Test.YtopnhplacdbkdaaCrcRef
namespace Go.Proofs.Ytopnhplacdbkdaa
open Go.RowKit
theorem refcrc_zero (a : Option Addr) (n c : Nat) (bs : List UInt8) (w : World) (hn : bs.length = n) (hm : n ≤ 9223372036854775807) (h : Rd w w.heap.size a bs) :
    Calls Try.prog 21 #[.int .u32 0, .slice a n c] w fun e w' => e = .returned (.int .u32 (CrcM.crc 0 bs : Nat)) ∧ w = w' := refcrc_any 0 a n c bs w (by omega) hn hm h

set_option maxRecDepth 100000 in
set_option maxHeartbeats 1000000 in
theorem walkCrcSums (s : Nat) (a : Option Addr) (n c : Nat) (bs : List UInt8) (w : World) (hs : s < 4294967296) (hn : bs.length = n) (hm : n ≤ 9223372036854775807) (h : Rd w w.heap.size a bs) (_hc : n ≤ c) (_hcm : c ≤ 9223372036854775807) :
    Calls Try.prog 3 #[.int .u32 (s : Int), .slice a n c] w fun e w' => e = .returned (.bool true) ∧ Below w.heap.size w w' := by
  have HN := Lib.hid hn
  clear hn
  go_enter Try.func3, Try.ntmps3
  go_wp2_with (first | (go_at_call 19; refine (crcknown_any _).mono ?_; rintro e w1 ⟨rfl, hb1⟩; have hr1 := h.step hb1) | (go_at_call 20; refine (sum_any _ _ _ bs _ HN.out hm (by assumption)).mono ?_; rintro e w2 ⟨rfl, hb2⟩; have hr2 := hr1.step hb2; have hB2 := Below.next0 hb1 hb2) | (go_at_call 21; ((with_reducible refine (refcrc_zero _ _ _ bs _ HN.out hm (by assumption)).mono ?_); rintro e w3 ⟨rfl, rfl⟩)) | (go_at_call 21; refine (refcrc_any s _ _ _ bs _ hs HN.out hm (by assumption)).mono ?_; rintro e w3 ⟨rfl, rfl⟩) | (go_at_call 22; refine (next_any _ _ _ _ bs _ hs HN.out hm (by assumption)).mono ?_; rintro e w4 ⟨rfl, hb4⟩; have hr4 := hr2.step hb4; have hB4 := Below.next0 hB2 hb4))
  · go_ret
    exact ⟨rfl, hb1⟩
  · go_ret
    exact ⟨rfl, hB4⟩
end Go.Proofs.Ytopnhplacdbkdaa
