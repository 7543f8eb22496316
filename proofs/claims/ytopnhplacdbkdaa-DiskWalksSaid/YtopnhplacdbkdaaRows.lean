/-
  No cell of these rows narrows 'for every input' (looked for: loops, veiled, ifaces, maps, wideKeys, modest, calm, conditions, laid).
  DERIVED. THE GIVEN ROWS OF THIS SEAT. 16 by the template 'for every input the law returns true; each argument reads behind the call as it read before'; 0 by the template 'total and deterministic' (their statements: YtopnhplacdbkdaaTotals.lean).
  GIVEN WITH THE SEED: the statements are not yours to turn. If you find one false, say at which input.
  Laid BY PROGRAM, IN A SANDBOX (cutbox-rows.mjs): the forced cells as the released guide's own fill.sh prints them over the translation bdac820fcc3df9b4… (all of the seat's roots in one cut). By AI agents, Wed Nov 11 2026. No macro, syntax, notation, axiom, sorry.
-/
import Derived.Test.YtopnhplacdbkdaaChecked
import GoSem.Claim
import GoSem.ClaimJoined
import GoSem.ClaimMapViews
import Derived.JoinedTies
import Derived.KernelRfl
namespace Go.Proofs.Ytopnhplacdbkdaa
/- THE CELL 'sum', in the pinned program and in every row, IS THE sha256 OF THE DUMP (.gsa) THAT YtopnhplacdbkdaaProg.lean LOADS. Nothing in Lean hashes anything: it is a label: what it is worth is what the hold of that sum in a sandbox is worth. -/
noncomputable def Try.pinned : Pinned := { name := "ytopnhplacdbkdaa", sum := "bdac820fcc3df9b478db7dc04d9695419d581d466fe48550bd4c961e6d03068a", checked := Try.checked }
namespace Rows
def none {H : Type} : Left H := { results := [], args := [] }

/-- 'fathomlinelaw20.CrcSums': WHATEVER THE INPUT: true; the input reads as it did. -/
def crcSumsSpec : ChangeSpec := { name := "crcSums", fn := fun _ => fun
  | [d1, d2] => { results := [.lit (.bool true)], args := [d1, d2] }
  | _ => none }
def crcSumsRow : OpenClaim := { program := "ytopnhplacdbkdaa", sum := "bdac820fcc3df9b478db7dc04d9695419d581d466fe48550bd4c961e6d03068a", func := "fathomline/fathomlinelaw20.CrcSums", spec := "crcSums", apart := false }
def CrcSumsSaid : Prop := crcSumsRow.holds Try.pinned (OpenSpec.ofChange crcSumsSpec)

/-- ITS FALSE NEIGHBOUR: 'it returns false'. Refute it at one input. -/
def crcSumsWrong : ChangeSpec := { name := "crcSums", fn := fun _ => fun
  | [d1, d2] => { results := [.lit (.bool false)], args := [d1, d2] }
  | _ => none }
def CrcSumsWrongFalsely : Prop := crcSumsRow.holds Try.pinned (OpenSpec.ofChange crcSumsWrong)

/-- 'fathomlinelaw20.CrcParts': WHATEVER THE INPUT: true; the input reads as it did. -/
def crcPartsSpec : ChangeSpec := { name := "crcParts", fn := fun _ => fun
  | [d1, d2] => { results := [.lit (.bool true)], args := [d1, d2] }
  | _ => none }
def crcPartsRow : OpenClaim := { program := "ytopnhplacdbkdaa", sum := "bdac820fcc3df9b478db7dc04d9695419d581d466fe48550bd4c961e6d03068a", func := "fathomline/fathomlinelaw20.CrcParts", spec := "crcParts", apart := false }
def CrcPartsSaid : Prop := crcPartsRow.holds Try.pinned (OpenSpec.ofChange crcPartsSpec)

/-- ITS FALSE NEIGHBOUR: 'it returns false'. Refute it at one input. -/
def crcPartsWrong : ChangeSpec := { name := "crcParts", fn := fun _ => fun
  | [d1, d2] => { results := [.lit (.bool false)], args := [d1, d2] }
  | _ => none }
def CrcPartsWrongFalsely : Prop := crcPartsRow.holds Try.pinned (OpenSpec.ofChange crcPartsWrong)

/-- 'fathomlinelaw20.CrcBursts': WHATEVER THE INPUT: true; the input reads as it did. -/
def crcBurstsSpec : ChangeSpec := { name := "crcBursts", fn := fun _ => fun
  | [d1, d2, d3] => { results := [.lit (.bool true)], args := [d1, d2, d3] }
  | _ => none }
def crcBurstsRow : OpenClaim := { program := "ytopnhplacdbkdaa", sum := "bdac820fcc3df9b478db7dc04d9695419d581d466fe48550bd4c961e6d03068a", func := "fathomline/fathomlinelaw20.CrcBursts", spec := "crcBursts", apart := false }
def CrcBurstsSaid : Prop := crcBurstsRow.holds Try.pinned (OpenSpec.ofChange crcBurstsSpec)

/-- ITS FALSE NEIGHBOUR: 'it returns false'. Refute it at one input. -/
def crcBurstsWrong : ChangeSpec := { name := "crcBursts", fn := fun _ => fun
  | [d1, d2, d3] => { results := [.lit (.bool false)], args := [d1, d2, d3] }
  | _ => none }
def CrcBurstsWrongFalsely : Prop := crcBurstsRow.holds Try.pinned (OpenSpec.ofChange crcBurstsWrong)

/-- 'fathomlinelaw20.CrcSwaps': WHATEVER THE INPUT: true; the input reads as it did. -/
def crcSwapsSpec : ChangeSpec := { name := "crcSwaps", fn := fun _ => fun
  | [d1, d2] => { results := [.lit (.bool true)], args := [d1, d2] }
  | _ => none }
def crcSwapsRow : OpenClaim := { program := "ytopnhplacdbkdaa", sum := "bdac820fcc3df9b478db7dc04d9695419d581d466fe48550bd4c961e6d03068a", func := "fathomline/fathomlinelaw20.CrcSwaps", spec := "crcSwaps", apart := false }
def CrcSwapsSaid : Prop := crcSwapsRow.holds Try.pinned (OpenSpec.ofChange crcSwapsSpec)

/-- ITS FALSE NEIGHBOUR: 'it returns false'. Refute it at one input. -/
def crcSwapsWrong : ChangeSpec := { name := "crcSwaps", fn := fun _ => fun
  | [d1, d2] => { results := [.lit (.bool false)], args := [d1, d2] }
  | _ => none }
def CrcSwapsWrongFalsely : Prop := crcSwapsRow.holds Try.pinned (OpenSpec.ofChange crcSwapsWrong)

/-- 'fathomlinelaw24.LogPuts': WHATEVER THE INPUT: true; the input reads as it did. -/
def logPutsSpec : ChangeSpec := { name := "logPuts", fn := fun _ => fun
  | [d1, d2, d3] => { results := [.lit (.bool true)], args := [d1, d2, d3] }
  | _ => none }
def logPutsRow : OpenClaim := { program := "ytopnhplacdbkdaa", sum := "bdac820fcc3df9b478db7dc04d9695419d581d466fe48550bd4c961e6d03068a", func := "fathomline/fathomlinelaw24.LogPuts", spec := "logPuts", unfollowed := true, recurses := true, apart := false }
def LogPutsSaid : Prop := logPutsRow.holds Try.pinned (OpenSpec.ofChange logPutsSpec)

/-- ITS FALSE NEIGHBOUR: 'it returns false'. Refute it at one input. -/
def logPutsWrong : ChangeSpec := { name := "logPuts", fn := fun _ => fun
  | [d1, d2, d3] => { results := [.lit (.bool false)], args := [d1, d2, d3] }
  | _ => none }
def LogPutsWrongFalsely : Prop := logPutsRow.holds Try.pinned (OpenSpec.ofChange logPutsWrong)

/-- 'fathomlinelaw24.LogScans': WHATEVER THE INPUT: true; the input reads as it did. -/
def logScansSpec : ChangeSpec := { name := "logScans", fn := fun _ => fun
  | [d1, d2] => { results := [.lit (.bool true)], args := [d1, d2] }
  | _ => none }
def logScansRow : OpenClaim := { program := "ytopnhplacdbkdaa", sum := "bdac820fcc3df9b478db7dc04d9695419d581d466fe48550bd4c961e6d03068a", func := "fathomline/fathomlinelaw24.LogScans", spec := "logScans", unfollowed := true, recurses := true, apart := false }
def LogScansSaid : Prop := logScansRow.holds Try.pinned (OpenSpec.ofChange logScansSpec)

/-- ITS FALSE NEIGHBOUR: 'it returns false'. Refute it at one input. -/
def logScansWrong : ChangeSpec := { name := "logScans", fn := fun _ => fun
  | [d1, d2] => { results := [.lit (.bool false)], args := [d1, d2] }
  | _ => none }
def LogScansWrongFalsely : Prop := logScansRow.holds Try.pinned (OpenSpec.ofChange logScansWrong)

/-- 'fathomlinelaw24.LogBack': WHATEVER THE INPUT: true; the input reads as it did. -/
def logBackSpec : ChangeSpec := { name := "logBack", fn := fun _ => fun
  | [d1, d2] => { results := [.lit (.bool true)], args := [d1, d2] }
  | _ => none }
def logBackRow : OpenClaim := { program := "ytopnhplacdbkdaa", sum := "bdac820fcc3df9b478db7dc04d9695419d581d466fe48550bd4c961e6d03068a", func := "fathomline/fathomlinelaw24.LogBack", spec := "logBack", unfollowed := true, recurses := true, apart := false }
def LogBackSaid : Prop := logBackRow.holds Try.pinned (OpenSpec.ofChange logBackSpec)

/-- ITS FALSE NEIGHBOUR: 'it returns false'. Refute it at one input. -/
def logBackWrong : ChangeSpec := { name := "logBack", fn := fun _ => fun
  | [d1, d2] => { results := [.lit (.bool false)], args := [d1, d2] }
  | _ => none }
def LogBackWrongFalsely : Prop := logBackRow.holds Try.pinned (OpenSpec.ofChange logBackWrong)

/-- 'fathomlinelaw24.LogTorn': WHATEVER THE INPUT: true; the input reads as it did. -/
def logTornSpec : ChangeSpec := { name := "logTorn", fn := fun _ => fun
  | [d1, d2] => { results := [.lit (.bool true)], args := [d1, d2] }
  | _ => none }
def logTornRow : OpenClaim := { program := "ytopnhplacdbkdaa", sum := "bdac820fcc3df9b478db7dc04d9695419d581d466fe48550bd4c961e6d03068a", func := "fathomline/fathomlinelaw24.LogTorn", spec := "logTorn", unfollowed := true, recurses := true, apart := false }
def LogTornSaid : Prop := logTornRow.holds Try.pinned (OpenSpec.ofChange logTornSpec)

/-- ITS FALSE NEIGHBOUR: 'it returns false'. Refute it at one input. -/
def logTornWrong : ChangeSpec := { name := "logTorn", fn := fun _ => fun
  | [d1, d2] => { results := [.lit (.bool false)], args := [d1, d2] }
  | _ => none }
def LogTornWrongFalsely : Prop := logTornRow.holds Try.pinned (OpenSpec.ofChange logTornWrong)

/-- 'fathomlinelaw24.LogBursts': WHATEVER THE INPUT: true; the input reads as it did. -/
def logBurstsSpec : ChangeSpec := { name := "logBursts", fn := fun _ => fun
  | [d1, d2, d3] => { results := [.lit (.bool true)], args := [d1, d2, d3] }
  | _ => none }
def logBurstsRow : OpenClaim := { program := "ytopnhplacdbkdaa", sum := "bdac820fcc3df9b478db7dc04d9695419d581d466fe48550bd4c961e6d03068a", func := "fathomline/fathomlinelaw24.LogBursts", spec := "logBursts", unfollowed := true, recurses := true, apart := false }
def LogBurstsSaid : Prop := logBurstsRow.holds Try.pinned (OpenSpec.ofChange logBurstsSpec)

/-- ITS FALSE NEIGHBOUR: 'it returns false'. Refute it at one input. -/
def logBurstsWrong : ChangeSpec := { name := "logBursts", fn := fun _ => fun
  | [d1, d2, d3] => { results := [.lit (.bool false)], args := [d1, d2, d3] }
  | _ => none }
def LogBurstsWrongFalsely : Prop := logBurstsRow.holds Try.pinned (OpenSpec.ofChange logBurstsWrong)

/-- 'fathomlinelaw24.LogLarge': WHATEVER THE INPUT: true; the input reads as it did. -/
def logLargeSpec : ChangeSpec := { name := "logLarge", fn := fun _ => fun
  | [d1, d2] => { results := [.lit (.bool true)], args := [d1, d2] }
  | _ => none }
def logLargeRow : OpenClaim := { program := "ytopnhplacdbkdaa", sum := "bdac820fcc3df9b478db7dc04d9695419d581d466fe48550bd4c961e6d03068a", func := "fathomline/fathomlinelaw24.LogLarge", spec := "logLarge", unfollowed := true, recurses := true, apart := false }
def LogLargeSaid : Prop := logLargeRow.holds Try.pinned (OpenSpec.ofChange logLargeSpec)

/-- ITS FALSE NEIGHBOUR: 'it returns false'. Refute it at one input. -/
def logLargeWrong : ChangeSpec := { name := "logLarge", fn := fun _ => fun
  | [d1, d2] => { results := [.lit (.bool false)], args := [d1, d2] }
  | _ => none }
def LogLargeWrongFalsely : Prop := logLargeRow.holds Try.pinned (OpenSpec.ofChange logLargeWrong)

/-- 'fathomlinelaw21.DiskKeeps': WHATEVER THE INPUT: true; the input reads as it did. -/
def diskKeepsSpec : ChangeSpec := { name := "diskKeeps", fn := fun _ => fun
  | [d1, d2] => { results := [.lit (.bool true)], args := [d1, d2] }
  | _ => none }
def diskKeepsRow : OpenClaim := { program := "ytopnhplacdbkdaa", sum := "bdac820fcc3df9b478db7dc04d9695419d581d466fe48550bd4c961e6d03068a", func := "fathomline/fathomlinelaw21.DiskKeeps", spec := "diskKeeps", unfollowed := true, recurses := true, apart := false }
def DiskKeepsSaid : Prop := diskKeepsRow.holds Try.pinned (OpenSpec.ofChange diskKeepsSpec)

/-- ITS FALSE NEIGHBOUR: 'it returns false'. Refute it at one input. -/
def diskKeepsWrong : ChangeSpec := { name := "diskKeeps", fn := fun _ => fun
  | [d1, d2] => { results := [.lit (.bool false)], args := [d1, d2] }
  | _ => none }
def DiskKeepsWrongFalsely : Prop := diskKeepsRow.holds Try.pinned (OpenSpec.ofChange diskKeepsWrong)

/-- 'fathomlinelaw21.DiskArmed': WHATEVER THE INPUT: true; the input reads as it did. -/
def diskArmedSpec : ChangeSpec := { name := "diskArmed", fn := fun _ => fun
  | [d1, d2, d3] => { results := [.lit (.bool true)], args := [d1, d2, d3] }
  | _ => none }
def diskArmedRow : OpenClaim := { program := "ytopnhplacdbkdaa", sum := "bdac820fcc3df9b478db7dc04d9695419d581d466fe48550bd4c961e6d03068a", func := "fathomline/fathomlinelaw21.DiskArmed", spec := "diskArmed", unfollowed := true, recurses := true, apart := false }
def DiskArmedSaid : Prop := diskArmedRow.holds Try.pinned (OpenSpec.ofChange diskArmedSpec)

/-- ITS FALSE NEIGHBOUR: 'it returns false'. Refute it at one input. -/
def diskArmedWrong : ChangeSpec := { name := "diskArmed", fn := fun _ => fun
  | [d1, d2, d3] => { results := [.lit (.bool false)], args := [d1, d2, d3] }
  | _ => none }
def DiskArmedWrongFalsely : Prop := diskArmedRow.holds Try.pinned (OpenSpec.ofChange diskArmedWrong)

/-- 'fathomlinelaw21.DiskWalks': WHATEVER THE INPUT: true; the input reads as it did. -/
def diskWalksSpec : ChangeSpec := { name := "diskWalks", fn := fun _ => fun
  | [d1, d2] => { results := [.lit (.bool true)], args := [d1, d2] }
  | _ => none }
def diskWalksRow : OpenClaim := { program := "ytopnhplacdbkdaa", sum := "bdac820fcc3df9b478db7dc04d9695419d581d466fe48550bd4c961e6d03068a", func := "fathomline/fathomlinelaw21.DiskWalks", spec := "diskWalks", unfollowed := true, recurses := true, apart := false }
def DiskWalksSaid : Prop := diskWalksRow.holds Try.pinned (OpenSpec.ofChange diskWalksSpec)

/-- ITS FALSE NEIGHBOUR: 'it returns false'. Refute it at one input. -/
def diskWalksWrong : ChangeSpec := { name := "diskWalks", fn := fun _ => fun
  | [d1, d2] => { results := [.lit (.bool false)], args := [d1, d2] }
  | _ => none }
def DiskWalksWrongFalsely : Prop := diskWalksRow.holds Try.pinned (OpenSpec.ofChange diskWalksWrong)

/-- 'fathomlinelaw25.SnapFull': WHATEVER THE INPUT: true; the input reads as it did. -/
def snapFullSpec : ChangeSpec := { name := "snapFull", fn := fun _ => fun
  | [d1, d2, d3] => { results := [.lit (.bool true)], args := [d1, d2, d3] }
  | _ => none }
def snapFullRow : OpenClaim := { program := "ytopnhplacdbkdaa", sum := "bdac820fcc3df9b478db7dc04d9695419d581d466fe48550bd4c961e6d03068a", func := "fathomline/fathomlinelaw25.SnapFull", spec := "snapFull", unfollowed := true, recurses := true, apart := false }
def SnapFullSaid : Prop := snapFullRow.holds Try.pinned (OpenSpec.ofChange snapFullSpec)

/-- ITS FALSE NEIGHBOUR: 'it returns false'. Refute it at one input. -/
def snapFullWrong : ChangeSpec := { name := "snapFull", fn := fun _ => fun
  | [d1, d2, d3] => { results := [.lit (.bool false)], args := [d1, d2, d3] }
  | _ => none }
def SnapFullWrongFalsely : Prop := snapFullRow.holds Try.pinned (OpenSpec.ofChange snapFullWrong)

/-- 'fathomlinelaw25.SnapSpoilt': WHATEVER THE INPUT: true; the input reads as it did. -/
def snapSpoiltSpec : ChangeSpec := { name := "snapSpoilt", fn := fun _ => fun
  | [d1, d2, d3, d4] => { results := [.lit (.bool true)], args := [d1, d2, d3, d4] }
  | _ => none }
def snapSpoiltRow : OpenClaim := { program := "ytopnhplacdbkdaa", sum := "bdac820fcc3df9b478db7dc04d9695419d581d466fe48550bd4c961e6d03068a", func := "fathomline/fathomlinelaw25.SnapSpoilt", spec := "snapSpoilt", unfollowed := true, recurses := true, apart := false }
def SnapSpoiltSaid : Prop := snapSpoiltRow.holds Try.pinned (OpenSpec.ofChange snapSpoiltSpec)

/-- ITS FALSE NEIGHBOUR: 'it returns false'. Refute it at one input. -/
def snapSpoiltWrong : ChangeSpec := { name := "snapSpoilt", fn := fun _ => fun
  | [d1, d2, d3, d4] => { results := [.lit (.bool false)], args := [d1, d2, d3, d4] }
  | _ => none }
def SnapSpoiltWrongFalsely : Prop := snapSpoiltRow.holds Try.pinned (OpenSpec.ofChange snapSpoiltWrong)

/-- 'fathomlinelaw25.SnapAtomic': WHATEVER THE INPUT: true; the input reads as it did. -/
def snapAtomicSpec : ChangeSpec := { name := "snapAtomic", fn := fun _ => fun
  | [d1, d2, d3, d4, d5] => { results := [.lit (.bool true)], args := [d1, d2, d3, d4, d5] }
  | _ => none }
def snapAtomicRow : OpenClaim := { program := "ytopnhplacdbkdaa", sum := "bdac820fcc3df9b478db7dc04d9695419d581d466fe48550bd4c961e6d03068a", func := "fathomline/fathomlinelaw25.SnapAtomic", spec := "snapAtomic", unfollowed := true, recurses := true, apart := false }
def SnapAtomicSaid : Prop := snapAtomicRow.holds Try.pinned (OpenSpec.ofChange snapAtomicSpec)

/-- ITS FALSE NEIGHBOUR: 'it returns false'. Refute it at one input. -/
def snapAtomicWrong : ChangeSpec := { name := "snapAtomic", fn := fun _ => fun
  | [d1, d2, d3, d4, d5] => { results := [.lit (.bool false)], args := [d1, d2, d3, d4, d5] }
  | _ => none }
def SnapAtomicWrongFalsely : Prop := snapAtomicRow.holds Try.pinned (OpenSpec.ofChange snapAtomicWrong)

/- THE SECOND FORM. 'bulk': how many values and letters a reading holds, each counted each time it is reached (what is shared counts as often as it is met; a slice's spare places count too). A statement '..UptoSaid' is the law's where the arguments, and the package variables that the reading takes, are together of bulk at most 1048576: NARROWER than '..Said'. Prove '..Said' where nothing that the law and all that it calls make is longer than what came in: it says more and counts as full. Else prove '..UptoSaid'. A law counts once. -/
mutual
def uptoBulk {H : Type} : DataW H → Nat
  | .lit (.string bytes) => bytes.length + 1
  | .lit _ => 1
  | .nil => 1
  | .ptr d => uptoBulk d + 1
  | .slice elems spare => uptoBulkAll elems + uptoBulkAll spare + 1
  | .agg parts => uptoBulkAll parts + 1
  | .iface _ d => uptoBulk d + 1
  | .map entries => uptoBulkEntries entries + 1
  | .held _ => 1
def uptoBulkAll {H : Type} : List (DataW H) → Nat
  | [] => 0
  | d :: r => uptoBulk d + uptoBulkAll r
def uptoBulkEntries {H : Type} : List (Lit × DataW H) → Nat
  | [] => 0
  | x :: r => uptoBulkEntry x + uptoBulkEntries r
def uptoBulkEntry {H : Type} : Lit × DataW H → Nat
  | (.string bytes, d) => bytes.length + uptoBulk d + 1
  | (_, d) => uptoBulk d + 1
 end
def uptoSmall : (H : Type) → List (DataW H) → Bool := fun _ ds => decide (uptoBulkAll ds ≤ 1048576)
def OpenSpec.upto (s : _root_.Go.ChangeSpec) : _root_.Go.OpenSpec := { _root_.Go.OpenSpec.ofChange s with cond := some uptoSmall }

/-- 'fathomlinelaw20.CrcSums', WHERE WHAT IT READS IS OF BULK AT MOST 1048576: true; the input reads as it did. -/
def crcSumsUptoRow : OpenClaim := { program := "ytopnhplacdbkdaa", sum := "bdac820fcc3df9b478db7dc04d9695419d581d466fe48550bd4c961e6d03068a", func := "fathomline/fathomlinelaw20.CrcSums", spec := "crcSums", apart := false, narrowed := true }
def CrcSumsUptoSaid : Prop := crcSumsUptoRow.holds Try.pinned (OpenSpec.upto crcSumsSpec)

/-- 'fathomlinelaw20.CrcParts', WHERE WHAT IT READS IS OF BULK AT MOST 1048576: true; the input reads as it did. -/
def crcPartsUptoRow : OpenClaim := { program := "ytopnhplacdbkdaa", sum := "bdac820fcc3df9b478db7dc04d9695419d581d466fe48550bd4c961e6d03068a", func := "fathomline/fathomlinelaw20.CrcParts", spec := "crcParts", apart := false, narrowed := true }
def CrcPartsUptoSaid : Prop := crcPartsUptoRow.holds Try.pinned (OpenSpec.upto crcPartsSpec)

/-- 'fathomlinelaw20.CrcBursts', WHERE WHAT IT READS IS OF BULK AT MOST 1048576: true; the input reads as it did. -/
def crcBurstsUptoRow : OpenClaim := { program := "ytopnhplacdbkdaa", sum := "bdac820fcc3df9b478db7dc04d9695419d581d466fe48550bd4c961e6d03068a", func := "fathomline/fathomlinelaw20.CrcBursts", spec := "crcBursts", apart := false, narrowed := true }
def CrcBurstsUptoSaid : Prop := crcBurstsUptoRow.holds Try.pinned (OpenSpec.upto crcBurstsSpec)

/-- 'fathomlinelaw20.CrcSwaps', WHERE WHAT IT READS IS OF BULK AT MOST 1048576: true; the input reads as it did. -/
def crcSwapsUptoRow : OpenClaim := { program := "ytopnhplacdbkdaa", sum := "bdac820fcc3df9b478db7dc04d9695419d581d466fe48550bd4c961e6d03068a", func := "fathomline/fathomlinelaw20.CrcSwaps", spec := "crcSwaps", apart := false, narrowed := true }
def CrcSwapsUptoSaid : Prop := crcSwapsUptoRow.holds Try.pinned (OpenSpec.upto crcSwapsSpec)

/-- 'fathomlinelaw24.LogPuts', WHERE WHAT IT READS IS OF BULK AT MOST 1048576: true; the input reads as it did. -/
def logPutsUptoRow : OpenClaim := { program := "ytopnhplacdbkdaa", sum := "bdac820fcc3df9b478db7dc04d9695419d581d466fe48550bd4c961e6d03068a", func := "fathomline/fathomlinelaw24.LogPuts", spec := "logPuts", unfollowed := true, recurses := true, apart := false, narrowed := true }
def LogPutsUptoSaid : Prop := logPutsUptoRow.holds Try.pinned (OpenSpec.upto logPutsSpec)

/-- 'fathomlinelaw24.LogScans', WHERE WHAT IT READS IS OF BULK AT MOST 1048576: true; the input reads as it did. -/
def logScansUptoRow : OpenClaim := { program := "ytopnhplacdbkdaa", sum := "bdac820fcc3df9b478db7dc04d9695419d581d466fe48550bd4c961e6d03068a", func := "fathomline/fathomlinelaw24.LogScans", spec := "logScans", unfollowed := true, recurses := true, apart := false, narrowed := true }
def LogScansUptoSaid : Prop := logScansUptoRow.holds Try.pinned (OpenSpec.upto logScansSpec)

/-- 'fathomlinelaw24.LogBack', WHERE WHAT IT READS IS OF BULK AT MOST 1048576: true; the input reads as it did. -/
def logBackUptoRow : OpenClaim := { program := "ytopnhplacdbkdaa", sum := "bdac820fcc3df9b478db7dc04d9695419d581d466fe48550bd4c961e6d03068a", func := "fathomline/fathomlinelaw24.LogBack", spec := "logBack", unfollowed := true, recurses := true, apart := false, narrowed := true }
def LogBackUptoSaid : Prop := logBackUptoRow.holds Try.pinned (OpenSpec.upto logBackSpec)

/-- 'fathomlinelaw24.LogTorn', WHERE WHAT IT READS IS OF BULK AT MOST 1048576: true; the input reads as it did. -/
def logTornUptoRow : OpenClaim := { program := "ytopnhplacdbkdaa", sum := "bdac820fcc3df9b478db7dc04d9695419d581d466fe48550bd4c961e6d03068a", func := "fathomline/fathomlinelaw24.LogTorn", spec := "logTorn", unfollowed := true, recurses := true, apart := false, narrowed := true }
def LogTornUptoSaid : Prop := logTornUptoRow.holds Try.pinned (OpenSpec.upto logTornSpec)

/-- 'fathomlinelaw24.LogBursts', WHERE WHAT IT READS IS OF BULK AT MOST 1048576: true; the input reads as it did. -/
def logBurstsUptoRow : OpenClaim := { program := "ytopnhplacdbkdaa", sum := "bdac820fcc3df9b478db7dc04d9695419d581d466fe48550bd4c961e6d03068a", func := "fathomline/fathomlinelaw24.LogBursts", spec := "logBursts", unfollowed := true, recurses := true, apart := false, narrowed := true }
def LogBurstsUptoSaid : Prop := logBurstsUptoRow.holds Try.pinned (OpenSpec.upto logBurstsSpec)

/-- 'fathomlinelaw24.LogLarge', WHERE WHAT IT READS IS OF BULK AT MOST 1048576: true; the input reads as it did. -/
def logLargeUptoRow : OpenClaim := { program := "ytopnhplacdbkdaa", sum := "bdac820fcc3df9b478db7dc04d9695419d581d466fe48550bd4c961e6d03068a", func := "fathomline/fathomlinelaw24.LogLarge", spec := "logLarge", unfollowed := true, recurses := true, apart := false, narrowed := true }
def LogLargeUptoSaid : Prop := logLargeUptoRow.holds Try.pinned (OpenSpec.upto logLargeSpec)

/-- 'fathomlinelaw21.DiskKeeps', WHERE WHAT IT READS IS OF BULK AT MOST 1048576: true; the input reads as it did. -/
def diskKeepsUptoRow : OpenClaim := { program := "ytopnhplacdbkdaa", sum := "bdac820fcc3df9b478db7dc04d9695419d581d466fe48550bd4c961e6d03068a", func := "fathomline/fathomlinelaw21.DiskKeeps", spec := "diskKeeps", unfollowed := true, recurses := true, apart := false, narrowed := true }
def DiskKeepsUptoSaid : Prop := diskKeepsUptoRow.holds Try.pinned (OpenSpec.upto diskKeepsSpec)

/-- 'fathomlinelaw21.DiskArmed', WHERE WHAT IT READS IS OF BULK AT MOST 1048576: true; the input reads as it did. -/
def diskArmedUptoRow : OpenClaim := { program := "ytopnhplacdbkdaa", sum := "bdac820fcc3df9b478db7dc04d9695419d581d466fe48550bd4c961e6d03068a", func := "fathomline/fathomlinelaw21.DiskArmed", spec := "diskArmed", unfollowed := true, recurses := true, apart := false, narrowed := true }
def DiskArmedUptoSaid : Prop := diskArmedUptoRow.holds Try.pinned (OpenSpec.upto diskArmedSpec)

/-- 'fathomlinelaw21.DiskWalks', WHERE WHAT IT READS IS OF BULK AT MOST 1048576: true; the input reads as it did. -/
def diskWalksUptoRow : OpenClaim := { program := "ytopnhplacdbkdaa", sum := "bdac820fcc3df9b478db7dc04d9695419d581d466fe48550bd4c961e6d03068a", func := "fathomline/fathomlinelaw21.DiskWalks", spec := "diskWalks", unfollowed := true, recurses := true, apart := false, narrowed := true }
def DiskWalksUptoSaid : Prop := diskWalksUptoRow.holds Try.pinned (OpenSpec.upto diskWalksSpec)

/-- 'fathomlinelaw25.SnapFull', WHERE WHAT IT READS IS OF BULK AT MOST 1048576: true; the input reads as it did. -/
def snapFullUptoRow : OpenClaim := { program := "ytopnhplacdbkdaa", sum := "bdac820fcc3df9b478db7dc04d9695419d581d466fe48550bd4c961e6d03068a", func := "fathomline/fathomlinelaw25.SnapFull", spec := "snapFull", unfollowed := true, recurses := true, apart := false, narrowed := true }
def SnapFullUptoSaid : Prop := snapFullUptoRow.holds Try.pinned (OpenSpec.upto snapFullSpec)

/-- 'fathomlinelaw25.SnapSpoilt', WHERE WHAT IT READS IS OF BULK AT MOST 1048576: true; the input reads as it did. -/
def snapSpoiltUptoRow : OpenClaim := { program := "ytopnhplacdbkdaa", sum := "bdac820fcc3df9b478db7dc04d9695419d581d466fe48550bd4c961e6d03068a", func := "fathomline/fathomlinelaw25.SnapSpoilt", spec := "snapSpoilt", unfollowed := true, recurses := true, apart := false, narrowed := true }
def SnapSpoiltUptoSaid : Prop := snapSpoiltUptoRow.holds Try.pinned (OpenSpec.upto snapSpoiltSpec)

/-- 'fathomlinelaw25.SnapAtomic', WHERE WHAT IT READS IS OF BULK AT MOST 1048576: true; the input reads as it did. -/
def snapAtomicUptoRow : OpenClaim := { program := "ytopnhplacdbkdaa", sum := "bdac820fcc3df9b478db7dc04d9695419d581d466fe48550bd4c961e6d03068a", func := "fathomline/fathomlinelaw25.SnapAtomic", spec := "snapAtomic", unfollowed := true, recurses := true, apart := false, narrowed := true }
def SnapAtomicUptoSaid : Prop := snapAtomicUptoRow.holds Try.pinned (OpenSpec.upto snapAtomicSpec)

end Rows
end Go.Proofs.Ytopnhplacdbkdaa
