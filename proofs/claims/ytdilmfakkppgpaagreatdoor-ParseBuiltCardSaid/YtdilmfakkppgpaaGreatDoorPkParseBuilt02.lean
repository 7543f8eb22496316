/- Part 2 of the proof of LawParseBuilt: Shelf, NatA. Condition: as each theorem says; none at the end. -/
import Derived.Shelf.Strings.Builder1
import Derived.Shelf.Strings.Builder2
import Derived.Shelf.Strings.OnBuilder
import Derived.Shelf.Small.Bits
import Derived.Shelf.Small.Wraps
import Derived.Shelf.Strings.BuilderF
import Derived.Shelf.Strings.BuilderK
import Derived.Shelf.Strings.Builder2Cap
import Derived.Shelf.Strconv.Itoa0
import Derived.Shelf.Strconv.Itoa1
import Derived.Shelf.LaysM
import Derived.Shelf.Strconv.Itoa2
import Derived.Shelf.Strconv.Itoa3
import Derived.Shelf.Strconv.Itoa4
import Derived.Shelf.Strconv.ParseIntEmpty
import Derived.Shelf.Strconv.Clone
import Derived.Shelf.Strconv.SyntaxError
import Derived.Shelf.LaysC
import Derived.Shelf.Strconv.ToError
import Derived.Shelf.Strconv.Lower
import Derived.Shelf.Strconv.ParseUint10
import Derived.Shelf.Strconv.ParseUint10Empty
import Derived.Shelf.Strconv.ParseUint10Any
import Derived.Shelf.Strconv.ParseInt10
import Derived.Shelf.Strconv.RangeError
import Derived.Shelf.Strconv.ToErrorRange
import Derived.Shelf.Strconv.ParseUintEmpty
import Derived.Shelf.Strconv.ParseUint10b64
import Derived.Shelf.Strconv.ParseUint10b32
import Derived.Shelf.Strconv.ParseUint10b16
import Derived.Shelf.Strconv.ParseUint10b8
import Derived.Shelf.Strconv.ParseUint10At
import Derived.Shelf.Strconv.ParseInt10At64
import Derived.Shelf.Strconv.ParseInt10At32
import Derived.Shelf.Strconv.ParseInt10At16
import Derived.Shelf.Strconv.ParseInt10At8
import Derived.Shelf.Strconv.ParseInt10All
import Derived.Shelf.Strconv.ParseIntPublic10
import Derived.Shelf.Strconv.ErrVarParseInt
import Derived.Ground.MpProg
import Derived.Shelf.Pu.ParseUintPublic10
import Derived.Shelf.Pu.ErrVarParseUint
import Derived.Shelf.Strings.Search1
import Derived.Shelf.Strings.Search2
import Derived.Shelf.Strings.Search3
import Derived.Shelf.Strings.Count
import Derived.Shelf.Strings.Shaped
import Derived.Shelf.Strings.Prefix
import Derived.Shelf.Strings.Split
import Derived.Shelf.Bits.Mul64
import Derived.Shelf.Strings.Repeat
import Derived.Shelf.Strings.BuilderCap
import Derived.Shelf.Slices.Equal
import Derived.Ground.Names2Prog
import Derived.Shelf.Slices.SearchI
import Derived.Shelf.Slices.Empties2
import Derived.Ground.SlgnProg
import Derived.Shelf.SlicesG.Clone
import Derived.Shelf.SlicesE.Equal
import Derived.Shelf.SlicesE.Clone
import Derived.BigQuiet
import Derived.Test.YtdilmfakkppgpaaGreatDoorPkParseBuilt01
set_option maxRecDepth 100000
set_option maxHeartbeats 16000000
namespace Go.Proofs
open Go.Shelf
def Tryz.Qz9:Go.Shelf.Ren:=⟨fun|169=>34|n=>n,fun|70=>64|9=>9|0=>0|72=>66|37=>33|127=>108|3=>3|5=>5|n=>n,fun|n=>n⟩
theorem Tryz.Qza:Go.Proofs.Lays.n169 Tryz.prog Tryz.Qz9:={
 mixed:=by kernel_rfl
 f169:=Tryz.func34.trans (congrArg some (by kernel_rfl))
 t0:=Tryz.underlying0
 a0:=Tryz.isAgg0
 z0:=Tryz.sizeOf0
 v0:=Tryz.zeroValue0
 t3:=Tryz.underlying3
 a3:=Tryz.isAgg3
 z3:=Tryz.sizeOf3
 v3:=Tryz.zeroValue3
 t9:=Tryz.underlying9
 a9:=Tryz.isAgg9
 z9:=Tryz.sizeOf9
 v9:=Tryz.zeroValue9
 t37:=Tryz.underlying33
 a37:=Tryz.isAgg33
 z37:=Tryz.sizeOf33
 v37:=Tryz.zeroValue33
 t70:=Tryz.underlying64
 a70:=Tryz.isAgg64
 z70:=Tryz.sizeOf64
 v70:=Tryz.zeroValue64
 t72:=Tryz.underlying66
 a72:=Tryz.isAgg66
 z72:=Tryz.sizeOf66
 v72:=Tryz.zeroValue66
 t127:=Tryz.underlying108
 a127:=Tryz.isAgg108
 z127:=Tryz.sizeOf108
 v127:=Tryz.zeroValue108 }
theorem Tryz.Qzb:Builder.Extra Tryz.prog Tryz.Qz9:={
 sizeBuilder:=by kernel_rfl
 liesBuilder:=by kernel_rfl
 t5:=Tryz.underlying5
 a5:=Tryz.isAgg5
 z5:=Tryz.sizeOf5
 v5:=Tryz.zeroValue5
 infoByte:=by kernel_rfl
 cellsByte:=by kernel_rfl
 sizeByte:=by kernel_rfl
 neB5:=by decide }
open Go.RowKit in
theorem Tryz.Qzc (B b:Nat) (l:LU) (w:World) (h:Lib.IsBuilder 66 5 B b (Lib.byteCells l) w) (h0:l≠[]):
 Calls Tryz.prog 34 #[.pointer (some ⟨b,0,none⟩)] w fun e w'=>e=.returned (.string ⟨l.toArray⟩)/\Below B w w':=Any.Builder_String Tryz.Qza Tryz.Qzb B b l w h h0
open Go.RowKit in
theorem Tryz.Qzd (B b:Nat) (l:LU) (w:World) (h:Lib.IsBuilder 66 5 B b (Lib.byteCells l) w) (hBw:B<=w.heap.size):
 Calls Tryz.prog 34 #[.pointer (some ⟨b,0,none⟩)] w fun e w'=>e=.returned (.string ⟨l.toArray⟩)/\Below B w w':=Any.Builder_String_any Tryz.Qza Tryz.Qzb B b l w h hBw
def Tryz.Qze:Go.Shelf.Ren:=⟨fun|156=>70|165=>116|166=>31|169=>34|240=>66|241=>156|276=>110|277=>185|n=>n,fun|31=>77|9=>9|3=>3|4=>4|0=>0|20=>20|72=>66|76=>69|70=>64|37=>33|75=>68|127=>108|164=>161|5=>5|80=>73|n=>n,fun|n=>n⟩
theorem Tryz.Qzf:Go.Proofs.Lays.n156 Tryz.prog Tryz.Qze:={
 mixed:=by kernel_rfl
 f156:=Tryz.func70.trans (congrArg some (by kernel_rfl))
 f165:=Tryz.func116.trans (congrArg some (by kernel_rfl))
 f166:=Tryz.func31.trans (congrArg some (by kernel_rfl))
 f169:=Tryz.func34.trans (congrArg some (by kernel_rfl))
 f240:=Tryz.func66.trans (congrArg some (by kernel_rfl))
 f241:=Tryz.func156.trans (congrArg some (by kernel_rfl))
 f276:=Tryz.func110.trans (congrArg some (by kernel_rfl))
 f277:=Tryz.func185.trans (congrArg some (by kernel_rfl))
 t0:=Tryz.underlying0
 a0:=Tryz.isAgg0
 z0:=Tryz.sizeOf0
 v0:=Tryz.zeroValue0
 t3:=Tryz.underlying3
 a3:=Tryz.isAgg3
 z3:=Tryz.sizeOf3
 v3:=Tryz.zeroValue3
 t4:=Tryz.underlying4
 a4:=Tryz.isAgg4
 z4:=Tryz.sizeOf4
 v4:=Tryz.zeroValue4
 t9:=Tryz.underlying9
 a9:=Tryz.isAgg9
 z9:=Tryz.sizeOf9
 v9:=Tryz.zeroValue9
 t20:=Tryz.underlying20
 a20:=Tryz.isAgg20
 z20:=Tryz.sizeOf20
 v20:=Tryz.zeroValue20
 t31:=Tryz.underlying77
 a31:=Tryz.isAgg77
 z31:=Tryz.sizeOf77
 v31:=Tryz.zeroValue77
 t37:=Tryz.underlying33
 a37:=Tryz.isAgg33
 z37:=Tryz.sizeOf33
 v37:=Tryz.zeroValue33
 t70:=Tryz.underlying64
 a70:=Tryz.isAgg64
 z70:=Tryz.sizeOf64
 v70:=Tryz.zeroValue64
 t72:=Tryz.underlying66
 a72:=Tryz.isAgg66
 z72:=Tryz.sizeOf66
 v72:=Tryz.zeroValue66
 t75:=Tryz.underlying68
 a75:=Tryz.isAgg68
 z75:=Tryz.sizeOf68
 v75:=Tryz.zeroValue68
 t76:=Tryz.underlying69
 a76:=Tryz.isAgg69
 z76:=Tryz.sizeOf69
 v76:=Tryz.zeroValue69
 t127:=Tryz.underlying108
 a127:=Tryz.isAgg108
 z127:=Tryz.sizeOf108
 v127:=Tryz.zeroValue108
 t164:=Tryz.underlying161
 a164:=Tryz.isAgg161
 z164:=Tryz.sizeOf161
 v164:=Tryz.zeroValue161 }
theorem Tryz.Qzg:Builder.Extra Tryz.prog Tryz.Qze:={
 sizeBuilder:=by kernel_rfl
 liesBuilder:=by kernel_rfl
 t5:=Tryz.underlying5
 a5:=Tryz.isAgg5
 z5:=Tryz.sizeOf5
 v5:=Tryz.zeroValue5
 infoByte:=by kernel_rfl
 cellsByte:=by kernel_rfl
 sizeByte:=by kernel_rfl
 neB5:=by decide }
open Go.RowKit in
theorem Tryz.Qzh (a:OA) (c:Nat) (sep:ByteArray) (w:World):
 Calls Tryz.prog 70 #[.slice a 0 c,.string sep] w fun e w'=>e=.returned (.string ⟨#[]⟩)/\w'=w:=Any.strings_Join_none Tryz.Qzf Tryz.Qzg a c sep w
open Go.RowKit in
theorem Tryz.Qzi (bk o c:Nat) (xs:List ByteArray) (sep:ByteArray) (w:World) (I8:∀(j:Nat) x,xs[j]?=some x->w.cell? ⟨bk,o+j,none⟩=some (.string x)) (I7:bk<w.heap.size) (hN:xs.length<=140737488355328) (V3:xs.length<=c) (R0:(Lib.join (xs.map (·.data.toList)) sep.data.toList).length<=140737488355328):
 Calls Tryz.prog 70 #[.slice (some ⟨bk,o,none⟩) xs.length c,.string sep] w fun e w'=>e=.returned (.string ⟨(Lib.join (xs.map (·.data.toList)) sep.data.toList).toArray⟩)/\Bw w w':=Any.strings_Join Tryz.Qzf Tryz.Qzg bk o c xs sep w I8 I7 hN V3 R0
def Tryz.Qzj:Go.Shelf.Ren:=⟨fun|134=>211|129=>144|n=>n,fun|53=>74|3=>3|4=>4|46=>94|5=>5|9=>9|n=>n,fun|n=>n⟩
theorem Tryz.Qzk:Go.Proofs.Lays.n134 Tryz.prog Tryz.Qzj:={
 mixed:=by kernel_rfl
 f129:=Tryz.func144.trans (congrArg some (by kernel_rfl))
 f134:=Tryz.func211.trans (congrArg some (by kernel_rfl))
 t3:=Tryz.underlying3
 a3:=Tryz.isAgg3
 z3:=Tryz.sizeOf3
 v3:=Tryz.zeroValue3
 t4:=Tryz.underlying4
 a4:=Tryz.isAgg4
 z4:=Tryz.sizeOf4
 v4:=Tryz.zeroValue4
 t5:=Tryz.underlying5
 a5:=Tryz.isAgg5
 z5:=Tryz.sizeOf5
 v5:=Tryz.zeroValue5
 t9:=Tryz.underlying9
 a9:=Tryz.isAgg9
 z9:=Tryz.sizeOf9
 v9:=Tryz.zeroValue9
 t46:=Tryz.underlying94
 a46:=Tryz.isAgg94
 z46:=Tryz.sizeOf94
 v46:=Tryz.zeroValue94
 t53:=Tryz.underlying74
 a53:=Tryz.isAgg74
 z53:=Tryz.sizeOf74
 v53:=Tryz.zeroValue74 }
theorem Tryz.Qzl (x:Int) (w:World) (h0:0<=x) (h1:x<=18446744073709551615):
 Calls Tryz.prog 211 #[.int .u64 x] w fun e w'=>e=.returned (.int .i64 (64-(Lib.bitLen x.toNat:Int)))/\w'=w:=Any.bits_LeadingZeros64 Tryz.Qzk x w h0 h1
def Tryz.Qzm:Go.Shelf.Ren:=⟨fun|210=>237|206=>216|n=>n,fun|9=>9|4=>4|3=>3|n=>n,fun|n=>n⟩
def Tryz.Qzn:Go.Shelf.Ren:=⟨fun|103=>233|210=>237|206=>216|n=>n,fun|9=>9|4=>4|24=>252|3=>3|n=>n,fun|n=>n⟩
theorem Tryz.Qzo:Go.Proofs.Lays.n103 Tryz.prog Tryz.Qzn:={
 mixed:=by kernel_rfl
 f103:=Tryz.func233.trans (congrArg some (by kernel_rfl))
 f206:=Tryz.func216.trans (congrArg some (by kernel_rfl))
 f210:=Tryz.func237.trans (congrArg some (by kernel_rfl))
 t3:=Tryz.underlying3
 a3:=Tryz.isAgg3
 z3:=Tryz.sizeOf3
 v3:=Tryz.zeroValue3
 t4:=Tryz.underlying4
 a4:=Tryz.isAgg4
 z4:=Tryz.sizeOf4
 v4:=Tryz.zeroValue4
 t9:=Tryz.underlying9
 a9:=Tryz.isAgg9
 z9:=Tryz.sizeOf9
 v9:=Tryz.zeroValue9
 t24:=Tryz.underlying252
 a24:=Tryz.isAgg252
 z24:=Tryz.sizeOf252
 v24:=Tryz.zeroValue252 }
open Go.RowKit in
theorem Tryz.Qzp (s p:ByteArray) (w:World):
 Calls Tryz.prog 233 #[.string s,.string p] w fun e w'=>e=.returned (.tuple #[.string ⟨(Lib.trimPrefix s.data.toList p.data.toList).toArray⟩,.bool (Lib.hasPrefix s.data.toList p.data.toList)])/\w'=w:=Any.strings_CutPrefix Tryz.Qzo s p w
def Tryz.Qzq:Go.Shelf.Ren:=⟨fun|215=>204|n=>n,fun|3=>3|4=>4|n=>n,fun|n=>n⟩
def Tryz.Qzr:Go.Shelf.Ren:=⟨fun|122=>171|215=>204|n=>n,fun|3=>3|4=>4|n=>n,fun|n=>n⟩
theorem Tryz.Qzs:Go.Proofs.Lays.n122 Tryz.prog Tryz.Qzr:={
 mixed:=by kernel_rfl
 f122:=Tryz.func171.trans (congrArg some (by kernel_rfl))
 f215:=Tryz.func204.trans (congrArg some (by kernel_rfl))
 t3:=Tryz.underlying3
 a3:=Tryz.isAgg3
 z3:=Tryz.sizeOf3
 v3:=Tryz.zeroValue3
 t4:=Tryz.underlying4
 a4:=Tryz.isAgg4
 z4:=Tryz.sizeOf4
 v4:=Tryz.zeroValue4 }
open Go.RowKit in
theorem Tryz.Qzt (x y:Int) (w:World):
 Calls Tryz.prog 171 #[.int .i64 x,.int .i64 y] w fun e w'=>e=.returned (.int .i64 (Lib.compareInt x y))/\w'=w:=Any.cmp_Compare_int Tryz.Qzs x y w
def Tryz.Qzu:Go.Shelf.Ren:=⟨fun|129=>144|n=>n,fun|53=>74|3=>3|4=>4|46=>94|5=>5|9=>9|n=>n,fun|n=>n⟩
theorem Tryz.Qzv:Go.Proofs.Lays.n129 Tryz.prog Tryz.Qzu:={
 mixed:=by kernel_rfl
 f129:=Tryz.func144.trans (congrArg some (by kernel_rfl))
 t3:=Tryz.underlying3
 a3:=Tryz.isAgg3
 z3:=Tryz.sizeOf3
 v3:=Tryz.zeroValue3
 t4:=Tryz.underlying4
 a4:=Tryz.isAgg4
 z4:=Tryz.sizeOf4
 v4:=Tryz.zeroValue4
 t5:=Tryz.underlying5
 a5:=Tryz.isAgg5
 z5:=Tryz.sizeOf5
 v5:=Tryz.zeroValue5
 t9:=Tryz.underlying9
 a9:=Tryz.isAgg9
 z9:=Tryz.sizeOf9
 v9:=Tryz.zeroValue9
 t46:=Tryz.underlying94
 a46:=Tryz.isAgg94
 z46:=Tryz.sizeOf94
 v46:=Tryz.zeroValue94
 t53:=Tryz.underlying74
 a53:=Tryz.isAgg74
 z53:=Tryz.sizeOf74
 v53:=Tryz.zeroValue74 }
theorem Tryz.Qzw (x:Int) (w:World) (h0:0<=x) (h1:x<=18446744073709551615):
 Calls Tryz.prog 144 #[.int .u64 x] w fun e w'=>e=.returned (.int .i64 (Lib.bitLen x.toNat))/\w'=w:=Any.bits_Len64 Tryz.Qzv x w h0 h1
def Tryz.Qzx:Go.Shelf.Ren:=⟨fun|283=>175|n=>n,fun|3=>3|9=>9|4=>4|n=>n,fun|n=>n⟩
theorem Tryz.Qzy:Go.Proofs.Lays.n283 Tryz.prog Tryz.Qzx:={
 mixed:=by kernel_rfl
 f283:=Tryz.func175.trans (congrArg some (by kernel_rfl))
 t3:=Tryz.underlying3
 a3:=Tryz.isAgg3
 z3:=Tryz.sizeOf3
 v3:=Tryz.zeroValue3
 t4:=Tryz.underlying4
 a4:=Tryz.isAgg4
 z4:=Tryz.sizeOf4
 v4:=Tryz.zeroValue4
 t9:=Tryz.underlying9
 a9:=Tryz.isAgg9
 z9:=Tryz.sizeOf9
 v9:=Tryz.zeroValue9 }
open Go.Lib in
theorem Tryz.Qzz (i:Nat) (h:i<100) (w:World):
 Calls Tryz.prog 175 #[.int .i64 i] w fun e w'=>e=.returned (.string ⟨(Lib.decDigits i).toArray⟩)/\w'=w:=Any.internal_strconv_small Tryz.Qzy i h w
def Tryz.J00:Go.Shelf.Ren:=⟨fun|284=>176|129=>144|317=>206|318=>207|n=>n,fun|53=>74|3=>3|212=>233|0=>0|4=>4|46=>94|5=>5|9=>9|n=>n,fun|17=>2|n=>n⟩
theorem Tryz.J01:Go.Proofs.LaysM.n284 Tryz.prog Tryz.J00:={
 mixed:=by kernel_rfl
 f129:=Tryz.func144.trans (congrArg some (by kernel_rfl))
 f284:=Tryz.func176.trans (congrArg some (by kernel_rfl))
 f317:=Tryz.func206.trans (congrArg some (by kernel_rfl))
 f318:=Tryz.func207.trans (congrArg some (by kernel_rfl))
 t0:=Tryz.underlying0
 a0:=Tryz.isAgg0
 z0:=Tryz.sizeOf0
 v0:=Tryz.zeroValue0
 t3:=Tryz.underlying3
 a3:=Tryz.isAgg3
 z3:=Tryz.sizeOf3
 v3:=Tryz.zeroValue3
 t4:=Tryz.underlying4
 a4:=Tryz.isAgg4
 z4:=Tryz.sizeOf4
 v4:=Tryz.zeroValue4
 t5:=Tryz.underlying5
 a5:=Tryz.isAgg5
 z5:=Tryz.sizeOf5
 v5:=Tryz.zeroValue5
 t9:=Tryz.underlying9
 a9:=Tryz.isAgg9
 z9:=Tryz.sizeOf9
 v9:=Tryz.zeroValue9
 t46:=Tryz.underlying94
 a46:=Tryz.isAgg94
 z46:=Tryz.sizeOf94
 v46:=Tryz.zeroValue94
 t53:=Tryz.underlying74
 a53:=Tryz.isAgg74
 z53:=Tryz.sizeOf74
 v53:=Tryz.zeroValue74
 t212:=Tryz.underlying233
 a212:=Tryz.isAgg233
 z212:=Tryz.sizeOf233
 v212:=Tryz.zeroValue233
 g17:=by kernel_rfl
 i0:=by kernel_rfl
 i3:=by kernel_rfl
 i4:=by kernel_rfl
 i5:=by kernel_rfl
 i9:=by kernel_rfl
 i46:=by kernel_rfl
 i53:=by kernel_rfl
 i212:=by kernel_rfl
 m17:=by kernel_rfl }
open Go.Lib in
theorem Tryz.J02 (u:Nat) (h1:1<=u) (h2:u<18446744073709551616) (w:World) (t7:Lib.TabIs Tryz.prog w "internal/strconv.uint64pow10" .u64 Lib.pow10Tab):
 Calls Tryz.prog 176 #[.int .u64 u] w fun e w'=>e=.returned (.int .i64 (Lib.nDigits u))/\w'=w:=Any.internal_strconv_numDigits Tryz.J01 u h1 h2 w t7
def Tryz.J03:Go.Shelf.Ren:=⟨fun|285=>177|n=>n,fun|37=>33|53=>74|3=>3|4=>4|51=>152|9=>9|5=>5|0=>0|n=>n,fun|n=>n⟩
theorem Tryz.J04:Go.Proofs.Lays.n285 Tryz.prog Tryz.J03:={
 mixed:=by kernel_rfl
 f285:=Tryz.func177.trans (congrArg some (by kernel_rfl))
 t0:=Tryz.underlying0
 a0:=Tryz.isAgg0
 z0:=Tryz.sizeOf0
 v0:=Tryz.zeroValue0
 t3:=Tryz.underlying3
 a3:=Tryz.isAgg3
 z3:=Tryz.sizeOf3
 v3:=Tryz.zeroValue3
 t4:=Tryz.underlying4
 a4:=Tryz.isAgg4
 z4:=Tryz.sizeOf4
 v4:=Tryz.zeroValue4
 t5:=Tryz.underlying5
 a5:=Tryz.isAgg5
 z5:=Tryz.sizeOf5
 v5:=Tryz.zeroValue5
 t9:=Tryz.underlying9
 a9:=Tryz.isAgg9
 z9:=Tryz.sizeOf9
 v9:=Tryz.zeroValue9
 t37:=Tryz.underlying33
 a37:=Tryz.isAgg33
 z37:=Tryz.sizeOf33
 v37:=Tryz.zeroValue33
 t51:=Tryz.underlying152
 a51:=Tryz.isAgg152
 z51:=Tryz.sizeOf152
 v51:=Tryz.zeroValue152
 t53:=Tryz.underlying74
 a53:=Tryz.isAgg74
 z53:=Tryz.sizeOf74
 v53:=Tryz.zeroValue74 }
open Go.RowKit Go.Sort Go.Lib in
theorem Tryz.J05 (blk off cap:Nat) (u:Nat) (d:Array UInt8) (w:World) (hH:Holds (fun (b:UInt8)=>Value.int .u8 (b.toNat:Int)) w blk off d) (hu:u<10^d.size) (XV:u<18446744073709551616) (Z1:d.size<4611686018427387904):
 Calls Tryz.prog 177 #[.slice (some ⟨blk,off,none⟩) d.size cap,.int .u64 u] w fun e w'=>
  e=.returned (.tuple #[])/\∃(n v':Nat) (dk:Array UInt8),w'=(putRow (fun (b:UInt8)=>Value.int .u8 (b.toNat:Int)) w blk off dk).drewN n/\FmtInv d.size u 0 v' dk:=Any.internal_strconv_formatBase10 Tryz.J04 blk off cap u d w hH hu XV Z1
def Tryz.J06:Go.Shelf.Ren:=⟨fun|246=>152|283=>175|284=>176|285=>177|286=>178|129=>144|317=>206|318=>207|319=>208|320=>209|337=>227|338=>145|n=>n,fun|2=>2|3=>3|9=>9|4=>4|171=>209|0=>0|53=>74|37=>33|5=>5|173=>211|212=>233|51=>152|20=>20|213=>234|46=>94|232=>251|233=>206|n=>n,fun|17=>2|18=>5|19=>1|n=>n⟩
def Tryz.J07:Go.Shelf.Ren:=⟨fun|243=>111|246=>152|283=>175|284=>176|285=>177|286=>178|129=>144|317=>206|318=>207|319=>208|320=>209|337=>227|338=>145|n=>n,fun|3=>3|9=>9|2=>2|4=>4|171=>209|0=>0|53=>74|37=>33|5=>5|173=>211|212=>233|51=>152|20=>20|213=>234|46=>94|232=>251|233=>206|n=>n,fun|17=>2|18=>5|19=>1|n=>n⟩
def Tryz.J08:Go.Shelf.Ren:=⟨fun|171=>67|243=>111|246=>152|283=>175|284=>176|285=>177|286=>178|129=>144|317=>206|318=>207|319=>208|320=>209|337=>227|338=>145|n=>n,fun|3=>3|9=>9|2=>2|4=>4|171=>209|0=>0|53=>74|37=>33|5=>5|173=>211|212=>233|51=>152|20=>20|213=>234|46=>94|232=>251|233=>206|n=>n,fun|17=>2|18=>5|19=>1|n=>n⟩
def Tryz.J09:Go.Shelf.Ren:=⟨fun|171=>67|243=>111|246=>152|283=>175|284=>176|285=>177|286=>178|129=>144|317=>206|318=>207|319=>208|320=>209|337=>227|338=>145|n=>n,fun|3=>3|9=>9|2=>2|4=>4|171=>209|0=>0|53=>74|37=>33|5=>5|173=>211|212=>233|51=>152|20=>20|213=>234|46=>94|232=>251|233=>206|n=>n,fun|17=>2|18=>5|19=>1|n=>n⟩
theorem Tryz.J0a:Go.Proofs.Lays.n171 Tryz.prog Tryz.J09:={
 mixed:=by kernel_rfl
 f129:=Tryz.func144.trans (congrArg some (by kernel_rfl))
 f171:=Tryz.func67.trans (congrArg some (by kernel_rfl))
 f243:=Tryz.func111.trans (congrArg some (by kernel_rfl))
 f246:=Tryz.func152.trans (congrArg some (by kernel_rfl))
 f283:=Tryz.func175.trans (congrArg some (by kernel_rfl))
 f284:=Tryz.func176.trans (congrArg some (by kernel_rfl))
 f285:=Tryz.func177.trans (congrArg some (by kernel_rfl))
 f286:=Tryz.func178.trans (congrArg some (by kernel_rfl))
 f317:=Tryz.func206.trans (congrArg some (by kernel_rfl))
 f318:=Tryz.func207.trans (congrArg some (by kernel_rfl))
 f319:=Tryz.func208.trans (congrArg some (by kernel_rfl))
 f320:=Tryz.func209.trans (congrArg some (by kernel_rfl))
 f337:=Tryz.func227.trans (congrArg some (by kernel_rfl))
 f338:=Tryz.func145.trans (congrArg some (by kernel_rfl))
 t0:=Tryz.underlying0
 a0:=Tryz.isAgg0
 z0:=Tryz.sizeOf0
 v0:=Tryz.zeroValue0
 t2:=Tryz.underlying2
 a2:=Tryz.isAgg2
 z2:=Tryz.sizeOf2
 v2:=Tryz.zeroValue2
 t3:=Tryz.underlying3
 a3:=Tryz.isAgg3
 z3:=Tryz.sizeOf3
 v3:=Tryz.zeroValue3
 t4:=Tryz.underlying4
 a4:=Tryz.isAgg4
 z4:=Tryz.sizeOf4
 v4:=Tryz.zeroValue4
 t5:=Tryz.underlying5
 a5:=Tryz.isAgg5
 z5:=Tryz.sizeOf5
 v5:=Tryz.zeroValue5
 t9:=Tryz.underlying9
 a9:=Tryz.isAgg9
 z9:=Tryz.sizeOf9
 v9:=Tryz.zeroValue9
 t20:=Tryz.underlying20
 a20:=Tryz.isAgg20
 z20:=Tryz.sizeOf20
 v20:=Tryz.zeroValue20
 t37:=Tryz.underlying33
 a37:=Tryz.isAgg33
 z37:=Tryz.sizeOf33
 v37:=Tryz.zeroValue33
 t46:=Tryz.underlying94
 a46:=Tryz.isAgg94
 z46:=Tryz.sizeOf94
 v46:=Tryz.zeroValue94
 t51:=Tryz.underlying152
 a51:=Tryz.isAgg152
 z51:=Tryz.sizeOf152
 v51:=Tryz.zeroValue152
 t53:=Tryz.underlying74
 a53:=Tryz.isAgg74
 z53:=Tryz.sizeOf74
 v53:=Tryz.zeroValue74
 t171:=Tryz.underlying209
 a171:=Tryz.isAgg209
 z171:=Tryz.sizeOf209
 v171:=Tryz.zeroValue209
 t173:=Tryz.underlying211
 a173:=Tryz.isAgg211
 z173:=Tryz.sizeOf211
 v173:=Tryz.zeroValue211
 t212:=Tryz.underlying233
 a212:=Tryz.isAgg233
 z212:=Tryz.sizeOf233
 v212:=Tryz.zeroValue233
 t213:=Tryz.underlying234
 a213:=Tryz.isAgg234
 z213:=Tryz.sizeOf234
 t232:=Tryz.underlying251
 a232:=Tryz.isAgg251
 z232:=Tryz.sizeOf251
 v232:=Tryz.zeroValue251
 t233:=Tryz.underlying206
 a233:=Tryz.isAgg206
 z233:=Tryz.sizeOf206
 v233:=Tryz.zeroValue206
 g17:=by kernel_rfl
 g18:=by kernel_rfl
 g19:=by kernel_rfl }
open Go.RowKit Go.Sort Go.Lib in
theorem Tryz.J0b (i:Nat) (hi:i<100) (w:World):
 Calls Tryz.prog 67 #[.int .i64 i] w fun e w'=>e=.returned (.string ⟨(Lib.decDigits i).toArray⟩)/\w'=w:=Any.strconv_Itoa_small Tryz.J0a i hi w
def Tryz.J0c:Go.Shelf.Ren:=⟨fun|173=>115|246=>152|283=>175|284=>176|285=>177|286=>178|129=>144|317=>206|318=>207|319=>208|320=>209|337=>227|338=>145|n=>n,fun|2=>2|3=>3|9=>9|4=>4|171=>209|0=>0|53=>74|37=>33|5=>5|173=>211|212=>233|51=>152|20=>20|213=>234|46=>94|232=>251|233=>206|n=>n,fun|17=>2|18=>5|19=>1|n=>n⟩
theorem Tryz.J0d:Go.Proofs.LaysM.n173 Tryz.prog Tryz.J0c:={
 mixed:=by kernel_rfl
 f129:=Tryz.func144.trans (congrArg some (by kernel_rfl))
 f173:=Tryz.func115.trans (congrArg some (by kernel_rfl))
 f246:=Tryz.func152.trans (congrArg some (by kernel_rfl))
 f283:=Tryz.func175.trans (congrArg some (by kernel_rfl))
 f284:=Tryz.func176.trans (congrArg some (by kernel_rfl))
 f285:=Tryz.func177.trans (congrArg some (by kernel_rfl))
 f286:=Tryz.func178.trans (congrArg some (by kernel_rfl))
 f317:=Tryz.func206.trans (congrArg some (by kernel_rfl))
 f318:=Tryz.func207.trans (congrArg some (by kernel_rfl))
 f319:=Tryz.func208.trans (congrArg some (by kernel_rfl))
 f320:=Tryz.func209.trans (congrArg some (by kernel_rfl))
 f337:=Tryz.func227.trans (congrArg some (by kernel_rfl))
 f338:=Tryz.func145.trans (congrArg some (by kernel_rfl))
 t0:=Tryz.underlying0
 a0:=Tryz.isAgg0
 z0:=Tryz.sizeOf0
 v0:=Tryz.zeroValue0
 t2:=Tryz.underlying2
 a2:=Tryz.isAgg2
 z2:=Tryz.sizeOf2
 v2:=Tryz.zeroValue2
 t3:=Tryz.underlying3
 a3:=Tryz.isAgg3
 z3:=Tryz.sizeOf3
 v3:=Tryz.zeroValue3
 t4:=Tryz.underlying4
 a4:=Tryz.isAgg4
 z4:=Tryz.sizeOf4
 v4:=Tryz.zeroValue4
 t5:=Tryz.underlying5
 a5:=Tryz.isAgg5
 z5:=Tryz.sizeOf5
 v5:=Tryz.zeroValue5
 t9:=Tryz.underlying9
 a9:=Tryz.isAgg9
 z9:=Tryz.sizeOf9
 v9:=Tryz.zeroValue9
 t20:=Tryz.underlying20
 a20:=Tryz.isAgg20
 z20:=Tryz.sizeOf20
 v20:=Tryz.zeroValue20
 t37:=Tryz.underlying33
 a37:=Tryz.isAgg33
 z37:=Tryz.sizeOf33
 v37:=Tryz.zeroValue33
 t46:=Tryz.underlying94
 a46:=Tryz.isAgg94
 z46:=Tryz.sizeOf94
 v46:=Tryz.zeroValue94
 t51:=Tryz.underlying152
 a51:=Tryz.isAgg152
 z51:=Tryz.sizeOf152
 v51:=Tryz.zeroValue152
 t53:=Tryz.underlying74
 a53:=Tryz.isAgg74
 z53:=Tryz.sizeOf74
 v53:=Tryz.zeroValue74
 t171:=Tryz.underlying209
 a171:=Tryz.isAgg209
 z171:=Tryz.sizeOf209
 v171:=Tryz.zeroValue209
 t173:=Tryz.underlying211
 a173:=Tryz.isAgg211
 z173:=Tryz.sizeOf211
 v173:=Tryz.zeroValue211
 t212:=Tryz.underlying233
 a212:=Tryz.isAgg233
 z212:=Tryz.sizeOf233
 v212:=Tryz.zeroValue233
 t213:=Tryz.underlying234
 a213:=Tryz.isAgg234
 z213:=Tryz.sizeOf234
 t232:=Tryz.underlying251
 a232:=Tryz.isAgg251
 z232:=Tryz.sizeOf251
 v232:=Tryz.zeroValue251
 t233:=Tryz.underlying206
 a233:=Tryz.isAgg206
 z233:=Tryz.sizeOf206
 v233:=Tryz.zeroValue206
 g17:=by kernel_rfl
 g18:=by kernel_rfl
 g19:=by kernel_rfl
 i0:=by kernel_rfl
 i2:=by kernel_rfl
 i3:=by kernel_rfl
 i4:=by kernel_rfl
 i5:=by kernel_rfl
 i9:=by kernel_rfl
 i20:=by kernel_rfl
 i37:=by kernel_rfl
 i46:=by kernel_rfl
 i51:=by kernel_rfl
 i53:=by kernel_rfl
 i171:=by kernel_rfl
 i173:=by kernel_rfl
 i212:=by kernel_rfl
 i232:=by kernel_rfl
 i233:=by kernel_rfl
 m17:=by kernel_rfl
 m18:=by kernel_rfl
 m19:=by kernel_rfl }
open Go.RowKit Go.Sort Go.Lib in
theorem Tryz.J0e (n:Int) (h0: -9223372036854775808<=n) (h1:n<=9223372036854775807) (w:World) (t7:Lib.TabIs Tryz.prog w "internal/strconv.uint64pow10" .u64 Lib.pow10Tab):
 Calls Tryz.prog 115 #[.int .i64 n,.int .i64 10] w fun e w'=>e=.returned (.string ⟨(Lib.itoa n).toArray⟩)/\∃k os,w'=grow (w.drewN k) os:=Any.strconv_FormatInt_10 Tryz.J0d n h0 h1 w t7
def Tryz.J0f:Go.Shelf.Ren:=⟨fun|245=>241|279=>243|280=>244|281=>245|282=>246|316=>249|171=>67|205=>250|243=>111|246=>152|283=>175|284=>176|285=>177|286=>178|129=>144|317=>206|318=>207|319=>208|320=>209|337=>227|338=>145|n=>n,fun|9=>9|3=>3|75=>68|167=>262|4=>4|168=>263|210=>269|37=>33|0=>0|127=>108|145=>273|143=>271|2=>2|171=>209|53=>74|5=>5|173=>211|212=>233|51=>152|20=>20|213=>234|46=>94|232=>251|233=>206|80=>73|n=>n,fun|15=>6|16=>7|17=>2|18=>5|19=>1|n=>n⟩
def Tryz.J0g:Go.Shelf.Ren:=⟨fun|174=>238|247=>240|245=>241|287=>242|279=>243|280=>244|281=>245|282=>246|321=>247|322=>248|316=>249|171=>67|205=>250|243=>111|246=>152|283=>175|284=>176|285=>177|286=>178|129=>144|317=>206|318=>207|319=>208|320=>209|337=>227|338=>145|n=>n,fun|9=>9|3=>3|2=>2|75=>68|85=>257|4=>4|167=>262|5=>5|53=>74|175=>259|46=>94|168=>263|37=>33|0=>0|210=>269|21=>21|127=>108|145=>273|143=>271|171=>209|173=>211|212=>233|51=>152|20=>20|213=>234|232=>251|233=>206|80=>73|n=>n,fun|15=>6|16=>7|17=>2|18=>5|19=>1|n=>n⟩
theorem Tryz.J0h:Go.Proofs.LaysC.n174 Tryz.prog Tryz.J0g:={
 mixed:=by kernel_rfl
 f129:=Tryz.func144.trans (congrArg some (by kernel_rfl))
 f171:=Tryz.func67.trans (congrArg some (by kernel_rfl))
 f174:=Tryz.func238.trans (congrArg some (by kernel_rfl))
 f205:=Tryz.func250.trans (congrArg some (by kernel_rfl))
 f243:=Tryz.func111.trans (congrArg some (by kernel_rfl))
 f245:=Tryz.func241.trans (congrArg some (by kernel_rfl))
 f246:=Tryz.func152.trans (congrArg some (by kernel_rfl))
 f247:=Tryz.func240.trans (congrArg some (by kernel_rfl))
 f279:=Tryz.func243.trans (congrArg some (by kernel_rfl))
 f280:=Tryz.func244.trans (congrArg some (by kernel_rfl))
 f281:=Tryz.func245.trans (congrArg some (by kernel_rfl))
 f282:=Tryz.func246.trans (congrArg some (by kernel_rfl))
 f283:=Tryz.func175.trans (congrArg some (by kernel_rfl))
 f284:=Tryz.func176.trans (congrArg some (by kernel_rfl))
 f285:=Tryz.func177.trans (congrArg some (by kernel_rfl))
 f286:=Tryz.func178.trans (congrArg some (by kernel_rfl))
 f287:=Tryz.func242.trans (congrArg some (by kernel_rfl))
 f316:=Tryz.func249.trans (congrArg some (by kernel_rfl))
 f317:=Tryz.func206.trans (congrArg some (by kernel_rfl))
 f318:=Tryz.func207.trans (congrArg some (by kernel_rfl))
 f319:=Tryz.func208.trans (congrArg some (by kernel_rfl))
 f320:=Tryz.func209.trans (congrArg some (by kernel_rfl))
 f321:=Tryz.func247.trans (congrArg some (by kernel_rfl))
 f322:=Tryz.func248.trans (congrArg some (by kernel_rfl))
 f337:=Tryz.func227.trans (congrArg some (by kernel_rfl))
 f338:=Tryz.func145.trans (congrArg some (by kernel_rfl))
 t0:=Tryz.underlying0
 a0:=Tryz.isAgg0
 z0:=Tryz.sizeOf0
 v0:=Tryz.zeroValue0
 t2:=Tryz.underlying2
 a2:=Tryz.isAgg2
 z2:=Tryz.sizeOf2
 v2:=Tryz.zeroValue2
 t3:=Tryz.underlying3
 a3:=Tryz.isAgg3
 z3:=Tryz.sizeOf3
 v3:=Tryz.zeroValue3
 t4:=Tryz.underlying4
 a4:=Tryz.isAgg4
 z4:=Tryz.sizeOf4
 v4:=Tryz.zeroValue4
 t5:=Tryz.underlying5
 a5:=Tryz.isAgg5
 z5:=Tryz.sizeOf5
 v5:=Tryz.zeroValue5
 t9:=Tryz.underlying9
 a9:=Tryz.isAgg9
 z9:=Tryz.sizeOf9
 v9:=Tryz.zeroValue9
 t20:=Tryz.underlying20
 a20:=Tryz.isAgg20
 z20:=Tryz.sizeOf20
 v20:=Tryz.zeroValue20
 t21:=Tryz.underlying21
 a21:=Tryz.isAgg21
 z21:=Tryz.sizeOf21
 v21:=Tryz.zeroValue21
 t37:=Tryz.underlying33
 a37:=Tryz.isAgg33
 z37:=Tryz.sizeOf33
 v37:=Tryz.zeroValue33
 t46:=Tryz.underlying94
 a46:=Tryz.isAgg94
 z46:=Tryz.sizeOf94
 v46:=Tryz.zeroValue94
 t51:=Tryz.underlying152
 a51:=Tryz.isAgg152
 z51:=Tryz.sizeOf152
 v51:=Tryz.zeroValue152
 t53:=Tryz.underlying74
 a53:=Tryz.isAgg74
 z53:=Tryz.sizeOf74
 v53:=Tryz.zeroValue74
 t75:=Tryz.underlying68
 a75:=Tryz.isAgg68
 z75:=Tryz.sizeOf68
 v75:=Tryz.zeroValue68
 t85:=Tryz.underlying257
 a85:=Tryz.isAgg257
 z85:=Tryz.sizeOf257
 v85:=Tryz.zeroValue257
 t127:=Tryz.underlying108
 a127:=Tryz.isAgg108
 z127:=Tryz.sizeOf108
 v127:=Tryz.zeroValue108
 t143:=Tryz.underlying271
 a143:=Tryz.isAgg271
 z143:=Tryz.sizeOf271
 v143:=Tryz.zeroValue271
 t145:=Tryz.underlying273
 a145:=Tryz.isAgg273
 z145:=Tryz.sizeOf273
 v145:=Tryz.zeroValue273
 t167:=Tryz.underlying262
 a167:=Tryz.isAgg262
 z167:=Tryz.sizeOf262
 v167:=Tryz.zeroValue262
 t168:=Tryz.underlying263
 a168:=Tryz.isAgg263
 z168:=Tryz.sizeOf263
 v168:=Tryz.zeroValue263
 t171:=Tryz.underlying209
 a171:=Tryz.isAgg209
 z171:=Tryz.sizeOf209
 v171:=Tryz.zeroValue209
 t173:=Tryz.underlying211
 a173:=Tryz.isAgg211
 z173:=Tryz.sizeOf211
 v173:=Tryz.zeroValue211
 t175:=Tryz.underlying259
 a175:=Tryz.isAgg259
 z175:=Tryz.sizeOf259
 v175:=Tryz.zeroValue259
 t210:=Tryz.underlying269
 a210:=Tryz.isAgg269
 z210:=Tryz.sizeOf269
 v210:=Tryz.zeroValue269
 t212:=Tryz.underlying233
 a212:=Tryz.isAgg233
 z212:=Tryz.sizeOf233
 v212:=Tryz.zeroValue233
 t213:=Tryz.underlying234
 a213:=Tryz.isAgg234
 z213:=Tryz.sizeOf234
 t232:=Tryz.underlying251
 a232:=Tryz.isAgg251
 z232:=Tryz.sizeOf251
 v232:=Tryz.zeroValue251
 t233:=Tryz.underlying206
 a233:=Tryz.isAgg206
 z233:=Tryz.sizeOf206
 v233:=Tryz.zeroValue206
 g15:=by kernel_rfl
 g16:=by kernel_rfl
 g17:=by kernel_rfl
 g18:=by kernel_rfl
 g19:=by kernel_rfl
 t80:=Tryz.underlying73
 a80:=Tryz.isAgg73
 z80:=Tryz.sizeOf73
 v80:=Tryz.zeroValue73
 i0:=by kernel_rfl
 i2:=by kernel_rfl
 i3:=by kernel_rfl
 i4:=by kernel_rfl
 i5:=by kernel_rfl
 i9:=by kernel_rfl
 i20:=by kernel_rfl
 i21:=by kernel_rfl
 i37:=by kernel_rfl
 i46:=by kernel_rfl
 i51:=by kernel_rfl
 i53:=by kernel_rfl
 i75:=by kernel_rfl
 i80:=by kernel_rfl
 i85:=by kernel_rfl
 i127:=by kernel_rfl
 i143:=by kernel_rfl
 i145:=by kernel_rfl
 i167:=by kernel_rfl
 i168:=by kernel_rfl
 i171:=by kernel_rfl
 i173:=by kernel_rfl
 i175:=by kernel_rfl
 i210:=by kernel_rfl
 i212:=by kernel_rfl
 i232:=by kernel_rfl
 i233:=by kernel_rfl
 m15:=by kernel_rfl
 m16:=by kernel_rfl
 m17:=by kernel_rfl
 m18:=by kernel_rfl
 m19:=by kernel_rfl
 c0:=by kernel_rfl
 c2:=by kernel_rfl
 c3:=by kernel_rfl
 c4:=by kernel_rfl
 c5:=by kernel_rfl
 c9:=by kernel_rfl
 c20:=by kernel_rfl
 c21:=by kernel_rfl
 c37:=by kernel_rfl
 c46:=by kernel_rfl
 c51:=by kernel_rfl
 c53:=by kernel_rfl
 c75:=by kernel_rfl
 c80:=by kernel_rfl
 c85:=by kernel_rfl
 c127:=by kernel_rfl
 c143:=by kernel_rfl
 c145:=by kernel_rfl
 c167:=by kernel_rfl
 c168:=by kernel_rfl
 c171:=by kernel_rfl
 c173:=by kernel_rfl
 c175:=by kernel_rfl
 c210:=by kernel_rfl
 c212:=by kernel_rfl
 c213:=by kernel_rfl
 c232:=by kernel_rfl
 c233:=by kernel_rfl }
open Go.RowKit in
theorem Tryz.J0i (s:ByteArray) (hmax:s.size<=9223372036854775806) (v:Int) (h:Lib.parseIntB 64 s.data.toList=.ok v) (w:World):
 Calls Tryz.prog 238 #[.string s,.int .i64 10,.int .i64 64] w fun e w'=>e=.returned (.tuple #[.int .i64 v,.nilIface])/\(w'=w∨∃t,w'=Lib.bytesWorld w 5 t):=Any.strconv_ParseInt_10_at64_ok Tryz.J0h s hmax v h w
def Tryz.J0j:Go.Shelf.Ren:=⟨fun|14=>239|16=>242|17=>241|19=>247|20=>248|21=>243|22=>244|23=>245|24=>246|25=>249|27=>67|26=>250|28=>111|29=>152|30=>175|31=>176|32=>177|33=>178|35=>144|34=>206|36=>207|37=>208|38=>209|39=>227|40=>145|n=>n,fun|9=>9|3=>3|22=>74|24=>68|25=>259|4=>4|34=>262|5=>5|36=>94|37=>33|0=>0|39=>263|21=>21|44=>269|47=>108|50=>273|48=>271|2=>2|52=>209|55=>211|59=>233|60=>152|20=>20|61=>234|65=>251|66=>206|67=>73|n=>n,fun|0=>6|1=>7|2=>2|3=>5|4=>1|n=>n⟩
theorem Tryz.J0k:Go.Proofs.LaysPu.n14 Tryz.prog Tryz.J0j:={
 mixed:=by kernel_rfl
 f14:=Tryz.func239.trans (congrArg some (by kernel_rfl))
 f16:=Tryz.func242.trans (congrArg some (by kernel_rfl))
 f17:=Tryz.func241.trans (congrArg some (by kernel_rfl))
 f19:=Tryz.func247.trans (congrArg some (by kernel_rfl))
 f20:=Tryz.func248.trans (congrArg some (by kernel_rfl))
 f21:=Tryz.func243.trans (congrArg some (by kernel_rfl))
 f22:=Tryz.func244.trans (congrArg some (by kernel_rfl))
 f23:=Tryz.func245.trans (congrArg some (by kernel_rfl))
 f24:=Tryz.func246.trans (congrArg some (by kernel_rfl))
 f25:=Tryz.func249.trans (congrArg some (by kernel_rfl))
 f26:=Tryz.func250.trans (congrArg some (by kernel_rfl))
 f27:=Tryz.func67.trans (congrArg some (by kernel_rfl))
 f28:=Tryz.func111.trans (congrArg some (by kernel_rfl))
 f29:=Tryz.func152.trans (congrArg some (by kernel_rfl))
 f30:=Tryz.func175.trans (congrArg some (by kernel_rfl))
 f31:=Tryz.func176.trans (congrArg some (by kernel_rfl))
 f32:=Tryz.func177.trans (congrArg some (by kernel_rfl))
 f33:=Tryz.func178.trans (congrArg some (by kernel_rfl))
 f34:=Tryz.func206.trans (congrArg some (by kernel_rfl))
 f35:=Tryz.func144.trans (congrArg some (by kernel_rfl))
 f36:=Tryz.func207.trans (congrArg some (by kernel_rfl))
 f37:=Tryz.func208.trans (congrArg some (by kernel_rfl))
 f38:=Tryz.func209.trans (congrArg some (by kernel_rfl))
 f39:=Tryz.func227.trans (congrArg some (by kernel_rfl))
 f40:=Tryz.func145.trans (congrArg some (by kernel_rfl))
 t0:=Tryz.underlying0
 a0:=Tryz.isAgg0
 z0:=Tryz.sizeOf0
 v0:=Tryz.zeroValue0
 i0:=by kernel_rfl
 t2:=Tryz.underlying2
 a2:=Tryz.isAgg2
 z2:=Tryz.sizeOf2
 v2:=Tryz.zeroValue2
 i2:=by kernel_rfl
 t3:=Tryz.underlying3
 a3:=Tryz.isAgg3
 z3:=Tryz.sizeOf3
 v3:=Tryz.zeroValue3
 i3:=by kernel_rfl
 t4:=Tryz.underlying4
 a4:=Tryz.isAgg4
 z4:=Tryz.sizeOf4
 v4:=Tryz.zeroValue4
 i4:=by kernel_rfl
 t5:=Tryz.underlying5
 a5:=Tryz.isAgg5
 z5:=Tryz.sizeOf5
 v5:=Tryz.zeroValue5
 i5:=by kernel_rfl
 t9:=Tryz.underlying9
 a9:=Tryz.isAgg9
 z9:=Tryz.sizeOf9
 v9:=Tryz.zeroValue9
 i9:=by kernel_rfl
 t20:=Tryz.underlying20
 a20:=Tryz.isAgg20
 z20:=Tryz.sizeOf20
 v20:=Tryz.zeroValue20
 i20:=by kernel_rfl
 t21:=Tryz.underlying21
 a21:=Tryz.isAgg21
 z21:=Tryz.sizeOf21
 v21:=Tryz.zeroValue21
 i21:=by kernel_rfl
 t22:=Tryz.underlying74
 a22:=Tryz.isAgg74
 z22:=Tryz.sizeOf74
 v22:=Tryz.zeroValue74
 i22:=by kernel_rfl
 t24:=Tryz.underlying68
 a24:=Tryz.isAgg68
 z24:=Tryz.sizeOf68
 v24:=Tryz.zeroValue68
 i24:=by kernel_rfl
 t25:=Tryz.underlying259
 a25:=Tryz.isAgg259
 z25:=Tryz.sizeOf259
 v25:=Tryz.zeroValue259
 i25:=by kernel_rfl
 t34:=Tryz.underlying262
 a34:=Tryz.isAgg262
 z34:=Tryz.sizeOf262
 v34:=Tryz.zeroValue262
 i34:=by kernel_rfl
 c34:=by kernel_rfl
 t36:=Tryz.underlying94
 a36:=Tryz.isAgg94
 z36:=Tryz.sizeOf94
 v36:=Tryz.zeroValue94
 i36:=by kernel_rfl
 t37:=Tryz.underlying33
 a37:=Tryz.isAgg33
 z37:=Tryz.sizeOf33
 v37:=Tryz.zeroValue33
 i37:=by kernel_rfl
 t39:=Tryz.underlying263
 a39:=Tryz.isAgg263
 z39:=Tryz.sizeOf263
 v39:=Tryz.zeroValue263
 i39:=by kernel_rfl
 t44:=Tryz.underlying269
 a44:=Tryz.isAgg269
 z44:=Tryz.sizeOf269
 v44:=Tryz.zeroValue269
 i44:=by kernel_rfl
 t47:=Tryz.underlying108
 a47:=Tryz.isAgg108
 z47:=Tryz.sizeOf108
 v47:=Tryz.zeroValue108
 i47:=by kernel_rfl
 t48:=Tryz.underlying271
 a48:=Tryz.isAgg271
 z48:=Tryz.sizeOf271
 v48:=Tryz.zeroValue271
 i48:=by kernel_rfl
 t50:=Tryz.underlying273
 a50:=Tryz.isAgg273
 z50:=Tryz.sizeOf273
 v50:=Tryz.zeroValue273
 i50:=by kernel_rfl
 t52:=Tryz.underlying209
 a52:=Tryz.isAgg209
 z52:=Tryz.sizeOf209
 v52:=Tryz.zeroValue209
 i52:=by kernel_rfl
 t55:=Tryz.underlying211
 a55:=Tryz.isAgg211
 z55:=Tryz.sizeOf211
 v55:=Tryz.zeroValue211
 i55:=by kernel_rfl
 t59:=Tryz.underlying233
 a59:=Tryz.isAgg233
 z59:=Tryz.sizeOf233
 v59:=Tryz.zeroValue233
 i59:=by kernel_rfl
 t60:=Tryz.underlying152
 a60:=Tryz.isAgg152
 z60:=Tryz.sizeOf152
 v60:=Tryz.zeroValue152
 i60:=by kernel_rfl
 t61:=Tryz.underlying234
 a61:=Tryz.isAgg234
 z61:=Tryz.sizeOf234
 t65:=Tryz.underlying251
 a65:=Tryz.isAgg251
 z65:=Tryz.sizeOf251
 v65:=Tryz.zeroValue251
 i65:=by kernel_rfl
 t66:=Tryz.underlying206
 a66:=Tryz.isAgg206
 z66:=Tryz.sizeOf206
 v66:=Tryz.zeroValue206
 i66:=by kernel_rfl
 t67:=Tryz.underlying73
 a67:=Tryz.isAgg73
 z67:=Tryz.sizeOf73
 v67:=Tryz.zeroValue73
 i67:=by kernel_rfl
 g0:=by kernel_rfl
 m0:=by kernel_rfl
 g1:=by kernel_rfl
 m1:=by kernel_rfl
 g2:=by kernel_rfl
 m2:=by kernel_rfl
 g3:=by kernel_rfl
 m3:=by kernel_rfl
 g4:=by kernel_rfl
 m4:=by kernel_rfl }
open Go.RowKit in
theorem Tryz.J0l (s:ByteArray) (hmax:s.size<=9223372036854775806) (u:Nat) (h:Lib.parseUintB 64 s.data.toList=.ok u) (w:World):
 Calls Tryz.prog 239 #[.string s,.int .i64 10,.int .i64 64] w fun e w'=>e=.returned (.tuple #[.int .u64 u,.nilIface])/\(w'=w∨w'=Lib.bytesWorld w 5 s):=Any.strconv_ParseUint_10_at64_ok Tryz.J0k s hmax u h w
def Tryz.J0m:Go.Shelf.Ren:=⟨fun|219=>163|217=>187|225=>188|224=>189|267=>190|266=>218|314=>219|n=>n,fun|9=>9|3=>3|4=>4|5=>5|46=>94|146=>238|51=>152|n=>n,fun|1=>0|n=>n⟩
def Tryz.J0n:Go.Shelf.Ren:=⟨fun|138=>78|195=>128|218=>129|143=>130|219=>163|217=>187|225=>188|224=>189|267=>190|266=>218|314=>219|n=>n,fun|9=>9|3=>3|4=>4|5=>5|0=>0|46=>94|146=>238|51=>152|n=>n,fun|1=>0|n=>n⟩
theorem Tryz.J0o:Go.Proofs.Lays.n138 Tryz.prog Tryz.J0n:={
 mixed:=by kernel_rfl
 f138:=Tryz.func78.trans (congrArg some (by kernel_rfl))
 f143:=Tryz.func130.trans (congrArg some (by kernel_rfl))
 f195:=Tryz.func128.trans (congrArg some (by kernel_rfl))
 f217:=Tryz.func187.trans (congrArg some (by kernel_rfl))
 f218:=Tryz.func129.trans (congrArg some (by kernel_rfl))
 f219:=Tryz.func163.trans (congrArg some (by kernel_rfl))
 f224:=Tryz.func189.trans (congrArg some (by kernel_rfl))
 f225:=Tryz.func188.trans (congrArg some (by kernel_rfl))
 f266:=Tryz.func218.trans (congrArg some (by kernel_rfl))
 f267:=Tryz.func190.trans (congrArg some (by kernel_rfl))
 f314:=Tryz.func219.trans (congrArg some (by kernel_rfl))
 t0:=Tryz.underlying0
 a0:=Tryz.isAgg0
 z0:=Tryz.sizeOf0
 v0:=Tryz.zeroValue0
 t3:=Tryz.underlying3
 a3:=Tryz.isAgg3
 z3:=Tryz.sizeOf3
 v3:=Tryz.zeroValue3
 t4:=Tryz.underlying4
 a4:=Tryz.isAgg4
 z4:=Tryz.sizeOf4
 v4:=Tryz.zeroValue4
 t5:=Tryz.underlying5
 a5:=Tryz.isAgg5
 z5:=Tryz.sizeOf5
 v5:=Tryz.zeroValue5
 t9:=Tryz.underlying9
 a9:=Tryz.isAgg9
 z9:=Tryz.sizeOf9
 v9:=Tryz.zeroValue9
 t46:=Tryz.underlying94
 a46:=Tryz.isAgg94
 z46:=Tryz.sizeOf94
 v46:=Tryz.zeroValue94
 t51:=Tryz.underlying152
 a51:=Tryz.isAgg152
 z51:=Tryz.sizeOf152
 v51:=Tryz.zeroValue152
 t146:=Tryz.underlying238
 a146:=Tryz.isAgg238
 z146:=Tryz.sizeOf238
 v146:=Tryz.zeroValue238
 g1:=by kernel_rfl }
open Go.RowKit Go.Lib in
theorem Tryz.J0p (s:ByteArray) (c:UInt8) (w:World):
 Calls Tryz.prog 78 #[.string s,.string ⟨#[c]⟩] w fun e w'=>e=.returned (.int .i64 (Lib.countByte s.data.toList c))/\w'=w:=Any.strings_Count_one Tryz.J0o s c w
def Tryz.J0q:Go.Shelf.Ren:=⟨fun|99=>183|206=>216|n=>n,fun|9=>9|4=>4|3=>3|n=>n,fun|n=>n⟩
theorem Tryz.J0r:Go.Proofs.Lays.n99 Tryz.prog Tryz.J0q:={
 mixed:=by kernel_rfl
 f99:=Tryz.func183.trans (congrArg some (by kernel_rfl))
 f206:=Tryz.func216.trans (congrArg some (by kernel_rfl))
 t3:=Tryz.underlying3
 a3:=Tryz.isAgg3
 z3:=Tryz.sizeOf3
 v3:=Tryz.zeroValue3
 t4:=Tryz.underlying4
 a4:=Tryz.isAgg4
 z4:=Tryz.sizeOf4
 v4:=Tryz.zeroValue4
 t9:=Tryz.underlying9
 a9:=Tryz.isAgg9
 z9:=Tryz.sizeOf9
 v9:=Tryz.zeroValue9 }
open Go.RowKit Go.Lib in
theorem Tryz.J0s (s p:ByteArray) (w:World):
 Calls Tryz.prog 183 #[.string s,.string p] w fun e w'=>e=.returned (.bool (Lib.hasPrefix s.data.toList p.data.toList))/\w'=w:=Any.strings_HasPrefix Tryz.J0r s p w
def Tryz.J0t:Go.Shelf.Ren:=⟨fun|264=>147|n=>n,fun|53=>74|46=>94|n=>n,fun|n=>n⟩
theorem Tryz.J0u:Go.Proofs.Lays.n264 Tryz.prog Tryz.J0t:={
 mixed:=by kernel_rfl
 f264:=Tryz.func147.trans (congrArg some (by kernel_rfl))
 t46:=Tryz.underlying94
 a46:=Tryz.isAgg94
 z46:=Tryz.sizeOf94
 v46:=Tryz.zeroValue94
 t53:=Tryz.underlying74
 a53:=Tryz.isAgg74
 z53:=Tryz.sizeOf74
 v53:=Tryz.zeroValue74 }
open Go.RowKit Go.Lib in
theorem Tryz.J0v (x y:Nat) (hx:x<18446744073709551616) (hy:y<18446744073709551616) (w:World):
 Calls Tryz.prog 147 #[.int .u64 x,.int .u64 y] w fun e w'=>e=.returned (.tuple #[.int .u64 ((x*y / 18446744073709551616:Nat):Int),.int .u64 ((x*y%18446744073709551616:Nat):Int)])/\w'=w:=Any.bits_Mul64 Tryz.J0u x y hx hy w
def Tryz.J0w:Go.Shelf.Ren:=⟨fun|105=>155|212=>182|99=>183|165=>116|166=>31|170=>184|169=>34|263=>215|264=>147|206=>216|240=>66|241=>156|276=>110|277=>185|n=>n,fun|9=>9|3=>3|4=>4|20=>20|0=>0|46=>94|109=>217|5=>5|72=>66|76=>69|51=>152|146=>238|53=>74|148=>189|70=>64|37=>33|75=>68|127=>108|164=>161|80=>73|n=>n,fun|n=>n⟩
theorem Tryz.J0x:Go.Proofs.Lays.n105 Tryz.prog Tryz.J0w:={
 mixed:=by kernel_rfl
 f99:=Tryz.func183.trans (congrArg some (by kernel_rfl))
 f105:=Tryz.func155.trans (congrArg some (by kernel_rfl))
 f165:=Tryz.func116.trans (congrArg some (by kernel_rfl))
 f166:=Tryz.func31.trans (congrArg some (by kernel_rfl))
 f169:=Tryz.func34.trans (congrArg some (by kernel_rfl))
 f170:=Tryz.func184.trans (congrArg some (by kernel_rfl))
 f206:=Tryz.func216.trans (congrArg some (by kernel_rfl))
 f212:=Tryz.func182.trans (congrArg some (by kernel_rfl))
 f240:=Tryz.func66.trans (congrArg some (by kernel_rfl))
 f241:=Tryz.func156.trans (congrArg some (by kernel_rfl))
 f263:=Tryz.func215.trans (congrArg some (by kernel_rfl))
 f264:=Tryz.func147.trans (congrArg some (by kernel_rfl))
 f276:=Tryz.func110.trans (congrArg some (by kernel_rfl))
 f277:=Tryz.func185.trans (congrArg some (by kernel_rfl))
 t0:=Tryz.underlying0
 a0:=Tryz.isAgg0
 z0:=Tryz.sizeOf0
 v0:=Tryz.zeroValue0
 t3:=Tryz.underlying3
 a3:=Tryz.isAgg3
 z3:=Tryz.sizeOf3
 v3:=Tryz.zeroValue3
 t4:=Tryz.underlying4
 a4:=Tryz.isAgg4
 z4:=Tryz.sizeOf4
 v4:=Tryz.zeroValue4
 t5:=Tryz.underlying5
 a5:=Tryz.isAgg5
 z5:=Tryz.sizeOf5
 v5:=Tryz.zeroValue5
 t9:=Tryz.underlying9
 a9:=Tryz.isAgg9
 z9:=Tryz.sizeOf9
 v9:=Tryz.zeroValue9
 t20:=Tryz.underlying20
 a20:=Tryz.isAgg20
 z20:=Tryz.sizeOf20
 v20:=Tryz.zeroValue20
 t37:=Tryz.underlying33
 a37:=Tryz.isAgg33
 z37:=Tryz.sizeOf33
 v37:=Tryz.zeroValue33
 t46:=Tryz.underlying94
 a46:=Tryz.isAgg94
 z46:=Tryz.sizeOf94
 v46:=Tryz.zeroValue94
 t51:=Tryz.underlying152
 a51:=Tryz.isAgg152
 z51:=Tryz.sizeOf152
 v51:=Tryz.zeroValue152
 t53:=Tryz.underlying74
 a53:=Tryz.isAgg74
 z53:=Tryz.sizeOf74
 v53:=Tryz.zeroValue74
 t70:=Tryz.underlying64
 a70:=Tryz.isAgg64
 z70:=Tryz.sizeOf64
 v70:=Tryz.zeroValue64
 t72:=Tryz.underlying66
 a72:=Tryz.isAgg66
 z72:=Tryz.sizeOf66
 v72:=Tryz.zeroValue66
 t75:=Tryz.underlying68
 a75:=Tryz.isAgg68
 z75:=Tryz.sizeOf68
 v75:=Tryz.zeroValue68
 t76:=Tryz.underlying69
 a76:=Tryz.isAgg69
 z76:=Tryz.sizeOf69
 v76:=Tryz.zeroValue69
 t109:=Tryz.underlying217
 a109:=Tryz.isAgg217
 z109:=Tryz.sizeOf217
 v109:=Tryz.zeroValue217
 t127:=Tryz.underlying108
 a127:=Tryz.isAgg108
 z127:=Tryz.sizeOf108
 v127:=Tryz.zeroValue108
 t146:=Tryz.underlying238
 a146:=Tryz.isAgg238
 z146:=Tryz.sizeOf238
 v146:=Tryz.zeroValue238
 t148:=Tryz.underlying189
 a148:=Tryz.isAgg189
 z148:=Tryz.sizeOf189
 v148:=Tryz.zeroValue189
 t164:=Tryz.underlying161
 a164:=Tryz.isAgg161
 z164:=Tryz.sizeOf161
 v164:=Tryz.zeroValue161 }
theorem Tryz.J0y:Builder.Extra Tryz.prog Tryz.J0w:={
 sizeBuilder:=by kernel_rfl
 liesBuilder:=by kernel_rfl
 t5:=Tryz.underlying5
 a5:=Tryz.isAgg5
 z5:=Tryz.sizeOf5
 v5:=Tryz.zeroValue5
 infoByte:=by kernel_rfl
 cellsByte:=by kernel_rfl
 sizeByte:=by kernel_rfl
 neB5:=by decide }
open Go.RowKit Go.Lib in
theorem Tryz.J0z (s:ByteArray) (c:Nat) (w:World) (hc:c<=9223372036854775807) (R0:s.size*c<=140737488355328):
 Calls Tryz.prog 155 #[.string s,.int .i64 c] w fun e w'=>e=.returned (.string ⟨(Lib.repeatL s.data.toList c).toArray⟩)/\Bw w w':=Any.strings_Repeat Tryz.J0x Tryz.J0y s c w hc R0
def Tryz.J10:Go.Shelf.Ren:=⟨fun|41=>137|n=>n,fun|22=>42|23=>3|4=>4|n=>n,fun|n=>n⟩
def Tryz.J11:Go.Shelf.Ren:=⟨fun|41=>137|n=>n,fun|22=>42|23=>3|4=>4|n=>n,fun|n=>n⟩
theorem Tryz.J12:Go.Proofs.SlLaysE0.n41 Tryz.prog Tryz.J11:={
 mixed:=by kernel_rfl
 f41:=⟨Tryz.f137.name,by decide,Tryz.func137.trans (congrArg some (by kernel_rfl))⟩
 t4:=Tryz.underlying4
 a4:=Tryz.isAgg4
 z4:=Tryz.sizeOf4
 v4:=Tryz.zeroValue4
 t22:=Tryz.underlying42
 a22:=Tryz.isAgg42
 z22:=Tryz.sizeOf42
 v22:=Tryz.zeroValue42 }
open Go.RowKit Go.Lib in
theorem Tryz.J13 (i0:TypeInfo) (z:Value) (size bytes:Nat) (hi:Tryz.prog.info? 3=some i0) (P1:i0.zero=some z) (K1:i0.size=size) (J1:i0.bytes=bytes) (Zt:z.cells.size=size) (Z1:0<size) (z23:∀w,(Go.sizeOf 3).run Tryz.prog w=.ok size w) (b off n c:Nat) (news:LV) (w:World) (hl:news.length=n*size) (hn:n<=maxLen) (hbig:n*bytes<=140737488355328) (hc:∀j u,news[j]?=some u->w.cell? ⟨b,off+j,none⟩=some u) (h1:∀u∈news,u.oneCell'=true):
 Calls Tryz.prog 137 #[.slice (some ⟨b,off,none⟩) n c] w fun e w'=>∃v',e=.returned v'/\w'.ownsRow w.heap.size 3 size v' n news/\v'≠.slice none 0 0/\Bw w w':=AnyE.slices_Clone Tryz.J12 i0 z size bytes hi P1 K1 J1 Zt Z1 z23 b off n c news w hl hn hbig hc h1
def Tryz.J14:Go.Shelf.Ren:=⟨fun|41=>174|n=>n,fun|22=>23|23=>74|4=>4|n=>n,fun|n=>n⟩
theorem Tryz.J15:Go.Proofs.SlLaysE0.n41 Tryz.prog Tryz.J14:={
 mixed:=by kernel_rfl
 f41:=⟨Tryz.f174.name,by decide,Tryz.func174.trans (congrArg some (by kernel_rfl))⟩
 t4:=Tryz.underlying4
 a4:=Tryz.isAgg4
 z4:=Tryz.sizeOf4
 v4:=Tryz.zeroValue4
 t22:=Tryz.underlying23
 a22:=Tryz.isAgg23
 z22:=Tryz.sizeOf23
 v22:=Tryz.zeroValue23 }
open Go.RowKit Go.Lib in
theorem Tryz.J16 (i0:TypeInfo) (z:Value) (size bytes:Nat) (hi:Tryz.prog.info? 74=some i0) (P1:i0.zero=some z) (K1:i0.size=size) (J1:i0.bytes=bytes) (Zt:z.cells.size=size) (Z1:0<size) (z23:∀w,(Go.sizeOf 74).run Tryz.prog w=.ok size w) (b off n c:Nat) (news:LV) (w:World) (hl:news.length=n*size) (hn:n<=maxLen) (hbig:n*bytes<=140737488355328) (hc:∀j u,news[j]?=some u->w.cell? ⟨b,off+j,none⟩=some u) (h1:∀u∈news,u.oneCell'=true):
 Calls Tryz.prog 174 #[.slice (some ⟨b,off,none⟩) n c] w fun e w'=>∃v',e=.returned v'/\w'.ownsRow w.heap.size 74 size v' n news/\v'≠.slice none 0 0/\Bw w w':=AnyE.slices_Clone Tryz.J15 i0 z size bytes hi P1 K1 J1 Zt Z1 z23 b off n c news w hl hn hbig hc h1
end Go.Proofs
namespace Go.Proofs.YtdilmfakkppgpaaGreatDoor
open Go.RowKit WordsM
theorem Qmx:Tryz.prog.underlying 23=some (.slice (Tryz.prog.elem 23)):=by kernel_rfl
theorem Qew (w:World):(sizeOf (Tryz.prog.elem 23)).run Tryz.prog w=.ok 1 w:=by kernel_rfl
theorem Qg4 (w:World) (a:OA) (len cap:Nat) (kh:IntKind) (h:Int) (h0:0<=h) (h2:h<=cap):
 (Instr.slice 23 (.slice a len cap) none (some (.int kh h)) none).run Tryz.prog w=.ok (.slice a h.toNat cap) w:=by
 rw[run_slice_h w _ a len cap Qmx kh h h0 h2,Qew];have:=Q8y a cap 1
 show Result.ok (Value.slice (Qoz a cap 0 1) _ _) w=_
 rw[this,Xbz,Xbz]
structure WordsIn (w:World) (a:OA) (n c:Nat) (ls:LN):Prop where
 len:ls.length=n
 cap:n<=c
 most:c<=9223372036854775807
 low:Low (2^64) ls
 rd:RdI .u64 w w.heap.size a ls
theorem WordsIn.step {w w':World} {a:OA} {n c:Nat} {ls:LN} (h:WordsIn w a n c ls) (hb:Bw w w'):WordsIn w' a n c ls:=⟨h.len,h.cap,h.most,h.low,h.rd.step hb⟩
structure Q2m (w0 w:World) (a:OA) (n c:Nat) (ls:LN):Prop extends WordsIn w a n c ls where
 new:ls=[]∨∀x,a=some x->w0.heap.size<=x.block
theorem Q2m.lower {w0 w1 w:World} {a:OA} {n c:Nat} {ls:LN} (h:Q2m w1 w a n c ls) (hb:w0.heap.size<=w1.heap.size):Q2m w0 w a n c ls:=⟨h.toWordsIn,h.new.imp id fun h2 x hx=>Ur hb (h2 x hx)⟩
theorem Q2m.on {w0 w w':World} {a:OA} {n c:Nat} {ls:LN} (h:Q2m w0 w a n c ls) (h':WordsIn w' a n c ls):Q2m w0 w' a n c ls:=⟨h',h.new⟩
theorem Q2m.nil_ (w0 w:World):Q2m w0 w none 0 0 []:=⟨⟨rfl,Ug _,Uu _,fun x hx=>by simp at hx,.inl rfl⟩,.inl rfl⟩
theorem WordsIn.trim {w:World} {a:OA} {n c:Nat} {ls:LN} (h:WordsIn w a n c ls):WordsIn w a (trimL ls).length c (trimL ls):=by
 have h1:=trim_len ls;have h2:=h.len;have h3:=h.cap;refine ⟨rfl,by omega,h.most,Qeu h.low,?_⟩;rw[<-Q3a ls];exact h.rd.front _
theorem Q1l (a:OA) (n c:Nat) (ls:LN) (w:World) (h:WordsIn w a n c ls):
 Calls Tryz.prog 143 #[.slice a n c] w fun e w'=>e=.returned (.slice a (trimL ls).length c)/\Bw w w':=by
 have V3:=h.cap;have JW:=h.most;have H:=Ua h;clear h
 go_enter Tryz.func143,Tryz.ntmps143
 go_wp2_with fail
 go_loopw [3] (fun v wr=>∃k:Nat,k<=n/\v=.int .i64 (k:Int)/\trimL ls=trimL (ls.take k)/\Bw w wr) (fun v _=>(intOf v).toNat)
 case atStart=>exact ⟨n,Ug _,rfl,by rw[UA (by rw[H.out.len];exact Ug _)],Uf _ _⟩
 case round=>
  obtain ⟨k,hk,rfl,Q7,hb⟩:=hrel;have HB:=Ua hb;clear hb;cases k with
  |zero=>
   have KT:=fun W=>Qg4 W a n c .i64 0 (by omega) (by omega);have hl:(trimL ls).length=0:=(by rw[Q7];rfl);have Wz:=Ua hl;clear hl Q7
   go_wp2_with fail
   go_ret;exact ⟨by rw[Wz.out];rfl,HB.out⟩
  |succ m=>
   obtain ⟨x,hx⟩:∃x,ls[m]?=some x:=⟨_,Ub (by rw[H.out.len];omega)⟩;obtain ⟨b,o,rfl,F3,V0⟩:=(H.out.step HB.out).rd.at_ hx;have O7:(0:Int)<(m:Int)+1:=(by omega);have B6:ls.take (m+1)=ls.take m++[x]:=by rw[Tc,hx];rfl
   by_cases h0:x=0
   ·subst h0;have U1:trimL ls=trimL (ls.take m):=(by rw[Q7,B6,Q3o]);have HT:=Ua U1;clear Q7 U1 B6
    go_wp2_with fail
    exact ⟨⟨m,by omega,rfl,HT.out,HB.out⟩,by simp only[intOf];omega⟩
   ·have hl:(trimL ls).length=m+1:=(by rw[Q7,B6,Q51 _ h0];simp;have:=H.out.len;omega);have Wz:=Ua hl;clear hl Q7 B6;have y5:((x:Int)==0)=false:=(by simp;omega);have KT:=fun W=>Qg4 W (some ⟨b,o,none⟩) n c .i64 ((m:Int)+1) (by omega) (by omega)
    go_wp2_with fail
    go_ret;exact ⟨by rw[Wz.out];rfl,HB.out⟩
theorem Qg5 (a:OA) (n c:Nat) (ls:LN) (w:World) (h:WordsIn w a n c ls):
 Calls Tryz.prog 97 #[.slice a n c] w fun e w'=>e=.returned (.bool (decide ((trimL ls).length=n)))/\Bw w w':=by
 have hc:=Q1l a n c ls w h;have HC:=Ua hc;clear hc
 go_enter Tryz.func97,Tryz.ntmps97
 go_wp2_with (refine HC.out.mono ?_;rintro e w1 ⟨rfl,C0⟩;have K0:=Ua C0;clear C0)
 go_ret;refine ⟨?_,K0.out⟩
 show Ending.returned (.bool _)=_
 congr 2
 by_cases h:(trimL ls).length=n
 ·simp[h]
 ·have h2:¬(((trimL ls).length:Int)=(n:Int)):=by omega
  simp[h,h2]
theorem Qam:∀f x,Lib.bitLenAux f x<=f
 |0,x=>by simp[Lib.bitLenAux]
 |f+1,x=>by
  have:=Qam f (x / 2);rw[Lib.bitLenAux]
  split <;> omega
theorem Qjj (x:Nat):Lib.bitLen x=0↔x=0:=by
 unfold Lib.bitLen;rw[Lib.bitLenAux]
 split <;> simp_all
theorem Qlg (a:OA) (n c:Nat) (ls:LN) (w:World) (h:WordsIn w a n c ls) (hn:n<=1000000):
 Calls Tryz.prog 89 #[.slice a n c] w fun e w'=>(∃k:Nat,e=.returned (.int .i64 (k:Int))/\(k=0↔val (2^64) ls=0))/\Bw w w':=by
 have hc:=Q1l a n c ls w h;have HC:=Ua hc;have ht:=h.trim;have hv:val (2^64) (trimL ls)=val (2^64) ls:=Q1d ls;have hla:=Qg1 ls;have Z5:=trim_len ls;have Z2:=h.len;obtain ⟨ts,hts⟩:∃ts,trimL ls=ts:=⟨_,rfl⟩;rw[hts] at hv hla Z5 ht HC;have HT:=Xh3 ht hv hla;clear hc ht hv hla hts h
 by_cases h0:ts.length=0
 ·have KZ:=UH.1 h0;subst KZ
  go_enter Tryz.func89,Tryz.ntmps89
  go_wp2_with (refine HC.out.mono ?_;rintro e w1 ⟨rfl,C0⟩;have K0:=Ua C0;clear C0)
  go_ret;exact ⟨⟨0,rfl,by rw[<-(Xo1 HT)];simp[val]⟩,K0.out⟩
 ·obtain ⟨m,hm⟩:∃m,ts.length=m+1:=⟨ts.length-1,by omega⟩;obtain ⟨x,hx⟩:∃x,ts[m]?=some x:=⟨_,Ub (by omega)⟩;have y5:x≠0:=(Xe2 HT) x (by rw[List.getLast?_eq_getElem?,hm];exact hx);have J3:x<2^64:=(Xo0 HT).low x (Ud hx);have J3:x<18446744073709551616:=J3;have R0:=fun W=>Tryz.Qzw (x:Int) W (by omega) (by omega);have F3:1<=Lib.bitLen x:=Nat.pos_of_ne_zero fun e=>y5 ((Qjj x).1 e);have hbu:Lib.bitLen x<=64:=Qam 64 x;have hvne:val (2^64) ls≠0:=fun e=>by
   have h1:=Qjc (B:=2^64) (by decide) ts (Xo0 HT).low (Xe2 HT);rw[(Xo1 HT),e,Q11] at h1;rw[<-h1] at hm;cases hm
  rw[Xa6] at R0;generalize Lib.bitLen x=L at R0 F3 hbu;have HLN:=Xh2 R0 hvne;rw[hm] at HC;clear R0 hvne h0
  go_enter Tryz.func89,Tryz.ntmps89
  go_wp2_with (first
   |(refine HC.out.mono ?_;rintro e w1 ⟨rfl,C0⟩;(obtain ⟨b,o,rfl,I7,V0⟩:=((Xo0 HT).step C0).rd.at_ hx);have K0:=Ua C0;clear C0)
   |(refine ((Xo0 HLN) _).mono ?_;rintro e w2 ⟨rfl,rfl⟩))
  go_ret;exact ⟨⟨64*m+L,rfl,⟨fun e=>by omega,fun e=>absurd e (Xe1 HLN)⟩⟩,K0.out⟩
end Go.Proofs.YtdilmfakkppgpaaGreatDoor
