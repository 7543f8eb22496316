/- Part 2. No condition. -/
import Derived.Shelf.Strings.Builder1
import Derived.Shelf.Strings.Builder2
import Derived.Shelf.Strings.OnBuilder
import Derived.Shelf.Strings.Trim
import Derived.Shelf.Small.Utf8
import Derived.Shelf.Small.Bits
import Derived.Shelf.Small.Strs
import Derived.Shelf.Small.Wraps
import Derived.Shelf.Strings.BuilderF
import Derived.Shelf.Strings.BuilderK
import Derived.Shelf.Strings.Builder2Cap
import Derived.Shelf.Strconv.Atoi
import Derived.Shelf.Strconv.Itoa0
import Derived.Shelf.Strconv.Itoa1
import Derived.Shelf.LaysM
import Derived.Shelf.Strconv.Itoa2
import Derived.Shelf.Strconv.Itoa3
import Derived.Shelf.Strconv.Itoa4
import Derived.Shelf.Strconv.AtoiErrFast
import Derived.Shelf.Strconv.ParseIntEmpty
import Derived.Shelf.Strconv.AtoiFail
import Derived.Shelf.Strconv.Clone
import Derived.Shelf.Strconv.SyntaxError
import Derived.Shelf.LaysC
import Derived.Shelf.Strconv.ToError
import Derived.Shelf.Strconv.Lower
import Derived.Shelf.Strconv.ParseUint10
import Derived.Shelf.Strconv.ParseUint10Empty
import Derived.Shelf.Strconv.ParseUint10Any
import Derived.Shelf.Strconv.ParseInt10
import Derived.Shelf.Strconv.AtoiLong
import Derived.Shelf.Strconv.AtoiInnerAll
import Derived.Shelf.Strconv.RangeError
import Derived.Shelf.Strconv.ToErrorRange
import Derived.Shelf.Strconv.AtoiAll
import Derived.Shelf.Strconv.ErrVarAll
import Derived.Shelf.Strconv.ParseUintEmpty
import Derived.Shelf.Strconv.ParseUint10b64
import Derived.Shelf.Strconv.ParseUint10b32
import Derived.Shelf.Strconv.ParseUint10b16
import Derived.Shelf.Strconv.ParseUint10b8
import Derived.Shelf.Strconv.ParseUint10At
import Derived.Shelf.Strconv.ParseInt10At64
import Derived.Shelf.Strconv.ParseInt10At32
import Derived.Shelf.Strconv.ParseInt10At16
import Derived.Shelf.Strconv.ParseInt10At8
import Derived.Shelf.Strconv.ParseInt10All
import Derived.Shelf.Strconv.ParseIntPublic10
import Derived.Shelf.Strconv.ErrVarParseInt
import Derived.Ground.MpProg
import Derived.Shelf.Pu.ParseUintPublic10
import Derived.Shelf.Pu.ErrVarParseUint
import Derived.Shelf.Strings.Search1
import Derived.Shelf.Strings.Search2
import Derived.Shelf.Strings.Search3
import Derived.Shelf.Strings.Cut
import Derived.Shelf.Strings.Count
import Derived.Shelf.Strings.Shaped
import Derived.Shelf.Strings.Prefix
import Derived.Shelf.Strings.Split
import Derived.Shelf.Strings.Runes
import Derived.Shelf.Strings.AsciiSet
import Derived.Shelf.Bits.Mul64
import Derived.Shelf.Strings.Repeat
import Derived.Shelf.Unicode.DecodeSlow
import Derived.Shelf.Strings.BuilderCap
import Derived.Shelf.Slices.Equal
import Derived.Ground.Names2Prog
import Derived.Shelf.Slices.SearchI
import Derived.Shelf.Slices.Empties2
import Derived.Ground.SlgnProg
import Derived.Shelf.SlicesG.Clone
import Derived.Shelf.SlicesE.Equal
import Derived.Shelf.SlicesE.Clone
import Derived.Ground.SlgcProg
import Derived.Shelf.SlicesG.Cmp
import Derived.BigQuiet
import Derived.Deep.CutBlock
import Derived.Deep.DeepCutAuto
import Derived.Deep.RegionLaw
import Derived.Shelf.Spec.BitsCarry
import Derived.WalkMore
import Derived.Test.YtidojbkhlenahaaGreatDoorPkProblemDrawn01
set_option maxRecDepth 100000
set_option maxHeartbeats 16000000
namespace Go.Proofs
open Go.Shelf
def Tryz.Qz9:Go.Shelf.Ren:=⟨fun|169=>39|n=>n,fun|70=>54|9=>9|0=>0|72=>57|37=>55|127=>95|3=>3|5=>5|n=>n,fun|n=>n⟩
theorem Tryz.Qza:Go.Proofs.Lays.n169 Tryz.prog Tryz.Qz9:=by repeat' first|kernel_rfl|(intros;kernel_rfl)|decide|constructor
theorem Tryz.Qzb:Builder.Extra Tryz.prog Tryz.Qz9:=by repeat' first|kernel_rfl|(intros;kernel_rfl)|decide|constructor
open Go.RowKit in
theorem Tryz.Qzc (B b:Nat) (l:LU) (w:World) (h:Lib.IsBuilder 57 5 B b (Lib.byteCells l) w) (h0:l≠[]):
 Calls Tryz.prog 39 #[.pointer (some ⟨b,0,none⟩)] w fun e w'=>e=.returned (.string ⟨l.toArray⟩)/\Below B w w':=Any.Builder_String Tryz.Qza Tryz.Qzb B b l w h h0
open Go.RowKit in
theorem Tryz.Qzd (B b:Nat) (l:LU) (w:World) (h:Lib.IsBuilder 57 5 B b (Lib.byteCells l) w) (hBw:B<=w.heap.size):
 Calls Tryz.prog 39 #[.pointer (some ⟨b,0,none⟩)] w fun e w'=>e=.returned (.string ⟨l.toArray⟩)/\Below B w w':=Any.Builder_String_any Tryz.Qza Tryz.Qzb B b l w h hBw
def Tryz.Qze:Go.Shelf.Ren:=⟨fun|156=>36|165=>66|166=>35|169=>39|240=>65|241=>107|276=>106|277=>153|n=>n,fun|31=>39|9=>9|3=>3|4=>4|0=>0|20=>20|72=>57|76=>60|70=>54|37=>55|75=>59|127=>95|164=>142|5=>5|80=>66|n=>n,fun|n=>n⟩
theorem Tryz.Qzf:Go.Proofs.Lays.n156 Tryz.prog Tryz.Qze:=by repeat' first|kernel_rfl|(intros;kernel_rfl)|decide|constructor
theorem Tryz.Qzg:Builder.Extra Tryz.prog Tryz.Qze:=by repeat' first|kernel_rfl|(intros;kernel_rfl)|decide|constructor
open Go.RowKit in
theorem Tryz.Qzh (a:OA) (c:Nat) (sep:ByteArray) (w:World):
 Calls Tryz.prog 36 #[.slice a 0 c,.string sep] w fun e w'=>e=.returned (.string ⟨#[]⟩)/\w'=w:=Any.strings_Join_none Tryz.Qzf Tryz.Qzg a c sep w
open Go.RowKit in
theorem Tryz.Qzi (bk o c:Nat) (xs:List ByteArray) (sep:ByteArray) (w:World) (A6:∀(j:Nat) x,xs[j]?=some x->w.cell? ⟨bk,o+j,none⟩=some (.string x)) (S5:bk<w.heap.size) (hN:xs.length<=140737488355328) (Q4:xs.length<=c) (O0:(Lib.join (xs.map (·.data.toList)) sep.data.toList).length<=140737488355328):
 Calls Tryz.prog 36 #[.slice (some ⟨bk,o,none⟩) xs.length c,.string sep] w fun e w'=>e=.returned (.string ⟨(Lib.join (xs.map (·.data.toList)) sep.data.toList).toArray⟩)/\Bw w w':=Any.strings_Join Tryz.Qzf Tryz.Qzg bk o c xs sep w A6 S5 hN Q4 O0
def Tryz.Qzj:Go.Shelf.Ren:=⟨fun|160=>174|232=>227|231=>226|227=>228|234=>230|233=>229|236=>232|235=>231|228=>258|271=>261|151=>260|197=>259|120=>290|152=>289|260=>288|137=>124|119=>307|224=>271|225=>270|217=>172|266=>224|n=>n,fun|9=>9|4=>4|3=>3|5=>5|117=>263|116=>262|0=>0|124=>266|21=>21|105=>279|46=>149|119=>316|139=>319|138=>318|n=>n,fun|3=>8|4=>9|n=>n⟩
theorem Tryz.Qzk:Go.Proofs.Lays.n160 Tryz.prog Tryz.Qzj:=by repeat' first|kernel_rfl|(intros;kernel_rfl)|decide|constructor
def Tryz.Qzl:Go.Shelf.Ren:=⟨fun|134=>214|129=>202|n=>n,fun|53=>83|3=>3|4=>4|46=>149|5=>5|9=>9|n=>n,fun|n=>n⟩
theorem Tryz.Qzm:Go.Proofs.Lays.n134 Tryz.prog Tryz.Qzl:=by repeat' first|kernel_rfl|(intros;kernel_rfl)|decide|constructor
theorem Tryz.Qzn (x:Int) (w:World) (h0:0<=x) (h1:x<=18446744073709551615):
 Calls Tryz.prog 214 #[.int .u64 x] w fun e w'=>e=.returned (.int .i64 (64-(Lib.bitLen x.toNat:Int)))/\w'=w:=Any.bits_LeadingZeros64 Tryz.Qzm x w h0 h1
def Tryz.Qzo:Go.Shelf.Ren:=⟨fun|137=>124|217=>172|266=>224|n=>n,fun|9=>9|5=>5|3=>3|n=>n,fun|n=>n⟩
theorem Tryz.Qzp:Go.Proofs.Lays.n137 Tryz.prog Tryz.Qzo:=by repeat' first|kernel_rfl|(intros;kernel_rfl)|decide|constructor
open Go.RowKit in
theorem Tryz.Qzq (s:ByteArray) (c:Int) (w:World):
 Calls Tryz.prog 124 #[.string s,.int .u8 c] w fun e w'=>e=.returned (.int .i64 (Lib.indexByte s.data.toList c.toNat.toUInt8))/\w'=w:=Any.strings_IndexByte Tryz.Qzp s c w
def Tryz.Qzr:Go.Shelf.Ren:=⟨fun|103=>173|210=>225|206=>221|n=>n,fun|9=>9|4=>4|24=>126|3=>3|n=>n,fun|n=>n⟩
theorem Tryz.Qzs:Go.Proofs.Lays.n103 Tryz.prog Tryz.Qzr:=by repeat' first|kernel_rfl|(intros;kernel_rfl)|decide|constructor
open Go.RowKit in
theorem Tryz.Qzt (s p:ByteArray) (w:World):
 Calls Tryz.prog 173 #[.string s,.string p] w fun e w'=>e=.returned (.tuple #[.string ⟨(Lib.trimPrefix s.data.toList p.data.toList).toArray⟩,.bool (Lib.hasPrefix s.data.toList p.data.toList)])/\w'=w:=Any.strings_CutPrefix Tryz.Qzs s p w
def Tryz.Qzu:Go.Shelf.Ren:=⟨fun|215=>147|n=>n,fun|3=>3|4=>4|n=>n,fun|n=>n⟩
def Tryz.Qzv:Go.Shelf.Ren:=⟨fun|122=>97|215=>147|n=>n,fun|3=>3|4=>4|n=>n,fun|n=>n⟩
theorem Tryz.Qzw:Go.Proofs.Lays.n122 Tryz.prog Tryz.Qzv:=by repeat' first|kernel_rfl|(intros;kernel_rfl)|decide|constructor
open Go.RowKit in
theorem Tryz.Qzx (x y:Int) (w:World):
 Calls Tryz.prog 97 #[.int .i64 x,.int .i64 y] w fun e w'=>e=.returned (.int .i64 (Lib.compareInt x y))/\w'=w:=Any.cmp_Compare_int Tryz.Qzw x y w
def Tryz.Qzy:Go.Shelf.Ren:=⟨fun|172=>175|244=>233|245=>234|247=>262|279=>263|280=>264|281=>265|282=>266|287=>291|316=>292|171=>37|205=>293|321=>308|322=>309|243=>67|246=>108|283=>154|284=>155|285=>156|286=>157|129=>202|317=>209|318=>210|319=>211|320=>212|337=>254|338=>255|n=>n,fun|9=>9|3=>3|75=>59|76=>60|4=>4|5=>5|167=>282|37=>55|0=>0|85=>283|2=>2|168=>285|53=>83|175=>304|46=>149|210=>308|127=>95|145=>324|143=>322|21=>21|171=>202|173=>205|212=>249|51=>150|20=>20|213=>250|232=>301|233=>302|80=>66|n=>n,fun|15=>6|16=>7|17=>1|18=>4|19=>5|n=>n⟩
theorem Tryz.Qzz:Go.Proofs.Lays.n172 Tryz.prog Tryz.Qzy:=by repeat' first|kernel_rfl|(intros;kernel_rfl)|decide|constructor
open Go.RowKit in
theorem Tryz.J00 (s:ByteArray) (n:Int) (hl:s.size<=18) (h:Lib.atoi s.data.toList=some n) (w:World):
 Calls Tryz.prog 175 #[.string s] w fun e w'=>e=.returned (.tuple #[.int .i64 n,.nilIface])/\∃t,w'=Lib.bytesWorld w 5 t:=Any.strconv_Atoi Tryz.Qzz s n hl h w
def Tryz.J01:Go.Shelf.Ren:=⟨fun|129=>202|n=>n,fun|53=>83|3=>3|4=>4|46=>149|5=>5|9=>9|n=>n,fun|n=>n⟩
theorem Tryz.J02:Go.Proofs.Lays.n129 Tryz.prog Tryz.J01:=by repeat' first|kernel_rfl|(intros;kernel_rfl)|decide|constructor
theorem Tryz.J03 (x:Int) (w:World) (h0:0<=x) (h1:x<=18446744073709551615):
 Calls Tryz.prog 202 #[.int .u64 x] w fun e w'=>e=.returned (.int .i64 (Lib.bitLen x.toNat))/\w'=w:=Any.bits_Len64 Tryz.J02 x w h0 h1
def Tryz.J04:Go.Shelf.Ren:=⟨fun|283=>154|n=>n,fun|3=>3|9=>9|4=>4|n=>n,fun|n=>n⟩
theorem Tryz.J05:Go.Proofs.Lays.n283 Tryz.prog Tryz.J04:=by repeat' first|kernel_rfl|(intros;kernel_rfl)|decide|constructor
open Go.Lib in
theorem Tryz.J06 (i:Nat) (h:i<100) (w:World):
 Calls Tryz.prog 154 #[.int .i64 i] w fun e w'=>e=.returned (.string ⟨(Lib.decDigits i).toArray⟩)/\w'=w:=Any.internal_strconv_small Tryz.J05 i h w
def Tryz.J07:Go.Shelf.Ren:=⟨fun|284=>155|129=>202|317=>209|318=>210|n=>n,fun|53=>83|3=>3|212=>249|0=>0|4=>4|46=>149|5=>5|9=>9|n=>n,fun|17=>1|n=>n⟩
theorem Tryz.J08:Go.Proofs.LaysM.n284 Tryz.prog Tryz.J07:=by repeat' first|kernel_rfl|(intros;kernel_rfl)|decide|constructor
open Go.Lib in
theorem Tryz.J09 (u:Nat) (h1:1<=u) (h2:u<18446744073709551616) (w:World) (t6:Lib.TabIs Tryz.prog w "internal/strconv.uint64pow10" .u64 Lib.pow10Tab):
 Calls Tryz.prog 155 #[.int .u64 u] w fun e w'=>e=.returned (.int .i64 (Lib.nDigits u))/\w'=w:=Any.internal_strconv_numDigits Tryz.J08 u h1 h2 w t6
def Tryz.J0a:Go.Shelf.Ren:=⟨fun|285=>156|n=>n,fun|37=>55|53=>83|3=>3|4=>4|51=>150|9=>9|5=>5|0=>0|n=>n,fun|n=>n⟩
theorem Tryz.J0b:Go.Proofs.Lays.n285 Tryz.prog Tryz.J0a:=by repeat' first|kernel_rfl|(intros;kernel_rfl)|decide|constructor
open Go.RowKit Go.Sort Go.Lib in
theorem Tryz.J0c (blk off cap:Nat) (u:Nat) (d:Array UInt8) (w:World) (hH:Holds (fun (b:UInt8)=>Value.int .u8 (b.toNat:Int)) w blk off d) (hu:u<10^d.size) (Zi:u<18446744073709551616) (F2:d.size<4611686018427387904):
 Calls Tryz.prog 156 #[.slice (some ⟨blk,off,none⟩) d.size cap,.int .u64 u] w fun e w'=>
  e=.returned (.tuple #[])/\∃(n v':Nat) (dk:Array UInt8),w'=(putRow (fun (b:UInt8)=>Value.int .u8 (b.toNat:Int)) w blk off dk).drewN n/\FmtInv d.size u 0 v' dk:=Any.internal_strconv_formatBase10 Tryz.J0b blk off cap u d w hH hu Zi F2
def Tryz.J0d:Go.Shelf.Ren:=⟨fun|246=>108|283=>154|284=>155|285=>156|286=>157|129=>202|317=>209|318=>210|319=>211|320=>212|337=>254|338=>255|n=>n,fun|2=>2|3=>3|9=>9|4=>4|171=>202|0=>0|53=>83|37=>55|5=>5|173=>205|212=>249|51=>150|20=>20|213=>250|46=>149|232=>301|233=>302|n=>n,fun|17=>1|18=>4|19=>5|n=>n⟩
def Tryz.J0e:Go.Shelf.Ren:=⟨fun|243=>67|246=>108|283=>154|284=>155|285=>156|286=>157|129=>202|317=>209|318=>210|319=>211|320=>212|337=>254|338=>255|n=>n,fun|3=>3|9=>9|2=>2|4=>4|171=>202|0=>0|53=>83|37=>55|5=>5|173=>205|212=>249|51=>150|20=>20|213=>250|46=>149|232=>301|233=>302|n=>n,fun|17=>1|18=>4|19=>5|n=>n⟩
def Tryz.J0f:Go.Shelf.Ren:=⟨fun|171=>37|243=>67|246=>108|283=>154|284=>155|285=>156|286=>157|129=>202|317=>209|318=>210|319=>211|320=>212|337=>254|338=>255|n=>n,fun|3=>3|9=>9|2=>2|4=>4|171=>202|0=>0|53=>83|37=>55|5=>5|173=>205|212=>249|51=>150|20=>20|213=>250|46=>149|232=>301|233=>302|n=>n,fun|17=>1|18=>4|19=>5|n=>n⟩
theorem Tryz.J0g:Go.Proofs.LaysM.n171 Tryz.prog Tryz.J0f:=by repeat' first|kernel_rfl|(intros;kernel_rfl)|decide|constructor
open Go.RowKit Go.Sort Go.Lib in
theorem Tryz.J0h (n:Int) (h0: -9223372036854775808<=n) (h1:n<=9223372036854775807) (w:World) (t6:Lib.TabIs Tryz.prog w "internal/strconv.uint64pow10" .u64 Lib.pow10Tab):
 Calls Tryz.prog 37 #[.int .i64 n] w fun e w'=>e=.returned (.string ⟨(Lib.itoa n).toArray⟩)/\∃k os,w'=grow (w.drewN k) os:=Any.strconv_Itoa Tryz.J0g n h0 h1 w t6
def Tryz.J0i:Go.Shelf.Ren:=⟨fun|171=>37|243=>67|246=>108|283=>154|284=>155|285=>156|286=>157|129=>202|317=>209|318=>210|319=>211|320=>212|337=>254|338=>255|n=>n,fun|3=>3|9=>9|2=>2|4=>4|171=>202|0=>0|53=>83|37=>55|5=>5|173=>205|212=>249|51=>150|20=>20|213=>250|46=>149|232=>301|233=>302|n=>n,fun|17=>1|18=>4|19=>5|n=>n⟩
theorem Tryz.J0j:Go.Proofs.Lays.n171 Tryz.prog Tryz.J0i:=by repeat' first|kernel_rfl|(intros;kernel_rfl)|decide|constructor
open Go.RowKit Go.Sort Go.Lib in
theorem Tryz.J0k (i:Nat) (hi:i<100) (w:World):
 Calls Tryz.prog 37 #[.int .i64 i] w fun e w'=>e=.returned (.string ⟨(Lib.decDigits i).toArray⟩)/\w'=w:=Any.strconv_Itoa_small Tryz.J0j i hi w
def Tryz.J0l:Go.Shelf.Ren:=⟨fun|173=>69|246=>108|283=>154|284=>155|285=>156|286=>157|129=>202|317=>209|318=>210|319=>211|320=>212|337=>254|338=>255|n=>n,fun|2=>2|3=>3|9=>9|4=>4|171=>202|0=>0|53=>83|37=>55|5=>5|173=>205|212=>249|51=>150|20=>20|213=>250|46=>149|232=>301|233=>302|n=>n,fun|17=>1|18=>4|19=>5|n=>n⟩
theorem Tryz.J0m:Go.Proofs.LaysM.n173 Tryz.prog Tryz.J0l:=by repeat' first|kernel_rfl|(intros;kernel_rfl)|decide|constructor
open Go.RowKit Go.Sort Go.Lib in
theorem Tryz.J0n (n:Int) (h0: -9223372036854775808<=n) (h1:n<=9223372036854775807) (w:World) (t6:Lib.TabIs Tryz.prog w "internal/strconv.uint64pow10" .u64 Lib.pow10Tab):
 Calls Tryz.prog 69 #[.int .i64 n,.int .i64 10] w fun e w'=>e=.returned (.string ⟨(Lib.itoa n).toArray⟩)/\∃k os,w'=grow (w.drewN k) os:=Any.strconv_FormatInt_10 Tryz.J0m n h0 h1 w t6
def Tryz.J0o:Go.Shelf.Ren:=⟨fun|174=>294|247=>262|245=>234|287=>291|279=>263|280=>264|281=>265|282=>266|321=>308|322=>309|316=>292|171=>37|205=>293|243=>67|246=>108|283=>154|284=>155|285=>156|286=>157|129=>202|317=>209|318=>210|319=>211|320=>212|337=>254|338=>255|n=>n,fun|9=>9|3=>3|2=>2|75=>59|85=>283|4=>4|167=>282|5=>5|53=>83|175=>304|46=>149|168=>285|37=>55|0=>0|210=>308|21=>21|127=>95|145=>324|143=>322|171=>202|173=>205|212=>249|51=>150|20=>20|213=>250|232=>301|233=>302|80=>66|n=>n,fun|15=>6|16=>7|17=>1|18=>4|19=>5|n=>n⟩
theorem Tryz.J0p:Go.Proofs.LaysC.n174 Tryz.prog Tryz.J0o:=by repeat' first|kernel_rfl|(intros;kernel_rfl)|decide|constructor
open Go.RowKit in
theorem Tryz.J0q (s:ByteArray) (hmax:s.size<=9223372036854775806) (v:Int) (h:Lib.parseIntB 64 s.data.toList=.ok v) (w:World):
 Calls Tryz.prog 294 #[.string s,.int .i64 10,.int .i64 64] w fun e w'=>e=.returned (.tuple #[.int .i64 v,.nilIface])/\(w'=w∨∃t,w'=Lib.bytesWorld w 5 t):=Any.strconv_ParseInt_10_at64_ok Tryz.J0p s hmax v h w
def Tryz.J0r:Go.Shelf.Ren:=⟨fun|14=>295|16=>291|17=>234|19=>308|20=>309|21=>263|22=>264|23=>265|24=>266|25=>292|27=>37|26=>293|28=>67|29=>108|30=>154|31=>155|32=>156|33=>157|35=>202|34=>209|36=>210|37=>211|38=>212|39=>254|40=>255|n=>n,fun|9=>9|3=>3|22=>83|24=>59|25=>304|4=>4|34=>282|5=>5|36=>149|37=>55|0=>0|39=>285|21=>21|44=>308|47=>95|50=>324|48=>322|2=>2|52=>202|55=>205|59=>249|60=>150|20=>20|61=>250|65=>301|66=>302|67=>66|n=>n,fun|0=>6|1=>7|2=>1|3=>4|4=>5|n=>n⟩
theorem Tryz.J0s:Go.Proofs.LaysPu.n14 Tryz.prog Tryz.J0r:=by repeat' first|kernel_rfl|(intros;kernel_rfl)|decide|constructor
open Go.RowKit in
theorem Tryz.J0t (s:ByteArray) (hmax:s.size<=9223372036854775806) (u:Nat) (h:Lib.parseUintB 64 s.data.toList=.ok u) (w:World):
 Calls Tryz.prog 295 #[.string s,.int .i64 10,.int .i64 64] w fun e w'=>e=.returned (.tuple #[.int .u64 u,.nilIface])/\(w'=w∨w'=Lib.bytesWorld w 5 s):=Any.strconv_ParseUint_10_at64_ok Tryz.J0s s hmax u h w
def Tryz.J0u:Go.Shelf.Ren:=⟨fun|219=>237|217=>172|225=>270|224=>271|267=>272|266=>224|314=>297|n=>n,fun|9=>9|3=>3|4=>4|5=>5|46=>149|146=>257|51=>150|n=>n,fun|1=>0|n=>n⟩
theorem Tryz.J0v:Go.Proofs.Lays.n219 Tryz.prog Tryz.J0u:=by repeat' first|kernel_rfl|(intros;kernel_rfl)|decide|constructor
open Go.RowKit Go.Lib in
theorem Tryz.J0w (s:ByteArray) (c:UInt8) (w:World):
 Calls Tryz.prog 237 #[.string s,.string ⟨#[c]⟩] w fun e w'=>e=.returned (.int .i64 (Lib.indexByte s.data.toList c))/\w'=w:=Any.stringslite_Index_one Tryz.J0v s c w
def Tryz.J0x:Go.Shelf.Ren:=⟨fun|138=>128|195=>178|218=>179|143=>180|219=>237|217=>172|225=>270|224=>271|267=>272|266=>224|314=>297|n=>n,fun|9=>9|3=>3|4=>4|5=>5|0=>0|46=>149|146=>257|51=>150|n=>n,fun|1=>0|n=>n⟩
theorem Tryz.J0y:Go.Proofs.Lays.n138 Tryz.prog Tryz.J0x:=by repeat' first|kernel_rfl|(intros;kernel_rfl)|decide|constructor
open Go.RowKit Go.Lib in
theorem Tryz.J0z (s:ByteArray) (c:UInt8) (w:World):
 Calls Tryz.prog 128 #[.string s,.string ⟨#[c]⟩] w fun e w'=>e=.returned (.int .i64 (Lib.countByte s.data.toList c))/\w'=w:=Any.strings_Count_one Tryz.J0y s c w
def Tryz.J10:Go.Shelf.Ren:=⟨fun|264=>220|n=>n,fun|53=>83|46=>149|n=>n,fun|n=>n⟩
theorem Tryz.J11:Go.Proofs.Lays.n264 Tryz.prog Tryz.J10:=by repeat' first|kernel_rfl|(intros;kernel_rfl)|decide|constructor
open Go.RowKit Go.Lib in
theorem Tryz.J12 (x y:Nat) (hx:x<18446744073709551616) (hy:y<18446744073709551616) (w:World):
 Calls Tryz.prog 220 #[.int .u64 x,.int .u64 y] w fun e w'=>e=.returned (.tuple #[.int .u64 ((x*y / 18446744073709551616:Nat):Int),.int .u64 ((x*y%18446744073709551616:Nat):Int)])/\w'=w:=Any.bits_Mul64 Tryz.J11 x y hx hy w
def Tryz.J13:Go.Shelf.Ren:=⟨fun|105=>111|212=>161|99=>162|165=>66|166=>35|170=>163|169=>39|263=>219|264=>220|206=>221|240=>65|241=>107|276=>106|277=>153|n=>n,fun|9=>9|3=>3|4=>4|20=>20|0=>0|46=>149|109=>211|5=>5|72=>57|76=>60|51=>150|146=>257|53=>83|148=>252|70=>54|37=>55|75=>59|127=>95|164=>142|80=>66|n=>n,fun|n=>n⟩
theorem Tryz.J14:Go.Proofs.Lays.n105 Tryz.prog Tryz.J13:=by repeat' first|kernel_rfl|(intros;kernel_rfl)|decide|constructor
theorem Tryz.J15:Builder.Extra Tryz.prog Tryz.J13:=by repeat' first|kernel_rfl|(intros;kernel_rfl)|decide|constructor
open Go.RowKit Go.Lib in
theorem Tryz.J16 (s:ByteArray) (c:Nat) (w:World) (hc:c<=9223372036854775807) (O0:s.size*c<=140737488355328):
 Calls Tryz.prog 111 #[.string s,.int .i64 c] w fun e w'=>e=.returned (.string ⟨(Lib.repeatL s.data.toList c).toArray⟩)/\Bw w w':=Any.strings_Repeat Tryz.J14 Tryz.J15 s c w hc O0
def Tryz.J17:Go.Shelf.Ren:=⟨fun|41=>187|n=>n,fun|22=>96|23=>3|4=>4|n=>n,fun|n=>n⟩
def Tryz.J18:Go.Shelf.Ren:=⟨fun|41=>187|n=>n,fun|22=>96|23=>3|4=>4|n=>n,fun|n=>n⟩
theorem Tryz.J19:Go.Proofs.SlLaysE0.n41 Tryz.prog Tryz.J18:=by
 constructor
 case f41=>exact ⟨Tryz.f187.name,by decide,Tryz.func187.trans (congrArg some (by kernel_rfl))⟩
 all_goals first|kernel_rfl|(intros;kernel_rfl)|decide
open Go.RowKit Go.Lib in
theorem Tryz.J1a (i0:TypeInfo) (z:Value) (size bytes:Nat) (hi:Tryz.prog.info? 3=some i0) (E2:i0.zero=some z) (O1:i0.size=size) (Y1:i0.bytes=bytes) (Xk:z.cells.size=size) (F2:0<size) (z23:∀w,(Go.sizeOf 3).run Tryz.prog w=.ok size w) (b off n c:Nat) (news:LV) (w:World) (hl:news.length=n*size) (hn:n<=maxLen) (hbig:n*bytes<=140737488355328) (hc:∀j u,news[j]?=some u->w.cell? ⟨b,off+j,none⟩=some u) (h1:∀u∈news,u.oneCell'=true):
 Calls Tryz.prog 187 #[.slice (some ⟨b,off,none⟩) n c] w fun e w'=>∃v',e=.returned v'/\w'.ownsRow w.heap.size 3 size v' n news/\v'≠.slice none 0 0/\Bw w w':=AnyE.slices_Clone Tryz.J19 i0 z size bytes hi E2 O1 Y1 Xk F2 z23 b off n c news w hl hn hbig hc h1
def Tryz.J1b:Go.Shelf.Ren:=⟨fun|41=>203|n=>n,fun|22=>24|23=>83|4=>4|n=>n,fun|n=>n⟩
theorem Tryz.J1c:Go.Proofs.SlLaysE0.n41 Tryz.prog Tryz.J1b:=by
 constructor
 case f41=>exact ⟨Tryz.f203.name,by decide,Tryz.func203.trans (congrArg some (by kernel_rfl))⟩
 all_goals first|kernel_rfl|(intros;kernel_rfl)|decide
open Go.RowKit Go.Lib in
theorem Tryz.J1d (i0:TypeInfo) (z:Value) (size bytes:Nat) (hi:Tryz.prog.info? 83=some i0) (E2:i0.zero=some z) (O1:i0.size=size) (Y1:i0.bytes=bytes) (Xk:z.cells.size=size) (F2:0<size) (z23:∀w,(Go.sizeOf 83).run Tryz.prog w=.ok size w) (b off n c:Nat) (news:LV) (w:World) (hl:news.length=n*size) (hn:n<=maxLen) (hbig:n*bytes<=140737488355328) (hc:∀j u,news[j]?=some u->w.cell? ⟨b,off+j,none⟩=some u) (h1:∀u∈news,u.oneCell'=true):
 Calls Tryz.prog 203 #[.slice (some ⟨b,off,none⟩) n c] w fun e w'=>∃v',e=.returned v'/\w'.ownsRow w.heap.size 83 size v' n news/\v'≠.slice none 0 0/\Bw w w':=AnyE.slices_Clone Tryz.J1c i0 z size bytes hi E2 O1 Y1 Xk F2 z23 b off n c news w hl hn hbig hc h1
open Go.RowKit Go.Lib in
theorem Tryz.J1e (n c:Nat) (w:World):
 Calls Tryz.prog 203 #[.slice none n c] w fun e w'=>e=.returned (.slice none 0 0)/\w'=w:=AnyE.slices_Clone_nil Tryz.J1c n c w
end Go.Proofs
namespace Go.Proofs.YtidojbkhlenahaaGreatDoor
open Go.RowKit WordsM
theorem Qm7:Tryz.prog.underlying 24=some (.slice (Tryz.prog.elem 24)):=by kernel_rfl
theorem Qet (w:World):(sizeOf (Tryz.prog.elem 24)).run Tryz.prog w=.ok 1 w:=by kernel_rfl
theorem Qg2 (w:World) (a:OA) (len cap:Nat) (kh:IntKind) (h:Int) (h0:0<=h) (h2:h<=cap):
 (Instr.slice 24 (.slice a len cap) none (some (.int kh h)) none).run Tryz.prog w=.ok (.slice a h.toNat cap) w:=by
 rw[run_slice_h w _ a len cap Qm7 kh h h0 h2,Qet];have:=Qbj a cap 1
 show Result.ok (Value.slice (Qof a cap 0 1) _ _) w=_
 rw[this,Nat.sub_zero,Nat.sub_zero]
structure WordsIn (w:World) (a:OA) (n c:Nat) (ls:LN):Prop where
 len:ls.length=n
 cap:n<=c
 most:c<=9223372036854775807
 low:Low (2^64) ls
 rd:RdI .u64 w w.heap.size a ls
theorem WordsIn.step {w w':World} {a:OA} {n c:Nat} {ls:LN} (h:WordsIn w a n c ls) (hb:Bw w w'):WordsIn w' a n c ls:=⟨h.len,h.cap,h.most,h.low,h.rd.step hb⟩
structure Q44 (w0 w:World) (a:OA) (n c:Nat) (ls:LN):Prop extends WordsIn w a n c ls where
 new:ls=[]∨∀x,a=some x->w0.heap.size<=x.block
theorem Q44.lower {w0 w1 w:World} {a:OA} {n c:Nat} {ls:LN} (h:Q44 w1 w a n c ls) (hb:w0.heap.size<=w1.heap.size):Q44 w0 w a n c ls:=⟨h.toWordsIn,h.new.imp id fun h2 x hx=>Uj hb (h2 x hx)⟩
theorem Q44.on {w0 w w':World} {a:OA} {n c:Nat} {ls:LN} (h:Q44 w0 w a n c ls) (h':WordsIn w' a n c ls):Q44 w0 w' a n c ls:=⟨h',h.new⟩
theorem Q44.nil_ (w0 w:World):Q44 w0 w none 0 0 []:=⟨⟨rfl,Ue _,Uv _,fun x hx=>by simp at hx,.inl rfl⟩,.inl rfl⟩
theorem WordsIn.trim {w:World} {a:OA} {n c:Nat} {ls:LN} (h:WordsIn w a n c ls):WordsIn w a (trimL ls).length c (trimL ls):=by
 have h1:=trim_len ls;have h2:=h.len;have h3:=h.cap;refine ⟨rfl,by omega,h.most,Qer h.low,?_⟩;rw[<-Q3e ls];exact h.rd.front _
theorem Q1e (a:OA) (n c:Nat) (ls:LN) (w:World) (h:WordsIn w a n c ls):
 Calls Tryz.prog 144 #[.slice a n c] w fun e w'=>e=.returned (.slice a (trimL ls).length c)/\Bw w w':=by
 have Q4:=h.cap;have Yn:=h.most;have H:=Ua h;clear h
 go_enter Tryz.func144,Tryz.ntmps144
 go_wp2_with fail
 go_loopw [3] (fun v wr=>∃k:Nat,k<=n/\v=.int .i64 (k:Int)/\trimL ls=trimL (ls.take k)/\Bw w wr) (fun v _=>(intOf v).toNat)
 case atStart=>exact ⟨n,Ue _,rfl,by rw[Uw (by rw[H.out.len];exact Ue _)],Ud _ _⟩
 case round=>
  obtain ⟨k,hk,rfl,Qo,hb⟩:=hrel;have HB:=Ua hb;clear hb;cases k with
  |zero=>
   have QX:=fun W=>Qg2 W a n c .i64 0 (by omega) (by omega);have hl:(trimL ls).length=0:=(by rw[Qo];rfl);have WH:=Ua hl;clear hl Qo
   go_wp2_with fail
   go_ret;exact ⟨by rw[WH.out];rfl,HB.out⟩
  |succ m=>
   obtain ⟨x,hx⟩:∃x,ls[m]?=some x:=⟨_,Ub (by rw[H.out.len];omega)⟩;obtain ⟨b,o,rfl,K4,J0⟩:=(H.out.step HB.out).rd.at_ hx;have KQ:(0:Int)<(m:Int)+1:=(by omega);have i4:ls.take (m+1)=ls.take m++[x]:=by rw[Tu,hx];rfl
   by_cases h0:x=0
   ·subst h0;have X2:trimL ls=trimL (ls.take m):=(by rw[Qo,i4,Q3t]);have HT:=Ua X2;clear Qo X2 i4
    go_wp2_with fail
    exact ⟨⟨m,by omega,rfl,HT.out,HB.out⟩,by simp only[intOf];omega⟩
   ·have hl:(trimL ls).length=m+1:=(by rw[Qo,i4,Q4v _ h0];simp;have:=H.out.len;omega);have WH:=Ua hl;clear hl Qo i4;have Y5:((x:Int)==0)=false:=(by simp;omega);have QX:=fun W=>Qg2 W (some ⟨b,o,none⟩) n c .i64 ((m:Int)+1) (by omega) (by omega)
    go_wp2_with fail
    go_ret;exact ⟨by rw[WH.out];rfl,HB.out⟩
theorem Qg3 (a:OA) (n c:Nat) (ls:LN) (w:World) (h:WordsIn w a n c ls):
 Calls Tryz.prog 94 #[.slice a n c] w fun e w'=>e=.returned (.bool (decide ((trimL ls).length=n)))/\Bw w w':=by
 have hc:=Q1e a n c ls w h;have HC:=Ua hc;clear hc
 go_enter Tryz.func94,Tryz.ntmps94
 go_wp2_with (refine HC.out.mono ?_;rintro e w1 ⟨rfl,C0⟩;have I0:=Ua C0;clear C0)
 go_ret;refine ⟨?_,I0.out⟩
 show Ending.returned (.bool _)=_
 congr 2
 by_cases h:(trimL ls).length=n
 ·simp[h]
 ·have h2:¬(((trimL ls).length:Int)=(n:Int)):=by omega
  simp[h,h2]
theorem Q4d:∀f x,Lib.bitLenAux f x<=f
 |0,x=>by simp[Lib.bitLenAux]
 |f+1,x=>by
  have:=Q4d f (x / 2);rw[Lib.bitLenAux]
  split <;> omega
theorem Qbl (x:Nat):Lib.bitLen x=0↔x=0:=by
 unfold Lib.bitLen;rw[Lib.bitLenAux]
 split <;> simp_all
theorem Qkx (a:OA) (n c:Nat) (ls:LN) (w:World) (h:WordsIn w a n c ls) (hn:n<=1000000):
 Calls Tryz.prog 145 #[.slice a n c] w fun e w'=>(∃k:Nat,e=.returned (.int .i64 (k:Int))/\(k=0↔val (2^64) ls=0))/\Bw w w':=by
 have hc:=Q1e a n c ls w h;have HC:=Ua hc;have ht:=h.trim;have hv:val (2^64) (trimL ls)=val (2^64) ls:=Q1c ls;have Wp:=Qbk ls;have J6:=trim_len ls;have P2:=h.len;obtain ⟨ts,Vm⟩:∃ts,trimL ls=ts:=⟨_,rfl⟩;rw[Vm] at hv Wp J6 ht HC;have HT:=Xh3 ht hv Wp;clear hc ht hv Wp Vm h
 by_cases h0:ts.length=0
 ·have JN:=UC.1 h0;subst JN
  go_enter Tryz.func145,Tryz.ntmps145
  go_wp2_with (refine HC.out.mono ?_;rintro e w1 ⟨rfl,C0⟩;have I0:=Ua C0;clear C0)
  go_ret;exact ⟨⟨0,rfl,by rw[<-(Xo1 HT)];simp[val]⟩,I0.out⟩
 ·obtain ⟨m,hm⟩:∃m,ts.length=m+1:=⟨ts.length-1,by omega⟩;obtain ⟨x,hx⟩:∃x,ts[m]?=some x:=⟨_,Ub (by omega)⟩;have Y5:x≠0:=(Xe2 HT) x (by rw[List.getLast?_eq_getElem?,hm];exact hx);have B4:x<2^64:=(Xo0 HT).low x (Ug hx);have B4:x<18446744073709551616:=B4;have O0:=fun W=>Tryz.J03 (x:Int) W (by omega) (by omega);have K4:1<=Lib.bitLen x:=Nat.pos_of_ne_zero fun e=>Y5 ((Qbl x).1 e);have G7:Lib.bitLen x<=64:=Q4d 64 x;have hvne:val (2^64) ls≠0:=fun e=>by
   have h1:=Qit (B:=2^64) (by decide) ts (Xo0 HT).low (Xe2 HT);rw[(Xo1 HT),e,Q14] at h1;rw[<-h1] at hm;cases hm
  rw[TS] at O0;generalize Lib.bitLen x=L at O0 K4 G7;have HLN:=Xh2 O0 hvne;rw[hm] at HC;clear O0 hvne h0
  go_enter Tryz.func145,Tryz.ntmps145
  go_wp2_with (first
   |(refine HC.out.mono ?_;rintro e w1 ⟨rfl,C0⟩;(obtain ⟨b,o,rfl,S5,J0⟩:=((Xo0 HT).step C0).rd.at_ hx);have I0:=Ua C0;clear C0)
   |(refine ((Xo0 HLN) _).mono ?_;rintro e w2 ⟨rfl,rfl⟩))
  go_ret;exact ⟨⟨64*m+L,rfl,⟨fun e=>by omega,fun e=>absurd e (Xe1 HLN)⟩⟩,I0.out⟩
theorem Q8y (x y c:Nat) (hx:x<18446744073709551616) (hy:y<18446744073709551616) (hc:c<=1) (w:World):
 (callFunc 256 #[.int .u64 x,.int .u64 y,.int .u64 c]).run Tryz.prog w=
   .ok (.value (.tuple #[.int .u64 (((x+y+c)%18446744073709551616:Nat):Int),.int .u64 (((x+y+c) / 18446744073709551616:Nat):Int)])) w:=by
 rw[run_callFunc_extern Tryz.func256 (by kernel_rfl) (by kernel_rfl) (by kernel_rfl) (e:=add64Entry) (by kernel_rfl),run_add64 x y c (by omega) (by omega) (by omega) (by omega)];simp only[Result.andThen]
 congr 5 <;> omega
theorem Q4s:(Tryz.prog.info? 83).map (fun i=>(i.zero,i.size,i.bytes))=some (some (.int .u64 0),1,8):=by kernel_rfl
theorem Qol:(Tryz.prog.info? 83).map (·.size)=some 1:=by kernel_rfl
def Qky (w:World) (v:Nat) (e:Ending) (w':World):Prop:=∃a n c,e=.returned (.slice a n c)/\Q44 w w' a n c (dig (2^64) v)/\Bw w w'
def Q8z (w:World) (v:Nat) (e:Ending) (w':World):Prop:=∃a n c,e=.returned (.slice a n c)/\WordsIn w' a n c (dig (2^64) v)/\Bw w w'
theorem Qky.out {w:World} {v:Nat} {e:Ending} {w':World} (h:Qky w v e w'):Q8z w v e w':=by
 obtain ⟨a,n,c,h1,h2,h3⟩:=h;exact ⟨a,n,c,h1,h2.toWordsIn,h3⟩
theorem Qdo (a:OA) (n c:Nat) (ls:LN) (b:OA) (m d:Nat) (ks:LN) (w:World) (h1:WordsIn w a n c ls) (h2:WordsIn w b m d ks) (hn:n<=100000) (hm:m<=100000):
 Calls Tryz.prog 240 #[.slice a n c,.slice b m d] w (Q8z w (val (2^64) ls+val (2^64) ks)):=by
 have C6:=h1.len;have Z6:=h2.len;have H1:=Ua h1;have H2:=Ua h2;clear h1 h2
 go_enter Tryz.func240,Tryz.ntmps240
 go_wp2_with fail
 go_step3
 go_upto_if 17 with (first
  |(go_at_call_of 144 a;refine (Q1e a n c ls _ H1.out).mono ?_;rintro e w1 ⟨rfl,C0⟩;have I0:=Ua C0;clear C0)
  |(go_at_call_of 144 b;refine (Q1e b m d ks _ (H2.out.step I0.out)).mono ?_;rintro e w2 ⟨rfl,D0⟩;have E1:=Ua D0;clear D0))
 have HA:=Ua ((H1.out.step I0.out).step E1.out).trim;have HK:=Ua ((H2.out.step I0.out).step E1.out).trim;have HB:=Ua (Below.next0 I0.out E1.out);have I3:=trim_len ls;have X2:=trim_len ks
 go_cut [0,1] (fun x y wx=>∃a' n' c' A b' m' d' K,x=.slice a' n' c'/\y=.slice b' m' d'/\WordsIn wx a' n' c' A/\WordsIn wx b' m' d' K/\m'<=n'/\n'<=100000/\val (2^64) A+val (2^64) K=val (2^64) ls+val (2^64) ks/\Bw w wx)
 case first=>
  by_cases F0:(trimL ls).length<(trimL ks).length
  ·have G0:((trimL ls).length:Int)<((trimL ks).length:Int):=by omega
   go_wp2_with fail
   go_meet;exact ⟨_,_,_,_,_,_,_,_,rfl,rfl,HK.out,HA.out,by omega,by omega,by rw[Q1c,Q1c,Xbf],HB.out⟩
  ·have G0:¬(((trimL ls).length:Int)<((trimL ks).length:Int)):=by omega
   go_wp2_with fail
   go_meet;exact ⟨_,_,_,_,_,_,_,_,rfl,rfl,HA.out,HK.out,by omega,by omega,by rw[Q1c,Q1c],HB.out⟩
 case rest=>
  obtain ⟨p,N,pc,A,q,M,qc,K,rfl,rfl,hA,hK,hMN,hN,hv,hb⟩:=hcut;have hAl:=hA.len;have hKl:=hK.len;have HA2:=Ua hA;have HK2:=Ua hK;have HBC:=Ua hb;have HV:=Ua hv;clear hA hK hb hv HA HK HB I0 E1 H1 H2 I3 X2;have j4:=Xa2 (P:=Tryz.prog) 24 83 (.int .u64 0) 8 Tryz.underlying24 Q4s rfl .i64 .i64 (N+1) (by omega) (by omega);rw[show ((N+1:Nat):Int)=(N:Int)+1 by omega] at j4;rw[Q2n] at j4;have Xf:Bw wc (wc.alloc (.cells (Array.replicate (N+1) (nv .u64 0)) 83)):=Ba;have o6:=Arr.zeros wc 83 .u64 (N+1);have I0:=Xh3 Xf o6 ((HA2.out.rd).below Xf);clear Xf o6
  go_wp2_with (refine Qat rfl (.tmp 24) (.tmp 25) 24 24 rfl 83 Tryz.underlying24 Qol 83 .u64 wc.heap.size (N+1) (N+1) _ (Xo1 I0) p N pc _ A rfl rfl (Xe2 I0) hAl (by omega) (by simp) ?_;intro w3 hA3 y6)
  have hd:(List.replicate (N+1) 0).drop N=[0]:=by simp
  rw[hd] at hA3;have hB3:Bw wc w3:=Below.turn (Xo0 I0) y6 (Xo0 I0).size (fun k e=>by have:k=wc.heap.size:=e;omega);have HS:=Xh2 hA3 hB3;clear hA3 hB3 y6 hd j4
  go_loopw [6,29] (fun cv iv wr=>∃(i cr:Nat) (L:LN),cv=.int .u64 (cr:Int)/\iv=.int .i64 (i:Int)/\i<=M/\cr<=1/\Arr 83 .u64 wr wc.heap.size L/\L.length=N+1/\Low (2^64) L/\val (2^64) L+cr*(2^64)^i=val (2^64) A+val (2^64) (K.take i)/\Bw wc wr) (fun _ iv _=>M-(intOf iv).toNat)
  case atStart=>
   refine ⟨0,0,A++[0],rfl,rfl,Uv _,Uv _,(Xo0 HS),by simp[hAl],fun x hx=>?_,?_,(Xe1 HS)⟩
   ·rcases Tl.1 hx with hx|hx
    ·exact HA2.out.low x hx
    ·rw[Uy.1 hx];decide
   ·rw[Q8w];simp[val]
  case round=>
   obtain ⟨i,cr,L,rfl,rfl,hi,Ql,hL,F5,X0,N0,Y0⟩:=hrel
   by_cases F0:i<M
   ·have G0:(i:Int)<(M:Int):=(by omega);obtain ⟨x,hx⟩:∃x,L[i]?=some x:=⟨_,Ub (by omega)⟩;obtain ⟨y,hy⟩:∃y,K[i]?=some y:=⟨_,Ub (by omega)⟩;obtain ⟨b2,o2,rfl,D0,QV⟩:=(HK2.out.rd.below Y0).at_ hy;have B4:x<18446744073709551616:=X0 x (Ug hx);have Qk:y<18446744073709551616:=HK2.out.low y (Ug hy);have N6:=fun W=>Q8y x y cr B4 Qk Ql W;obtain ⟨z,hz⟩:∃z,(x+y+cr)%18446744073709551616=z:=⟨_,rfl⟩;obtain ⟨c2,I1⟩:∃z,(x+y+cr) / 18446744073709551616=z:=⟨_,rfl⟩;have hc2l:c2<=1:=(by omega);have j8:z<18446744073709551616:=(by omega);have Z1:=Qb0 (B:=2^64) (b:=y) (c:=cr) hx N0;rw[show (x+y+cr)%2^64=z from hz,show (x+y+cr) / 2^64=c2 from I1] at Z1;rw[hz,I1] at N6;have Zo:=Ua Z1;clear hz I1 Z1;have cx:wr.drew.cell? ⟨wc.heap.size,i,none⟩=some (.int .u64 (x:Int)):=hL.cell hx;have cy:wr.drew.cell? ⟨b2,o2+i,none⟩=some (.int .u64 (y:Int)):=QV;have fx:wr.drew.frozen? ⟨wc.heap.size,i,none⟩=false:=hL.frozen i;have hiN:(i:Int)<(N:Int)+1:=(by omega);have HH:=Xh6 hL X0 N0 Y0 hx hy;clear hL X0 N0 Y0 hx hy QV
    go_wp2_with fail
    go_region_law (fail)
    all_goals go_wp2_with fail
    all_goals
     obtain ⟨hL,X0,N0,Y0,hx,hy⟩:=HH.out;refine ⟨⟨i+1,c2,L.set i z,rfl,by simp,by omega,hc2l,hL.set i z,by simp[F5],Q43 X0 j8,?_,(Y0.setCell (p:=⟨wc.heap.size,i,none⟩) (Ue _) _).drew⟩,by simp only[intOf];omega⟩;rw[Q1i K i y hy,Zo.out,UB y];omega
   ·obtain rfl:i=M:=(by omega);have G0:¬((i:Int)<(i:Int)):=(by omega);rw[Uw (by omega)] at N0;have HH:=Xh4 hL X0 N0 Y0;clear hL X0 N0 Y0 HS
    go_wp2_with fail
    go_step3
    go_wp2_with fail
    go_loopw [6,8] (fun cv iv wr=>∃(j cr:Nat) (L:LN),cv=.int .u64 (cr:Int)/\iv=.int .i64 (j:Int)/\j<=N+1/\cr<=1/\Arr 83 .u64 wr wc.heap.size L/\L.length=N+1/\Low (2^64) L/\val (2^64) L+cr*(2^64)^j=val (2^64) A+val (2^64) K/\Bw wc wr) (fun _ iv _=>N+1-(intOf iv).toNat)
    case atStart=>exact ⟨i,cr,L,rfl,rfl,by omega,Ql,(Xo0 HH),F5,(Xo1 HH),(Xo2 HH),(Xe3 HH)⟩
    case round=>
     clear F5 Ql HH;obtain ⟨j,cr,L,rfl,rfl,hj,Ql,hL,F5,X0,N0,Y0⟩:=hrel
     by_cases F0:j<N+1
     ·have G0:(j:Int)<(N:Int)+1:=by omega
      by_cases E4:cr=0
      ·subst E4;rw[TQ,TD] at N0;have Kf:=Xh4 hL X0 N0 Y0;clear hL X0 N0 Y0;have Zk:val (2^64) L=val (2^64) ls+val (2^64) ks:=(by have:=(Xo2 Kf);have:=HV.out;omega);have hW:WordsIn wr (some ⟨wc.heap.size,0,none⟩) (N+1) (N+1) L:=⟨F5,Ue _,by omega,(Xo1 Kf),(Xo0 Kf).rd⟩;have S7:Bw w wr:=Below.next0 HBC.out (Xe3 Kf);have K7:trimL L=dig (2^64) (val (2^64) ls+val (2^64) ks):=(by rw[Q1r (by decide) (Xo1 Kf),Zk]);have HE:=Xh3 hW S7 K7;clear Zk hW S7 K7
       go_wp2_with (refine (Q1e _ _ _ _ _ (Xo0 HE)).mono ?_;rintro e w5 ⟨rfl,P0⟩;have A4:=Ua P0;clear P0)
       rw[Xan];go_ret;have M3:=((Xo0 HE).step A4.out).trim;rw[(Xe2 HE)] at M3⊢;exact ⟨_,_,_,rfl,M3,Below.next0 (Xo1 HE) A4.out⟩
      ·obtain rfl:cr=1:=(by omega);obtain ⟨x,hx⟩:∃x,L[j]?=some x:=⟨_,Ub (by omega)⟩;have B4:x<18446744073709551616:=X0 x (Ug hx);have N6:∀W,(callFunc 256 #[.int .u64 (x:Int),.int .u64 0,.int .u64 1]).run Tryz.prog W=.ok (.value (.tuple #[.int .u64 (((x+0+1)%18446744073709551616:Nat):Int),.int .u64 (((x+0+1) / 18446744073709551616:Nat):Int)])) W:=fun W=>Q8y x 0 1 B4 (by decide) (by decide) W;obtain ⟨z,hz⟩:∃z,(x+0+1)%18446744073709551616=z:=⟨_,rfl⟩;obtain ⟨c2,I1⟩:∃z,(x+0+1) / 18446744073709551616=z:=⟨_,rfl⟩;have hc2l:c2<=1:=(by omega);have j8:z<18446744073709551616:=(by omega);have Z1:=Qb0 (B:=2^64) (b:=0) (c:=1) hx N0;rw[show (x+0+1)%2^64=z from hz,show (x+0+1) / 2^64=c2 from I1,TQ,TD] at Z1;rw[hz,I1] at N6;have cx:wr.cell? ⟨wc.heap.size,j,none⟩=some (.int .u64 (x:Int)):=hL.cell hx;have fx:wr.frozen? ⟨wc.heap.size,j,none⟩=false:=hL.frozen j;have Zo:=Xh4 Z1 hL X0 Y0;clear hz I1 Z1 hL X0 N0 Y0 hx
       go_wp2_with fail
       exact ⟨⟨j+1,c2,L.set j z,rfl,by simp,by omega,hc2l,(Xo1 Zo).set j z,by simp[F5],Q43 (Xo2 Zo) j8,(Xo0 Zo),(Xe3 Zo).setCell (p:=⟨wc.heap.size,j,none⟩) (Ue _) _⟩,by simp only[intOf];omega⟩
     ·obtain rfl:j=N+1:=(by omega);have G0:¬(((N+1:Nat):Int)<(N:Int)+1):=(by omega);have E4:cr=0:=by
       have h1:=Q3d (B:=2^64) (by decide) A HA2.out.low;have h2:=Q3d (B:=2^64) (by decide) K HK2.out.low;have h3:(2^64)^K.length<=(2^64)^A.length:=UN (by decide) (by omega);rw[hAl] at h1 h3;rw[show (2^64)^(N+1)=(2^64)^N*2^64 from rfl] at N0;rcases Nat.lt_or_ge cr 1 with h|h
       ·omega
       ·have h4:1*((2^64)^N*2^64)<=cr*((2^64)^N*2^64):=UT _ h;generalize (2^64)^N=P at*;generalize (2^64)^K.length=R at*;omega
      subst E4;rw[TQ,TD] at N0;have Kf:=Xh4 hL X0 N0 Y0;clear hL X0 N0 Y0;have Zk:val (2^64) L=val (2^64) ls+val (2^64) ks:=(by have:=(Xo2 Kf);have:=HV.out;omega);have hW:WordsIn wr (some ⟨wc.heap.size,0,none⟩) (N+1) (N+1) L:=⟨F5,Ue _,by omega,(Xo1 Kf),(Xo0 Kf).rd⟩;have S7:Bw w wr:=Below.next0 HBC.out (Xe3 Kf);have K7:trimL L=dig (2^64) (val (2^64) ls+val (2^64) ks):=(by rw[Q1r (by decide) (Xo1 Kf),Zk]);have HE:=Xh3 hW S7 K7;clear Zk hW S7 K7
      go_wp2_with (refine (Q1e _ _ _ _ _ (Xo0 HE)).mono ?_;rintro e w5 ⟨rfl,P0⟩;have A4:=Ua P0;clear P0)
      rw[Xan];go_ret;have M3:=((Xo0 HE).step A4.out).trim;rw[(Xe2 HE)] at M3⊢;exact ⟨_,_,_,rfl,M3,Below.next0 (Xo1 HE) A4.out⟩
def Q0a (neg:Bool) (exp:Int) (ls:LN):Prop:=
 if ls=[] then neg=false/\exp=0 else (trimL ls).length=ls.length/\ls.length<=64/\ls.headD 0%2=1/\-65536<=exp/\exp<=65536
instance (neg:Bool) (exp:Int) (ls:LN):Decidable (Q0a neg exp ls):=by unfold Q0a;infer_instance
theorem Q1j (neg:Bool) (exp:Int) (a:OA) (n c:Nat) (ls:LN) (w:World) (h:WordsIn w a n c ls) (he: -9223372036854775808<=exp) (Q5:exp<=9223372036854775807) (hn:n<=9223372036854775807):
 Calls Tryz.prog 53 #[.agg #[.bool neg,.int .i64 exp,.slice a n c]] w fun e w'=>e=.returned (.bool (decide (Q0a neg exp ls)))/\Bw w w':=by
 have P2:=h.len;have M2:∀o,Bw w (w.alloc o):=fun o=>Ba
 by_cases h0:n=0
 ·obtain rfl:ls=[]:=UC.1 (by omega);subst h0;cases neg
  ·go_enter Tryz.func53,Tryz.ntmps53
   go_wp2_with fail
   go_ret;refine ⟨?_,M2 _⟩
   show Ending.returned (.bool _)=_
   congr 2
   by_cases h:exp=0 <;> simp[Q0a,h]
  ·go_enter Tryz.func53,Tryz.ntmps53
   go_wp2_with fail
   go_ret;refine ⟨?_,M2 _⟩
   show Ending.returned (.bool _)=_
   congr 2
 ·obtain ⟨x,hx⟩:∃x,ls[0]?=some x:=⟨_,Ub (by omega)⟩;have C1:ls≠[]:=fun e=>by rw[e] at hx;simp at hx
  have B4:x<18446744073709551616:=h.low x (Ug hx);have Qa:ls.headD 0=x:=by cases ls with
   |nil=>exact absurd rfl C1
   |cons y r=>simpa using hx
  have h0I:((n:Int)==0)=false:=by rw[Uk];omega
  have B6:bits .and .u64 (x:Int) 1=((x%2:Nat):Int):=by rw[show (1:Int)=((1:Nat):Int) from rfl,u64_and_nat x 1 B4 (by decide),nat_mask1]
  obtain ⟨m,hm⟩:∃m,x%2=m:=⟨_,rfl⟩;rw[hm] at B6;have hr:=fun W (hb:Bw w W)=>Qg3 a n c ls W (h.step hb);have hN:Q0a neg exp ls↔((trimL ls).length=n/\n<=64/\m=1/\-65536<=exp/\exp<=65536):=by
   unfold Q0a;rw[Uq C1,Qa,hm,P2]
  have S6:decide (Q0a neg exp ls)=(decide ((trimL ls).length=n) && (!decide ((64:Int)<n) && ((m:Int)==1 && (decide (-65536<=exp) && decide (exp<=65536))))):=by
   have e64:((64:Int)<(n:Int))↔¬n<=64:=(by omega);have e1:((m:Int)==1)=decide (m=1):=by by_cases h:m=1 <;> simp[h] <;> omega
   rw[e1,Xa4];simp only[TU,Xad,Bool.not_eq_true',Tv,e64,Nat.not_le,Nat.not_lt];exact hN
  rw[S6];obtain ⟨R,hR⟩:∃R,decide ((trimL ls).length=n)=R:=⟨_,rfl⟩;rw[hR] at hr⊢;have HR:=Ua hr;have HH:=Xh2 h hx;clear hr hR S6 hm Qa C1 hN;have h0n:0<n:=by omega
  clear h0;have F0:w.heap.size<(w.alloc (.cells #[.bool neg,.int .i64 exp,.slice a n c] 26)).heap.size:=(Uo.1 (Up w _)).1;have S3:(w.alloc (.cells #[.bool neg,.int .i64 exp,.slice a n c] 26)).cell? ⟨w.heap.size,1,none⟩=some (.int .i64 exp):=by rw[UL _ _ _ _ _ _ (Up _ _)];rfl
  have K6:(w.alloc (.cells #[.bool neg,.int .i64 exp,.slice a n c] 26)).cell? ⟨w.heap.size,2,none⟩=some (.slice a n c):=by rw[UL _ _ _ _ _ _ (Up _ _)];rfl
  have HK:=Xh3 F0 S3 K6;clear F0 S3 K6;cases R
  ·go_enter Tryz.func53,Tryz.ntmps53
   go_wp2_with (refine (HR.out _ (M2 _)).mono ?_;rintro e w1 ⟨rfl,C0⟩;have I0:=Ua C0;clear C0)
   go_ret;exact ⟨rfl,Below.next0 (M2 _) I0.out⟩
  ·obtain ⟨b,o,j5,K4,Y4⟩:=(Xo0 HH).rd.at_ (Xe1 HH);subst j5;rw[TD] at Y4
   by_cases h64:(64:Int)<(n:Int)
   ·go_enter Tryz.func53,Tryz.ntmps53
    go_wp2_with (refine (HR.out _ (M2 _)).mono ?_;rintro e w1 ⟨rfl,C0⟩;have J1:=(C0.cell (p:=⟨w.heap.size,1,none⟩) (Xo0 HK)).trans (Xo1 HK);have I1:=(C0.cell (p:=⟨w.heap.size,2,none⟩) (Xo0 HK)).trans (Xe2 HK);have I0:=Ua C0;clear C0)
    all_goals
     go_ret;refine ⟨?_,Below.next0 (M2 _) I0.out⟩
     show Ending.returned (.bool _)=Ending.returned (.bool _)
     clear HH HK HR I0 J1 I1 Y4 h
     congr 2
    all_goals simp_all
    all_goals omega
   ·go_enter Tryz.func53,Tryz.ntmps53
    go_wp2_with (refine (HR.out _ (M2 _)).mono ?_;rintro e w1 ⟨rfl,C0⟩;have J1:=(C0.cell (p:=⟨w.heap.size,1,none⟩) (Xo0 HK)).trans (Xo1 HK);have I1:=(C0.cell (p:=⟨w.heap.size,2,none⟩) (Xo0 HK)).trans (Xe2 HK);have hcx1:=(Below.next0 (M2 _) C0).cell (p:=⟨b,o,none⟩) K4 |>.trans Y4;have I0:=Ua C0;clear C0)
    all_goals
     go_ret;refine ⟨?_,Below.next0 (M2 _) I0.out⟩
     show Ending.returned (.bool _)=Ending.returned (.bool _)
     clear HH HK HR I0 J1 I1 Y4 h
     congr 2
    all_goals simp_all
    all_goals omega
theorem Q52 {B:Nat} {a w:World} (h:Below B a w) (k:Nat):Below B a (w.drewN k):=⟨h.os,h.tape,h.output,h.size,h.block⟩
theorem Qbm (w:World) (neg:Bool) (exp:Int) (a:OA) (n c:Nat) (T:TypeId):
 w.heap.size<(w.alloc (.cells #[.bool neg,.int .i64 exp,.slice a n c] T)).heap.size/\(w.alloc (.cells #[.bool neg,.int .i64 exp,.slice a n c] T)).cell? ⟨w.heap.size,0,none⟩=some (.bool neg)/\(w.alloc (.cells #[.bool neg,.int .i64 exp,.slice a n c] T)).cell? ⟨w.heap.size,1,none⟩=some (.int .i64 exp)/\(w.alloc (.cells #[.bool neg,.int .i64 exp,.slice a n c] T)).cell? ⟨w.heap.size,2,none⟩=some (.slice a n c):=
 ⟨(Uo.1 (Up w _)).1,by rw[UL _ _ _ _ _ _ (Up _ _)];rfl,by rw[UL _ _ _ _ _ _ (Up _ _)];rfl,by rw[UL _ _ _ _ _ _ (Up _ _)];rfl⟩
theorem Qbn (neg:Bool) (exp:Int) (a:OA) (n c:Nat) (ls:LN) (neg':Bool) (exp':Int) (b:OA) (m d:Nat) (ks:LN) (w:World) (h1:WordsIn w a n c ls) (h2:WordsIn w b m d ks) (hn:n<=9223372036854775807):
 Calls Tryz.prog 30 #[.agg #[.bool neg,.int .i64 exp,.slice a n c],.agg #[.bool neg',.int .i64 exp',.slice b m d]] w fun e w'=>e=.returned (.bool (decide (neg=neg'/\exp=exp'/\ls=ks)))/\Bw w w':=by
 have C6:=h1.len;have Z6:=h2.len
 by_cases Jc:neg=neg'/\exp=exp'/\n=m
 ·obtain ⟨rfl,rfl,rfl⟩:=Jc;have D4:decide (neg=neg/\exp=exp/\ls=ks)=decide (ls=ks):=by simp
  rw[D4];clear D4;have H1:=Ua h1;have H2:=Ua h2;clear h1 h2
  go_enter Tryz.func30,Tryz.ntmps30
  go_wp2_with fail
  obtain ⟨W2,i5⟩:∃W2,(w.alloc (.cells #[.bool neg,.int .i64 exp,.slice a n c] 26)).alloc (.cells #[.bool neg,.int .i64 exp,.slice b n d] 26)=W2:=⟨_,rfl⟩;have C0:Bw w W2:=by rw[<-i5];exact Below.next0 (Ba) (Ba)
  have F2:(w.alloc (.cells #[.bool neg,.int .i64 exp,.slice a n c] 26)).heap.size=w.heap.size+1:=Array.size_push ..;have K5:=Qbm w neg exp a n c 26;have Z3:=Qbm (w.alloc (.cells #[.bool neg,.int .i64 exp,.slice a n c] 26)) neg exp b n d 26;have Xz:W2.cell? ⟨w.heap.size,2,none⟩=some (.slice a n c):=by
   rw[<-i5];exact ((Below.alloc (Ud _ _) (Ue _) _).cell (p:=⟨w.heap.size,2,none⟩) K5.1).trans K5.2.2.2
  have Xm:W2.cell? ⟨w.heap.size+1,2,none⟩=some (.slice b n d):=by
   rw[<-i5,<-F2];exact Z3.2.2.2
  have V8:w.heap.size+1<W2.heap.size:=by rw[<-i5,<-F2];exact Z3.1
  rw[i5];clear K5 Z3 i5 F2;have HX:=Xh4 Xz Xm C0 V8;clear Xz Xm C0 V8
  go_loopw [30] (fun v wr=>∃i:Nat,v=.int .i64 (i:Int)/\i<=n/\(∀j,j<i->ls[j]?=ks[j]?)/\Bw W2 wr) (fun v _=>n-(intOf v).toNat)
  case atStart=>exact ⟨0,rfl,Uv _,fun j h=>absurd h (Tf _),Ud _ _⟩
  case round=>
   obtain ⟨i,rfl,hi,R2,hb⟩:=hrel;have Y0:Bw w wr:=Below.next0 (Xo2 HX) hb;have J1:wr.cell? ⟨w.heap.size,2,none⟩=some (.slice a n c):=(hb.cell (p:=⟨w.heap.size,2,none⟩) (by have:=(Xe3 HX);show w.heap.size<_;omega)).trans (Xo0 HX);have I1:wr.cell? ⟨w.heap.size+1,2,none⟩=some (.slice b n d):=(hb.cell (p:=⟨w.heap.size+1,2,none⟩) (Xe3 HX)).trans (Xo1 HX)
   by_cases F0:i<n
   ·have G0:(i:Int)<(n:Int):=(by omega);obtain ⟨x,hx⟩:∃x,ls[i]?=some x:=⟨_,Ub (by omega)⟩;obtain ⟨y,hy⟩:∃y,ks[i]?=some y:=⟨_,Ub (by omega)⟩;obtain ⟨g1,o1,rfl,O5,Y4⟩:=(H1.out.rd.below Y0).at_ hx;obtain ⟨g2,o2,rfl,Q2,QV⟩:=(H2.out.rd.below Y0).at_ hy;have HP:=Xh5 R2 hb Y0 hx hy;clear R2 hb Y0 hx hy
    by_cases Jt:x=y
    ·subst Jt
     go_wp2_with fail
     go_quiet (fail)
     go_wp2_with fail
     refine ⟨⟨i+1,by simp,by omega,fun j hj=>?_,Q52 (Xo1 HP) nq⟩,by simp only[intOf];omega⟩
     by_cases hji:j=i
     ·subst hji;rw[(Xo3 HP),(Xe4 HP)]
     ·exact (Xo0 HP) j (by omega)
    ·have hxy':((x:Int)==(y:Int))=false:=(by rw[Uk];omega);have hxy2:((x:Int) != (y:Int))=true:=by simp[bne,hxy']
     go_wp2_with fail
     go_quiet (fail)
     go_wp2_with fail
     go_ret;have C1:¬ls=ks:=fun e=>Jt (by have h1:=(Xo3 HP);have h2:=(Xe4 HP);rw[e,h2] at h1;injection h1 with h1;exact h1.symm);exact ⟨by rw[UU C1];rfl,Q52 (Xo2 HP) nq⟩
   ·obtain rfl:i=n:=(by omega);have G0:¬((i:Int)<(i:Int)):=(by omega);have K8:ls=ks:=Qes (fun j hj=>R2 j (by omega)) (by omega);have HE:=Xh2 K8 Y0;clear K8 Y0 hb R2
    go_wp2_with fail
    go_ret;exact ⟨by rw[UW (Xo0 HE)];rfl,(Xe1 HE)⟩
 ·have D4:decide (neg=neg'/\exp=exp'/\ls=ks)=false:=by
   rw[Tv];rintro ⟨e1,e2,e3⟩;exact Jc ⟨e1,e2,by rw[<-C6,<-Z6,e3]⟩
  rw[D4];have hB:Bw w ((w.alloc (.cells #[.bool neg,.int .i64 exp,.slice a n c] 26)).alloc (.cells #[.bool neg',.int .i64 exp',.slice b m d] 26)):=Below.next0 (Ba) (Ba);have HB:=Ua hB;clear hB D4 h1 h2
  by_cases e1:neg=neg'
  ·subst e1
   by_cases e2:exp=exp'
   ·subst e2;have e3:¬((n:Int)=(m:Int)):=(by intro e;exact Jc ⟨rfl,rfl,by omega⟩);have e3':((n:Int)==(m:Int))=false:=by rw[Uk];exact e3
    go_enter Tryz.func30,Tryz.ntmps30
    go_wp2_with fail
    go_ret;exact ⟨rfl,HB.out⟩
   ·have e2':(exp==exp')=false:=by rw[Uk];exact e2
    go_enter Tryz.func30,Tryz.ntmps30
    go_wp2_with fail
    go_ret;exact ⟨rfl,HB.out⟩
  ·have e1':(neg==neg')=false:=by rw[Uk];exact e1
   go_enter Tryz.func30,Tryz.ntmps30
   go_wp2_with fail
   go_ret;exact ⟨rfl,HB.out⟩
end Go.Proofs.YtidojbkhlenahaaGreatDoor
