/- The library's text contracts; conditions: each lemma's own. -/
import Derived.Shelf.LaysM
import Derived.Shelf.Slices.Cells
import Derived.Shelf.Slices.CompactS
import Derived.Shelf.Slices.In.SortNone
import Derived.Shelf.Small.Strs
import Derived.Shelf.Sort.Plain
import Derived.Shelf.Strconv.Itoa0
import Derived.Shelf.Strconv.Itoa1
import Derived.Shelf.Strconv.Itoa2
import Derived.Shelf.Strconv.Itoa3
import Derived.Shelf.Strings.OnBuilder
import Derived.Shelf.Strings.Search1
import Derived.Shelf.Strings.SlTrimAscii
import Derived.Shelf.Strings.Trim
import Derived.Test.YtfammloeljmplaaGreatDoorZ17
import Derived.Test.YtfammloeljmplaaGreatDoorZ19
import Derived.Test.YtfammloeljmplaaGreatDoorZ20
open Go.Value renaming int->TY,slice->T0,tuple->T4
open Go.IntKind renaming i64->T6,u64->T8
open Go renaming World->Ub
namespace Go.Proofs.YtfammloeljmplaaGreatDoor
open Go.Proofs.Tryz
set_option maxRecDepth 100000
set_option maxHeartbeats 8000000
set_option linter.unusedVariables false
set_option linter.unusedSimpArgs false
section
open Go.Shelf
def qN:Go.Shelf.Ren:=⟨fun|156=>130|165=>212|166=>213|169=>214|240=>288|241=>289|276=>344|277=>345|n=>n,fun|31=>196|9=>9|3=>3|4=>4|0=>0|20=>20|72=>323|76=>326|70=>321|37=>37|75=>325|127=>380|164=>414|5=>5|80=>328|n=>n,fun|n=>n⟩
theorem yL:Go.Proofs.Lays.n156 prog qN:=by repeat' first|kernel_rfl|(intro w;kernel_rfl)|decide|constructor
theorem lX:Builder.Extra prog qN:=by repeat' first|kernel_rfl|(intro w;kernel_rfl)|decide|constructor
open Go.RowKit in
theorem qO(a:Option Addr)(c:Nat)(b:ByteArray)(w:Ub):
 TX 130 #[T0 a 0 c,.string b] w (.string ⟨#[]⟩):=Any.strings_Join_none yL lX a c b w
open Go.RowKit in
theorem wR(g o c:Nat)(xs:List ByteArray)(a:ByteArray)(w:Ub)(b:∀(j:Nat) x,xs[j]? =some x->w.cell? ⟨g,o+j,none⟩=some (.string x))(i:g<w.heap.size)(k:xs.length<=140737488355328)(d:xs.length<=c)(f:(Lib.join (xs.map (·.data.toList)) a.data.toList).length<=140737488355328):
 TV 130 #[T0 (some ⟨g,o,none⟩) xs.length c,.string a] w (.string ⟨(Lib.join (xs.map (·.data.toList)) a.data.toList).toArray⟩):=Any.strings_Join yL lX g o c xs a w b i k d f
def yM:Go.Shelf.Ren:=⟨fun|160=>204|232=>262|231=>261|227=>263|234=>265|233=>264|236=>267|235=>266|228=>333|271=>336|151=>335|197=>334|120=>358|152=>357|260=>356|137=>205|119=>366|224=>367|225=>368|217=>268|266=>337|n=>n,fun|9=>9|4=>4|3=>3|5=>5|117=>368|116=>367|0=>0|124=>371|21=>21|105=>408|46=>160|119=>432|139=>435|138=>434|n=>n,fun|3=>1|4=>2|n=>n⟩
theorem yN:Go.Proofs.Lays.n160 prog yM:=by repeat' first|kernel_rfl|(intro w;kernel_rfl)|decide|constructor
open Go.RowKit in
theorem Gb(s:ByteArray)(c:UInt8)(b:c.toNat<128)(w:Ub)(a:s.size<=9223372036854775807):
 Calls prog 204 #[.string s,.string ⟨#[c]⟩] w fun e w'=>e=.returned (.string ⟨(Lib.trimB s.data.toList c).toArray⟩)/\(w'=w\/w'=w.drew):=Any.strings_Trim_one yN s c b w a
def yO:Go.Shelf.Ren:=⟨fun|106=>91|213=>142|265=>223|n=>n,fun|9=>9|3=>3|n=>n,fun|n=>n⟩
theorem Hm:Go.Proofs.Lays.n106 prog yO:=by repeat' first|kernel_rfl|(intro w;kernel_rfl)|decide|constructor
open Go.RowKit in
theorem sZ(a b:ByteArray)(w:Ub):
 TX 91 #[.string a,.string b] w (TY T6 (Lib.compareBytes a.data.toList b.data.toList)):=Any.strings_Compare Hm a b w
def yP:Go.Shelf.Ren:=⟨fun|137=>205|217=>268|266=>337|n=>n,fun|9=>9|5=>5|3=>3|n=>n,fun|n=>n⟩
theorem Hn:Go.Proofs.Lays.n137 prog yP:=by repeat' first|kernel_rfl|(intro w;kernel_rfl)|decide|constructor
open Go.RowKit in
theorem qP(s:ByteArray)(c:Int)(w:Ub):
 TX 205 #[.string s,TY .u8 c] w (TY T6 (Lib.indexByte s.data.toList c.toNat.toUInt8)):=Any.strings_IndexByte Hn s c w
def yQ:Go.Shelf.Ren:=⟨fun|283=>359|n=>n,fun|3=>3|9=>9|4=>4|n=>n,fun|n=>n⟩
theorem Ho:Go.Proofs.Lays.n283 prog yQ:=by repeat' first|kernel_rfl|(intro w;kernel_rfl)|decide|constructor
open Go.Lib in
theorem nS(i:Nat)(h:i<100)(w:Ub):
 TX 359 #[TY T6 i] w (.string ⟨(Lib.decDigits i).toArray⟩):=Any.internal_strconv_small Ho i h w
def wS:Go.Shelf.Ren:=⟨fun|284=>360|129=>152|317=>369|318=>370|n=>n,fun|53=>29|3=>3|212=>438|0=>0|4=>4|46=>160|5=>5|9=>9|n=>n,fun|17=>3|n=>n⟩
theorem EO:Go.Proofs.LaysM.n284 prog wS:=by repeat' first|kernel_rfl|(intro w;kernel_rfl)|decide|constructor
open Go.Lib in
theorem lY(u:Nat)(c:1<=u)(b:u<18446744073709551616)(w:Ub)(a:Lib.TabIs prog w "internal/strconv.uint64pow10" T8 Lib.pow10Tab):
 TX 360 #[TY T8 u] w (TY T6 (Lib.nDigits u)):=Any.internal_strconv_numDigits EO u c b w a
def yR:Go.Shelf.Ren:=⟨fun|285=>361|n=>n,fun|37=>37|53=>29|3=>3|4=>4|51=>28|9=>9|5=>5|0=>0|n=>n,fun|n=>n⟩
theorem Hp:Go.Proofs.Lays.n285 prog yR:=by repeat' first|kernel_rfl|(intro w;kernel_rfl)|decide|constructor
open Go.RowKit Go.Sort Go.Lib in
theorem k8(c a cap:Nat)(u:Nat)(d:Array UInt8)(w:Ub)(j:Holds (fun(b:UInt8)=>Value.int .u8 (b.toNat:Int)) w c a d)(k:u<10 ^ d.size)(f:u<18446744073709551616)(g:d.size<4611686018427387904):
 Calls prog 361 #[T0 (some ⟨c,a,none⟩) d.size cap,TY T8 u] w fun e w'=>
  e=.returned (T4 #[])/\∃(n v':Nat) (i:Array UInt8),w'=(putRow (fun(b:UInt8)=>Value.int .u8 (b.toNat:Int)) w c a i).drewN n/\FmtInv d.size u 0 v' i:=Any.internal_strconv_formatBase10 Hp c a cap u d w j k f g
def yS:Go.Shelf.Ren:=⟨fun|171=>208|243=>270|246=>338|283=>359|284=>360|285=>361|286=>362|129=>152|317=>369|318=>370|319=>371|320=>372|337=>373|338=>374|n=>n,fun|3=>3|9=>9|2=>2|4=>4|171=>425|0=>0|53=>29|37=>37|5=>5|173=>427|212=>438|51=>28|20=>20|213=>439|46=>160|232=>440|233=>441|n=>n,fun|17=>3|18=>4|19=>5|n=>n⟩
theorem Hq:Go.Proofs.Lays.n171 prog yS:=by repeat' first|kernel_rfl|(intro w;kernel_rfl)|decide|constructor
open Go.RowKit Go.Sort Go.Lib in
theorem p8(i:Nat)(a:i<100)(w:Ub):
 TX 208 #[TY T6 i] w (.string ⟨(Lib.decDigits i).toArray⟩):=Any.strconv_Itoa_small Hq i a w
def yT:Go.Shelf.Ren:=⟨fun|190=>129|125=>93|258=>211|128=>151|129=>152|302=>279|303=>280|304=>281|305=>282|306=>283|307=>284|308=>285|309=>286|310=>287|333=>340|329=>225|330=>226|334=>341|335=>342|336=>343|344=>363|n=>n,fun|31=>196|9=>9|3=>3|46=>160|0=>0|51=>28|53=>29|4=>4|183=>272|182=>271|131=>100|5=>5|218=>339|222=>343|228=>389|229=>390|n=>n,fun|n=>n⟩
theorem yU:Go.Proofs.Lays.n190 prog yT:=by repeat' first|kernel_rfl|(intro w;kernel_rfl)|decide|constructor
open Go.Sort Go.RowKit in
theorem p9(a b cap:Nat)(c:List (List UInt8))(w:Ub)(g:Holds encStr w a b c.toArray)(d:a<w.heap.size)(f:c.length<4611686018427387904):
 Calls prog 129 #[T0 (some ⟨a,b,none⟩) c.length cap] w fun e w'=>
  e=.returned (T4 #[])/\∃n os,w'=grow (putRow encStr (Sort.ahead w n) a b (c.mergeSort fun x y=>decide (x<=y)).toArray) os:=Any.slices_Sort_string yU a b cap c w g d f
def yV:Go.Shelf.Ren:=⟨fun|194=>131|n=>n,fun|31=>196|9=>9|3=>3|4=>4|0=>0|n=>n,fun|n=>n⟩
theorem ta:Go.Proofs.Lays.n194 prog yV:=by repeat' first|kernel_rfl|(intro w;kernel_rfl)|decide|constructor
open Go.RowKit Go.Lib Go.Sort in
theorem oE(b a cap:Nat)(c:List (List UInt8))(w:Ub)(g:Holds encStr w b a c.toArray)(f:c.length<=9223372036854775807)(d:c.length<=cap):
 Calls prog 131 #[T0 (some ⟨b,a,none⟩) c.length cap] w fun e w'=>e=.returned (T0 (some ⟨b,a,none⟩) (Lib.compact c).length cap)/\∃q,w'=putRow encStr (Sort.ahead w q) b a (Lib.compact c++List.replicate (c.length - (Lib.compact c).length) []).toArray:=Any.slices_Compact_string ta b a cap c w g f d
open Go.RowKit Go.Lib Go.Sort in
theorem lJ(a:Option Addr)(cap:Nat)(w:Ub):
 TX 131 #[T0 a 0 cap] w (T0 a 0 cap):=Any.slices_Compact_string_empty ta a cap w
open Go.RowKit Go.Lib Go.Sort in
theorem vk(b a n c:Nat)(d:Nat->ByteArray)(w:Ub)(g:n<=9223372036854775807)(f:n<=c)(l:∀i,i<n->w.cell? ⟨b,a+i,none⟩=some (.string (d i)))(k:∀j,j<n->w.frozen? ⟨b,a+j,none⟩=false):
 Calls prog 131 #[T0 (some ⟨b,a,none⟩) n c] w fun e w'=>e=.returned (T0 (some ⟨b,a,none⟩) (Lib.compact (Lib.strsOf d n)).length c)/\∃q,w'=(w.drewN q).setCells b a ((Lib.compact (Lib.strsOf d n)++List.replicate (n - (Lib.compact (Lib.strsOf d n)).length) []).map encStr):=Any.slices_Compact_string_cells ta b a n c d w g f l k
open Go.RowKit Go.Sort in
theorem nC(p:Option Addr)(cap:Nat)(w:Ub):
 TX 129 #[T0 p 0 cap] w (T4 #[]):=Any.slices_Sort_string_none yU p cap w
open Go.RowKit in
theorem Ai(s a:ByteArray)(w:Ub)(f:s.size<=9223372036854775807)(d:a.size<4294967281)(c:∀(j:Nat) b,a.data.toList[j]? =some b->b.toNat<128):
  TV 204 #[.string s,.string a] w (.string ⟨(Lib.trimS s.data.toList a.data.toList).toArray⟩):=
 Any.strings_Trim_laid yN (by kernel_rfl) s a w f d c
end
end Go.Proofs.YtfammloeljmplaaGreatDoor
