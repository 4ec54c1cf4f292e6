/-
  DERIVED: THE SHELF's CONTRACTS AT THIS DUMP, IN PLAIN WORDS (tools/lay-plain.mjs out of 'YtdlgnhefpoalnaaGreatDoorShelf.lean', which tools/lay-shelf.mjs wrote): THE SAME DECLARATIONS UNDER THE SAME NAMES: 'import', 'namespace', 'open', 'def', 'theorem' AND NOTHING ELSE: no command of the shelf's: FOR A HAND-IN. Each laying: the table of numbers ('.._ren') and one theorem, a field a fact of the dump's own or the kernel's comparison; each contract: ONE APPLICATION.
-/
import Derived.Shelf.Strings.OnBuilder
import Derived.Shelf.Utf8.RuneCount
import Derived.Shelf.Strconv.Itoa3
import Derived.Shelf.Strings.Shaped
import Derived.Shelf.Strconv.AppendUint10
import Derived.Shelf.Strings.SplitShaped
import Derived.Shelf.Strings.Explode
import Derived.Shelf.Unicode.DecodeAny
import Derived.Shelf.SlicesQ.IndexFunc
import Derived.Test.YtdlgnhefpoalnaaGreatDoorProg
namespace Go.Proofs
open Go.Shelf
def Tryz.lays156_ren:Go.Shelf.Ren:=⟨fun|156=>184|165=>240|166=>183|169=>39|240=>239|241=>264|276=>263|277=>274|n=>n,fun|31=>52|9=>9|3=>3|4=>4|0=>0|20=>20|72=>92|76=>244|70=>89|37=>90|75=>243|127=>164|164=>305|5=>5|80=>105|n=>n,fun|n=>n⟩
theorem Tryz.lays156:Go.Proofs.Lays.n156 Tryz.prog Tryz.lays156_ren:=by
 constructor
 all_goals first|kernel_rfl|(intro _;kernel_rfl)|decide|(constructor<;>first|kernel_rfl|(intro _;kernel_rfl))
theorem Tryz.Builder_Extra_156:Builder.Extra Tryz.prog Tryz.lays156_ren:=by
 constructor
 all_goals first|kernel_rfl|(intro _;kernel_rfl)|decide|(constructor<;>first|kernel_rfl|(intro _;kernel_rfl))
open Go.RowKit in
theorem Tryz.strings_Join_none(a:Option Addr)(c:Nat)(sep:ByteArray)(w:World) :
  Calls Tryz.prog 184 #[.slice a 0 c,.string sep] w fun e w' => e=.returned (.string ⟨#[]⟩)∧w' = w:=Any.strings_Join_none Tryz.lays156 Tryz.Builder_Extra_156 a c sep w
open Go.RowKit in
theorem Tryz.strings_Join(bk o c:Nat)(xs:List ByteArray)(sep:ByteArray)(w:World)(hcells:∀(j:Nat) x,xs[j]? = some x→w.cell? ⟨bk,o+j,none⟩=some (.string x))(hbk:bk<w.heap.size)(hN:xs.length≤140737488355328)(hcap:xs.length≤c)(hlen:(Lib.join (xs.map (·.data.toList)) sep.data.toList).length≤140737488355328) :
  Calls Tryz.prog 184 #[.slice (some ⟨bk,o,none⟩) xs.length c,.string sep] w fun e w' => e=.returned (.string ⟨(Lib.join (xs.map (·.data.toList)) sep.data.toList).toArray⟩)∧Below w.heap.size w w' := Any.strings_Join Tryz.lays156 Tryz.Builder_Extra_156 bk o c xs sep w hcells hbk hN hcap hlen
def Tryz.laysM171_ren:Go.Shelf.Ren:=⟨fun|171=>100|243=>186|246=>241|283=>265|284=>266|285=>267|286=>268|129=>276|317=>275|318=>277|319=>278|320=>279|337=>282|338=>283|n=>n,fun|3=>3|9=>9|2=>2|4=>4|171=>307|0=>0|53=>250|37=>90|5=>5|173=>310|212=>315|51=>70|20=>20|213=>316|46=>252|232=>325|233=>326|n=>n,fun|17=>0|18=>2|19=>3|n=>n⟩
theorem Tryz.laysM171:Go.Proofs.LaysM.n171 Tryz.prog Tryz.laysM171_ren:=by
 constructor
 all_goals first|kernel_rfl|(intro _;kernel_rfl)|decide|(constructor<;>first|kernel_rfl|(intro _;kernel_rfl))
open Go.RowKit Go.Sort Go.Lib in
theorem Tryz.strconv_Itoa(n:Int)(h0 : -9223372036854775808≤n)(h1:n≤9223372036854775807)(w:World)(htab:Lib.TabIs Tryz.prog w "internal/strconv.uint64pow10" .u64 Lib.pow10Tab) :
  Calls Tryz.prog 100 #[.int .i64 n] w fun e w' => e=.returned (.string ⟨(Lib.itoa n).toArray⟩)∧∃k os,w' = grow (w.drewN k) os:=Any.strconv_Itoa Tryz.laysM171 n h0 h1 w htab
def Tryz.lays171_ren:Go.Shelf.Ren:=⟨fun|171=>100|243=>186|246=>241|283=>265|284=>266|285=>267|286=>268|129=>276|317=>275|318=>277|319=>278|320=>279|337=>282|338=>283|n=>n,fun|3=>3|9=>9|2=>2|4=>4|171=>307|0=>0|53=>250|37=>90|5=>5|173=>310|212=>315|51=>70|20=>20|213=>316|46=>252|232=>325|233=>326|n=>n,fun|17=>0|18=>2|19=>3|n=>n⟩
theorem Tryz.lays171:Go.Proofs.Lays.n171 Tryz.prog Tryz.lays171_ren:=by
 constructor
 all_goals first|kernel_rfl|(intro _;kernel_rfl)|decide|(constructor<;>first|kernel_rfl|(intro _;kernel_rfl))
open Go.RowKit Go.Sort Go.Lib in
theorem Tryz.strconv_Itoa_small(i:Nat)(hi:i<100)(w:World) :
  Calls Tryz.prog 100 #[.int .i64 i] w fun e w' => e=.returned (.string ⟨(Lib.decDigits i).toArray⟩)∧w' = w:=Any.strconv_Itoa_small Tryz.lays171 i hi w
def Tryz.lays145_ren:Go.Shelf.Ren:=⟨fun|145=>280|220=>284|219=>288|217=>292|225=>293|224=>294|267=>295|266=>297|314=>298|n=>n,fun|9=>9|4=>4|59=>319|3=>3|5=>5|46=>252|146=>330|51=>70|n=>n,fun|1=>1|n=>n⟩
theorem Tryz.lays145:Go.Proofs.Lays.n145 Tryz.prog Tryz.lays145_ren:=by
 constructor
 all_goals first|kernel_rfl|(intro _;kernel_rfl)|decide|(constructor<;>first|kernel_rfl|(intro _;kernel_rfl))
open Go.RowKit Go.Lib in
theorem Tryz.strings_Cut(s sep:ByteArray)(m:Int)(w:World)(hs:s.size<4294967281)(hm:w.cell? ⟨1,0,none⟩=some (.int .i64 m)) :
  Calls Tryz.prog 280 #[.string s,.string sep] w fun e w' => e=.returned (.tuple #[.string ⟨(Lib.cut s.data.toList sep.data.toList).1.toArray⟩,.string ⟨(Lib.cut s.data.toList sep.data.toList).2.1.toArray⟩,.bool (Lib.cut s.data.toList sep.data.toList).2.2])∧∃n,w' = w.drewN n:=Any.strings_Cut Tryz.lays145 s sep m w hs hm
def Tryz.laysM288_ren:Go.Shelf.Ren:=⟨fun|288=>243|283=>265|284=>266|285=>267|286=>268|129=>276|317=>275|318=>277|319=>278|320=>279|337=>282|338=>283|n=>n,fun|37=>90|53=>250|3=>3|4=>4|9=>9|171=>307|0=>0|173=>310|212=>315|51=>70|5=>5|20=>20|213=>316|46=>252|232=>325|233=>326|n=>n,fun|17=>0|18=>2|19=>3|n=>n⟩
theorem Tryz.laysM288:Go.Proofs.LaysM.n288 Tryz.prog Tryz.laysM288_ren:=by
 constructor
 all_goals first|kernel_rfl|(intro _;kernel_rfl)|decide|(constructor<;>first|kernel_rfl|(intro _;kernel_rfl))
open Go.RowKit Go.Sort Go.Lib in
theorem Tryz.internal_strconv_AppendUint_10_small(B n u:Nat)(hu:u<100)(sv:Value)(xs:List Value)(w:World)(hown:w.ownsRow B 5 1 sv n xs)(hBw:B≤w.heap.size)(hlim:n+20≤140737488355328) :
  Calls Tryz.prog 243 #[sv,.int .u64 u,.int .i64 10] w fun e w' =>∃v', e=.returned v' ∧ w'.ownsRow B 5 1 v' (n+(Lib.decDigits u).length) (xs++Lib.byteCells (Lib.decDigits u))∧Below B w w' ∧ Lib.OthersKept 5 none w w' := Any.internal_strconv_AppendUint_10_small Tryz.laysM288 B n u hu sv xs w hown hBw hlim
open Go.RowKit Go.Sort Go.Lib in
theorem Tryz.internal_strconv_AppendUint_10_big(B n u:Nat)(hu:100≤u)(hu64:u<18446744073709551616)(sv:Value)(xs:List Value)(w:World)(hown:w.ownsRow B 5 1 sv n xs)(hBw:B≤w.heap.size)(hlim:n+20≤140737488355328)(htab:Lib.TabIs Tryz.prog w "internal/strconv.uint64pow10" .u64 Lib.pow10Tab) :
  Calls Tryz.prog 243 #[sv,.int .u64 u,.int .i64 10] w fun e w' =>∃v', e=.returned v' ∧ w'.ownsRow B 5 1 v' (n+(Lib.decDigits u).length) (xs++Lib.byteCells (Lib.decDigits u))∧Below B w w' ∧ Lib.OthersKept 5 none w w' := Any.internal_strconv_AppendUint_10_big Tryz.laysM288 B n u hu hu64 sv xs w hown hBw hlim htab
def Tryz.lays146_ren:Go.Shelf.Ren:=⟨fun|146=>272|221=>281|268=>285|138=>286|143=>287|195=>289|197=>290|218=>291|219=>288|260=>296|217=>292|225=>293|224=>294|267=>295|266=>297|314=>298|n=>n,fun|9=>9|31=>52|3=>3|4=>4|0=>0|105=>327|21=>21|5=>5|46=>252|119=>332|139=>335|138=>334|146=>330|51=>70|n=>n,fun|1=>1|3=>4|4=>5|n=>n⟩
theorem Tryz.lays146:Go.Proofs.Lays.n146 Tryz.prog Tryz.lays146_ren:=by
 constructor
 all_goals first|kernel_rfl|(intro _;kernel_rfl)|decide|(constructor<;>first|kernel_rfl|(intro _;kernel_rfl))
open Go.RowKit Go.Lib in
theorem Tryz.strings_Split(s sep:ByteArray)(m:Int)(w:World)(hs:s.size<4294967281)(hm:w.cell? ⟨1,0,none⟩=some (.int .i64 m))(h1:1≤sep.size) :
  Calls Tryz.prog 272 #[.string s,.string sep] w fun e w' =>
   e=.returned (.slice (some ⟨w.heap.size,0,none⟩) (Lib.countB s sep+1) (Lib.countB s sep+1))∧w' = w.alloc (.cells ((Lib.splitB sep 0 (Lib.countB s sep) s).map Value.string).toArray 9):=Any.strings_Split Tryz.lays146 (by kernel_rfl) s sep m w hs hm h1
def Tryz.laysSlH06_f226_ren:Go.Shelf.Ren:=⟨fun|6=>226|n=>n,fun|22=>22|23=>72|25=>236|3=>3|0=>0|4=>4|n=>n,fun|n=>n⟩
theorem Tryz.laysSlH06_f226:Go.Proofs.SlLaysH0.n6 Tryz.prog Tryz.laysSlH06_f226_ren:=by
 constructor
 all_goals first|exact⟨Tryz.f226.name,by decide,Tryz.func226.trans (congrArg some (by kernel_rfl))⟩|kernel_rfl|(intro _;kernel_rfl)|decide|(constructor<;>first|kernel_rfl|(intro _;kernel_rfl))
open Go.RowKit Go.Lib in
theorem Tryz.slices_IndexFunc_f226{α:Type}[Inhabited α](k:Nat)(aE:∀w,(isAgg 72).run Tryz.prog w=.ok true w)(zE:∀w,(Go.sizeOf 72).run Tryz.prog w=.ok k w)(enc:α→List Value)(hk:∀x,(enc x).length=k)(p:α→Bool)(g:Nat)(lb:Array Value)(eg:∀args w,(callFunc g args).run Tryz.prog w=.ok (.enter g args) w)(b off n c:Nat)(zs:List α)(w:World)(hp:PredBelow Tryz.prog g lb (fun x=>.agg (enc x).toArray) p w)(hz:n≤zs.length)(hbig:n≤9223372036854775807)(hb:b<w.heap.size)(hc:∀j,j<zs.length→∀i v,(enc zs[j]!)[i]? = some v→w.cell? ⟨b,off+j*k+i,none⟩=some v) :
  Calls Tryz.prog 226 #[.slice (some ⟨b,off,none⟩) n c,.func (.func g) #[] lb] w fun e w' => e=.returned (.int .i64 (Lib.idxBy (fun _ y=>p y) (zs.take n) default))∧Below w.heap.size w w' := AnyQ.slices_IndexFunc Tryz.laysSlH06_f226 k aE zE enc hk p g lb eg b off n c zs w hp hz hbig hb hc
def Tryz.laysSlH06_f230_ren:Go.Shelf.Ren:=⟨fun|6=>230|n=>n,fun|22=>23|23=>81|25=>287|3=>3|0=>0|4=>4|n=>n,fun|n=>n⟩
theorem Tryz.laysSlH06_f230:Go.Proofs.SlLaysH0.n6 Tryz.prog Tryz.laysSlH06_f230_ren:=by
 constructor
 all_goals first|exact⟨Tryz.f230.name,by decide,Tryz.func230.trans (congrArg some (by kernel_rfl))⟩|kernel_rfl|(intro _;kernel_rfl)|decide|(constructor<;>first|kernel_rfl|(intro _;kernel_rfl))
open Go.RowKit Go.Lib in
theorem Tryz.slices_IndexFunc_f230{α:Type}[Inhabited α](k:Nat)(aE:∀w,(isAgg 81).run Tryz.prog w=.ok true w)(zE:∀w,(Go.sizeOf 81).run Tryz.prog w=.ok k w)(enc:α→List Value)(hk:∀x,(enc x).length=k)(p:α→Bool)(g:Nat)(lb:Array Value)(eg:∀args w,(callFunc g args).run Tryz.prog w=.ok (.enter g args) w)(b off n c:Nat)(zs:List α)(w:World)(hp:PredBelow Tryz.prog g lb (fun x=>.agg (enc x).toArray) p w)(hz:n≤zs.length)(hbig:n≤9223372036854775807)(hb:b<w.heap.size)(hc:∀j,j<zs.length→∀i v,(enc zs[j]!)[i]? = some v→w.cell? ⟨b,off+j*k+i,none⟩=some v) :
  Calls Tryz.prog 230 #[.slice (some ⟨b,off,none⟩) n c,.func (.func g) #[] lb] w fun e w' => e=.returned (.int .i64 (Lib.idxBy (fun _ y=>p y) (zs.take n) default))∧Below w.heap.size w w' := AnyQ.slices_IndexFunc Tryz.laysSlH06_f230 k aE zE enc hk p g lb eg b off n c zs w hp hz hbig hb hc
def Tryz.laysSlH06_f232_ren:Go.Shelf.Ren:=⟨fun|6=>232|n=>n,fun|22=>24|23=>84|25=>289|3=>3|0=>0|4=>4|n=>n,fun|n=>n⟩
theorem Tryz.laysSlH06_f232:Go.Proofs.SlLaysH0.n6 Tryz.prog Tryz.laysSlH06_f232_ren:=by
 constructor
 all_goals first|exact⟨Tryz.f232.name,by decide,Tryz.func232.trans (congrArg some (by kernel_rfl))⟩|kernel_rfl|(intro _;kernel_rfl)|decide|(constructor<;>first|kernel_rfl|(intro _;kernel_rfl))
open Go.RowKit Go.Lib in
theorem Tryz.slices_IndexFunc_f232{α:Type}[Inhabited α](k:Nat)(aE:∀w,(isAgg 84).run Tryz.prog w=.ok true w)(zE:∀w,(Go.sizeOf 84).run Tryz.prog w=.ok k w)(enc:α→List Value)(hk:∀x,(enc x).length=k)(p:α→Bool)(g:Nat)(lb:Array Value)(eg:∀args w,(callFunc g args).run Tryz.prog w=.ok (.enter g args) w)(b off n c:Nat)(zs:List α)(w:World)(hp:PredBelow Tryz.prog g lb (fun x=>.agg (enc x).toArray) p w)(hz:n≤zs.length)(hbig:n≤9223372036854775807)(hb:b<w.heap.size)(hc:∀j,j<zs.length→∀i v,(enc zs[j]!)[i]? = some v→w.cell? ⟨b,off+j*k+i,none⟩=some v) :
  Calls Tryz.prog 232 #[.slice (some ⟨b,off,none⟩) n c,.func (.func g) #[] lb] w fun e w' => e=.returned (.int .i64 (Lib.idxBy (fun _ y=>p y) (zs.take n) default))∧Below w.heap.size w w' := AnyQ.slices_IndexFunc Tryz.laysSlH06_f232 k aE zE enc hk p g lb eg b off n c zs w hp hz hbig hb hc
def Tryz.laysSlH06_f234_ren:Go.Shelf.Ren:=⟨fun|6=>234|n=>n,fun|22=>25|23=>87|25=>291|3=>3|0=>0|4=>4|n=>n,fun|n=>n⟩
theorem Tryz.laysSlH06_f234:Go.Proofs.SlLaysH0.n6 Tryz.prog Tryz.laysSlH06_f234_ren:=by
 constructor
 all_goals first|exact⟨Tryz.f234.name,by decide,Tryz.func234.trans (congrArg some (by kernel_rfl))⟩|kernel_rfl|(intro _;kernel_rfl)|decide|(constructor<;>first|kernel_rfl|(intro _;kernel_rfl))
open Go.RowKit Go.Lib in
theorem Tryz.slices_IndexFunc_f234{α:Type}[Inhabited α](k:Nat)(aE:∀w,(isAgg 87).run Tryz.prog w=.ok true w)(zE:∀w,(Go.sizeOf 87).run Tryz.prog w=.ok k w)(enc:α→List Value)(hk:∀x,(enc x).length=k)(p:α→Bool)(g:Nat)(lb:Array Value)(eg:∀args w,(callFunc g args).run Tryz.prog w=.ok (.enter g args) w)(b off n c:Nat)(zs:List α)(w:World)(hp:PredBelow Tryz.prog g lb (fun x=>.agg (enc x).toArray) p w)(hz:n≤zs.length)(hbig:n≤9223372036854775807)(hb:b<w.heap.size)(hc:∀j,j<zs.length→∀i v,(enc zs[j]!)[i]? = some v→w.cell? ⟨b,off+j*k+i,none⟩=some v) :
  Calls Tryz.prog 234 #[.slice (some ⟨b,off,none⟩) n c,.func (.func g) #[] lb] w fun e w' => e=.returned (.int .i64 (Lib.idxBy (fun _ y=>p y) (zs.take n) default))∧Below w.heap.size w w' := AnyQ.slices_IndexFunc Tryz.laysSlH06_f234 k aE zE enc hk p g lb eg b off n c zs w hp hz hbig hb hc
end Go.Proofs
