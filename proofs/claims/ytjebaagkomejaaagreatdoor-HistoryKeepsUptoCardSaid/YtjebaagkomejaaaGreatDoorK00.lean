/- DERIVED: THE SHELF's CONTRACTS AT THIS DUMP, IN PLAIN WORDS (tools/lay-plain.mjs out of 'YtjebaagkomejaaaGreatDoorShelf.lean', which tools/lay-shelf.mjs wrote): THE SAME DECLARATIONS UNDER THE SAME NAMES: 'import', 'namespace', 'open', -/
import Derived.Shelf.Unicode.ValidAny
import Derived.Shelf.Strings.OnBuilder
import Derived.Shelf.Strings.BuilderK
import Derived.Shelf.Utf8.RuneCount
import Derived.Shelf.Strings.Shaped
import Derived.Shelf.Strings.RuneCount
import Derived.Shelf.SlicesE.Clone
import Derived.Shelf.SlicesQ.Equal
import Derived.Shelf.SlicesG.Cmp
import Derived.Shelf.SlicesQ.IndexFunc
import Derived.Shelf.SlSortCmp.InsertionK
import Derived.Test.YtjebaagkomejaaaGreatDoorProg
set_option linter.unusedVariables false
set_option linter.unusedSimpArgs false
set_option maxRecDepth 100000
set_option maxHeartbeats 12800000
open Go.Shelf renaming Ren→Sj
open Go.Proofs.Lays renaming n196→Sk,n195→Sl,n169→Sm,n156→Sn,n144→Sp
open Go renaming sizeOf→Sq,World→Sr,Calls→Ss,Value→St,TypeInfo→Su
open Go.Proofs.SlLaysE0 renaming n41→Sv
open Go.Proofs.AnyE renaming slices_Clone_nil→Sw,slices_Clone→Sx
open Go.Proofs.SlLaysH0 renaming n6→Sy,n8→Sz
open Go.Proofs.AnyQ renaming slices_IndexFunc→SA,slices_ContainsFunc→SB
namespace Go.Proofs
open Go.Shelf
def Tryz.lays169_ren:Sj:=⟨fun|169=>220|n=>n,fun|70=>229|9=>9|0=>0|72=>232|37=>230|127=>250|3=>3|5=>5|n=>n,fun|n=>n⟩
theorem Tryz.lays169:Sm Tryz.prog Tryz.lays169_ren:={
 mixed:=by kernel_rfl
 f169:=Tryz.func220.trans (congrArg some (by kernel_rfl))
 t0:=Tryz.underlying0
 a0:=Tryz.isAgg0
 z0:=Tryz.sizeOf0
 v0:=Tryz.zeroValue0
 t3:=Tryz.underlying3
 a3:=Tryz.isAgg3
 z3:=Tryz.sizeOf3
 v3:=Tryz.zeroValue3
 t9:=Tryz.underlying9
 a9:=Tryz.isAgg9
 z9:=Tryz.sizeOf9
 v9:=Tryz.zeroValue9
 t37:=Tryz.underlying230
 a37:=Tryz.isAgg230
 z37:=Tryz.sizeOf230
 v37:=Tryz.zeroValue230
 t70:=Tryz.underlying229
 a70:=Tryz.isAgg229
 z70:=Tryz.sizeOf229
 v70:=Tryz.zeroValue229
 t72:=Tryz.underlying232
 a72:=Tryz.isAgg232
 z72:=Tryz.sizeOf232
 v72:=Tryz.zeroValue232
 t127:=Tryz.underlying250
 a127:=Tryz.isAgg250
 z127:=Tryz.sizeOf250
 v127:=Tryz.zeroValue250 }
theorem Tryz.Builder_Extra_169:Builder.Extra Tryz.prog Tryz.lays169_ren:={
 sizeBuilder:=by kernel_rfl
 liesBuilder:=by kernel_rfl
 t5:=Tryz.underlying5
 a5:=Tryz.isAgg5
 z5:=Tryz.sizeOf5
 v5:=Tryz.zeroValue5
 infoByte:=by kernel_rfl
 cellsByte:=by kernel_rfl
 sizeByte:=by kernel_rfl
 neB5:=by decide }
open Go.RowKit in
theorem Tryz.Builder_String_any (B b:Nat)(l:List UInt8)(w:Sr)(h:Lib.IsBuilder 232 5 B b (Lib.byteCells l) w)(hBw:B≤w.heap.size) :
 Ss Tryz.prog 220 #[.pointer (some ⟨b,0,none⟩)] w fun e w'=>e=.returned (.string ⟨l.toArray⟩)∧Below B w w':=Any.Builder_String_any Tryz.lays169 Tryz.Builder_Extra_169 B b l w h hBw
def Tryz.lays156_ren:Sj:=⟨fun|156=>185|165=>222|166=>219|169=>220|240=>239|241=>241|276=>249|277=>254|n=>n,fun|31=>173|9=>9|3=>3|4=>4|0=>0|20=>20|72=>232|76=>235|70=>229|37=>230|75=>234|127=>250|164=>256|5=>5|80=>237|n=>n,fun|n=>n⟩
theorem Tryz.lays156:Sn Tryz.prog Tryz.lays156_ren:={
 mixed:=by kernel_rfl
 f156:=Tryz.func185.trans (congrArg some (by kernel_rfl))
 f165:=Tryz.func222.trans (congrArg some (by kernel_rfl))
 f166:=Tryz.func219.trans (congrArg some (by kernel_rfl))
 f169:=Tryz.func220.trans (congrArg some (by kernel_rfl))
 f240:=Tryz.func239.trans (congrArg some (by kernel_rfl))
 f241:=Tryz.func241.trans (congrArg some (by kernel_rfl))
 f276:=Tryz.func249.trans (congrArg some (by kernel_rfl))
 f277:=Tryz.func254.trans (congrArg some (by kernel_rfl))
 t0:=Tryz.underlying0
 a0:=Tryz.isAgg0
 z0:=Tryz.sizeOf0
 v0:=Tryz.zeroValue0
 t3:=Tryz.underlying3
 a3:=Tryz.isAgg3
 z3:=Tryz.sizeOf3
 v3:=Tryz.zeroValue3
 t4:=Tryz.underlying4
 a4:=Tryz.isAgg4
 z4:=Tryz.sizeOf4
 v4:=Tryz.zeroValue4
 t9:=Tryz.underlying9
 a9:=Tryz.isAgg9
 z9:=Tryz.sizeOf9
 v9:=Tryz.zeroValue9
 t20:=Tryz.underlying20
 a20:=Tryz.isAgg20
 z20:=Tryz.sizeOf20
 v20:=Tryz.zeroValue20
 t31:=Tryz.underlying173
 a31:=Tryz.isAgg173
 z31:=Tryz.sizeOf173
 v31:=Tryz.zeroValue173
 t37:=Tryz.underlying230
 a37:=Tryz.isAgg230
 z37:=Tryz.sizeOf230
 v37:=Tryz.zeroValue230
 t70:=Tryz.underlying229
 a70:=Tryz.isAgg229
 z70:=Tryz.sizeOf229
 v70:=Tryz.zeroValue229
 t72:=Tryz.underlying232
 a72:=Tryz.isAgg232
 z72:=Tryz.sizeOf232
 v72:=Tryz.zeroValue232
 t75:=Tryz.underlying234
 a75:=Tryz.isAgg234
 z75:=Tryz.sizeOf234
 v75:=Tryz.zeroValue234
 t76:=Tryz.underlying235
 a76:=Tryz.isAgg235
 z76:=Tryz.sizeOf235
 v76:=Tryz.zeroValue235
 t127:=Tryz.underlying250
 a127:=Tryz.isAgg250
 z127:=Tryz.sizeOf250
 v127:=Tryz.zeroValue250
 t164:=Tryz.underlying256
 a164:=Tryz.isAgg256
 z164:=Tryz.sizeOf256
 v164:=Tryz.zeroValue256 }
theorem Tryz.Builder_Extra_156:Builder.Extra Tryz.prog Tryz.lays156_ren:={
 sizeBuilder:=by kernel_rfl
 liesBuilder:=by kernel_rfl
 t5:=Tryz.underlying5
 a5:=Tryz.isAgg5
 z5:=Tryz.sizeOf5
 v5:=Tryz.zeroValue5
 infoByte:=by kernel_rfl
 cellsByte:=by kernel_rfl
 sizeByte:=by kernel_rfl
 neB5:=by decide }
open Go.RowKit in
theorem Tryz.strings_Join_none (a:Option Addr)(c:Nat)(sep:ByteArray)(w:Sr) :
 Ss Tryz.prog 185 #[.slice a 0 c,.string sep] w fun e w'=>e=.returned (.string ⟨#[]⟩)∧w'=w:=Any.strings_Join_none Tryz.lays156 Tryz.Builder_Extra_156 a c sep w
open Go.RowKit in
theorem Tryz.strings_Join (bk o c:Nat)(xs:List ByteArray)(sep:ByteArray)(w:Sr)(hcells:∀ (j:Nat) x,xs[j]? =some x→w.cell? ⟨bk,o+j,none⟩=some (.string x))(hbk:bk<w.heap.size)(hN:xs.length≤140737488355328)(hcap:xs.length≤c)(hlen:(Lib.join (xs.map (·.data.toList)) sep.data.toList).length≤140737488355328) :
 Ss Tryz.prog 185 #[.slice (some ⟨bk,o,none⟩) xs.length c,.string sep] w fun e w'=>e=.returned (.string ⟨(Lib.join (xs.map (·.data.toList)) sep.data.toList).toArray⟩)∧Below w.heap.size w w':=Any.strings_Join Tryz.lays156 Tryz.Builder_Extra_156 bk o c xs sep w hcells hbk hN hcap hlen
def Tryz.lays195_ren:Sj:=⟨fun|195=>188|n=>n,fun|9=>9|3=>3|0=>0|4=>4|n=>n,fun|n=>n⟩
theorem Tryz.lays195:Sl Tryz.prog Tryz.lays195_ren:={
 mixed:=by kernel_rfl
 f195:=Tryz.func188.trans (congrArg some (by kernel_rfl))
 t0:=Tryz.underlying0
 a0:=Tryz.isAgg0
 z0:=Tryz.sizeOf0
 v0:=Tryz.zeroValue0
 t3:=Tryz.underlying3
 a3:=Tryz.isAgg3
 z3:=Tryz.sizeOf3
 v3:=Tryz.zeroValue3
 t4:=Tryz.underlying4
 a4:=Tryz.isAgg4
 z4:=Tryz.sizeOf4
 v4:=Tryz.zeroValue4
 t9:=Tryz.underlying9
 a9:=Tryz.isAgg9
 z9:=Tryz.sizeOf9
 v9:=Tryz.zeroValue9 }
open Go.RowKit in
theorem Tryz.utf8_RuneCountInString (s:ByteArray)(w:Sr)(hs:s.size<9223372036854775807) :
 Ss Tryz.prog 188 #[.string s] w fun e w'=>e=.returned (.int .i64 (Lib.runeCount s))∧∃ pos,w'=w.iter s pos:=Any.utf8_RuneCountInString Tryz.lays195 s w hs
def Tryz.lays144_ren:Sj:=⟨fun|144=>178|143=>221|219=>240|217=>250|225=>251|224=>252|267=>253|266=>259|314=>260|n=>n,fun|9=>9|4=>4|3=>3|5=>5|46=>216|146=>262|51=>261|n=>n,fun|1=>2|n=>n⟩
theorem Tryz.lays144:Sp Tryz.prog Tryz.lays144_ren:={
 mixed:=by kernel_rfl
 f143:=Tryz.func221.trans (congrArg some (by kernel_rfl))
 f144:=Tryz.func178.trans (congrArg some (by kernel_rfl))
 f217:=Tryz.func250.trans (congrArg some (by kernel_rfl))
 f219:=Tryz.func240.trans (congrArg some (by kernel_rfl))
 f224:=Tryz.func252.trans (congrArg some (by kernel_rfl))
 f225:=Tryz.func251.trans (congrArg some (by kernel_rfl))
 f266:=Tryz.func259.trans (congrArg some (by kernel_rfl))
 f267:=Tryz.func253.trans (congrArg some (by kernel_rfl))
 f314:=Tryz.func260.trans (congrArg some (by kernel_rfl))
 t3:=Tryz.underlying3
 a3:=Tryz.isAgg3
 z3:=Tryz.sizeOf3
 v3:=Tryz.zeroValue3
 t4:=Tryz.underlying4
 a4:=Tryz.isAgg4
 z4:=Tryz.sizeOf4
 v4:=Tryz.zeroValue4
 t5:=Tryz.underlying5
 a5:=Tryz.isAgg5
 z5:=Tryz.sizeOf5
 v5:=Tryz.zeroValue5
 t9:=Tryz.underlying9
 a9:=Tryz.isAgg9
 z9:=Tryz.sizeOf9
 v9:=Tryz.zeroValue9
 t46:=Tryz.underlying216
 a46:=Tryz.isAgg216
 z46:=Tryz.sizeOf216
 v46:=Tryz.zeroValue216
 t51:=Tryz.underlying261
 a51:=Tryz.isAgg261
 z51:=Tryz.sizeOf261
 v51:=Tryz.zeroValue261
 t146:=Tryz.underlying262
 a146:=Tryz.isAgg262
 z146:=Tryz.sizeOf262
 v146:=Tryz.zeroValue262
 g1:=by kernel_rfl }
open Go.RowKit Go.Lib in
theorem Tryz.strings_Contains (s sub:ByteArray)(m:Int)(w:Sr)(hs:s.size<4294967281)(hm:w.cell? ⟨2,0,none⟩=some (.int .i64 m)) :
 Ss Tryz.prog 178 #[.string s,.string sub] w fun e w'=>e=.returned (.bool (Lib.contains s.data.toList sub.data.toList))∧w'=w:=Any.strings_Contains Tryz.lays144 s sub m w hs hm
def Tryz.laysSlE041_f68_ren:Sj:=⟨fun|41=>68|n=>n,fun|22=>23|23=>37|4=>4|n=>n,fun|n=>n⟩
theorem Tryz.laysSlE041_f68:Sv Tryz.prog Tryz.laysSlE041_f68_ren:={
 mixed:=by kernel_rfl
 f41:=⟨Tryz.f68.name,by decide,Tryz.func68.trans (congrArg some (by kernel_rfl))⟩
 t4:=Tryz.underlying4
 a4:=Tryz.isAgg4
 z4:=Tryz.sizeOf4
 v4:=Tryz.zeroValue4
 t22:=Tryz.underlying23
 a22:=Tryz.isAgg23
 z22:=Tryz.sizeOf23
 v22:=Tryz.zeroValue23 }
open Go.RowKit Go.Lib in
theorem Tryz.slices_Clone_f68 (i0:Su)(z:St)(size bytes:Nat)(hi:Tryz.prog.info? 37=some i0)(hz0:i0.zero=some z)(hz1:i0.size=size)(hz2:i0.bytes=bytes)(hzs:z.cells.size=size)(hsz:0<size)(z23:∀ w,(Sq 37).run Tryz.prog w=.ok size w)(b off n c:Nat)(news:List St)(w:Sr)(hl:news.length=n*size)(hn:n≤maxLen)(hbig:n*bytes≤140737488355328)(hc:∀ j u,news[j]? =some u→w.cell? ⟨b,off+j,none⟩=some u)(h1:∀ u∈news,u.oneCell'=true) :
 Ss Tryz.prog 68 #[.slice (some ⟨b,off,none⟩) n c] w fun e w'=>∃ v',e=.returned v'∧w'.ownsRow w.heap.size 37 size v' n news∧v'≠.slice none 0 0∧Below w.heap.size w w':=Sx Tryz.laysSlE041_f68 i0 z size bytes hi hz0 hz1 hz2 hzs hsz z23 b off n c news w hl hn hbig hc h1
def Tryz.laysSlE041_f69_ren:Sj:=⟨fun|41=>69|n=>n,fun|22=>25|23=>102|4=>4|n=>n,fun|n=>n⟩
theorem Tryz.laysSlE041_f69:Sv Tryz.prog Tryz.laysSlE041_f69_ren:={
 mixed:=by kernel_rfl
 f41:=⟨Tryz.f69.name,by decide,Tryz.func69.trans (congrArg some (by kernel_rfl))⟩
 t4:=Tryz.underlying4
 a4:=Tryz.isAgg4
 z4:=Tryz.sizeOf4
 v4:=Tryz.zeroValue4
 t22:=Tryz.underlying25
 a22:=Tryz.isAgg25
 z22:=Tryz.sizeOf25
 v22:=Tryz.zeroValue25 }
open Go.RowKit Go.Lib in
theorem Tryz.slices_Clone_f69 (i0:Su)(z:St)(size bytes:Nat)(hi:Tryz.prog.info? 102=some i0)(hz0:i0.zero=some z)(hz1:i0.size=size)(hz2:i0.bytes=bytes)(hzs:z.cells.size=size)(hsz:0<size)(z23:∀ w,(Sq 102).run Tryz.prog w=.ok size w)(b off n c:Nat)(news:List St)(w:Sr)(hl:news.length=n*size)(hn:n≤maxLen)(hbig:n*bytes≤140737488355328)(hc:∀ j u,news[j]? =some u→w.cell? ⟨b,off+j,none⟩=some u)(h1:∀ u∈news,u.oneCell'=true) :
 Ss Tryz.prog 69 #[.slice (some ⟨b,off,none⟩) n c] w fun e w'=>∃ v',e=.returned v'∧w'.ownsRow w.heap.size 102 size v' n news∧v'≠.slice none 0 0∧Below w.heap.size w w':=Sx Tryz.laysSlE041_f69 i0 z size bytes hi hz0 hz1 hz2 hzs hsz z23 b off n c news w hl hn hbig hc h1
def Tryz.laysSlE041_f70_ren:Sj:=⟨fun|41=>70|n=>n,fun|22=>24|23=>72|4=>4|n=>n,fun|n=>n⟩
theorem Tryz.laysSlE041_f70:Sv Tryz.prog Tryz.laysSlE041_f70_ren:={
 mixed:=by kernel_rfl
 f41:=⟨Tryz.f70.name,by decide,Tryz.func70.trans (congrArg some (by kernel_rfl))⟩
 t4:=Tryz.underlying4
 a4:=Tryz.isAgg4
 z4:=Tryz.sizeOf4
 v4:=Tryz.zeroValue4
 t22:=Tryz.underlying24
 a22:=Tryz.isAgg24
 z22:=Tryz.sizeOf24
 v22:=Tryz.zeroValue24 }
open Go.RowKit Go.Lib in
theorem Tryz.slices_Clone_f70 (i0:Su)(z:St)(size bytes:Nat)(hi:Tryz.prog.info? 72=some i0)(hz0:i0.zero=some z)(hz1:i0.size=size)(hz2:i0.bytes=bytes)(hzs:z.cells.size=size)(hsz:0<size)(z23:∀ w,(Sq 72).run Tryz.prog w=.ok size w)(b off n c:Nat)(news:List St)(w:Sr)(hl:news.length=n*size)(hn:n≤maxLen)(hbig:n*bytes≤140737488355328)(hc:∀ j u,news[j]? =some u→w.cell? ⟨b,off+j,none⟩=some u)(h1:∀ u∈news,u.oneCell'=true) :
 Ss Tryz.prog 70 #[.slice (some ⟨b,off,none⟩) n c] w fun e w'=>∃ v',e=.returned v'∧w'.ownsRow w.heap.size 72 size v' n news∧v'≠.slice none 0 0∧Below w.heap.size w w':=Sx Tryz.laysSlE041_f70 i0 z size bytes hi hz0 hz1 hz2 hzs hsz z23 b off n c news w hl hn hbig hc h1
def Tryz.laysSlE041_f181_ren:Sj:=⟨fun|41=>181|n=>n,fun|22=>38|23=>75|4=>4|n=>n,fun|n=>n⟩
theorem Tryz.laysSlE041_f181:Sv Tryz.prog Tryz.laysSlE041_f181_ren:={
 mixed:=by kernel_rfl
 f41:=⟨Tryz.f181.name,by decide,Tryz.func181.trans (congrArg some (by kernel_rfl))⟩
 t4:=Tryz.underlying4
 a4:=Tryz.isAgg4
 z4:=Tryz.sizeOf4
 v4:=Tryz.zeroValue4
 t22:=Tryz.underlying38
 a22:=Tryz.isAgg38
 z22:=Tryz.sizeOf38
 v22:=Tryz.zeroValue38 }
open Go.RowKit Go.Lib in
theorem Tryz.slices_Clone_f181 (i0:Su)(z:St)(size bytes:Nat)(hi:Tryz.prog.info? 75=some i0)(hz0:i0.zero=some z)(hz1:i0.size=size)(hz2:i0.bytes=bytes)(hzs:z.cells.size=size)(hsz:0<size)(z23:∀ w,(Sq 75).run Tryz.prog w=.ok size w)(b off n c:Nat)(news:List St)(w:Sr)(hl:news.length=n*size)(hn:n≤maxLen)(hbig:n*bytes≤140737488355328)(hc:∀ j u,news[j]? =some u→w.cell? ⟨b,off+j,none⟩=some u)(h1:∀ u∈news,u.oneCell'=true) :
 Ss Tryz.prog 181 #[.slice (some ⟨b,off,none⟩) n c] w fun e w'=>∃ v',e=.returned v'∧w'.ownsRow w.heap.size 75 size v' n news∧v'≠.slice none 0 0∧Below w.heap.size w w':=Sx Tryz.laysSlE041_f181 i0 z size bytes hi hz0 hz1 hz2 hzs hsz z23 b off n c news w hl hn hbig hc h1
def Tryz.laysSlE041_f182_ren:Sj:=⟨fun|41=>182|n=>n,fun|22=>73|23=>77|4=>4|n=>n,fun|n=>n⟩
theorem Tryz.laysSlE041_f182:Sv Tryz.prog Tryz.laysSlE041_f182_ren:={
 mixed:=by kernel_rfl
 f41:=⟨Tryz.f182.name,by decide,Tryz.func182.trans (congrArg some (by kernel_rfl))⟩
 t4:=Tryz.underlying4
 a4:=Tryz.isAgg4
 z4:=Tryz.sizeOf4
 v4:=Tryz.zeroValue4
 t22:=Tryz.underlying73
 a22:=Tryz.isAgg73
 z22:=Tryz.sizeOf73
 v22:=Tryz.zeroValue73 }
open Go.RowKit Go.Lib in
theorem Tryz.slices_Clone_f182 (i0:Su)(z:St)(size bytes:Nat)(hi:Tryz.prog.info? 77=some i0)(hz0:i0.zero=some z)(hz1:i0.size=size)(hz2:i0.bytes=bytes)(hzs:z.cells.size=size)(hsz:0<size)(z23:∀ w,(Sq 77).run Tryz.prog w=.ok size w)(b off n c:Nat)(news:List St)(w:Sr)(hl:news.length=n*size)(hn:n≤maxLen)(hbig:n*bytes≤140737488355328)(hc:∀ j u,news[j]? =some u→w.cell? ⟨b,off+j,none⟩=some u)(h1:∀ u∈news,u.oneCell'=true) :
 Ss Tryz.prog 182 #[.slice (some ⟨b,off,none⟩) n c] w fun e w'=>∃ v',e=.returned v'∧w'.ownsRow w.heap.size 77 size v' n news∧v'≠.slice none 0 0∧Below w.heap.size w w':=Sx Tryz.laysSlE041_f182 i0 z size bytes hi hz0 hz1 hz2 hzs hsz z23 b off n c news w hl hn hbig hc h1
open Go.RowKit Go.Lib in
theorem Tryz.slices_Clone_nil_f68 (n c:Nat)(w:Sr) :
 Ss Tryz.prog 68 #[.slice none n c] w fun e w'=>e=.returned (.slice none 0 0)∧w'=w:=Sw Tryz.laysSlE041_f68 n c w
open Go.RowKit Go.Lib in
theorem Tryz.slices_Clone_nil_f69 (n c:Nat)(w:Sr) :
 Ss Tryz.prog 69 #[.slice none n c] w fun e w'=>e=.returned (.slice none 0 0)∧w'=w:=Sw Tryz.laysSlE041_f69 n c w
open Go.RowKit Go.Lib in
theorem Tryz.slices_Clone_nil_f70 (n c:Nat)(w:Sr) :
 Ss Tryz.prog 70 #[.slice none n c] w fun e w'=>e=.returned (.slice none 0 0)∧w'=w:=Sw Tryz.laysSlE041_f70 n c w
open Go.RowKit Go.Lib in
theorem Tryz.slices_Clone_nil_f181 (n c:Nat)(w:Sr) :
 Ss Tryz.prog 181 #[.slice none n c] w fun e w'=>e=.returned (.slice none 0 0)∧w'=w:=Sw Tryz.laysSlE041_f181 n c w
open Go.RowKit Go.Lib in
theorem Tryz.slices_Clone_nil_f182 (n c:Nat)(w:Sr) :
 Ss Tryz.prog 182 #[.slice none n c] w fun e w'=>e=.returned (.slice none 0 0)∧w'=w:=Sw Tryz.laysSlE041_f182 n c w
def Tryz.laysSlQ8_f196_ren:Sj:=⟨fun|8=>196|n=>n,fun|22=>73|24=>77|4=>4|3=>3|0=>0|n=>n,fun|n=>n⟩
theorem Tryz.laysSlQ8_f196:Go.Proofs.SlLaysQ.n8 Tryz.prog Tryz.laysSlQ8_f196_ren:={
 mixed:=by kernel_rfl
 f8:=⟨Tryz.f196.name,by decide,Tryz.func196.trans (congrArg some (by kernel_rfl))⟩
 t0:=Tryz.underlying0
 a0:=Tryz.isAgg0
 z0:=Tryz.sizeOf0
 v0:=Tryz.zeroValue0
 t3:=Tryz.underlying3
 a3:=Tryz.isAgg3
 z3:=Tryz.sizeOf3
 v3:=Tryz.zeroValue3
 t4:=Tryz.underlying4
 a4:=Tryz.isAgg4
 z4:=Tryz.sizeOf4
 v4:=Tryz.zeroValue4
 t22:=Tryz.underlying73
 a22:=Tryz.isAgg73
 z22:=Tryz.sizeOf73
 v22:=Tryz.zeroValue73 }
open Go.RowKit Go.Lib in
theorem Tryz.slices_Equal_f196 {α:Type} [Inhabited α] (k:Nat)(aE:∀ w,(isAgg 77).run Tryz.prog w=.ok true w)(zE:∀ w,(Sq 77).run Tryz.prog w=.ok k w)(enc:α→List St)(hk:∀ x,(enc x).length=k)(eq:α→α→Bool)(hne:NeqAt Tryz.prog 77 (fun x=>.agg (enc x).toArray) eq)(b1 o1 n c b2 o2 m d:Nat)(xs ys:List α)(w:Sr)(hx:n≤xs.length)(hy:m≤ys.length)(hbig:n≤9223372036854775807)(hbig2:m≤9223372036854775807)(hc1:∀ j,j<xs.length→∀ i v,(enc xs[j]!)[i]? =some v→w.cell? ⟨b1,o1+j*k+i,none⟩=some v)(hc2:∀ j,j<ys.length→∀ i v,(enc ys[j]!)[i]? =some v→w.cell? ⟨b2,o2+j*k+i,none⟩=some v) :
 Ss Tryz.prog 196 #[.slice (some ⟨b1,o1,none⟩) n c,.slice (some ⟨b2,o2,none⟩) m d] w fun e w'=>e=.returned (.bool (Lib.allEq eq (xs.take n) (ys.take m)))∧∃ q,w'=w.drewN q:=AnyQ.slices_Equal Tryz.laysSlQ8_f196 k aE zE enc hk eq hne b1 o1 n c b2 o2 m d xs ys w hx hy hbig hbig2 hc1 hc2
def Tryz.laysSlC25_f119_ren:Sj:=⟨fun|5=>119|7=>180|n=>n,fun|22=>2|3=>3|4=>4|n=>n,fun|n=>n⟩
theorem Tryz.laysSlC25_f119:Go.Proofs.SlLaysC2.n5 Tryz.prog Tryz.laysSlC25_f119_ren:={
 mixed:=by kernel_rfl
 f5:=⟨Tryz.f119.name,by decide,Tryz.func119.trans (congrArg some (by kernel_rfl))⟩
 f7:=⟨Tryz.f180.name,by decide,Tryz.func180.trans (congrArg some (by kernel_rfl))⟩
 t3:=Tryz.underlying3
 a3:=Tryz.isAgg3
 z3:=Tryz.sizeOf3
 v3:=Tryz.zeroValue3
 t4:=Tryz.underlying4
 a4:=Tryz.isAgg4
 z4:=Tryz.sizeOf4
 v4:=Tryz.zeroValue4
 t22:=Tryz.underlying2
 a22:=Tryz.isAgg2
 z22:=Tryz.sizeOf2
 v22:=Tryz.zeroValue2 }
open Go.Lib in
theorem Tryz.cmp_Compare_int (x y:Int)(w:Sr) :
 Ss Tryz.prog 119 #[.int .i64 x,.int .i64 y] w fun e w'=>e=.returned (.int .i64 (Lib.compareInt x y))∧w'=w:=AnyG.cmp_Compare_int Tryz.laysSlC25_f119 x y w
def Tryz.laysSlH06_f127_ren:Sj:=⟨fun|6=>127|n=>n,fun|22=>24|23=>72|25=>149|3=>3|0=>0|4=>4|n=>n,fun|n=>n⟩
theorem Tryz.laysSlH06_f127:Sy Tryz.prog Tryz.laysSlH06_f127_ren:={
 mixed:=by kernel_rfl
 f6:=⟨Tryz.f127.name,by decide,Tryz.func127.trans (congrArg some (by kernel_rfl))⟩
 t0:=Tryz.underlying0
 a0:=Tryz.isAgg0
 z0:=Tryz.sizeOf0
 v0:=Tryz.zeroValue0
 t3:=Tryz.underlying3
 a3:=Tryz.isAgg3
 z3:=Tryz.sizeOf3
 v3:=Tryz.zeroValue3
 t4:=Tryz.underlying4
 a4:=Tryz.isAgg4
 z4:=Tryz.sizeOf4
 v4:=Tryz.zeroValue4
 t22:=Tryz.underlying24
 a22:=Tryz.isAgg24
 z22:=Tryz.sizeOf24
 v22:=Tryz.zeroValue24
 t25:=Tryz.underlying149
 a25:=Tryz.isAgg149
 z25:=Tryz.sizeOf149
 v25:=Tryz.zeroValue149 }
open Go.RowKit Go.Lib in
theorem Tryz.slices_IndexFunc_f127 {α:Type} [Inhabited α] (k:Nat)(aE:∀ w,(isAgg 72).run Tryz.prog w=.ok true w)(zE:∀ w,(Sq 72).run Tryz.prog w=.ok k w)(enc:α→List St)(hk:∀ x,(enc x).length=k)(p:α→Bool)(g:Nat)(lb:Array St)(eg:∀ args w,(callFunc g args).run Tryz.prog w=.ok (.enter g args) w)(b off n c:Nat)(zs:List α)(w:Sr)(hp:PredBelow Tryz.prog g lb (fun x=>.agg (enc x).toArray) p w)(hz:n≤zs.length)(hbig:n≤9223372036854775807)(hb:b<w.heap.size)(hc:∀ j,j<zs.length→∀ i v,(enc zs[j]!)[i]? =some v→w.cell? ⟨b,off+j*k+i,none⟩=some v) :
 Ss Tryz.prog 127 #[.slice (some ⟨b,off,none⟩) n c,.func (.func g) #[] lb] w fun e w'=>e=.returned (.int .i64 (Lib.idxBy (fun _ y=>p y) (zs.take n) default))∧Below w.heap.size w w':=SA Tryz.laysSlH06_f127 k aE zE enc hk p g lb eg b off n c zs w hp hz hbig hb hc
def Tryz.laysSlH06_f142_ren:Sj:=⟨fun|6=>142|n=>n,fun|22=>23|23=>37|25=>190|3=>3|0=>0|4=>4|n=>n,fun|n=>n⟩
theorem Tryz.laysSlH06_f142:Sy Tryz.prog Tryz.laysSlH06_f142_ren:={
 mixed:=by kernel_rfl
 f6:=⟨Tryz.f142.name,by decide,Tryz.func142.trans (congrArg some (by kernel_rfl))⟩
 t0:=Tryz.underlying0
 a0:=Tryz.isAgg0
 z0:=Tryz.sizeOf0
 v0:=Tryz.zeroValue0
 t3:=Tryz.underlying3
 a3:=Tryz.isAgg3
 z3:=Tryz.sizeOf3
 v3:=Tryz.zeroValue3
 t4:=Tryz.underlying4
 a4:=Tryz.isAgg4
 z4:=Tryz.sizeOf4
 v4:=Tryz.zeroValue4
 t22:=Tryz.underlying23
 a22:=Tryz.isAgg23
 z22:=Tryz.sizeOf23
 v22:=Tryz.zeroValue23
 t25:=Tryz.underlying190
 a25:=Tryz.isAgg190
 z25:=Tryz.sizeOf190
 v25:=Tryz.zeroValue190 }
open Go.RowKit Go.Lib in
theorem Tryz.slices_IndexFunc_f142 {α:Type} [Inhabited α] (k:Nat)(aE:∀ w,(isAgg 37).run Tryz.prog w=.ok true w)(zE:∀ w,(Sq 37).run Tryz.prog w=.ok k w)(enc:α→List St)(hk:∀ x,(enc x).length=k)(p:α→Bool)(g:Nat)(lb:Array St)(eg:∀ args w,(callFunc g args).run Tryz.prog w=.ok (.enter g args) w)(b off n c:Nat)(zs:List α)(w:Sr)(hp:PredBelow Tryz.prog g lb (fun x=>.agg (enc x).toArray) p w)(hz:n≤zs.length)(hbig:n≤9223372036854775807)(hb:b<w.heap.size)(hc:∀ j,j<zs.length→∀ i v,(enc zs[j]!)[i]? =some v→w.cell? ⟨b,off+j*k+i,none⟩=some v) :
 Ss Tryz.prog 142 #[.slice (some ⟨b,off,none⟩) n c,.func (.func g) #[] lb] w fun e w'=>e=.returned (.int .i64 (Lib.idxBy (fun _ y=>p y) (zs.take n) default))∧Below w.heap.size w w':=SA Tryz.laysSlH06_f142 k aE zE enc hk p g lb eg b off n c zs w hp hz hbig hb hc
def Tryz.laysSlH06_f186_ren:Sj:=⟨fun|6=>186|n=>n,fun|22=>25|23=>102|25=>181|3=>3|0=>0|4=>4|n=>n,fun|n=>n⟩
theorem Tryz.laysSlH06_f186:Sy Tryz.prog Tryz.laysSlH06_f186_ren:={
 mixed:=by kernel_rfl
 f6:=⟨Tryz.f186.name,by decide,Tryz.func186.trans (congrArg some (by kernel_rfl))⟩
 t0:=Tryz.underlying0
 a0:=Tryz.isAgg0
 z0:=Tryz.sizeOf0
 v0:=Tryz.zeroValue0
 t3:=Tryz.underlying3
 a3:=Tryz.isAgg3
 z3:=Tryz.sizeOf3
 v3:=Tryz.zeroValue3
 t4:=Tryz.underlying4
 a4:=Tryz.isAgg4
 z4:=Tryz.sizeOf4
 v4:=Tryz.zeroValue4
 t22:=Tryz.underlying25
 a22:=Tryz.isAgg25
 z22:=Tryz.sizeOf25
 v22:=Tryz.zeroValue25
 t25:=Tryz.underlying181
 a25:=Tryz.isAgg181
 z25:=Tryz.sizeOf181
 v25:=Tryz.zeroValue181 }
open Go.RowKit Go.Lib in
theorem Tryz.slices_IndexFunc_f186 {α:Type} [Inhabited α] (k:Nat)(aE:∀ w,(isAgg 102).run Tryz.prog w=.ok true w)(zE:∀ w,(Sq 102).run Tryz.prog w=.ok k w)(enc:α→List St)(hk:∀ x,(enc x).length=k)(p:α→Bool)(g:Nat)(lb:Array St)(eg:∀ args w,(callFunc g args).run Tryz.prog w=.ok (.enter g args) w)(b off n c:Nat)(zs:List α)(w:Sr)(hp:PredBelow Tryz.prog g lb (fun x=>.agg (enc x).toArray) p w)(hz:n≤zs.length)(hbig:n≤9223372036854775807)(hb:b<w.heap.size)(hc:∀ j,j<zs.length→∀ i v,(enc zs[j]!)[i]? =some v→w.cell? ⟨b,off+j*k+i,none⟩=some v) :
 Ss Tryz.prog 186 #[.slice (some ⟨b,off,none⟩) n c,.func (.func g) #[] lb] w fun e w'=>e=.returned (.int .i64 (Lib.idxBy (fun _ y=>p y) (zs.take n) default))∧Below w.heap.size w w':=SA Tryz.laysSlH06_f186 k aE zE enc hk p g lb eg b off n c zs w hp hz hbig hb hc
def Tryz.laysSlH08_f98_ren:Sj:=⟨fun|8=>98|6=>127|n=>n,fun|22=>24|23=>72|25=>149|4=>4|3=>3|0=>0|n=>n,fun|n=>n⟩
theorem Tryz.laysSlH08_f98:Sz Tryz.prog Tryz.laysSlH08_f98_ren:={
 mixed:=by kernel_rfl
 f6:=⟨Tryz.f127.name,by decide,Tryz.func127.trans (congrArg some (by kernel_rfl))⟩
 f8:=⟨Tryz.f98.name,by decide,Tryz.func98.trans (congrArg some (by kernel_rfl))⟩
 t0:=Tryz.underlying0
 a0:=Tryz.isAgg0
 z0:=Tryz.sizeOf0
 v0:=Tryz.zeroValue0
 t3:=Tryz.underlying3
 a3:=Tryz.isAgg3
 z3:=Tryz.sizeOf3
 v3:=Tryz.zeroValue3
 t4:=Tryz.underlying4
 a4:=Tryz.isAgg4
 z4:=Tryz.sizeOf4
 v4:=Tryz.zeroValue4
 t22:=Tryz.underlying24
 a22:=Tryz.isAgg24
 z22:=Tryz.sizeOf24
 v22:=Tryz.zeroValue24
 t25:=Tryz.underlying149
 a25:=Tryz.isAgg149
 z25:=Tryz.sizeOf149
 v25:=Tryz.zeroValue149 }
open Go.RowKit Go.Lib in
theorem Tryz.slices_ContainsFunc_f98 {α:Type} [Inhabited α] (k:Nat)(aE:∀ w,(isAgg 72).run Tryz.prog w=.ok true w)(zE:∀ w,(Sq 72).run Tryz.prog w=.ok k w)(enc:α→List St)(hk:∀ x,(enc x).length=k)(p:α→Bool)(g:Nat)(lb:Array St)(eg:∀ args w,(callFunc g args).run Tryz.prog w=.ok (.enter g args) w)(b off n c:Nat)(zs:List α)(w:Sr)(hp:PredBelow Tryz.prog g lb (fun x=>.agg (enc x).toArray) p w)(hz:n≤zs.length)(hbig:n≤9223372036854775807)(hb:b<w.heap.size)(hc:∀ j,j<zs.length→∀ i v,(enc zs[j]!)[i]? =some v→w.cell? ⟨b,off+j*k+i,none⟩=some v) :
 Ss Tryz.prog 98 #[.slice (some ⟨b,off,none⟩) n c,.func (.func g) #[] lb] w fun e w'=>e=.returned (.bool ((zs.take n).any p))∧Below w.heap.size w w':=SB Tryz.laysSlH08_f98 k aE zE enc hk p g lb eg b off n c zs w hp hz hbig hb hc
def Tryz.laysSlH08_f131_ren:Sj:=⟨fun|8=>131|6=>186|n=>n,fun|22=>25|23=>102|25=>181|4=>4|3=>3|0=>0|n=>n,fun|n=>n⟩
theorem Tryz.laysSlH08_f131:Sz Tryz.prog Tryz.laysSlH08_f131_ren:={
 mixed:=by kernel_rfl
 f6:=⟨Tryz.f186.name,by decide,Tryz.func186.trans (congrArg some (by kernel_rfl))⟩
 f8:=⟨Tryz.f131.name,by decide,Tryz.func131.trans (congrArg some (by kernel_rfl))⟩
 t0:=Tryz.underlying0
 a0:=Tryz.isAgg0
 z0:=Tryz.sizeOf0
 v0:=Tryz.zeroValue0
 t3:=Tryz.underlying3
 a3:=Tryz.isAgg3
 z3:=Tryz.sizeOf3
 v3:=Tryz.zeroValue3
 t4:=Tryz.underlying4
 a4:=Tryz.isAgg4
 z4:=Tryz.sizeOf4
 v4:=Tryz.zeroValue4
 t22:=Tryz.underlying25
 a22:=Tryz.isAgg25
 z22:=Tryz.sizeOf25
 v22:=Tryz.zeroValue25
 t25:=Tryz.underlying181
 a25:=Tryz.isAgg181
 z25:=Tryz.sizeOf181
 v25:=Tryz.zeroValue181 }
open Go.RowKit Go.Lib in
theorem Tryz.slices_ContainsFunc_f131 {α:Type} [Inhabited α] (k:Nat)(aE:∀ w,(isAgg 102).run Tryz.prog w=.ok true w)(zE:∀ w,(Sq 102).run Tryz.prog w=.ok k w)(enc:α→List St)(hk:∀ x,(enc x).length=k)(p:α→Bool)(g:Nat)(lb:Array St)(eg:∀ args w,(callFunc g args).run Tryz.prog w=.ok (.enter g args) w)(b off n c:Nat)(zs:List α)(w:Sr)(hp:PredBelow Tryz.prog g lb (fun x=>.agg (enc x).toArray) p w)(hz:n≤zs.length)(hbig:n≤9223372036854775807)(hb:b<w.heap.size)(hc:∀ j,j<zs.length→∀ i v,(enc zs[j]!)[i]? =some v→w.cell? ⟨b,off+j*k+i,none⟩=some v) :
 Ss Tryz.prog 131 #[.slice (some ⟨b,off,none⟩) n c,.func (.func g) #[] lb] w fun e w'=>e=.returned (.bool ((zs.take n).any p))∧Below w.heap.size w w':=SB Tryz.laysSlH08_f131 k aE zE enc hk p g lb eg b off n c zs w hp hz hbig hb hc
def Tryz.laysSlF020_f223_ren:Sj:=⟨fun|20=>223|n=>n,fun|24=>72|22=>24|3=>3|25=>183|4=>4|0=>0|n=>n,fun|n=>n⟩
theorem Tryz.laysSlF020_f223:Go.Proofs.SlLaysF0.n20 Tryz.prog Tryz.laysSlF020_f223_ren:={
 mixed:=by kernel_rfl
 f20:=⟨Tryz.f223.name,by decide,Tryz.func223.trans (congrArg some (by kernel_rfl))⟩
 t0:=Tryz.underlying0
 a0:=Tryz.isAgg0
 z0:=Tryz.sizeOf0
 v0:=Tryz.zeroValue0
 t3:=Tryz.underlying3
 a3:=Tryz.isAgg3
 z3:=Tryz.sizeOf3
 v3:=Tryz.zeroValue3
 t4:=Tryz.underlying4
 a4:=Tryz.isAgg4
 z4:=Tryz.sizeOf4
 v4:=Tryz.zeroValue4
 t22:=Tryz.underlying24
 a22:=Tryz.isAgg24
 z22:=Tryz.sizeOf24
 v22:=Tryz.zeroValue24
 t25:=Tryz.underlying183
 a25:=Tryz.isAgg183
 z25:=Tryz.sizeOf183
 v25:=Tryz.zeroValue183 }
open Go.RowKit Go.Lib Go.Sort in
theorem Tryz.insertionSortCmpFunc {α:Type} [Inhabited α] (k:Nat)(aE:∀ w,(isAgg 72).run Tryz.prog w=.ok true w)(zE:∀ w,(Sq 72).run Tryz.prog w=.ok k w)(enc:α→List St)(hk:∀ x,(enc x).length=k)(h1:∀ x,∀ v∈enc x,v.oneCell'=true)(cf:α→α→Int)(g:Nat)(cb:Array St)(blk off cap a b:Nat)(d:Array α)(w:Sr)(eg:∀ args w,(callFunc g args).run Tryz.prog w=.ok (.enter g args) w)(hcmp:CmpLays Tryz.prog g cb enc k cf blk off d.size w)(hH:HoldsK enc k w blk off d)(hblk:blk<w.heap.size)(hab:a≤b)(hb:b≤d.size)(hsz:d.size<4611686018427387904) :
 Ss Tryz.prog 223 #[.slice (some ⟨blk,off,none⟩) d.size cap,.int .i64 a,.int .i64 b,.func (.func g) #[] cb] w fun e w' =>
  e=.returned (.tuple #[])∧∃ n os,w'=sortWorldK enc k w blk off n (Sort.insertionSort (ltOf cf) d a b) os:=AnyQ.insertionSortCmpFunc Tryz.laysSlF020_f223 k aE zE enc hk h1 cf g cb blk off cap a b d w eg hcmp hH hblk hab hb hsz
def Tryz.lays196_ren:Sj:=⟨fun|196=>139|259=>192|n=>n,fun|9=>9|4=>4|3=>3|5=>5|12=>12|119=>212|0=>0|46=>216|139=>215|138=>214|53=>245|n=>n,fun|3=>0|4=>1|n=>n⟩
theorem Tryz.lays196:Sk Tryz.prog Tryz.lays196_ren:={
 mixed:=by kernel_rfl
 f196:=Tryz.func139.trans (congrArg some (by kernel_rfl))
 f259:=Tryz.func192.trans (congrArg some (by kernel_rfl))
 t0:=Tryz.underlying0
 a0:=Tryz.isAgg0
 z0:=Tryz.sizeOf0
 v0:=Tryz.zeroValue0
 t3:=Tryz.underlying3
 a3:=Tryz.isAgg3
 z3:=Tryz.sizeOf3
 v3:=Tryz.zeroValue3
 t4:=Tryz.underlying4
 a4:=Tryz.isAgg4
 z4:=Tryz.sizeOf4
 v4:=Tryz.zeroValue4
 t5:=Tryz.underlying5
 a5:=Tryz.isAgg5
 z5:=Tryz.sizeOf5
 v5:=Tryz.zeroValue5
 t9:=Tryz.underlying9
 a9:=Tryz.isAgg9
 z9:=Tryz.sizeOf9
 v9:=Tryz.zeroValue9
 t12:=Tryz.underlying12
 a12:=Tryz.isAgg12
 z12:=Tryz.sizeOf12
 v12:=Tryz.zeroValue12
 t46:=Tryz.underlying216
 a46:=Tryz.isAgg216
 z46:=Tryz.sizeOf216
 v46:=Tryz.zeroValue216
 t53:=Tryz.underlying245
 a53:=Tryz.isAgg245
 z53:=Tryz.sizeOf245
 v53:=Tryz.zeroValue245
 t119:=Tryz.underlying212
 a119:=Tryz.isAgg212
 z119:=Tryz.sizeOf212
 t138:=Tryz.underlying214
 a138:=Tryz.isAgg214
 z138:=Tryz.sizeOf214
 v138:=Tryz.zeroValue214
 t139:=Tryz.underlying215
 a139:=Tryz.isAgg215
 z139:=Tryz.sizeOf215
 v139:=Tryz.zeroValue215
 g3:=by kernel_rfl
 g4:=by kernel_rfl }
theorem Tryz.utf8_ValidString (s:ByteArray)(w:Sr)(hs:s.size≤9223372036854775807)(hT:Lib.Utf8Tabs 0 1 w):Ss Tryz.prog 139 #[.string s] w fun e w'=>e=.returned (.bool (Lib.validD s.data.toList))∧RowKit.Below w.heap.size w w':=Any.utf8_ValidString Tryz.lays196 s w hs hT
end Go.Proofs
