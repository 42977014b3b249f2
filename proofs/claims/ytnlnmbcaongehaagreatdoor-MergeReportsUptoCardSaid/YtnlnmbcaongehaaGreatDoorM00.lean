/- The contract of lines.Name: what it returns for any string. The contracts of charset.place and charset.Index: what they return for any string and character. The contract of charset.Index: the index of a character in the repertoire. DERIVED: THE SHELF's CONTRACTS AT THIS DUMP, IN PLAIN WORDS (tools/lay-plain.mjs out of 'YtnlnmbcaongehaaGreatDoorShelfT.lean', which tools/lay-shelf.mjs wrote): THE SAME DECLARATIONS UNDER THE SAME NAMES: 'import', 'namespace', 'open', 'def', 'theorem' AND NOTHING ELSE: no command of the shelf's: FOR A HAND-IN. Each laying: the table of numbers ('.._ren') and one theorem, a field a fact of the dump's own or the kernel's comparison; each contract: ONE APPLICATION. The contracts of charset.Valid and charset.Len: what they return for any string. The contracts of timebase.of, Valid, CanDrop and document.rate: what they return for any rate. -/
import Derived.Test.YtnlnmbcaongehaaGreatDoorProg
import Derived.WalkLawsBesides
import Derived.WalkSpells
import Derived.Shelf.Unicode.ValidAny
import Derived.Shelf.Strings.Builder2
import Derived.Shelf.Strings.BuilderK
import Derived.Shelf.Utf8.RuneCount
import Derived.Shelf.Strconv.Itoa3
import Derived.Shelf.Strings.Shaped
import Derived.Shelf.Strings.RuneCount
import Derived.Shelf.Slices.Cells
import Derived.Shelf.SlicesG.CompactI
import Derived.Shelf.SlicesE.Clone
import Derived.Shelf.SlicesQ.Equal
import Derived.Shelf.SlicesG.Cmp
import Derived.Shelf.SlicesQ.IndexFunc
import Derived.Shelf.SlSortCmp.InsertionK
import Derived.Deep.WholeRow
set_option linter.unusedVariables false
set_option linter.unusedSimpArgs false
set_option maxRecDepth 100000
set_option maxHeartbeats 12800000
open Go.Lib renaming hid→h_
open Go renaming World→fm,Calls→fp,Value→ft,sizeOf→fu,TypeInfo→fw,wpList_store_row→fB,heap_alloc_last→fC
open Bool renaming false_and→fD,and_false→fE
open Go.Utf8 renaming decode→fF
open Nat renaming le_refl→fG
open Go.Instr renaming next→fH,field→fI
open Go.RowKit.Below renaming refl→fJ
open Go.Shelf renaming Ren→fK
open Go.Proofs.Lays renaming n196→fL,n195→fM,n194→fN,n169→fO,n144→fP
open Go.Lib renaming compact→fQ,validD→fR,runeCount→fS,runeCountFrom→fT,iterAt_size→fU,Utf8Tabs→fV
open Go.Proofs.SlLaysE0 renaming n41→fW
open Go.Proofs.AnyE renaming slices_Clone_nil→fX,slices_Clone→fY
open Go.World renaming size_alloc→fZ
namespace Go.Proofs.YtnlnmbcaongehaaGreatDoor
open Go.RowKit
def cT (c:Nat):Bool:=decide (65≤c∧c≤90)||decide (48≤c∧c≤57)||decide (c=95)||decide (c=45)
theorem zkG (c:Nat)(h:(65≤c∧c≤90)∨(48≤c∧c≤57)∨c=95∨c=45):cT c=true:=by
 simp only [cT,Bool.or_eq_true,decide_eq_true_eq];omega
theorem zk5 (c:Nat)(h:¬ ((65≤c∧c≤90)∨(48≤c∧c≤57)∨c=95∨c=45)):cT c=false:=by
 simp only [cT,Bool.or_eq_false_iff,decide_eq_false_iff_not];omega
def cU (s:ByteArray):Bool:=decide (1≤s.size)&&decide (s.size≤16)&&decide (65≤(s.data.toList.headD 0).toNat)&&decide ((s.data.toList.headD 0).toNat≤90)&&s.data.toList.all (fun c=>cT c.toNat)
theorem zaS (s:ByteArray)(h:0<s.size):s.data.toList.headD 0=s[0]:=by
 have hl:0<s.data.toList.length:=by simpa using h
 cases hs:s.data.toList with
 | nil=>rw [hs] at hl;simp at hl
 | cons c l =>
   have e:s[0]=s.data.toList[0]:=by rfl
   rw [e]
   simp [hs]
def okTo (s:ByteArray)(k:Nat):Prop:=(s.data.toList.take k).all (fun c=>cT c.toNat)=true
theorem zio (s:ByteArray):okTo s 0:=by simp [okTo]
theorem ziq (s:ByteArray)(k:Nat)(h:k<s.size)(ho:okTo s k)(hb:cT s[k].toNat=true):okTo s (k+1):=by
 have hl:k<s.data.toList.length:=by simpa using h
 unfold okTo at *
 rw [List.take_succ_eq_append_getElem hl,List.all_append,ho]
 have e:s.data.toList[k]=s[k]:=rfl
 simp [e,hb]
theorem zjs (s:ByteArray)(h1:1≤s.size)(h2:s.size≤16)(h3:65≤s[0].toNat)(h4:s[0].toNat≤90)(ho:okTo s s.size):cU s=true:=by
 unfold okTo at ho
 rw [List.take_of_length_le (by simp)] at ho
 simp only [cU,zaS s h1,h1,h2,h3,h4,ho,decide_true,Bool.and_true]
theorem zkg (s:ByteArray)(k:Nat)(h:k<s.size)(hb:cT s[k].toNat=false):cU s=false:=by
 have hm:s[k]∈s.data.toList:=List.getElem_mem (l:=s.data.toList) (by simpa using h)
 have:s.data.toList.all (fun c=>cT c.toNat)=false:=by
  rw [List.all_eq_false]
  exact⟨s[k],hm,by simp [hb]⟩
 simp [cU,this]
theorem fe (s:ByteArray)(w:fm)(hs:s.size≤4000000) :
 fp Tryz.prog 150 #[.string s] w fun e w'=>e=.returned (.bool (cU s))∧w=w':=by
 by_cases h1:s.size<1
 · have hn:cU s=false:=by simp [cU,show ¬ 1≤s.size by omega]
   have HN:=h_ hn;clear hn
   go_enter Tryz.func150,Tryz.ntmps150
   go_wp2
   go_ret
   rw [HN.out];exact⟨rfl,rfl⟩
 by_cases h2:16<s.size
 · have hn:cU s=false:=by simp [cU,show ¬ s.size≤16 by omega]
   have HN:=h_ hn;clear hn
   go_enter Tryz.func150,Tryz.ntmps150
   go_wp2
   go_ret
   rw [HN.out];exact⟨rfl,rfl⟩
 have hp:0<s.size:=by omega
 by_cases h3:s[0].toNat<65
 · have hn:cU s=false:=by simp only [cU,zaS s hp,show ¬ 65≤s[0].toNat by omega,decide_false,fE,fD]
   have HN:=h_ hn;clear hn
   go_enter Tryz.func150,Tryz.ntmps150
   go_wp2
   go_ret
   rw [HN.out];exact⟨rfl,rfl⟩
 by_cases h4:90<s[0].toNat
 · have hn:cU s=false:=by simp only [cU,zaS s hp,show ¬ s[0].toNat≤90 by omega,decide_false,fE,fD]
   have HN:=h_ hn;clear hn
   go_enter Tryz.func150,Tryz.ntmps150
   go_wp2
   go_ret
   rw [HN.out];exact⟨rfl,rfl⟩
 have HY:=h_ (zjs s (by omega) (by omega) (by omega) (by omega))
 go_enter Tryz.func150,Tryz.ntmps150
 go_wp2
 go_loop [25] (fun i=>∃ k:Nat,k≤s.size∧i=.int .i64 k∧okTo s k) (fun i=>s.size-(intOf i).toNat)
 case atStart=>exact⟨0,by omega,rfl,zio s⟩
 case round =>
  obtain⟨k,hk,rfl,hok⟩:=hrel
  by_cases hlt:k<s.size
  · have hN:=h_ (zkg s k hlt)
    have hS:=h_ (ziq s k hlt hok)
    have hb:=s[k].toNat_lt
    go_wp2
    all_goals first
     | (go_round
        case rel=>exact⟨k+1,by omega,by go_num,hS.out (zkG _ (by first|omega|(simp only [bne_eq_false_iff_eq] at *;omega)))⟩
        case measure=>simp [intOf];omega)
     | (go_ret
        rw [hN.out (zk5 _ (by first|omega|(simp only [bne_iff_ne,ne_eq] at *;omega)))]
        exact⟨rfl,rfl⟩)
  · obtain rfl:k=s.size:=by omega
    go_wp2
    go_ret
    rw [HY.out hok];exact⟨rfl,rfl⟩
def cd (s:ByteArray):Nat→Nat→List Nat
 | 0,_=>[]
 | b+1,pos=>if pos<s.size then (fF s pos).1::cd s b (pos+(fF s pos).2) else []
def runes (s:ByteArray):List Nat:=cd s s.size 0
theorem zbj (s:ByteArray)(b pos:Nat)(h:¬ pos<s.size):cd s b pos=[]:=by
 cases b<;>simp [cd,h]
theorem zas (s:ByteArray)(b pos:Nat)(h:pos<s.size)(hb:s.size≤pos+b):∃ c,b=c+1∧cd s b pos=(fF s pos).1::cd s c (pos+(fF s pos).2):=by
 cases b with
 | zero=>omega
 | succ c=>exact⟨c,rfl,by simp [cd,h]⟩
theorem width_pos (s:ByteArray)(pos:Nat)(h:pos<s.size):1≤(fF s pos).2:=by
 by_cases ha:(s[pos]'h).toNat<128
 · rw [decode_ascii s pos h ha]
   exact fG _
 · exact(decode_high s pos h (by omega)).2
def eu:List Nat→Int→Int→Int
 | [],_,_=>-1
 | x::l,r,n=>if (x:Int)=r then n else eu l r (n+1)
theorem zhm (l:List Nat)(x:Nat)(r n:Int)(h:(x:Int)=r):eu (x::l) r n=n:=by simp [eu,h]
theorem zii (l:List Nat)(x:Nat)(r n:Int)(h:¬ (x:Int)=r):eu (x::l) r n=eu l r (n+1):=by simp [eu,h]
theorem zfU (s:ByteArray)(r:Int)(w:fm)(hs:s.size≤4000000) :
 fp Tryz.prog 259 #[.string s,.int .i32 r] w fun e w'=>e=.returned (.int .i64 (eu (runes s) r 0))∧Below w.heap.size w w':=by
 generalize hG:eu (runes s) r 0=G
 have hG0:eu (cd s s.size 0) r 0=G:=hG
 have H0:=h_ hG0
 clear hG hG0
 go_enter Tryz.func259,Tryz.ntmps259
 go_wp2
 go_loopw [5] (fun n w'=>∃ (pos b:Nat) (k:Nat),w'=w.iter s pos∧n=.int .i64 k∧eu (cd s b pos) r k=G∧s.size≤pos+b∧k≤pos∧k≤s.size) (fun _ w'=>s.size-w'.iterPos w.heap.size)
 case atStart=>exact⟨0,s.size,0,rfl,rfl,H0.out,by omega,by omega,by omega⟩
 case round =>
  obtain⟨pos,b,k,rfl,rfl,hp,hb,hk,hk2⟩:=hrel
  by_cases hlt:pos<s.size
  · obtain⟨c,rfl,hn⟩:=zas s b pos hlt hb
    have hwd:=width_pos s pos hlt
    have hnx:∀ ty,(fH (.pointer (some ⟨w.heap.size,0,none⟩)) true ty).run Tryz.prog (w.iter s pos)=_:=fun ty=>run_next_any w s pos ty hlt
    rw [hn] at hp
    by_cases he:((fF s pos).1:Int)=r
    · rw [zhm _ _ _ _ he] at hp
      have hbe:(((fF s pos).1:Int)==r)=true:=by simpa using he
      have HP:=h_ hp
      clear hp hn he H0
      go_wp2
      go_ret
      exact⟨by rw [←HP.out];rfl,(fJ _ _).alloc (fG _) _⟩
    · rw [zii _ _ _ _ he] at hp
      have hbe:(((fF s pos).1:Int)==r)=false:=by simpa using he
      have HP:=h_ hp
      clear hp hn he H0
      go_wp2
      go_roundw
      case rel=>exact⟨pos+(fF s pos).2,c,k+1,rfl,by go_num,HP.out,by omega,by omega,by omega⟩
      case measure=>simp;omega
  · have hnx:∀ ty,(fH (.pointer (some ⟨w.heap.size,0,none⟩)) true ty).run Tryz.prog (w.iter s pos)=_:=fun ty=>run_next_end w s pos ty hlt
    rw [zbj s b pos hlt] at hp
    have HP:=h_ hp
    clear hp H0
    go_wp2
    go_ret
    exact⟨by rw [←HP.out];rfl,(fJ _ _).alloc (fG _) _⟩
def repertoire:List Nat:=[32,33,34,35,36,37,38,39,40,41,42,43,44,45,46,47,48,49,50,51,52,53,54,55,56,57,58,59,60,61,62,63,64,65,66,67,68,69,70,71,72,73,74,75,76,77,78,79,80,81,82,83,84,85,86,87,88,89,90,91,92,93,94,95,96,97,98,99,100,101,102,103,104,105,106,107,108,109,110,111,112,113,114,115,116,117,118,119,120,121,122,123,124,125,126,161,162,163,164,165,166,167,169,171,174,176,183,187,189,191,192,193,194,195,196,197,198,199,200,201,202,203,204,205,206,207,209,210,211,212,213,214,216,217,218,219,220,223,224,225,226,227,228,229,230,231,232,233,234,235,236,237,238,239,241,242,243,244,245,246,248,249,250,251,252,338,339,8212,8216,8217,8220,8221,8226,8230,8482,9834]
def idx (r:Int):Int:=if 32≤r∧r≤126 then r-32 else eu repertoire r 0
def zi8:ByteArray:=⟨#[32,33,34,35,36,37,38,39,40,41,42,43,44,45,46,47,48,49,50,51,52,53,54,55,56,57,58,59,60,61,62,63,64,65,66,67,68,69,70,71,72,73,74,75,76,77,78,79,80,81,82,83,84,85,86,87,88,89,90,91,92,93,94,95,96,97,98,99,100,101,102,103,104,105,106,107,108,109,110,111,112,113,114,115,116,117,118,119,120,121,122,123,124,125,126,194,161,194,162,194,163,194,164,194,165,194,166,194,167,194,169,194,171,194,174,194,176,194,183,194,187,194,189,194,191,195,128,195,129,195,130,195,131,195,132,195,133,195,134,195,135,195,136,195,137,195,138,195,139,195,140,195,141,195,142,195,143,195,145,195,146,195,147,195,148,195,149,195,150,195,152,195,153,195,154,195,155,195,156,195,159,195,160,195,161,195,162,195,163,195,164,195,165,195,166,195,167,195,168,195,169,195,170,195,171,195,172,195,173,195,174,195,175,195,177,195,178,195,179,195,180,195,181,195,182,195,184,195,185,195,186,195,187,195,188,197,146,197,147,226,128,148,226,128,152,226,128,153,226,128,156,226,128,157,226,128,162,226,128,166,226,132,162,226,153,170]⟩
theorem zh7:runes zi8=repertoire:=by decide +kernel
theorem zcI (r:Int)(w:fm)(h0:-2147483648≤r)(h1:r≤2147483647) :
 fp Tryz.prog 206 #[.int .i32 r] w fun e w'=>e=.returned (.int .i64 (idx r))∧Below w.heap.size w w':=by
 by_cases ha:32≤r∧r≤126
 · have hi:idx r=r-32:=by unfold idx;rw [if_pos ha]
   obtain⟨a0,a1⟩:=ha
   have HI:=h_ hi
   clear hi
   go_enter Tryz.func206,Tryz.ntmps206
   go_wp2
   go_ret
   rw [HI.out]
   exact⟨rfl,fJ _ _⟩
 · have hi:idx r=eu (runes zi8) r 0:=by unfold idx;rw [if_neg ha,zh7]
   have HI:=h_ hi
   clear hi
   rcases(show r<32∨126<r by omega) with hb|hb
   all_goals
    clear ha
    go_enter Tryz.func206,Tryz.ntmps206
    go_wp2_with fail
    refine(zfU zi8 r _ (by decide +kernel)).mono ?_
    rintro e w1 ⟨rfl,hB⟩
    go_wp2_with fail
    go_ret
    rw [HI.out]
    exact⟨rfl,hB⟩
end Go.Proofs.YtnlnmbcaongehaaGreatDoor
namespace Go.Proofs
open Go.Shelf
def Tryz.lays169_ren:fK:=⟨fun|169=>69|n=>n,fun|70=>120|9=>9|0=>0|72=>123|37=>121|127=>182|3=>3|5=>5|n=>n,fun|n=>n⟩
theorem Tryz.lays169:fO Tryz.prog Tryz.lays169_ren:={
 mixed:=by kernel_rfl
 f169:=Tryz.func69.trans (congrArg some (by kernel_rfl))
 t0:=Tryz.underlying0
 a0:=Tryz.isAgg0
 z0:=Tryz.sizeOf0
 v0:=Tryz.zeroValue0
 t3:=Tryz.underlying3
 a3:=Tryz.isAgg3
 z3:=Tryz.sizeOf3
 v3:=Tryz.zeroValue3
 t9:=Tryz.underlying9
 a9:=Tryz.isAgg9
 z9:=Tryz.sizeOf9
 v9:=Tryz.zeroValue9
 t37:=Tryz.underlying121
 a37:=Tryz.isAgg121
 z37:=Tryz.sizeOf121
 v37:=Tryz.zeroValue121
 t70:=Tryz.underlying120
 a70:=Tryz.isAgg120
 z70:=Tryz.sizeOf120
 v70:=Tryz.zeroValue120
 t72:=Tryz.underlying123
 a72:=Tryz.isAgg123
 z72:=Tryz.sizeOf123
 v72:=Tryz.zeroValue123
 t127:=Tryz.underlying182
 a127:=Tryz.isAgg182
 z127:=Tryz.sizeOf182
 v127:=Tryz.zeroValue182 }
theorem Tryz.Builder_Extra_169:Builder.Extra Tryz.prog Tryz.lays169_ren:={
 sizeBuilder:=by kernel_rfl
 liesBuilder:=by kernel_rfl
 t5:=Tryz.underlying5
 a5:=Tryz.isAgg5
 z5:=Tryz.sizeOf5
 v5:=Tryz.zeroValue5
 infoByte:=by kernel_rfl
 cellsByte:=by kernel_rfl
 sizeByte:=by kernel_rfl
 neB5:=by decide }
open Go.RowKit in
theorem Tryz.Builder_String_any (B b:Nat)(l:List UInt8)(w:fm)(h:Lib.IsBuilder 123 5 B b (Lib.byteCells l) w)(hBw:B≤w.heap.size) :
 fp Tryz.prog 69 #[.pointer (some ⟨b,0,none⟩)] w fun e w'=>e=.returned (.string ⟨l.toArray⟩)∧Below B w w':=Any.Builder_String_any Tryz.lays169 Tryz.Builder_Extra_169 B b l w h hBw
def Tryz.lays195_ren:fK:=⟨fun|195=>286|n=>n,fun|9=>9|3=>3|0=>0|4=>4|n=>n,fun|n=>n⟩
theorem Tryz.lays195:fM Tryz.prog Tryz.lays195_ren:={
 mixed:=by kernel_rfl
 f195:=Tryz.func286.trans (congrArg some (by kernel_rfl))
 t0:=Tryz.underlying0
 a0:=Tryz.isAgg0
 z0:=Tryz.sizeOf0
 v0:=Tryz.zeroValue0
 t3:=Tryz.underlying3
 a3:=Tryz.isAgg3
 z3:=Tryz.sizeOf3
 v3:=Tryz.zeroValue3
 t4:=Tryz.underlying4
 a4:=Tryz.isAgg4
 z4:=Tryz.sizeOf4
 v4:=Tryz.zeroValue4
 t9:=Tryz.underlying9
 a9:=Tryz.isAgg9
 z9:=Tryz.sizeOf9
 v9:=Tryz.zeroValue9 }
open Go.RowKit in
theorem Tryz.utf8_RuneCountInString (s:ByteArray)(w:fm)(hs:s.size<9223372036854775807) :
 fp Tryz.prog 286 #[.string s] w fun e w'=>e=.returned (.int .i64 (fS s))∧∃ pos,w'=w.iter s pos:=Any.utf8_RuneCountInString Tryz.lays195 s w hs
def Tryz.lays144_ren:fK:=⟨fun|144=>214|143=>263|219=>285|217=>295|225=>296|224=>297|267=>298|266=>300|314=>301|n=>n,fun|9=>9|4=>4|3=>3|5=>5|46=>238|146=>351|51=>290|n=>n,fun|1=>3|n=>n⟩
theorem Tryz.lays144:fP Tryz.prog Tryz.lays144_ren:={
 mixed:=by kernel_rfl
 f143:=Tryz.func263.trans (congrArg some (by kernel_rfl))
 f144:=Tryz.func214.trans (congrArg some (by kernel_rfl))
 f217:=Tryz.func295.trans (congrArg some (by kernel_rfl))
 f219:=Tryz.func285.trans (congrArg some (by kernel_rfl))
 f224:=Tryz.func297.trans (congrArg some (by kernel_rfl))
 f225:=Tryz.func296.trans (congrArg some (by kernel_rfl))
 f266:=Tryz.func300.trans (congrArg some (by kernel_rfl))
 f267:=Tryz.func298.trans (congrArg some (by kernel_rfl))
 f314:=Tryz.func301.trans (congrArg some (by kernel_rfl))
 t3:=Tryz.underlying3
 a3:=Tryz.isAgg3
 z3:=Tryz.sizeOf3
 v3:=Tryz.zeroValue3
 t4:=Tryz.underlying4
 a4:=Tryz.isAgg4
 z4:=Tryz.sizeOf4
 v4:=Tryz.zeroValue4
 t5:=Tryz.underlying5
 a5:=Tryz.isAgg5
 z5:=Tryz.sizeOf5
 v5:=Tryz.zeroValue5
 t9:=Tryz.underlying9
 a9:=Tryz.isAgg9
 z9:=Tryz.sizeOf9
 v9:=Tryz.zeroValue9
 t46:=Tryz.underlying238
 a46:=Tryz.isAgg238
 z46:=Tryz.sizeOf238
 v46:=Tryz.zeroValue238
 t51:=Tryz.underlying290
 a51:=Tryz.isAgg290
 z51:=Tryz.sizeOf290
 v51:=Tryz.zeroValue290
 t146:=Tryz.underlying351
 a146:=Tryz.isAgg351
 z146:=Tryz.sizeOf351
 v146:=Tryz.zeroValue351
 g1:=by kernel_rfl }
open Go.RowKit Go.Lib in
theorem Tryz.strings_Contains (s sub:ByteArray)(m:Int)(w:fm)(hs:s.size<4294967281)(hm:w.cell? ⟨3,0,none⟩=some (.int .i64 m)) :
 fp Tryz.prog 214 #[.string s,.string sub] w fun e w'=>e=.returned (.bool (Lib.contains s.data.toList sub.data.toList))∧w'=w:=Any.strings_Contains Tryz.lays144 s sub m w hs hm
def Tryz.lays194_ren:fK:=⟨fun|194=>92|n=>n,fun|31=>55|9=>9|3=>3|4=>4|0=>0|n=>n,fun|n=>n⟩
theorem Tryz.lays194:fN Tryz.prog Tryz.lays194_ren:={
 mixed:=by kernel_rfl
 f194:=Tryz.func92.trans (congrArg some (by kernel_rfl))
 t0:=Tryz.underlying0
 a0:=Tryz.isAgg0
 z0:=Tryz.sizeOf0
 v0:=Tryz.zeroValue0
 t3:=Tryz.underlying3
 a3:=Tryz.isAgg3
 z3:=Tryz.sizeOf3
 v3:=Tryz.zeroValue3
 t4:=Tryz.underlying4
 a4:=Tryz.isAgg4
 z4:=Tryz.sizeOf4
 v4:=Tryz.zeroValue4
 t9:=Tryz.underlying9
 a9:=Tryz.isAgg9
 z9:=Tryz.sizeOf9
 v9:=Tryz.zeroValue9
 t31:=Tryz.underlying55
 a31:=Tryz.isAgg55
 z31:=Tryz.sizeOf55
 v31:=Tryz.zeroValue55 }
open Go.RowKit Go.Lib Go.Sort in
theorem Tryz.slices_Compact_string (blk off cap:Nat)(zs:List (List UInt8))(w:fm)(hH:Holds encStr w blk off zs.toArray)(hsz:zs.length≤9223372036854775807)(hcap:zs.length≤cap) :
 fp Tryz.prog 92 #[.slice (some ⟨blk,off,none⟩) zs.length cap] w fun e w'=>e=.returned (.slice (some ⟨blk,off,none⟩) (fQ zs).length cap)∧∃ q,w'=putRow encStr (Sort.ahead w q) blk off (fQ zs++List.replicate (zs.length-(fQ zs).length) []).toArray:=Any.slices_Compact_string Tryz.lays194 blk off cap zs w hH hsz hcap
open Go.RowKit Go.Lib Go.Sort in
theorem Tryz.slices_Compact_string_empty (a:Option Addr)(cap:Nat)(w:fm) :
 fp Tryz.prog 92 #[.slice a 0 cap] w fun e w'=>e=.returned (.slice a 0 cap)∧w'=w:=Any.slices_Compact_string_empty Tryz.lays194 a cap w
def Tryz.laysSlN43_f95_ren:fK:=⟨fun|43=>95|n=>n,fun|22=>85|23=>2|3=>3|4=>4|0=>0|n=>n,fun|n=>n⟩
theorem Tryz.laysSlN43_f95:Go.Proofs.SlLaysN.n43 Tryz.prog Tryz.laysSlN43_f95_ren:={
 mixed:=by kernel_rfl
 f43:=⟨Tryz.f95.name,by decide,Tryz.func95.trans (congrArg some (by kernel_rfl))⟩
 t0:=Tryz.underlying0
 a0:=Tryz.isAgg0
 z0:=Tryz.sizeOf0
 v0:=Tryz.zeroValue0
 t3:=Tryz.underlying3
 a3:=Tryz.isAgg3
 z3:=Tryz.sizeOf3
 v3:=Tryz.zeroValue3
 t4:=Tryz.underlying4
 a4:=Tryz.isAgg4
 z4:=Tryz.sizeOf4
 v4:=Tryz.zeroValue4
 t22:=Tryz.underlying85
 a22:=Tryz.isAgg85
 z22:=Tryz.sizeOf85
 v22:=Tryz.zeroValue85
 t23:=Tryz.underlying2
 a23:=Tryz.isAgg2
 z23:=Tryz.sizeOf2
 v23:=Tryz.zeroValue2
 i23:=by kernel_rfl }
open Go.RowKit Go.Lib Go.Sort in
theorem Tryz.slices_Compact_int (blk off cap:Nat)(zs:List Int)(w:fm)(hH:Holds (ft.int .i64) w blk off zs.toArray)(hsz:zs.length≤9223372036854775807)(hcap:zs.length≤cap) :
 fp Tryz.prog 95 #[.slice (some ⟨blk,off,none⟩) zs.length cap] w fun e w'=>e=.returned (.slice (some ⟨blk,off,none⟩) (fQ zs).length cap)∧∃ q,w'=putRow (ft.int .i64) (Sort.ahead w q) blk off (fQ zs++List.replicate (zs.length-(fQ zs).length) 0).toArray:=AnyG.slices_Compact_int Tryz.laysSlN43_f95 blk off cap zs w hH hsz hcap
open Go.RowKit Go.Lib Go.Sort in
theorem Tryz.slices_Compact_int_empty (a:Option Addr)(cap:Nat)(w:fm) :
 fp Tryz.prog 95 #[.slice a 0 cap] w fun e w'=>e=.returned (.slice a 0 cap)∧w'=w:=AnyG.slices_Compact_int_empty Tryz.laysSlN43_f95 a cap w
def Tryz.laysSlE041_f106_ren:fK:=⟨fun|41=>106|n=>n,fun|22=>23|23=>44|4=>4|n=>n,fun|n=>n⟩
theorem Tryz.laysSlE041_f106:fW Tryz.prog Tryz.laysSlE041_f106_ren:={
 mixed:=by kernel_rfl
 f41:=⟨Tryz.f106.name,by decide,Tryz.func106.trans (congrArg some (by kernel_rfl))⟩
 t4:=Tryz.underlying4
 a4:=Tryz.isAgg4
 z4:=Tryz.sizeOf4
 v4:=Tryz.zeroValue4
 t22:=Tryz.underlying23
 a22:=Tryz.isAgg23
 z22:=Tryz.sizeOf23
 v22:=Tryz.zeroValue23 }
open Go.RowKit Go.Lib in
theorem Tryz.slices_Clone_f106 (i0:fw)(z:ft)(size bytes:Nat)(hi:Tryz.prog.info? 44=some i0)(hz0:i0.zero=some z)(hz1:i0.size=size)(hz2:i0.bytes=bytes)(hzs:z.cells.size=size)(hsz:0<size)(z23:∀ w,(fu 44).run Tryz.prog w=.ok size w)(b off n c:Nat)(news:List ft)(w:fm)(hl:news.length=n*size)(hn:n≤maxLen)(hbig:n*bytes≤140737488355328)(hc:∀ j u,news[j]? =some u→w.cell? ⟨b,off+j,none⟩=some u)(h1:∀ u∈news,u.oneCell'=true) :
 fp Tryz.prog 106 #[.slice (some ⟨b,off,none⟩) n c] w fun e w'=>∃ v',e=.returned v'∧w'.ownsRow w.heap.size 44 size v' n news∧v'≠.slice none 0 0∧Below w.heap.size w w':=fY Tryz.laysSlE041_f106 i0 z size bytes hi hz0 hz1 hz2 hzs hsz z23 b off n c news w hl hn hbig hc h1
def Tryz.laysSlE041_f107_ren:fK:=⟨fun|41=>107|n=>n,fun|22=>25|23=>52|4=>4|n=>n,fun|n=>n⟩
theorem Tryz.laysSlE041_f107:fW Tryz.prog Tryz.laysSlE041_f107_ren:={
 mixed:=by kernel_rfl
 f41:=⟨Tryz.f107.name,by decide,Tryz.func107.trans (congrArg some (by kernel_rfl))⟩
 t4:=Tryz.underlying4
 a4:=Tryz.isAgg4
 z4:=Tryz.sizeOf4
 v4:=Tryz.zeroValue4
 t22:=Tryz.underlying25
 a22:=Tryz.isAgg25
 z22:=Tryz.sizeOf25
 v22:=Tryz.zeroValue25 }
open Go.RowKit Go.Lib in
theorem Tryz.slices_Clone_f107 (i0:fw)(z:ft)(size bytes:Nat)(hi:Tryz.prog.info? 52=some i0)(hz0:i0.zero=some z)(hz1:i0.size=size)(hz2:i0.bytes=bytes)(hzs:z.cells.size=size)(hsz:0<size)(z23:∀ w,(fu 52).run Tryz.prog w=.ok size w)(b off n c:Nat)(news:List ft)(w:fm)(hl:news.length=n*size)(hn:n≤maxLen)(hbig:n*bytes≤140737488355328)(hc:∀ j u,news[j]? =some u→w.cell? ⟨b,off+j,none⟩=some u)(h1:∀ u∈news,u.oneCell'=true) :
 fp Tryz.prog 107 #[.slice (some ⟨b,off,none⟩) n c] w fun e w'=>∃ v',e=.returned v'∧w'.ownsRow w.heap.size 52 size v' n news∧v'≠.slice none 0 0∧Below w.heap.size w w':=fY Tryz.laysSlE041_f107 i0 z size bytes hi hz0 hz1 hz2 hzs hsz z23 b off n c news w hl hn hbig hc h1
def Tryz.laysSlE041_f108_ren:fK:=⟨fun|41=>108|n=>n,fun|22=>24|23=>50|4=>4|n=>n,fun|n=>n⟩
theorem Tryz.laysSlE041_f108:fW Tryz.prog Tryz.laysSlE041_f108_ren:={
 mixed:=by kernel_rfl
 f41:=⟨Tryz.f108.name,by decide,Tryz.func108.trans (congrArg some (by kernel_rfl))⟩
 t4:=Tryz.underlying4
 a4:=Tryz.isAgg4
 z4:=Tryz.sizeOf4
 v4:=Tryz.zeroValue4
 t22:=Tryz.underlying24
 a22:=Tryz.isAgg24
 z22:=Tryz.sizeOf24
 v22:=Tryz.zeroValue24 }
open Go.RowKit Go.Lib in
theorem Tryz.slices_Clone_f108 (i0:fw)(z:ft)(size bytes:Nat)(hi:Tryz.prog.info? 50=some i0)(hz0:i0.zero=some z)(hz1:i0.size=size)(hz2:i0.bytes=bytes)(hzs:z.cells.size=size)(hsz:0<size)(z23:∀ w,(fu 50).run Tryz.prog w=.ok size w)(b off n c:Nat)(news:List ft)(w:fm)(hl:news.length=n*size)(hn:n≤maxLen)(hbig:n*bytes≤140737488355328)(hc:∀ j u,news[j]? =some u→w.cell? ⟨b,off+j,none⟩=some u)(h1:∀ u∈news,u.oneCell'=true) :
 fp Tryz.prog 108 #[.slice (some ⟨b,off,none⟩) n c] w fun e w'=>∃ v',e=.returned v'∧w'.ownsRow w.heap.size 50 size v' n news∧v'≠.slice none 0 0∧Below w.heap.size w w':=fY Tryz.laysSlE041_f108 i0 z size bytes hi hz0 hz1 hz2 hzs hsz z23 b off n c news w hl hn hbig hc h1
def Tryz.laysSlE041_f167_ren:fK:=⟨fun|41=>167|n=>n,fun|22=>48|23=>78|4=>4|n=>n,fun|n=>n⟩
theorem Tryz.laysSlE041_f167:fW Tryz.prog Tryz.laysSlE041_f167_ren:={
 mixed:=by kernel_rfl
 f41:=⟨Tryz.f167.name,by decide,Tryz.func167.trans (congrArg some (by kernel_rfl))⟩
 t4:=Tryz.underlying4
 a4:=Tryz.isAgg4
 z4:=Tryz.sizeOf4
 v4:=Tryz.zeroValue4
 t22:=Tryz.underlying48
 a22:=Tryz.isAgg48
 z22:=Tryz.sizeOf48
 v22:=Tryz.zeroValue48 }
open Go.RowKit Go.Lib in
theorem Tryz.slices_Clone_f167 (i0:fw)(z:ft)(size bytes:Nat)(hi:Tryz.prog.info? 78=some i0)(hz0:i0.zero=some z)(hz1:i0.size=size)(hz2:i0.bytes=bytes)(hzs:z.cells.size=size)(hsz:0<size)(z23:∀ w,(fu 78).run Tryz.prog w=.ok size w)(b off n c:Nat)(news:List ft)(w:fm)(hl:news.length=n*size)(hn:n≤maxLen)(hbig:n*bytes≤140737488355328)(hc:∀ j u,news[j]? =some u→w.cell? ⟨b,off+j,none⟩=some u)(h1:∀ u∈news,u.oneCell'=true) :
 fp Tryz.prog 167 #[.slice (some ⟨b,off,none⟩) n c] w fun e w'=>∃ v',e=.returned v'∧w'.ownsRow w.heap.size 78 size v' n news∧v'≠.slice none 0 0∧Below w.heap.size w w':=fY Tryz.laysSlE041_f167 i0 z size bytes hi hz0 hz1 hz2 hzs hsz z23 b off n c news w hl hn hbig hc h1
def Tryz.laysSlE041_f168_ren:fK:=⟨fun|41=>168|n=>n,fun|22=>76|23=>75|4=>4|n=>n,fun|n=>n⟩
theorem Tryz.laysSlE041_f168:fW Tryz.prog Tryz.laysSlE041_f168_ren:={
 mixed:=by kernel_rfl
 f41:=⟨Tryz.f168.name,by decide,Tryz.func168.trans (congrArg some (by kernel_rfl))⟩
 t4:=Tryz.underlying4
 a4:=Tryz.isAgg4
 z4:=Tryz.sizeOf4
 v4:=Tryz.zeroValue4
 t22:=Tryz.underlying76
 a22:=Tryz.isAgg76
 z22:=Tryz.sizeOf76
 v22:=Tryz.zeroValue76 }
open Go.RowKit Go.Lib in
theorem Tryz.slices_Clone_f168 (i0:fw)(z:ft)(size bytes:Nat)(hi:Tryz.prog.info? 75=some i0)(hz0:i0.zero=some z)(hz1:i0.size=size)(hz2:i0.bytes=bytes)(hzs:z.cells.size=size)(hsz:0<size)(z23:∀ w,(fu 75).run Tryz.prog w=.ok size w)(b off n c:Nat)(news:List ft)(w:fm)(hl:news.length=n*size)(hn:n≤maxLen)(hbig:n*bytes≤140737488355328)(hc:∀ j u,news[j]? =some u→w.cell? ⟨b,off+j,none⟩=some u)(h1:∀ u∈news,u.oneCell'=true) :
 fp Tryz.prog 168 #[.slice (some ⟨b,off,none⟩) n c] w fun e w'=>∃ v',e=.returned v'∧w'.ownsRow w.heap.size 75 size v' n news∧v'≠.slice none 0 0∧Below w.heap.size w w':=fY Tryz.laysSlE041_f168 i0 z size bytes hi hz0 hz1 hz2 hzs hsz z23 b off n c news w hl hn hbig hc h1
open Go.RowKit Go.Lib in
theorem Tryz.slices_Clone_nil_f106 (n c:Nat)(w:fm) :
 fp Tryz.prog 106 #[.slice none n c] w fun e w'=>e=.returned (.slice none 0 0)∧w'=w:=fX Tryz.laysSlE041_f106 n c w
open Go.RowKit Go.Lib in
theorem Tryz.slices_Clone_nil_f107 (n c:Nat)(w:fm) :
 fp Tryz.prog 107 #[.slice none n c] w fun e w'=>e=.returned (.slice none 0 0)∧w'=w:=fX Tryz.laysSlE041_f107 n c w
open Go.RowKit Go.Lib in
theorem Tryz.slices_Clone_nil_f108 (n c:Nat)(w:fm) :
 fp Tryz.prog 108 #[.slice none n c] w fun e w'=>e=.returned (.slice none 0 0)∧w'=w:=fX Tryz.laysSlE041_f108 n c w
open Go.RowKit Go.Lib in
theorem Tryz.slices_Clone_nil_f167 (n c:Nat)(w:fm) :
 fp Tryz.prog 167 #[.slice none n c] w fun e w'=>e=.returned (.slice none 0 0)∧w'=w:=fX Tryz.laysSlE041_f167 n c w
open Go.RowKit Go.Lib in
theorem Tryz.slices_Clone_nil_f168 (n c:Nat)(w:fm) :
 fp Tryz.prog 168 #[.slice none n c] w fun e w'=>e=.returned (.slice none 0 0)∧w'=w:=fX Tryz.laysSlE041_f168 n c w
def Tryz.laysSlQ8_f204_ren:fK:=⟨fun|8=>204|n=>n,fun|22=>76|24=>75|4=>4|3=>3|0=>0|n=>n,fun|n=>n⟩
theorem Tryz.laysSlQ8_f204:Go.Proofs.SlLaysQ.n8 Tryz.prog Tryz.laysSlQ8_f204_ren:={
 mixed:=by kernel_rfl
 f8:=⟨Tryz.f204.name,by decide,Tryz.func204.trans (congrArg some (by kernel_rfl))⟩
 t0:=Tryz.underlying0
 a0:=Tryz.isAgg0
 z0:=Tryz.sizeOf0
 v0:=Tryz.zeroValue0
 t3:=Tryz.underlying3
 a3:=Tryz.isAgg3
 z3:=Tryz.sizeOf3
 v3:=Tryz.zeroValue3
 t4:=Tryz.underlying4
 a4:=Tryz.isAgg4
 z4:=Tryz.sizeOf4
 v4:=Tryz.zeroValue4
 t22:=Tryz.underlying76
 a22:=Tryz.isAgg76
 z22:=Tryz.sizeOf76
 v22:=Tryz.zeroValue76 }
open Go.RowKit Go.Lib in
theorem Tryz.slices_Equal_f204 {α:Type} [Inhabited α] (k:Nat)(aE:∀ w,(isAgg 75).run Tryz.prog w=.ok true w)(zE:∀ w,(fu 75).run Tryz.prog w=.ok k w)(enc:α→List ft)(hk:∀ x,(enc x).length=k)(eq:α→α→Bool)(hne:NeqAt Tryz.prog 75 (fun x=>.agg (enc x).toArray) eq)(b1 o1 n c b2 o2 m d:Nat)(xs ys:List α)(w:fm)(hx:n≤xs.length)(hy:m≤ys.length)(hbig:n≤9223372036854775807)(hbig2:m≤9223372036854775807)(hc1:∀ j,j<xs.length→∀ i v,(enc xs[j]!)[i]? =some v→w.cell? ⟨b1,o1+j*k+i,none⟩=some v)(hc2:∀ j,j<ys.length→∀ i v,(enc ys[j]!)[i]? =some v→w.cell? ⟨b2,o2+j*k+i,none⟩=some v) :
 fp Tryz.prog 204 #[.slice (some ⟨b1,o1,none⟩) n c,.slice (some ⟨b2,o2,none⟩) m d] w fun e w'=>e=.returned (.bool (Lib.allEq eq (xs.take n) (ys.take m)))∧∃ q,w'=w.drewN q:=AnyQ.slices_Equal Tryz.laysSlQ8_f204 k aE zE enc hk eq hne b1 o1 n c b2 o2 m d xs ys w hx hy hbig hbig2 hc1 hc2
def Tryz.laysSlC25_f160_ren:fK:=⟨fun|5=>160|7=>217|n=>n,fun|22=>2|3=>3|4=>4|n=>n,fun|n=>n⟩
theorem Tryz.laysSlC25_f160:Go.Proofs.SlLaysC2.n5 Tryz.prog Tryz.laysSlC25_f160_ren:={
 mixed:=by kernel_rfl
 f5:=⟨Tryz.f160.name,by decide,Tryz.func160.trans (congrArg some (by kernel_rfl))⟩
 f7:=⟨Tryz.f217.name,by decide,Tryz.func217.trans (congrArg some (by kernel_rfl))⟩
 t3:=Tryz.underlying3
 a3:=Tryz.isAgg3
 z3:=Tryz.sizeOf3
 v3:=Tryz.zeroValue3
 t4:=Tryz.underlying4
 a4:=Tryz.isAgg4
 z4:=Tryz.sizeOf4
 v4:=Tryz.zeroValue4
 t22:=Tryz.underlying2
 a22:=Tryz.isAgg2
 z22:=Tryz.sizeOf2
 v22:=Tryz.zeroValue2 }
open Go.Lib in
theorem Tryz.cmp_Compare_int (x y:Int)(w:fm) :
 fp Tryz.prog 160 #[.int .i64 x,.int .i64 y] w fun e w'=>e=.returned (.int .i64 (Lib.compareInt x y))∧w'=w:=AnyG.cmp_Compare_int Tryz.laysSlC25_f160 x y w
def Tryz.laysSlF020_f277_ren:fK:=⟨fun|20=>277|n=>n,fun|24=>50|22=>24|3=>3|25=>252|4=>4|0=>0|n=>n,fun|n=>n⟩
theorem Tryz.laysSlF020_f277:Go.Proofs.SlLaysF0.n20 Tryz.prog Tryz.laysSlF020_f277_ren:={
 mixed:=by kernel_rfl
 f20:=⟨Tryz.f277.name,by decide,Tryz.func277.trans (congrArg some (by kernel_rfl))⟩
 t0:=Tryz.underlying0
 a0:=Tryz.isAgg0
 z0:=Tryz.sizeOf0
 v0:=Tryz.zeroValue0
 t3:=Tryz.underlying3
 a3:=Tryz.isAgg3
 z3:=Tryz.sizeOf3
 v3:=Tryz.zeroValue3
 t4:=Tryz.underlying4
 a4:=Tryz.isAgg4
 z4:=Tryz.sizeOf4
 v4:=Tryz.zeroValue4
 t22:=Tryz.underlying24
 a22:=Tryz.isAgg24
 z22:=Tryz.sizeOf24
 v22:=Tryz.zeroValue24
 t25:=Tryz.underlying252
 a25:=Tryz.isAgg252
 z25:=Tryz.sizeOf252
 v25:=Tryz.zeroValue252 }
open Go.RowKit Go.Lib Go.Sort in
theorem Tryz.insertionSortCmpFunc {α:Type} [Inhabited α] (k:Nat)(aE:∀ w,(isAgg 50).run Tryz.prog w=.ok true w)(zE:∀ w,(fu 50).run Tryz.prog w=.ok k w)(enc:α→List ft)(hk:∀ x,(enc x).length=k)(h1:∀ x,∀ v∈enc x,v.oneCell'=true)(cf:α→α→Int)(g:Nat)(cb:Array ft)(blk off cap a b:Nat)(d:Array α)(w:fm)(eg:∀ args w,(callFunc g args).run Tryz.prog w=.ok (.enter g args) w)(hcmp:CmpLays Tryz.prog g cb enc k cf blk off d.size w)(hH:HoldsK enc k w blk off d)(hblk:blk<w.heap.size)(hab:a≤b)(hb:b≤d.size)(hsz:d.size<4611686018427387904) :
 fp Tryz.prog 277 #[.slice (some ⟨blk,off,none⟩) d.size cap,.int .i64 a,.int .i64 b,.func (.func g) #[] cb] w fun e w' =>
  e=.returned (.tuple #[])∧∃ n os,w'=sortWorldK enc k w blk off n (Sort.insertionSort (ltOf cf) d a b) os:=AnyQ.insertionSortCmpFunc Tryz.laysSlF020_f277 k aE zE enc hk h1 cf g cb blk off cap a b d w eg hcmp hH hblk hab hb hsz
def Tryz.lays196_ren:fK:=⟨fun|196=>205|259=>258|n=>n,fun|9=>9|4=>4|3=>3|5=>5|12=>12|119=>315|0=>0|46=>238|139=>318|138=>317|53=>259|n=>n,fun|3=>0|4=>1|n=>n⟩
theorem Tryz.lays196:fL Tryz.prog Tryz.lays196_ren:={
 mixed:=by kernel_rfl
 f196:=Tryz.func205.trans (congrArg some (by kernel_rfl))
 f259:=Tryz.func258.trans (congrArg some (by kernel_rfl))
 t0:=Tryz.underlying0
 a0:=Tryz.isAgg0
 z0:=Tryz.sizeOf0
 v0:=Tryz.zeroValue0
 t3:=Tryz.underlying3
 a3:=Tryz.isAgg3
 z3:=Tryz.sizeOf3
 v3:=Tryz.zeroValue3
 t4:=Tryz.underlying4
 a4:=Tryz.isAgg4
 z4:=Tryz.sizeOf4
 v4:=Tryz.zeroValue4
 t5:=Tryz.underlying5
 a5:=Tryz.isAgg5
 z5:=Tryz.sizeOf5
 v5:=Tryz.zeroValue5
 t9:=Tryz.underlying9
 a9:=Tryz.isAgg9
 z9:=Tryz.sizeOf9
 v9:=Tryz.zeroValue9
 t12:=Tryz.underlying12
 a12:=Tryz.isAgg12
 z12:=Tryz.sizeOf12
 v12:=Tryz.zeroValue12
 t46:=Tryz.underlying238
 a46:=Tryz.isAgg238
 z46:=Tryz.sizeOf238
 v46:=Tryz.zeroValue238
 t53:=Tryz.underlying259
 a53:=Tryz.isAgg259
 z53:=Tryz.sizeOf259
 v53:=Tryz.zeroValue259
 t119:=Tryz.underlying315
 a119:=Tryz.isAgg315
 z119:=Tryz.sizeOf315
 t138:=Tryz.underlying317
 a138:=Tryz.isAgg317
 z138:=Tryz.sizeOf317
 v138:=Tryz.zeroValue317
 t139:=Tryz.underlying318
 a139:=Tryz.isAgg318
 z139:=Tryz.sizeOf318
 v139:=Tryz.zeroValue318
 g3:=by kernel_rfl
 g4:=by kernel_rfl }
open Go.RowKit Go.Lib in
theorem Tryz.utf8_ValidString (s:ByteArray)(w:fm)(hs:s.size≤9223372036854775807)(hT:fV 0 1 w) :
 fp Tryz.prog 205 #[.string s] w fun e w'=>e=.returned (.bool (fR s.data.toList))∧Below w.heap.size w w':=Any.utf8_ValidString Tryz.lays196 s w hs hT
end Go.Proofs
namespace Go.Proofs.YtnlnmbcaongehaaGreatDoor
open Go.RowKit
def Env (w:fm):Prop:=fV 0 1 w∧∃ m,w.cell? ⟨3,0,none⟩=some (.int .i64 m)
theorem Env.below {w w':fm} {B:Nat} (h:Env w)(hb:Below B w w')(hB:w.heap.size≤B):Env w':=by
 obtain⟨h1,m,h2⟩:=h
 have hb':=hb.mono hB
 exact⟨Utf8Tabs_below h1 hb',m,(hb'.cell (p:=⟨3,0,none⟩) (fm.block_lt_of_cell? w _ h2)).trans h2⟩
def aY (s:ByteArray):Bool:=fR s.data.toList&&(runes s).all (fun r=>decide (0≤idx r))
def lenB (s:ByteArray):Int:=if aY s then ((runes s).length:Int) else -1
theorem zcr (s:ByteArray):∀ b pos,(cd s b pos).length=fT s b pos
 | 0,_=>rfl
 | b+1,pos=>by
   simp only [cd,fT]
   split
   · rw [List.length_cons,zcr s b];omega
   · rfl
theorem decode_le (s:ByteArray)(pos:Nat):(fF s pos).1≤1114111:=by
 have hb:∀ k,(s.get! (pos+k)).toNat<256:=fun k=>(s.get! (pos+k)).toNat_lt
 have h0:=hb 0;have h1:=hb 1;have h2:=hb 2;have h3:=hb 3
 simp only [fF]
 repeat' split
 all_goals simp_all [Utf8.runeError,Utf8.valid]
 all_goals omega
theorem zjg (s:ByteArray)(w:fm)(hs:s.size≤4000000)(hE:Env w)(hv:fR s.data.toList=false) :
 fp Tryz.prog 149 #[.string s] w fun e w'=>e=.returned (.bool (aY s))∧Below w.heap.size w w':=by
 have hn:aY s=false:=by simp [aY,hv]
 have HN:=h_ hn
 have hc:=Tryz.utf8_ValidString s w (by omega) hE.1
 rw [hv] at hc
 have HC:=h_ hc
 clear hn hv hc
 go_enter Tryz.func149,Tryz.ntmps149
 go_wp2_with fail
 refine HC.out.mono ?_
 rintro e w1 ⟨rfl,hb⟩
 go_wp2_with fail
 go_ret
 rw [HN.out]
 exact⟨rfl,hb⟩
def eZ (w:fm)(s:ByteArray)(g pos:Nat)(wr:fm):Prop:=wr.heap[g]? =some (.stringIter s pos)∧Below g w wr
theorem eZ.pos {w wr:fm} {s:ByteArray} {g pos:Nat} (h:eZ w s g pos wr):wr.iterPos g=pos:=by simp [fm.iterPos,h.1]
theorem eZ.start (w:fm)(s:ByteArray):eZ w s w.heap.size 0 (w.alloc (.stringIter s 0)) :=
 ⟨fm.iter_heap w s 0,(fJ _ _).alloc (fG _) _⟩
theorem eZ.lt {w wr:fm} {s:ByteArray} {g pos:Nat} (h:eZ w s g pos wr):g<wr.heap.size:=(Array.getElem?_eq_some_iff.1 h.1).1
theorem eZ.step {w wr w2:fm} {s:ByteArray} {g pos:Nat} (h:eZ w s g pos wr)(pos':Nat)(hb:Below (wr.iterAt g s pos').heap.size (wr.iterAt g s pos') w2):eZ w s g pos' w2:=by
 have hl:=h.lt
 refine⟨?_,(Lib.below_iterAt h.2 (fG _) s pos').trans (hb.mono (by rw [fU];omega))⟩
 rw [hb.block g (by rw [fU];exact hl)]
 exact Lib.iterAt_heap wr g s pos pos' h.1
theorem zkv (s:ByteArray)(b pos:Nat)(h:¬ pos<s.size)(p:Nat→Bool):(cd s b pos).all p=true:=by rw [zbj s b pos h];rfl
theorem zh1 (s:ByteArray)(w:fm)(hs:s.size≤4000000)(hE:Env w)(hv:fR s.data.toList=true) :
 fp Tryz.prog 149 #[.string s] w fun e w'=>e=.returned (.bool (aY s))∧Below w.heap.size w w':=by
 have hG:aY s=(cd s s.size 0).all (fun r=>decide (0≤idx r)):=by simp [aY,hv,runes]
 generalize hGg:aY s=G at *
 have H0:=h_ hG.symm
 have hc:=Tryz.utf8_ValidString s w (by omega) hE.1
 rw [hv] at hc
 have HC:=h_ hc
 clear hG hGg hv hc
 go_enter Tryz.func149,Tryz.ntmps149
 go_wp2_with fail
 refine HC.out.mono ?_
 rintro e w1 ⟨rfl,hb1⟩
 go_wp2_with fail
 go_loopw [4] (fun _ wr=>∃ (pos b:Nat),eZ w1 s w1.heap.size pos wr∧(cd s b pos).all (fun r=>decide (0≤idx r))=G∧s.size≤pos+b) (fun _ wr=>s.size-wr.iterPos w1.heap.size)
 case atStart=>exact⟨0,s.size,eZ.start _ _,H0.out,by omega⟩
 case round =>
  obtain⟨pos,b,hI,hp,hb⟩:=hrel
  have hpos:=h_ hI.pos
  by_cases hlt:pos<s.size
  · obtain⟨c,rfl,hn⟩:=zas s b pos hlt hb
    have hwd:=width_pos s pos hlt
    have hle:=decode_le s pos
    have hnx:∀ ty,(fH (.pointer (some ⟨w1.heap.size,0,none⟩)) true ty).run Tryz.prog wr=_:=fun ty=>Lib.run_next_any_at wr w1.heap.size s pos ty hI.1 hlt
    rw [hn,List.all_cons] at hp
    generalize (fF s pos).1=x at *
    generalize (fF s pos).2=d at *
    have HS:=h_ (fun w2=>hI.step (w2:=w2) (pos+d))
    have HP:=h_ hp
    clear hp hn H0 hI
    by_cases hx:0≤idx x
    · go_wp2_with (go_at_call 206;refine(zcI _ _ (by omega) (by omega)).mono ?_;rintro e w2 ⟨rfl,hb2⟩)
      have hI2:=HS.out _ hb2
      have hq:=HP.out
      simp only [hx,decide_true,Bool.true_and] at hq
      go_roundw
      case rel=>exact⟨pos+d,c,hI2,hq,by omega⟩
      case measure=>rw [hI2.pos,hpos.out];omega
    · have hx':idx x<0:=by omega
      go_wp2_with (go_at_call 206;refine(zcI _ _ (by omega) (by omega)).mono ?_;rintro e w2 ⟨rfl,hb2⟩)
      go_ret
      have hI2:=HS.out _ hb2
      have hq:=HP.out
      rw [show decide (0≤idx (x:Int))=false by simp;omega,fD] at hq
      exact⟨by rw [←hq];rfl,hb1.trans (hI2.2.mono hb1.size)⟩
  · have hnx:∀ ty,(fH (.pointer (some ⟨w1.heap.size,0,none⟩)) true ty).run Tryz.prog wr=_:=fun ty=>Lib.run_next_end_at wr w1.heap.size s pos ty hI.1 hlt
    rw [zkv s b pos hlt] at hp
    have HP:=h_ hp
    clear hp H0
    go_wp2_with fail
    go_ret
    exact⟨by rw [←HP.out];rfl,hb1.trans (hI.2.mono hb1.size)⟩
theorem dX (s:ByteArray)(w:fm)(hs:s.size≤4000000)(hE:Env w) :
 fp Tryz.prog 149 #[.string s] w fun e w'=>e=.returned (.bool (aY s))∧Below w.heap.size w w':=by
 cases hv:fR s.data.toList
 · exact zjg s w hs hE hv
 · exact zh1 s w hs hE hv
theorem ziC (s:ByteArray)(w:fm)(hs:s.size≤4000000)(hE:Env w) :
 fp Tryz.prog 264 #[.string s] w fun e w'=>e=.returned (.int .i64 (lenB s))∧Below w.heap.size w w':=by
 have hL:lenB s=if aY s then (fS s:Int) else -1:=by
  unfold lenB runes fS
  rw [zcr]
 have hc:=dX s w hs hE
 cases hv:aY s
 all_goals
  rw [hv] at hL hc
  have HL:=h_ hL;have HC:=h_ hc
  clear hL hc hv
  go_enter Tryz.func264,Tryz.ntmps264
  go_wp2_with fail
  refine HC.out.mono ?_
  rintro e w1 ⟨rfl,hb⟩
  go_wp2_with fail
 · go_ret
   rw [HL.out]
   exact⟨rfl,hb⟩
 · refine(Tryz.utf8_RuneCountInString s w1 (by omega)).mono ?_
   rintro e w2 ⟨rfl,pos,rfl⟩
   go_wp2_with fail
   go_ret
   rw [HL.out]
   exact⟨rfl,hb.trans (((fJ _ _).alloc (fG _) _).mono hb.size)⟩
end Go.Proofs.YtnlnmbcaongehaaGreatDoor
namespace Go.Proofs.YtnlnmbcaongehaaGreatDoor
open Go.RowKit
def dh (r:Int):Int:=if r=1 then 5005 else if r=2 then 5000 else if r=3 then 4800 else if r=4 then 4004 else if r=5 then 4000 else if r=6 then 2400 else if r=7 then 2002 else 0
def cB (r:Int):Bool:=decide (r=4)||decide (r=7)
def bq:Array ft:=#[.string ⟨#[]⟩,.int .i64 0,.int .i64 0,.bool false,.string ⟨#[50,51,46,57,55,54]⟩,.int .i64 5005,.int .i64 24,.bool false,.string ⟨#[50,52]⟩,.int .i64 5000,.int .i64 24,.bool false,.string ⟨#[50,53]⟩,.int .i64 4800,.int .i64 25,.bool false,.string ⟨#[50,57,46,57,55]⟩,.int .i64 4004,.int .i64 30,.bool true,.string ⟨#[51,48]⟩,.int .i64 4000,.int .i64 30,.bool false,.string ⟨#[53,48]⟩,.int .i64 2400,.int .i64 50,.bool false,.string ⟨#[53,57,46,57,52]⟩,.int .i64 2002,.int .i64 60,.bool true]
theorem zct:bq.all (·.oneCell')=true:=by decide +kernel
theorem Tryz.size189:(Tryz.prog.info? 340).map (·.size)=some bq.size:=by kernel_rfl
theorem zb7 (w:fm)(o:Obj)(i:Nat)(v:ft)(h:bq[i]? =some v):((w.alloc o).alloc (.cells bq 340)).cell? ⟨w.heap.size+1,i,none⟩=some v:=by
 have:=cell_of_row ((w.alloc o).alloc (.cells bq 340)) (w.heap.size+1) i bq 340 (0,0) (by
  have:=fC (w.alloc o) (.cells bq 340)
  rwa [fZ] at this)
 rw [this,h]
theorem zdM (w:fm)(o:Obj)(c c':Array ft)(t:TypeId):((w.alloc o).alloc (.cells c t)).setRow (w.heap.size+1) c'=(w.alloc o).alloc (.cells c' t):=by
 have:=fm.setRow_alloc_new (w.alloc o) c c' t
 rwa [fZ] at this
theorem zcd (w:fm)(o o':Obj):((w.alloc o).alloc o').heap[w.heap.size+1]? =some o':=by
 have:=fC (w.alloc o) o'
 rwa [fZ] at this
def zjb (r:Int)(w:fm)(e:Ending)(w':fm):Prop:=∃ a b,e=.returned (.agg #[.string a,.int .i64 (dh r),.int .i64 b,.bool (cB r)])∧Below w.heap.size w w'
theorem zkE (r:Int)(w:fm)(h0:8≤r)(h1:r≤255) :
 fp Tryz.prog 260 #[.int .u8 r] w (zjb r w):=by
 have ht:dh r=0:=by unfold dh;repeat rw [if_neg (by omega)]
 have hd:cB r=false:=by simp [cB];omega
 have HT:=h_ ht;have HD:=h_ hd
 clear ht hd
 go_enter Tryz.func260,Tryz.ntmps260
 go_wp2_with (with_reducible refine fB rfl 340 (.tmp 3) (.tmp 12) rfl (w.heap.size+1) bq ?hx ?hy 340 ?old ?hg Tryz.size189 ?ho zct ?_;rotate_right;rw [zdM])
 case hx=>rfl
 case hy=>rfl
 case hg=>exact zcd _ _ _
 case ho=>rfl
 exact bodyPost_ret (v:=.agg #[.string ⟨#[]⟩,.int .i64 0,.int .i64 0,.bool false]) (by simp [results,Tryz.results260,go_sem]) rfl
  ⟨⟨#[]⟩,0,by rw [HT.out,HD.out],((fJ _ _).alloc (fG _) _).alloc (by simp) _⟩
theorem zk4 (i:Nat)(w:fm)(h1:i<8)(a:ByteArray)(b:Int)
 (c0:bq[i*4]? =some (.string a)) (c1:bq[i*4+1]? =some (.int .i64 (dh i))) (c2:bq[i*4+2]? =some (.int .i64 b)) (c3:bq[i*4+3]? =some (.bool (cB i))) :
 fp Tryz.prog 260 #[.int .u8 i] w (zjb i w):=by
 have t0:=fun o=>zb7 w o _ _ c0
 have t1:=fun o=>zb7 w o _ _ c1
 have t2:=fun o=>zb7 w o _ _ c2
 have t3:=fun o=>zb7 w o _ _ c3
 clear c0 c1 c2 c3
 have h1':(i:Int)<8:=by omega
 go_enter Tryz.func260,Tryz.ntmps260
 go_wp2_with (with_reducible refine fB rfl 340 (.tmp 3) (.tmp 12) rfl (w.heap.size+1) bq ?hx ?hy 340 ?old ?hg Tryz.size189 ?ho zct ?_;rotate_right;rw [zdM])
 case hx=>rfl
 case hy=>rfl
 case hg=>exact zcd _ _ _
 case ho=>rfl
 exact bodyPost_ret (v:=.agg #[.string a,.int .i64 (dh i),.int .i64 b,.bool (cB i)]) (by simp [results,Tryz.results260,go_sem]) rfl
  ⟨a,b,rfl,((fJ _ _).alloc (fG _) _).alloc (by simp) _⟩
theorem zgB (r:Int)(w:fm)(h0:0≤r)(h1:r≤255):fp Tryz.prog 260 #[.int .u8 r] w (zjb r w):=by
 by_cases h8:8≤r
 · exact zkE r w h8 h1
 · have h:∀ i:Fin 8,∃ a b,bq[i.val*4]? =some (.string a)∧bq[i.val*4+1]? =some (.int .i64 (dh i.val))∧bq[i.val*4+2]? =some (.int .i64 b)∧bq[i.val*4+3]? =some (.bool (cB i.val)):=by
    intro i
    match i with
    | 0=>exact⟨_,_,rfl,rfl,rfl,rfl⟩
    | 1=>exact⟨_,_,rfl,rfl,rfl,rfl⟩
    | 2=>exact⟨_,_,rfl,rfl,rfl,rfl⟩
    | 3=>exact⟨_,_,rfl,rfl,rfl,rfl⟩
    | 4=>exact⟨_,_,rfl,rfl,rfl,rfl⟩
    | 5=>exact⟨_,_,rfl,rfl,rfl,rfl⟩
    | 6=>exact⟨_,_,rfl,rfl,rfl,rfl⟩
    | 7=>exact⟨_,_,rfl,rfl,rfl,rfl⟩
   obtain⟨a,b,c0,c1,c2,c3⟩:=h ⟨r.toNat,by omega⟩
   have:=zk4 r.toNat w (by omega) a b c0 c1 c2 c3
   rwa [Int.toNat_of_nonneg h0] at this
theorem zhG (a b c d:ft)(w:fm):(fI 321 (.agg #[a,b,c,d]) 1).run Tryz.prog w=.ok b w:=by kernel_rfl
theorem zhF (a b c d:ft)(w:fm):(fI 321 (.agg #[a,b,c,d]) 3).run Tryz.prog w=.ok d w:=by kernel_rfl
attribute [local go_sem] zhG zhF
def eQ (r:Int):Bool:=decide (0<dh r)
theorem df (r:Int)(w:fm)(h0:0≤r)(h1:r≤255) :
 fp Tryz.prog 207 #[.int .u8 r] w fun e w'=>e=.returned (.bool (eQ r))∧Below w.heap.size w w':=by
 unfold eQ
 go_enter Tryz.func207,Tryz.ntmps207
 go_wp2_with fail
 refine(zgB r _ h0 h1).mono ?_
 rintro e w1 ⟨a,b,rfl,hb⟩
 go_wp2_with fail
 go_ret
 exact⟨rfl,hb⟩
theorem zde (r:Int)(w:fm)(h0:0≤r)(h1:r≤255) :
 fp Tryz.prog 208 #[.int .u8 r] w fun e w'=>e=.returned (.bool (cB r))∧Below w.heap.size w w':=by
 go_enter Tryz.func208,Tryz.ntmps208
 go_wp2_with fail
 refine(zgB r _ h0 h1).mono ?_
 rintro e w1 ⟨a,b,rfl,hb⟩
 go_wp2_with fail
 go_ret
 exact⟨rfl,hb⟩
def zel (r:Int)(drop:Bool):Int:=if eQ r&&(!drop||cB r) then 0 else 13
theorem zhk (r:Int)(drop:Bool)(w:fm)(h0:0≤r)(h1:r≤255) :
 fp Tryz.prog 151 #[.int .u8 r,.bool drop] w fun e w'=>e=.returned (.int .i64 (zel r drop))∧Below w.heap.size w w':=by
 have hE:zel r drop=if eQ r&&(!drop||cB r) then 0 else 13:=rfl
 cases hv:eQ r
 · rw [hv] at hE
   have HE:=h_ hE
   clear hE
   go_enter Tryz.func151,Tryz.ntmps151
   go_wp2_with (go_at_call 207;refine(df _ _ h0 h1).mono ?_;rintro e w1 ⟨rfl,hb⟩)
   go_ret
   rw [HE.out]
   exact⟨rfl,hb⟩
 · cases drop
   · rw [hv] at hE
     have HE:=h_ hE
     clear hE
     go_enter Tryz.func151,Tryz.ntmps151
     go_wp2_with (go_at_call 207;refine(df _ _ h0 h1).mono ?_;rintro e w1 ⟨rfl,hb⟩)
     go_ret
     rw [HE.out]
     exact⟨rfl,hb⟩
   · cases hd:cB r
     all_goals
      rw [hv,hd] at hE
      have HE:=h_ hE
      clear hE
      go_enter Tryz.func151,Tryz.ntmps151
      go_wp2_with (first
       | (go_at_call 207;refine(df _ _ h0 h1).mono ?_;rintro e w1 ⟨rfl,hb⟩)
       | (go_at_call 208;refine(zde _ _ h0 h1).mono ?_;rintro e w2 ⟨rfl,hb2⟩))
      go_ret
      rw [HE.out]
      exact⟨rfl,hb.trans (hb2.mono hb.size)⟩
end Go.Proofs.YtnlnmbcaongehaaGreatDoor
