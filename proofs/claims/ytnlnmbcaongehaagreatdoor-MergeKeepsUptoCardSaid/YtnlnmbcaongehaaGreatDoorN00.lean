/- One step of a region that draws its order, with what is always shown in one way left to the law. The contract of lines.Name: what it returns for any string. -/
import Derived.Deep.RegionHeld3
import Derived.Test.YtnlnmbcaongehaaGreatDoorProg
import Derived.WalkLawsBesides
import Derived.WalkSpells
import Derived.Shelf.Unicode.ValidAny
import Derived.Shelf.Strings.Builder2
import Derived.Shelf.Strings.BuilderK
import Derived.Shelf.Utf8.RuneCount
import Derived.Shelf.Strconv.Itoa3
import Derived.Shelf.Strings.Shaped
import Derived.Shelf.Strings.RuneCount
import Derived.Shelf.Slices.Cells
import Derived.Shelf.SlicesG.CompactI
import Derived.Shelf.SlicesE.Clone
import Derived.Shelf.SlicesQ.Equal
import Derived.Shelf.SlicesG.Cmp
import Derived.Shelf.SlicesQ.IndexFunc
import Derived.Shelf.SlSortCmp.InsertionK
import Derived.Deep.WholeRow
set_option linter.unusedVariables false
set_option linter.unusedSimpArgs false
set_option maxRecDepth 100000
set_option maxHeartbeats 12800000
open Go.Lib renaming hid→h_
open Go renaming World→Su,Calls→Sv,Value→Sw,sizeOf→Sx,heap_alloc_last→Sy,TypeInfo→Sz,bodyPost_ret→SA,wpList_store_row→SB
open Go.Region renaming ready→SC,wanted→SD,noSelect→SE,free→SF
open List renaming setIfInBounds_toArray→SG,getElem_cons_zero→SH,getElem_cons_succ→SI,getElem_toArray→SJ,set_cons_zero→SK,set_cons_succ→SL,getElem?_eq_getElem→SM,cons_ne_nil→SN,replicate→SO
open Array renaming toArray_toList→SQ
open Go.Proofs.Tryz renaming prog→SR,underlying4→SS,zeroValue4→SU,sizeOf4→SV,underlying3→SW,zeroValue3→SX,isAgg4→SY,underlying0→SZ,zeroValue0→S5,sizeOf3→S6,isAgg3→S7,sizeOf0→S8,isAgg0→S9,underlying9→S_,zeroValue9→Ta,ntmps150→Tb,sizeOf9→Tc,func150→Td,isAgg9→Te,underlying24→Tf,zeroValue24→Tg,underlying5→Th,zeroValue5→Ti,sizeOf24→Tj,ntmps209→Tk,ntmps151→Tl,sizeOf5→Tm,isAgg24→Tn,func209→To,func151→Tp,isAgg5→Tq,underlying238→Tr,zeroValue238→Ts,underlying76→Tt,zeroValue76→Tu,underlying2→Tv,zeroValue2→Tw,results260→Tx,sizeOf238→Ty,sizeOf76→Tz,ntmps260→TA,ntmps206→TC,ntmps149→TD,isAgg238→TE,sizeOf2→TF,isAgg76→TG,func260→TI,func206→TJ,func149→TK,isAgg2→TL
open Bool renaming false_and→TM,and_false→TN
open Go.Utf8 renaming decode→TO
open Nat renaming le_refl→TP
open Go.Instr renaming next→TQ,field→TR
open Go.RowKit.Below renaming refl→TS
open Go.Shelf renaming Ren→TT
open Go.Proofs.Lays renaming n196→TU,n195→TV,n194→TW,n169→TX,n144→TY
open Go.Lib renaming compact→TZ,iterAt_size→T0,Utf8Tabs→T1
open Go.Proofs.SlLaysE0 renaming n41→T2
open Go.Proofs.AnyE renaming slices_Clone_nil→T3,slices_Clone→T4
open Go.World renaming size_alloc→T5
namespace Go.Proofs.YtnlnmbcaongehaaGreatDoor
open Go.RowKit
theorem ak {w w1 w2:Su} (h:Below w.heap.size w w1)(q:Below w1.heap.size w1 w2):Below w.heap.size w w2:=h.trans (q.mono h.size)
section
variable {P:Program} {md:Region.Mode} {ops:Array Oper} {Q:Exit→Act→Su→Prop} {S:Su→Prop} {fuel:Nat} {listed:Array Bool} {a a':Act} {w:Su} {oi:Oper}
theorem ab (hP:∀ ch a a' w,a'.defers=a.defers→Q (.panic ch) a w→Q (.panic ch) a' w)(i:Nat)(v:Sw)(hS:S w)(h:wpAnyH P md ops Q S fuel (listed.setIfInBounds i true) a' w)
 (hi:ops[i]? =some oi:=by rfl) (hs:SE ops=true:=by kernel_rfl) (hf:SF md ops listed i=true:=by kernel_rfl) (hr:(SC md ops listed).contains i=true:=by kernel_rfl)
 (hy:YieldsIf P ops S oi v a:=by exact .inl ⟨by rfl,fun w_ rB=>by go_simp⟩)
 (hp:a.put oi.dst v=a':=by simp only [Act.put,SJ,SH,SI,SG,SK,SL,SQ]<;>rfl) :
 wpAnyH P md ops Q S (fuel+1) listed a w :=
 wpAnyH_take hi hs hf hr (fun c a1 w1 q=>hP c _ _ w1 (by cases oi.dst<;>rfl) q) hy hS (by rw [hp];exact h)
theorem nN (i:Nat)(v:Sw)(hS:S w)(h:wpAnyH P md ops Q S fuel (listed.setIfInBounds i true) a' w)
 (hi:ops[i]? =some oi:=by rfl) (hs:SE ops=true:=by kernel_rfl) (hf:SF md ops listed i=true:=by kernel_rfl) (hr:(SC md ops listed).contains i=true:=by kernel_rfl)
 (hP:∀ c a w,Q (.panic c) (a.put oi.dst v) w→Q (.panic c) a w:=by exact fun _ _ _ h=>h)
 (hy:YieldsIf P ops S oi v a:=by exact .inl ⟨by rfl,fun w_ rB=>by go_simp⟩)
 (hp:a.put oi.dst v=a':=by simp only [Act.put,SJ,SH,SI,SG,SK,SL,SQ]<;>rfl) :
 wpAnyH P md ops Q S (fuel+1) listed a w :=
 wpAnyH_take hi hs hf hr hP hy hS (by rw [hp];exact h)
theorem aB (hP:∀ ch a a' w,a'.defers=a.defers→Q (.panic ch) a w→Q (.panic ch) a' w)(i:Nat)(hS:S w)(h:wpAnyH P md ops Q S fuel (listed.setIfInBounds i true) a' w)
 (hi:ops[i]? =some oi:=by rfl) (hs:SE ops=true:=by kernel_rfl) (hf:SF md ops listed i=true:=by kernel_rfl) (hr:(SC md ops listed).contains i=true:=by kernel_rfl) (hw:SD oi (yielded ops a.tmps)=false:=by rfl)
 (hp:a.put oi.dst undef=a':=by simp only [Act.put,SJ,SH,SI,SG,SK,SL,SQ]<;>rfl):wpAnyH P md ops Q S (fuel+1) listed a w:=ab hP i undef hS h hi hs hf hr (.inr ⟨hw,rfl⟩) hp
theorem goOn {K:Act→Su→Prop} (hK:Shut (∀ a w,S w→(S w→wpAnyH P md ops Q S fuel listed a w)→K a w))(hS:S w)(h:wpAnyH P md ops Q S fuel listed a' w)
 (hp:a=a':=by(try simp only [Act.put,SJ,SH,SI,SG,SK,SL,SQ])<;>rfl):K a w:=hK.out _ _ hS fun _=>by rw [hp];exact h
theorem aq (i:Nat)(h:∀ K':Act→Su→Prop,Shut (∀ a w,S w→(S w→wpAnyH P md ops Q S fuel (listed.setIfInBounds i true) a w)→K' a w)→if SD oi (yielded ops a.tmps)=true then Oper.wp P oi a w K' Q else K' (a.put oi.dst undef) w)
 (hr:SC md ops listed=[i]:=by kernel_rfl) (hi:ops[i]? =some oi:=by rfl):wpAnyH P md ops Q S (fuel+1) listed a w:=wpAnyH_ready hr (SN _ _) (.cons hi h .nil)
theorem eZ (i j:Nat) {oj:Oper} (h:∀ K':Act→Su→Prop,Shut (∀ a w,S w→(S w→wpAnyH P md ops Q S fuel (listed.setIfInBounds i true) a w)→K' a w)→if SD oi (yielded ops a.tmps)=true then Oper.wp P oi a w K' Q else K' (a.put oi.dst undef) w)
 (h':∀ K':Act→Su→Prop,Shut (∀ a w,S w→(S w→wpAnyH P md ops Q S fuel (listed.setIfInBounds j true) a w)→K' a w)→if SD oj (yielded ops a.tmps)=true then Oper.wp P oj a w K' Q else K' (a.put oj.dst undef) w)
 (hr:SC md ops listed=[i,j]:=by kernel_rfl) (hi:ops[i]? =some oi:=by rfl) (hj:ops[j]? =some oj:=by rfl):wpAnyH P md ops Q S (fuel+1) listed a w:=wpAnyH_ready hr (SN _ _) (.cons hi h (.cons hj h' .nil))
end
end Go.Proofs.YtnlnmbcaongehaaGreatDoor
namespace Go.Proofs.YtnlnmbcaongehaaGreatDoor
open Go.RowKit
def jF (c:Nat):Bool:=decide (65≤c∧c≤90)||decide (48≤c∧c≤57)||decide (c=95)||decide (c=45)
theorem Oc (c:Nat)(h:(65≤c∧c≤90)∨(48≤c∧c≤57)∨c=95∨c=45):jF c=true:=by
 simp only [jF,Bool.or_eq_true,decide_eq_true_eq];omega
theorem Sm (c:Nat)(h:¬ ((65≤c∧c≤90)∨(48≤c∧c≤57)∨c=95∨c=45)):jF c=false:=by
 simp only [jF,Bool.or_eq_false_iff,decide_eq_false_iff_not];omega
def jG (s:ByteArray):Bool:=decide (1≤s.size)&&decide (s.size≤16)&&decide (65≤(s.data.toList.headD 0).toNat)&&decide ((s.data.toList.headD 0).toNat≤90)&&s.data.toList.all (fun c=>jF c.toNat)
theorem pe (s:ByteArray)(h:0<s.size):s.data.toList.headD 0=s[0]:=by
 have hl:0<s.data.toList.length:=by simpa using h
 cases hs:s.data.toList with
 | nil=>rw [hs] at hl;simp at hl
 | cons c l =>
   have e:s[0]=s.data.toList[0]:=by rfl
   rw [e]
   simp [hs]
def okTo (s:ByteArray)(k:Nat):Prop:=(s.data.toList.take k).all (fun c=>jF c.toNat)=true
theorem FC (s:ByteArray):okTo s 0:=by simp [okTo]
theorem FE (s:ByteArray)(k:Nat)(h:k<s.size)(ho:okTo s k)(hb:jF s[k].toNat=true):okTo s (k+1):=by
 have hl:k<s.data.toList.length:=by simpa using h
 unfold okTo at *
 rw [List.take_succ_eq_append_getElem hl,List.all_append,ho]
 have e:s.data.toList[k]=s[k]:=rfl
 simp [e,hb]
theorem IP (s:ByteArray)(h1:1≤s.size)(h2:s.size≤16)(h3:65≤s[0].toNat)(h4:s[0].toNat≤90)(ho:okTo s s.size):jG s=true:=by
 unfold okTo at ho
 rw [List.take_of_length_le (by simp)] at ho
 simp only [jG,pe s h1,h1,h2,h3,h4,ho,decide_true,Bool.and_true]
theorem LF (s:ByteArray)(k:Nat)(h:k<s.size)(hb:jF s[k].toNat=false):jG s=false:=by
 have hm:s[k]∈s.data.toList:=List.getElem_mem (l:=s.data.toList) (by simpa using h)
 have:s.data.toList.all (fun c=>jF c.toNat)=false:=by
  rw [List.all_eq_false]
  exact⟨s[k],hm,by simp [hb]⟩
 simp [jG,this]
theorem nz (s:ByteArray)(w:Su)(hs:s.size≤4000000) :
 Sv SR 150 #[.string s] w fun e w'=>e=.returned (.bool (jG s))∧w=w':=by
 by_cases h1:s.size<1
 · have hn:jG s=false:=by simp [jG,show ¬ 1≤s.size by omega]
   have HN:=h_ hn;clear hn
   go_enter Td,Tb
   go_wp2
   go_ret
   rw [HN.out];exact⟨rfl,rfl⟩
 by_cases h2:16<s.size
 · have hn:jG s=false:=by simp [jG,show ¬ s.size≤16 by omega]
   have HN:=h_ hn;clear hn
   go_enter Td,Tb
   go_wp2
   go_ret
   rw [HN.out];exact⟨rfl,rfl⟩
 have hp:0<s.size:=by omega
 by_cases h3:s[0].toNat<65
 · have hn:jG s=false:=by simp only [jG,pe s hp,show ¬ 65≤s[0].toNat by omega,decide_false,TN,TM]
   have HN:=h_ hn;clear hn
   go_enter Td,Tb
   go_wp2
   go_ret
   rw [HN.out];exact⟨rfl,rfl⟩
 by_cases h4:90<s[0].toNat
 · have hn:jG s=false:=by simp only [jG,pe s hp,show ¬ s[0].toNat≤90 by omega,decide_false,TN,TM]
   have HN:=h_ hn;clear hn
   go_enter Td,Tb
   go_wp2
   go_ret
   rw [HN.out];exact⟨rfl,rfl⟩
 have HY:=h_ (IP s (by omega) (by omega) (by omega) (by omega))
 go_enter Td,Tb
 go_wp2
 go_loop [25] (fun i=>∃ k:Nat,k≤s.size∧i=.int .i64 k∧okTo s k) (fun i=>s.size-(intOf i).toNat)
 case atStart=>exact⟨0,by omega,rfl,FC s⟩
 case round =>
  obtain⟨k,hk,rfl,hok⟩:=hrel
  by_cases hlt:k<s.size
  · have hN:=h_ (LF s k hlt)
    have hS:=h_ (FE s k hlt hok)
    have hb:=s[k].toNat_lt
    go_wp2
    all_goals first
     | (go_round
        case rel=>exact⟨k+1,by omega,by go_num,hS.out (Oc _ (by first|omega|(simp only [bne_eq_false_iff_eq] at *;omega)))⟩
        case measure=>simp [intOf];omega)
     | (go_ret
        rw [hN.out (Sm _ (by first|omega|(simp only [bne_iff_ne,ne_eq] at *;omega)))]
        exact⟨rfl,rfl⟩)
  · obtain rfl:k=s.size:=by omega
    go_wp2
    go_ret
    rw [HY.out hok];exact⟨rfl,rfl⟩
def iy (s:ByteArray):Nat→Nat→List Nat
 | 0,_=>[]
 | b+1,pos=>if pos<s.size then (TO s pos).1::iy s b (pos+(TO s pos).2) else []
def runes (s:ByteArray):List Nat:=iy s s.size 0
theorem pL (s:ByteArray)(b pos:Nat)(h:¬ pos<s.size):iy s b pos=[]:=by
 cases b<;>simp [iy,h]
theorem oC (s:ByteArray)(b pos:Nat)(h:pos<s.size)(hb:s.size≤pos+b):∃ c,b=c+1∧iy s b pos=(TO s pos).1::iy s c (pos+(TO s pos).2):=by
 cases b with
 | zero=>omega
 | succ c=>exact⟨c,rfl,by simp [iy,h]⟩
theorem rW (s:ByteArray)(pos:Nat)(h:pos<s.size):1≤(TO s pos).2:=by
 by_cases ha:(s[pos]'h).toNat<128
 · rw [decode_ascii s pos h ha]
   exact TP _
 · exact(decode_high s pos h (by omega)).2
def mj:List Nat→Int→Int→Int
 | [],_,_=>-1
 | x::l,r,n=>if (x:Int)=r then n else mj l r (n+1)
theorem DT (l:List Nat)(x:Nat)(r n:Int)(h:(x:Int)=r):mj (x::l) r n=n:=by simp [mj,h]
theorem Fw (l:List Nat)(x:Nat)(r n:Int)(h:¬ (x:Int)=r):mj (x::l) r n=mj l r (n+1):=by simp [mj,h]
theorem Bv (s:ByteArray)(r:Int)(w:Su)(hs:s.size≤4000000) :
 Sv SR 259 #[.string s,.int .i32 r] w fun e w'=>e=.returned (.int .i64 (mj (runes s) r 0))∧Below w.heap.size w w':=by
 generalize hG:mj (runes s) r 0=G
 have hG0:mj (iy s s.size 0) r 0=G:=hG
 have H0:=h_ hG0
 clear hG hG0
 go_enter Tryz.func259,Tryz.ntmps259
 go_wp2
 go_loopw [5] (fun n w'=>∃ (pos b:Nat) (k:Nat),w'=w.iter s pos∧n=.int .i64 k∧mj (iy s b pos) r k=G∧s.size≤pos+b∧k≤pos∧k≤s.size) (fun _ w'=>s.size-w'.iterPos w.heap.size)
 case atStart=>exact⟨0,s.size,0,rfl,rfl,H0.out,by omega,by omega,by omega⟩
 case round =>
  obtain⟨pos,b,k,rfl,rfl,hp,hb,hk,hk2⟩:=hrel
  by_cases hlt:pos<s.size
  · obtain⟨c,rfl,hn⟩:=oC s b pos hlt hb
    have hwd:=rW s pos hlt
    have hnx:∀ ty,(TQ (.pointer (some ⟨w.heap.size,0,none⟩)) true ty).run SR (w.iter s pos)=_:=fun ty=>run_next_any w s pos ty hlt
    rw [hn] at hp
    by_cases he:((TO s pos).1:Int)=r
    · rw [DT _ _ _ _ he] at hp
      have hbe:(((TO s pos).1:Int)==r)=true:=by simpa using he
      have HP:=h_ hp
      clear hp hn he H0
      go_wp2
      go_ret
      exact⟨by rw [←HP.out];rfl,(TS _ _).alloc (TP _) _⟩
    · rw [Fw _ _ _ _ he] at hp
      have hbe:(((TO s pos).1:Int)==r)=false:=by simpa using he
      have HP:=h_ hp
      clear hp hn he H0
      go_wp2
      go_roundw
      case rel=>exact⟨pos+(TO s pos).2,c,k+1,rfl,by go_num,HP.out,by omega,by omega,by omega⟩
      case measure=>simp;omega
  · have hnx:∀ ty,(TQ (.pointer (some ⟨w.heap.size,0,none⟩)) true ty).run SR (w.iter s pos)=_:=fun ty=>run_next_end w s pos ty hlt
    rw [pL s b pos hlt] at hp
    have HP:=h_ hp
    clear hp H0
    go_wp2
    go_ret
    exact⟨by rw [←HP.out];rfl,(TS _ _).alloc (TP _) _⟩
def repertoire:List Nat:=[32,33,34,35,36,37,38,39,40,41,42,43,44,45,46,47,48,49,50,51,52,53,54,55,56,57,58,59,60,61,62,63,64,65,66,67,68,69,70,71,72,73,74,75,76,77,78,79,80,81,82,83,84,85,86,87,88,89,90,91,92,93,94,95,96,97,98,99,100,101,102,103,104,105,106,107,108,109,110,111,112,113,114,115,116,117,118,119,120,121,122,123,124,125,126,161,162,163,164,165,166,167,169,171,174,176,183,187,189,191,192,193,194,195,196,197,198,199,200,201,202,203,204,205,206,207,209,210,211,212,213,214,216,217,218,219,220,223,224,225,226,227,228,229,230,231,232,233,234,235,236,237,238,239,241,242,243,244,245,246,248,249,250,251,252,338,339,8212,8216,8217,8220,8221,8226,8230,8482,9834]
def idx (r:Int):Int:=if 32≤r∧r≤126 then r-32 else mj repertoire r 0
def G6:ByteArray:=⟨#[32,33,34,35,36,37,38,39,40,41,42,43,44,45,46,47,48,49,50,51,52,53,54,55,56,57,58,59,60,61,62,63,64,65,66,67,68,69,70,71,72,73,74,75,76,77,78,79,80,81,82,83,84,85,86,87,88,89,90,91,92,93,94,95,96,97,98,99,100,101,102,103,104,105,106,107,108,109,110,111,112,113,114,115,116,117,118,119,120,121,122,123,124,125,126,194,161,194,162,194,163,194,164,194,165,194,166,194,167,194,169,194,171,194,174,194,176,194,183,194,187,194,189,194,191,195,128,195,129,195,130,195,131,195,132,195,133,195,134,195,135,195,136,195,137,195,138,195,139,195,140,195,141,195,142,195,143,195,145,195,146,195,147,195,148,195,149,195,150,195,152,195,153,195,154,195,155,195,156,195,159,195,160,195,161,195,162,195,163,195,164,195,165,195,166,195,167,195,168,195,169,195,170,195,171,195,172,195,173,195,174,195,175,195,177,195,178,195,179,195,180,195,181,195,182,195,184,195,185,195,186,195,187,195,188,197,146,197,147,226,128,148,226,128,152,226,128,153,226,128,156,226,128,157,226,128,162,226,128,166,226,132,162,226,153,170]⟩
theorem Fk:runes G6=repertoire:=by decide +kernel
theorem sJ (r:Int)(w:Su)(h0:-2147483648≤r)(h1:r≤2147483647) :
 Sv SR 206 #[.int .i32 r] w fun e w'=>e=.returned (.int .i64 (idx r))∧Below w.heap.size w w':=by
 by_cases ha:32≤r∧r≤126
 · have hi:idx r=r-32:=by unfold idx;rw [if_pos ha]
   obtain⟨a0,a1⟩:=ha
   have HI:=h_ hi
   clear hi
   go_enter TJ,TC
   go_wp2
   go_ret
   rw [HI.out]
   exact⟨rfl,TS _ _⟩
 · have hi:idx r=mj (runes G6) r 0:=by unfold idx;rw [if_neg ha,Fk]
   have HI:=h_ hi
   clear hi
   rcases(show r<32∨126<r by omega) with hb|hb
   all_goals
    clear ha
    go_enter TJ,TC
    go_wp2_with fail
    refine(Bv G6 r _ (by decide +kernel)).mono ?_
    rintro e w1 ⟨rfl,hB⟩
    go_wp2_with fail
    go_ret
    rw [HI.out]
    exact⟨rfl,hB⟩
end Go.Proofs.YtnlnmbcaongehaaGreatDoor
namespace Go.Proofs
open Go.Shelf
def Tryz.lays169_ren:TT:=⟨fun|169=>69|n=>n,fun|70=>120|9=>9|0=>0|72=>123|37=>121|127=>182|3=>3|5=>5|n=>n,fun|n=>n⟩
theorem Tryz.lays169:TX SR Tryz.lays169_ren:={
 mixed:=by kernel_rfl
 f169:=Tryz.func69.trans (congrArg some (by kernel_rfl))
 t0:=SZ
 a0:=S9
 z0:=S8
 v0:=S5
 t3:=SW
 a3:=S7
 z3:=S6
 v3:=SX
 t9:=S_
 a9:=Te
 z9:=Tc
 v9:=Ta
 t37:=Tryz.underlying121
 a37:=Tryz.isAgg121
 z37:=Tryz.sizeOf121
 v37:=Tryz.zeroValue121
 t70:=Tryz.underlying120
 a70:=Tryz.isAgg120
 z70:=Tryz.sizeOf120
 v70:=Tryz.zeroValue120
 t72:=Tryz.underlying123
 a72:=Tryz.isAgg123
 z72:=Tryz.sizeOf123
 v72:=Tryz.zeroValue123
 t127:=Tryz.underlying182
 a127:=Tryz.isAgg182
 z127:=Tryz.sizeOf182
 v127:=Tryz.zeroValue182 }
theorem Tryz.Builder_Extra_169:Builder.Extra SR Tryz.lays169_ren:={
 sizeBuilder:=by kernel_rfl
 liesBuilder:=by kernel_rfl
 t5:=Th
 a5:=Tq
 z5:=Tm
 v5:=Ti
 infoByte:=by kernel_rfl
 cellsByte:=by kernel_rfl
 sizeByte:=by kernel_rfl
 neB5:=by decide }
open Go.RowKit in
theorem Tryz.Builder_String_any (B b:Nat)(l:List UInt8)(w:Su)(h:Lib.IsBuilder 123 5 B b (Lib.byteCells l) w)(hBw:B≤w.heap.size) :
 Sv SR 69 #[.pointer (some ⟨b,0,none⟩)] w fun e w'=>e=.returned (.string ⟨l.toArray⟩)∧Below B w w':=Any.Builder_String_any Tryz.lays169 Tryz.Builder_Extra_169 B b l w h hBw
def Tryz.lays195_ren:TT:=⟨fun|195=>286|n=>n,fun|9=>9|3=>3|0=>0|4=>4|n=>n,fun|n=>n⟩
theorem Tryz.lays195:TV SR Tryz.lays195_ren:={
 mixed:=by kernel_rfl
 f195:=Tryz.func286.trans (congrArg some (by kernel_rfl))
 t0:=SZ
 a0:=S9
 z0:=S8
 v0:=S5
 t3:=SW
 a3:=S7
 z3:=S6
 v3:=SX
 t4:=SS
 a4:=SY
 z4:=SV
 v4:=SU
 t9:=S_
 a9:=Te
 z9:=Tc
 v9:=Ta }
open Go.RowKit in
theorem Tryz.utf8_RuneCountInString (s:ByteArray)(w:Su)(hs:s.size<9223372036854775807) :
 Sv SR 286 #[.string s] w fun e w'=>e=.returned (.int .i64 (Lib.runeCount s))∧∃ pos,w'=w.iter s pos:=Any.utf8_RuneCountInString Tryz.lays195 s w hs
def Tryz.lays144_ren:TT:=⟨fun|144=>214|143=>263|219=>285|217=>295|225=>296|224=>297|267=>298|266=>300|314=>301|n=>n,fun|9=>9|4=>4|3=>3|5=>5|46=>238|146=>351|51=>290|n=>n,fun|1=>3|n=>n⟩
theorem Tryz.lays144:TY SR Tryz.lays144_ren:={
 mixed:=by kernel_rfl
 f143:=Tryz.func263.trans (congrArg some (by kernel_rfl))
 f144:=Tryz.func214.trans (congrArg some (by kernel_rfl))
 f217:=Tryz.func295.trans (congrArg some (by kernel_rfl))
 f219:=Tryz.func285.trans (congrArg some (by kernel_rfl))
 f224:=Tryz.func297.trans (congrArg some (by kernel_rfl))
 f225:=Tryz.func296.trans (congrArg some (by kernel_rfl))
 f266:=Tryz.func300.trans (congrArg some (by kernel_rfl))
 f267:=Tryz.func298.trans (congrArg some (by kernel_rfl))
 f314:=Tryz.func301.trans (congrArg some (by kernel_rfl))
 t3:=SW
 a3:=S7
 z3:=S6
 v3:=SX
 t4:=SS
 a4:=SY
 z4:=SV
 v4:=SU
 t5:=Th
 a5:=Tq
 z5:=Tm
 v5:=Ti
 t9:=S_
 a9:=Te
 z9:=Tc
 v9:=Ta
 t46:=Tr
 a46:=TE
 z46:=Ty
 v46:=Ts
 t51:=Tryz.underlying290
 a51:=Tryz.isAgg290
 z51:=Tryz.sizeOf290
 v51:=Tryz.zeroValue290
 t146:=Tryz.underlying351
 a146:=Tryz.isAgg351
 z146:=Tryz.sizeOf351
 v146:=Tryz.zeroValue351
 g1:=by kernel_rfl }
open Go.RowKit Go.Lib in
theorem Tryz.strings_Contains (s sub:ByteArray)(m:Int)(w:Su)(hs:s.size<4294967281)(hm:w.cell? ⟨3,0,none⟩=some (.int .i64 m)) :
 Sv SR 214 #[.string s,.string sub] w fun e w'=>e=.returned (.bool (Lib.contains s.data.toList sub.data.toList))∧w'=w:=Any.strings_Contains Tryz.lays144 s sub m w hs hm
def Tryz.lays194_ren:TT:=⟨fun|194=>92|n=>n,fun|31=>55|9=>9|3=>3|4=>4|0=>0|n=>n,fun|n=>n⟩
theorem Tryz.lays194:TW SR Tryz.lays194_ren:={
 mixed:=by kernel_rfl
 f194:=Tryz.func92.trans (congrArg some (by kernel_rfl))
 t0:=SZ
 a0:=S9
 z0:=S8
 v0:=S5
 t3:=SW
 a3:=S7
 z3:=S6
 v3:=SX
 t4:=SS
 a4:=SY
 z4:=SV
 v4:=SU
 t9:=S_
 a9:=Te
 z9:=Tc
 v9:=Ta
 t31:=Tryz.underlying55
 a31:=Tryz.isAgg55
 z31:=Tryz.sizeOf55
 v31:=Tryz.zeroValue55 }
open Go.RowKit Go.Lib Go.Sort in
theorem Tryz.slices_Compact_string (blk off cap:Nat)(zs:List (List UInt8))(w:Su)(hH:Holds encStr w blk off zs.toArray)(hsz:zs.length≤9223372036854775807)(hcap:zs.length≤cap) :
 Sv SR 92 #[.slice (some ⟨blk,off,none⟩) zs.length cap] w fun e w'=>e=.returned (.slice (some ⟨blk,off,none⟩) (TZ zs).length cap)∧∃ q,w'=putRow encStr (Sort.ahead w q) blk off (TZ zs++SO (zs.length-(TZ zs).length) []).toArray:=Any.slices_Compact_string Tryz.lays194 blk off cap zs w hH hsz hcap
open Go.RowKit Go.Lib Go.Sort in
theorem Tryz.slices_Compact_string_empty (a:Option Addr)(cap:Nat)(w:Su) :
 Sv SR 92 #[.slice a 0 cap] w fun e w'=>e=.returned (.slice a 0 cap)∧w'=w:=Any.slices_Compact_string_empty Tryz.lays194 a cap w
def Tryz.laysSlN43_f95_ren:TT:=⟨fun|43=>95|n=>n,fun|22=>85|23=>2|3=>3|4=>4|0=>0|n=>n,fun|n=>n⟩
theorem Tryz.laysSlN43_f95:Go.Proofs.SlLaysN.n43 SR Tryz.laysSlN43_f95_ren:={
 mixed:=by kernel_rfl
 f43:=⟨Tryz.f95.name,by decide,Tryz.func95.trans (congrArg some (by kernel_rfl))⟩
 t0:=SZ
 a0:=S9
 z0:=S8
 v0:=S5
 t3:=SW
 a3:=S7
 z3:=S6
 v3:=SX
 t4:=SS
 a4:=SY
 z4:=SV
 v4:=SU
 t22:=Tryz.underlying85
 a22:=Tryz.isAgg85
 z22:=Tryz.sizeOf85
 v22:=Tryz.zeroValue85
 t23:=Tv
 a23:=TL
 z23:=TF
 v23:=Tw
 i23:=by kernel_rfl }
open Go.RowKit Go.Lib Go.Sort in
theorem Tryz.slices_Compact_int (blk off cap:Nat)(zs:List Int)(w:Su)(hH:Holds (Sw.int .i64) w blk off zs.toArray)(hsz:zs.length≤9223372036854775807)(hcap:zs.length≤cap) :
 Sv SR 95 #[.slice (some ⟨blk,off,none⟩) zs.length cap] w fun e w'=>e=.returned (.slice (some ⟨blk,off,none⟩) (TZ zs).length cap)∧∃ q,w'=putRow (Sw.int .i64) (Sort.ahead w q) blk off (TZ zs++SO (zs.length-(TZ zs).length) 0).toArray:=AnyG.slices_Compact_int Tryz.laysSlN43_f95 blk off cap zs w hH hsz hcap
open Go.RowKit Go.Lib Go.Sort in
theorem Tryz.slices_Compact_int_empty (a:Option Addr)(cap:Nat)(w:Su) :
 Sv SR 95 #[.slice a 0 cap] w fun e w'=>e=.returned (.slice a 0 cap)∧w'=w:=AnyG.slices_Compact_int_empty Tryz.laysSlN43_f95 a cap w
def Tryz.laysSlE041_f106_ren:TT:=⟨fun|41=>106|n=>n,fun|22=>23|23=>44|4=>4|n=>n,fun|n=>n⟩
theorem Tryz.laysSlE041_f106:T2 SR Tryz.laysSlE041_f106_ren:={
 mixed:=by kernel_rfl
 f41:=⟨Tryz.f106.name,by decide,Tryz.func106.trans (congrArg some (by kernel_rfl))⟩
 t4:=SS
 a4:=SY
 z4:=SV
 v4:=SU
 t22:=Tryz.underlying23
 a22:=Tryz.isAgg23
 z22:=Tryz.sizeOf23
 v22:=Tryz.zeroValue23 }
open Go.RowKit Go.Lib in
theorem Tryz.slices_Clone_f106 (i0:Sz)(z:Sw)(size bytes:Nat)(hi:SR.info? 44=some i0)(hz0:i0.zero=some z)(hz1:i0.size=size)(hz2:i0.bytes=bytes)(hzs:z.cells.size=size)(hsz:0<size)(z23:∀ w,(Sx 44).run SR w=.ok size w)(b off n c:Nat)(news:List Sw)(w:Su)(hl:news.length=n*size)(hn:n≤maxLen)(hbig:n*bytes≤140737488355328)(hc:∀ j u,news[j]? =some u→w.cell? ⟨b,off+j,none⟩=some u)(h1:∀ u∈news,u.oneCell'=true) :
 Sv SR 106 #[.slice (some ⟨b,off,none⟩) n c] w fun e w'=>∃ v',e=.returned v'∧w'.ownsRow w.heap.size 44 size v' n news∧v'≠.slice none 0 0∧Below w.heap.size w w':=T4 Tryz.laysSlE041_f106 i0 z size bytes hi hz0 hz1 hz2 hzs hsz z23 b off n c news w hl hn hbig hc h1
def Tryz.laysSlE041_f107_ren:TT:=⟨fun|41=>107|n=>n,fun|22=>25|23=>52|4=>4|n=>n,fun|n=>n⟩
theorem Tryz.laysSlE041_f107:T2 SR Tryz.laysSlE041_f107_ren:={
 mixed:=by kernel_rfl
 f41:=⟨Tryz.f107.name,by decide,Tryz.func107.trans (congrArg some (by kernel_rfl))⟩
 t4:=SS
 a4:=SY
 z4:=SV
 v4:=SU
 t22:=Tryz.underlying25
 a22:=Tryz.isAgg25
 z22:=Tryz.sizeOf25
 v22:=Tryz.zeroValue25 }
open Go.RowKit Go.Lib in
theorem Tryz.slices_Clone_f107 (i0:Sz)(z:Sw)(size bytes:Nat)(hi:SR.info? 52=some i0)(hz0:i0.zero=some z)(hz1:i0.size=size)(hz2:i0.bytes=bytes)(hzs:z.cells.size=size)(hsz:0<size)(z23:∀ w,(Sx 52).run SR w=.ok size w)(b off n c:Nat)(news:List Sw)(w:Su)(hl:news.length=n*size)(hn:n≤maxLen)(hbig:n*bytes≤140737488355328)(hc:∀ j u,news[j]? =some u→w.cell? ⟨b,off+j,none⟩=some u)(h1:∀ u∈news,u.oneCell'=true) :
 Sv SR 107 #[.slice (some ⟨b,off,none⟩) n c] w fun e w'=>∃ v',e=.returned v'∧w'.ownsRow w.heap.size 52 size v' n news∧v'≠.slice none 0 0∧Below w.heap.size w w':=T4 Tryz.laysSlE041_f107 i0 z size bytes hi hz0 hz1 hz2 hzs hsz z23 b off n c news w hl hn hbig hc h1
def Tryz.laysSlE041_f108_ren:TT:=⟨fun|41=>108|n=>n,fun|22=>24|23=>50|4=>4|n=>n,fun|n=>n⟩
theorem Tryz.laysSlE041_f108:T2 SR Tryz.laysSlE041_f108_ren:={
 mixed:=by kernel_rfl
 f41:=⟨Tryz.f108.name,by decide,Tryz.func108.trans (congrArg some (by kernel_rfl))⟩
 t4:=SS
 a4:=SY
 z4:=SV
 v4:=SU
 t22:=Tf
 a22:=Tn
 z22:=Tj
 v22:=Tg }
open Go.RowKit Go.Lib in
theorem Tryz.slices_Clone_f108 (i0:Sz)(z:Sw)(size bytes:Nat)(hi:SR.info? 50=some i0)(hz0:i0.zero=some z)(hz1:i0.size=size)(hz2:i0.bytes=bytes)(hzs:z.cells.size=size)(hsz:0<size)(z23:∀ w,(Sx 50).run SR w=.ok size w)(b off n c:Nat)(news:List Sw)(w:Su)(hl:news.length=n*size)(hn:n≤maxLen)(hbig:n*bytes≤140737488355328)(hc:∀ j u,news[j]? =some u→w.cell? ⟨b,off+j,none⟩=some u)(h1:∀ u∈news,u.oneCell'=true) :
 Sv SR 108 #[.slice (some ⟨b,off,none⟩) n c] w fun e w'=>∃ v',e=.returned v'∧w'.ownsRow w.heap.size 50 size v' n news∧v'≠.slice none 0 0∧Below w.heap.size w w':=T4 Tryz.laysSlE041_f108 i0 z size bytes hi hz0 hz1 hz2 hzs hsz z23 b off n c news w hl hn hbig hc h1
def Tryz.laysSlE041_f167_ren:TT:=⟨fun|41=>167|n=>n,fun|22=>48|23=>78|4=>4|n=>n,fun|n=>n⟩
theorem Tryz.laysSlE041_f167:T2 SR Tryz.laysSlE041_f167_ren:={
 mixed:=by kernel_rfl
 f41:=⟨Tryz.f167.name,by decide,Tryz.func167.trans (congrArg some (by kernel_rfl))⟩
 t4:=SS
 a4:=SY
 z4:=SV
 v4:=SU
 t22:=Tryz.underlying48
 a22:=Tryz.isAgg48
 z22:=Tryz.sizeOf48
 v22:=Tryz.zeroValue48 }
open Go.RowKit Go.Lib in
theorem Tryz.slices_Clone_f167 (i0:Sz)(z:Sw)(size bytes:Nat)(hi:SR.info? 78=some i0)(hz0:i0.zero=some z)(hz1:i0.size=size)(hz2:i0.bytes=bytes)(hzs:z.cells.size=size)(hsz:0<size)(z23:∀ w,(Sx 78).run SR w=.ok size w)(b off n c:Nat)(news:List Sw)(w:Su)(hl:news.length=n*size)(hn:n≤maxLen)(hbig:n*bytes≤140737488355328)(hc:∀ j u,news[j]? =some u→w.cell? ⟨b,off+j,none⟩=some u)(h1:∀ u∈news,u.oneCell'=true) :
 Sv SR 167 #[.slice (some ⟨b,off,none⟩) n c] w fun e w'=>∃ v',e=.returned v'∧w'.ownsRow w.heap.size 78 size v' n news∧v'≠.slice none 0 0∧Below w.heap.size w w':=T4 Tryz.laysSlE041_f167 i0 z size bytes hi hz0 hz1 hz2 hzs hsz z23 b off n c news w hl hn hbig hc h1
def Tryz.laysSlE041_f168_ren:TT:=⟨fun|41=>168|n=>n,fun|22=>76|23=>75|4=>4|n=>n,fun|n=>n⟩
theorem Tryz.laysSlE041_f168:T2 SR Tryz.laysSlE041_f168_ren:={
 mixed:=by kernel_rfl
 f41:=⟨Tryz.f168.name,by decide,Tryz.func168.trans (congrArg some (by kernel_rfl))⟩
 t4:=SS
 a4:=SY
 z4:=SV
 v4:=SU
 t22:=Tt
 a22:=TG
 z22:=Tz
 v22:=Tu }
open Go.RowKit Go.Lib in
theorem Tryz.slices_Clone_f168 (i0:Sz)(z:Sw)(size bytes:Nat)(hi:SR.info? 75=some i0)(hz0:i0.zero=some z)(hz1:i0.size=size)(hz2:i0.bytes=bytes)(hzs:z.cells.size=size)(hsz:0<size)(z23:∀ w,(Sx 75).run SR w=.ok size w)(b off n c:Nat)(news:List Sw)(w:Su)(hl:news.length=n*size)(hn:n≤maxLen)(hbig:n*bytes≤140737488355328)(hc:∀ j u,news[j]? =some u→w.cell? ⟨b,off+j,none⟩=some u)(h1:∀ u∈news,u.oneCell'=true) :
 Sv SR 168 #[.slice (some ⟨b,off,none⟩) n c] w fun e w'=>∃ v',e=.returned v'∧w'.ownsRow w.heap.size 75 size v' n news∧v'≠.slice none 0 0∧Below w.heap.size w w':=T4 Tryz.laysSlE041_f168 i0 z size bytes hi hz0 hz1 hz2 hzs hsz z23 b off n c news w hl hn hbig hc h1
open Go.RowKit Go.Lib in
theorem Tryz.slices_Clone_nil_f106 (n c:Nat)(w:Su) :
 Sv SR 106 #[.slice none n c] w fun e w'=>e=.returned (.slice none 0 0)∧w'=w:=T3 Tryz.laysSlE041_f106 n c w
open Go.RowKit Go.Lib in
theorem Tryz.slices_Clone_nil_f107 (n c:Nat)(w:Su) :
 Sv SR 107 #[.slice none n c] w fun e w'=>e=.returned (.slice none 0 0)∧w'=w:=T3 Tryz.laysSlE041_f107 n c w
open Go.RowKit Go.Lib in
theorem Tryz.slices_Clone_nil_f108 (n c:Nat)(w:Su) :
 Sv SR 108 #[.slice none n c] w fun e w'=>e=.returned (.slice none 0 0)∧w'=w:=T3 Tryz.laysSlE041_f108 n c w
open Go.RowKit Go.Lib in
theorem Tryz.slices_Clone_nil_f167 (n c:Nat)(w:Su) :
 Sv SR 167 #[.slice none n c] w fun e w'=>e=.returned (.slice none 0 0)∧w'=w:=T3 Tryz.laysSlE041_f167 n c w
open Go.RowKit Go.Lib in
theorem Tryz.slices_Clone_nil_f168 (n c:Nat)(w:Su) :
 Sv SR 168 #[.slice none n c] w fun e w'=>e=.returned (.slice none 0 0)∧w'=w:=T3 Tryz.laysSlE041_f168 n c w
def Tryz.laysSlQ8_f204_ren:TT:=⟨fun|8=>204|n=>n,fun|22=>76|24=>75|4=>4|3=>3|0=>0|n=>n,fun|n=>n⟩
theorem Tryz.laysSlQ8_f204:Go.Proofs.SlLaysQ.n8 SR Tryz.laysSlQ8_f204_ren:={
 mixed:=by kernel_rfl
 f8:=⟨Tryz.f204.name,by decide,Tryz.func204.trans (congrArg some (by kernel_rfl))⟩
 t0:=SZ
 a0:=S9
 z0:=S8
 v0:=S5
 t3:=SW
 a3:=S7
 z3:=S6
 v3:=SX
 t4:=SS
 a4:=SY
 z4:=SV
 v4:=SU
 t22:=Tt
 a22:=TG
 z22:=Tz
 v22:=Tu }
open Go.RowKit Go.Lib in
theorem Tryz.slices_Equal_f204 {α:Type} [Inhabited α] (k:Nat)(aE:∀ w,(isAgg 75).run SR w=.ok true w)(zE:∀ w,(Sx 75).run SR w=.ok k w)(enc:α→List Sw)(hk:∀ x,(enc x).length=k)(eq:α→α→Bool)(hne:NeqAt SR 75 (fun x=>.agg (enc x).toArray) eq)(b1 o1 n c b2 o2 m d:Nat)(xs ys:List α)(w:Su)(hx:n≤xs.length)(hy:m≤ys.length)(hbig:n≤9223372036854775807)(hbig2:m≤9223372036854775807)(hc1:∀ j,j<xs.length→∀ i v,(enc xs[j]!)[i]? =some v→w.cell? ⟨b1,o1+j*k+i,none⟩=some v)(hc2:∀ j,j<ys.length→∀ i v,(enc ys[j]!)[i]? =some v→w.cell? ⟨b2,o2+j*k+i,none⟩=some v) :
 Sv SR 204 #[.slice (some ⟨b1,o1,none⟩) n c,.slice (some ⟨b2,o2,none⟩) m d] w fun e w'=>e=.returned (.bool (Lib.allEq eq (xs.take n) (ys.take m)))∧∃ q,w'=w.drewN q:=AnyQ.slices_Equal Tryz.laysSlQ8_f204 k aE zE enc hk eq hne b1 o1 n c b2 o2 m d xs ys w hx hy hbig hbig2 hc1 hc2
def Tryz.laysSlC25_f160_ren:TT:=⟨fun|5=>160|7=>217|n=>n,fun|22=>2|3=>3|4=>4|n=>n,fun|n=>n⟩
theorem Tryz.laysSlC25_f160:Go.Proofs.SlLaysC2.n5 SR Tryz.laysSlC25_f160_ren:={
 mixed:=by kernel_rfl
 f5:=⟨Tryz.f160.name,by decide,Tryz.func160.trans (congrArg some (by kernel_rfl))⟩
 f7:=⟨Tryz.f217.name,by decide,Tryz.func217.trans (congrArg some (by kernel_rfl))⟩
 t3:=SW
 a3:=S7
 z3:=S6
 v3:=SX
 t4:=SS
 a4:=SY
 z4:=SV
 v4:=SU
 t22:=Tv
 a22:=TL
 z22:=TF
 v22:=Tw }
open Go.Lib in
theorem Tryz.cmp_Compare_int (x y:Int)(w:Su) :
 Sv SR 160 #[.int .i64 x,.int .i64 y] w fun e w'=>e=.returned (.int .i64 (Lib.compareInt x y))∧w'=w:=AnyG.cmp_Compare_int Tryz.laysSlC25_f160 x y w
def Tryz.laysSlH06_f82_ren:TT:=⟨fun|6=>82|n=>n,fun|22=>24|23=>50|25=>152|3=>3|0=>0|4=>4|n=>n,fun|n=>n⟩
theorem Tryz.laysSlH06_f82:Go.Proofs.SlLaysH0.n6 SR Tryz.laysSlH06_f82_ren:={
 mixed:=by kernel_rfl
 f6:=⟨Tryz.f82.name,by decide,Tryz.func82.trans (congrArg some (by kernel_rfl))⟩
 t0:=SZ
 a0:=S9
 z0:=S8
 v0:=S5
 t3:=SW
 a3:=S7
 z3:=S6
 v3:=SX
 t4:=SS
 a4:=SY
 z4:=SV
 v4:=SU
 t22:=Tf
 a22:=Tn
 z22:=Tj
 v22:=Tg
 t25:=Tryz.underlying152
 a25:=Tryz.isAgg152
 z25:=Tryz.sizeOf152
 v25:=Tryz.zeroValue152 }
open Go.RowKit Go.Lib in
theorem Tryz.slices_IndexFunc {α:Type} [Inhabited α] (k:Nat)(aE:∀ w,(isAgg 50).run SR w=.ok true w)(zE:∀ w,(Sx 50).run SR w=.ok k w)(enc:α→List Sw)(hk:∀ x,(enc x).length=k)(p:α→Bool)(g:Nat)(lb:Array Sw)(eg:∀ args w,(callFunc g args).run SR w=.ok (.enter g args) w)(b off n c:Nat)(zs:List α)(w:Su)(hp:PredBelow SR g lb (fun x=>.agg (enc x).toArray) p w)(hz:n≤zs.length)(hbig:n≤9223372036854775807)(hb:b<w.heap.size)(hc:∀ j,j<zs.length→∀ i v,(enc zs[j]!)[i]? =some v→w.cell? ⟨b,off+j*k+i,none⟩=some v) :
 Sv SR 82 #[.slice (some ⟨b,off,none⟩) n c,.func (.func g) #[] lb] w fun e w'=>e=.returned (.int .i64 (Lib.idxBy (fun _ y=>p y) (zs.take n) default))∧Below w.heap.size w w':=AnyQ.slices_IndexFunc Tryz.laysSlH06_f82 k aE zE enc hk p g lb eg b off n c zs w hp hz hbig hb hc
def Tryz.laysSlF020_f277_ren:TT:=⟨fun|20=>277|n=>n,fun|24=>50|22=>24|3=>3|25=>252|4=>4|0=>0|n=>n,fun|n=>n⟩
theorem Tryz.laysSlF020_f277:Go.Proofs.SlLaysF0.n20 SR Tryz.laysSlF020_f277_ren:={
 mixed:=by kernel_rfl
 f20:=⟨Tryz.f277.name,by decide,Tryz.func277.trans (congrArg some (by kernel_rfl))⟩
 t0:=SZ
 a0:=S9
 z0:=S8
 v0:=S5
 t3:=SW
 a3:=S7
 z3:=S6
 v3:=SX
 t4:=SS
 a4:=SY
 z4:=SV
 v4:=SU
 t22:=Tf
 a22:=Tn
 z22:=Tj
 v22:=Tg
 t25:=Tryz.underlying252
 a25:=Tryz.isAgg252
 z25:=Tryz.sizeOf252
 v25:=Tryz.zeroValue252 }
open Go.RowKit Go.Lib Go.Sort in
theorem Tryz.insertionSortCmpFunc {α:Type} [Inhabited α] (k:Nat)(aE:∀ w,(isAgg 50).run SR w=.ok true w)(zE:∀ w,(Sx 50).run SR w=.ok k w)(enc:α→List Sw)(hk:∀ x,(enc x).length=k)(h1:∀ x,∀ v∈enc x,v.oneCell'=true)(cf:α→α→Int)(g:Nat)(cb:Array Sw)(blk off cap a b:Nat)(d:Array α)(w:Su)(eg:∀ args w,(callFunc g args).run SR w=.ok (.enter g args) w)(hcmp:CmpLays SR g cb enc k cf blk off d.size w)(hH:HoldsK enc k w blk off d)(hblk:blk<w.heap.size)(hab:a≤b)(hb:b≤d.size)(hsz:d.size<4611686018427387904) :
 Sv SR 277 #[.slice (some ⟨blk,off,none⟩) d.size cap,.int .i64 a,.int .i64 b,.func (.func g) #[] cb] w fun e w' =>
  e=.returned (.tuple #[])∧∃ n os,w'=sortWorldK enc k w blk off n (Sort.insertionSort (ltOf cf) d a b) os:=AnyQ.insertionSortCmpFunc Tryz.laysSlF020_f277 k aE zE enc hk h1 cf g cb blk off cap a b d w eg hcmp hH hblk hab hb hsz
def Tryz.lays196_ren:TT:=⟨fun|196=>205|259=>258|n=>n,fun|9=>9|4=>4|3=>3|5=>5|12=>12|119=>315|0=>0|46=>238|139=>318|138=>317|53=>259|n=>n,fun|3=>0|4=>1|n=>n⟩
theorem Tryz.lays196:TU SR Tryz.lays196_ren:={
 mixed:=by kernel_rfl
 f196:=Tryz.func205.trans (congrArg some (by kernel_rfl))
 f259:=Tryz.func258.trans (congrArg some (by kernel_rfl))
 t0:=SZ
 a0:=S9
 z0:=S8
 v0:=S5
 t3:=SW
 a3:=S7
 z3:=S6
 v3:=SX
 t4:=SS
 a4:=SY
 z4:=SV
 v4:=SU
 t5:=Th
 a5:=Tq
 z5:=Tm
 v5:=Ti
 t9:=S_
 a9:=Te
 z9:=Tc
 v9:=Ta
 t12:=Tryz.underlying12
 a12:=Tryz.isAgg12
 z12:=Tryz.sizeOf12
 v12:=Tryz.zeroValue12
 t46:=Tr
 a46:=TE
 z46:=Ty
 v46:=Ts
 t53:=Tryz.underlying259
 a53:=Tryz.isAgg259
 z53:=Tryz.sizeOf259
 v53:=Tryz.zeroValue259
 t119:=Tryz.underlying315
 a119:=Tryz.isAgg315
 z119:=Tryz.sizeOf315
 t138:=Tryz.underlying317
 a138:=Tryz.isAgg317
 z138:=Tryz.sizeOf317
 v138:=Tryz.zeroValue317
 t139:=Tryz.underlying318
 a139:=Tryz.isAgg318
 z139:=Tryz.sizeOf318
 v139:=Tryz.zeroValue318
 g3:=by kernel_rfl
 g4:=by kernel_rfl }
open Go.RowKit Go.Lib in
theorem Tryz.utf8_ValidString (s:ByteArray)(w:Su)(hs:s.size≤9223372036854775807)(hT:T1 0 1 w) :
 Sv SR 205 #[.string s] w fun e w'=>e=.returned (.bool (Lib.validD s.data.toList))∧Below w.heap.size w w':=Any.utf8_ValidString Tryz.lays196 s w hs hT
end Go.Proofs
namespace Go.Proofs.YtnlnmbcaongehaaGreatDoor
open Go.RowKit
def Env (w:Su):Prop:=T1 0 1 w∧∃ m,w.cell? ⟨3,0,none⟩=some (.int .i64 m)
theorem Env.below {w w':Su} {B:Nat} (h:Env w)(hb:Below B w w')(hB:w.heap.size≤B):Env w':=by
 obtain⟨h1,m,h2⟩:=h
 have hb':=hb.mono hB
 exact⟨Utf8Tabs_below h1 hb',m,(hb'.cell (p:=⟨3,0,none⟩) (Su.block_lt_of_cell? w _ h2)).trans h2⟩
def eO (s:ByteArray):Bool:=Lib.validD s.data.toList&&(runes s).all (fun r=>decide (0≤idx r))
def lenB (s:ByteArray):Int:=if eO s then ((runes s).length:Int) else -1
theorem sh (s:ByteArray):∀ b pos,(iy s b pos).length=Lib.runeCountFrom s b pos
 | 0,_=>rfl
 | b+1,pos=>by
   simp only [iy,Lib.runeCountFrom]
   split
   · rw [List.length_cons,sh s b];omega
   · rfl
theorem decode_le (s:ByteArray)(pos:Nat):(TO s pos).1≤1114111:=by
 have hb:∀ k,(s.get! (pos+k)).toNat<256:=fun k=>(s.get! (pos+k)).toNat_lt
 have h0:=hb 0;have h1:=hb 1;have h2:=hb 2;have h3:=hb 3
 simp only [TO]
 repeat' split
 all_goals simp_all [Utf8.runeError,Utf8.valid]
 all_goals omega
theorem Ip (s:ByteArray)(w:Su)(hs:s.size≤4000000)(hE:Env w)(hv:Lib.validD s.data.toList=false) :
 Sv SR 149 #[.string s] w fun e w'=>e=.returned (.bool (eO s))∧Below w.heap.size w w':=by
 have hn:eO s=false:=by simp [eO,hv]
 have HN:=h_ hn
 have hc:=Tryz.utf8_ValidString s w (by omega) hE.1
 rw [hv] at hc
 have HC:=h_ hc
 clear hn hv hc
 go_enter TK,TD
 go_wp2_with fail
 refine HC.out.mono ?_
 rintro e w1 ⟨rfl,hb⟩
 go_wp2_with fail
 go_ret
 rw [HN.out]
 exact⟨rfl,hb⟩
def nu (w:Su)(s:ByteArray)(g pos:Nat)(wr:Su):Prop:=wr.heap[g]? =some (.stringIter s pos)∧Below g w wr
theorem nu.pos {w wr:Su} {s:ByteArray} {g pos:Nat} (h:nu w s g pos wr):wr.iterPos g=pos:=by simp [Su.iterPos,h.1]
theorem nu.start (w:Su)(s:ByteArray):nu w s w.heap.size 0 (w.alloc (.stringIter s 0)) :=
 ⟨Su.iter_heap w s 0,(TS _ _).alloc (TP _) _⟩
theorem nu.lt {w wr:Su} {s:ByteArray} {g pos:Nat} (h:nu w s g pos wr):g<wr.heap.size:=(Array.getElem?_eq_some_iff.1 h.1).1
theorem nu.step {w wr w2:Su} {s:ByteArray} {g pos:Nat} (h:nu w s g pos wr)(pos':Nat)(hb:Below (wr.iterAt g s pos').heap.size (wr.iterAt g s pos') w2):nu w s g pos' w2:=by
 have hl:=h.lt
 refine⟨?_,(Lib.below_iterAt h.2 (TP _) s pos').trans (hb.mono (by rw [T0];omega))⟩
 rw [hb.block g (by rw [T0];exact hl)]
 exact Lib.iterAt_heap wr g s pos pos' h.1
theorem MX (s:ByteArray)(b pos:Nat)(h:¬ pos<s.size)(p:Nat→Bool):(iy s b pos).all p=true:=by rw [pL s b pos h];rfl
theorem E4 (s:ByteArray)(w:Su)(hs:s.size≤4000000)(hE:Env w)(hv:Lib.validD s.data.toList=true) :
 Sv SR 149 #[.string s] w fun e w'=>e=.returned (.bool (eO s))∧Below w.heap.size w w':=by
 have hG:eO s=(iy s s.size 0).all (fun r=>decide (0≤idx r)):=by simp [eO,hv,runes]
 generalize hGg:eO s=G at *
 have H0:=h_ hG.symm
 have hc:=Tryz.utf8_ValidString s w (by omega) hE.1
 rw [hv] at hc
 have HC:=h_ hc
 clear hG hGg hv hc
 go_enter TK,TD
 go_wp2_with fail
 refine HC.out.mono ?_
 rintro e w1 ⟨rfl,hb1⟩
 go_wp2_with fail
 go_loopw [4] (fun _ wr=>∃ (pos b:Nat),nu w1 s w1.heap.size pos wr∧(iy s b pos).all (fun r=>decide (0≤idx r))=G∧s.size≤pos+b) (fun _ wr=>s.size-wr.iterPos w1.heap.size)
 case atStart=>exact⟨0,s.size,nu.start _ _,H0.out,by omega⟩
 case round =>
  obtain⟨pos,b,hI,hp,hb⟩:=hrel
  have hpos:=h_ hI.pos
  by_cases hlt:pos<s.size
  · obtain⟨c,rfl,hn⟩:=oC s b pos hlt hb
    have hwd:=rW s pos hlt
    have hle:=decode_le s pos
    have hnx:∀ ty,(TQ (.pointer (some ⟨w1.heap.size,0,none⟩)) true ty).run SR wr=_:=fun ty=>Lib.run_next_any_at wr w1.heap.size s pos ty hI.1 hlt
    rw [hn,List.all_cons] at hp
    generalize (TO s pos).1=x at *
    generalize (TO s pos).2=d at *
    have HS:=h_ (fun w2=>hI.step (w2:=w2) (pos+d))
    have HP:=h_ hp
    clear hp hn H0 hI
    by_cases hx:0≤idx x
    · go_wp2_with (go_at_call 206;refine(sJ _ _ (by omega) (by omega)).mono ?_;rintro e w2 ⟨rfl,hb2⟩)
      have hI2:=HS.out _ hb2
      have hq:=HP.out
      simp only [hx,decide_true,Bool.true_and] at hq
      go_roundw
      case rel=>exact⟨pos+d,c,hI2,hq,by omega⟩
      case measure=>rw [hI2.pos,hpos.out];omega
    · have hx':idx x<0:=by omega
      go_wp2_with (go_at_call 206;refine(sJ _ _ (by omega) (by omega)).mono ?_;rintro e w2 ⟨rfl,hb2⟩)
      go_ret
      have hI2:=HS.out _ hb2
      have hq:=HP.out
      rw [show decide (0≤idx (x:Int))=false by simp;omega,TM] at hq
      exact⟨by rw [←hq];rfl,hb1.trans (hI2.2.mono hb1.size)⟩
  · have hnx:∀ ty,(TQ (.pointer (some ⟨w1.heap.size,0,none⟩)) true ty).run SR wr=_:=fun ty=>Lib.run_next_end_at wr w1.heap.size s pos ty hI.1 hlt
    rw [MX s b pos hlt] at hp
    have HP:=h_ hp
    clear hp H0
    go_wp2_with fail
    go_ret
    exact⟨by rw [←HP.out];rfl,hb1.trans (hI.2.mono hb1.size)⟩
theorem lH (s:ByteArray)(w:Su)(hs:s.size≤4000000)(hE:Env w) :
 Sv SR 149 #[.string s] w fun e w'=>e=.returned (.bool (eO s))∧Below w.heap.size w w':=by
 cases hv:Lib.validD s.data.toList
 · exact Ip s w hs hE hv
 · exact E4 s w hs hE hv
theorem FV (s:ByteArray)(w:Su)(hs:s.size≤4000000)(hE:Env w) :
 Sv SR 264 #[.string s] w fun e w'=>e=.returned (.int .i64 (lenB s))∧Below w.heap.size w w':=by
 have hL:lenB s=if eO s then (Lib.runeCount s:Int) else -1:=by
  unfold lenB runes Lib.runeCount
  rw [sh]
 have hc:=lH s w hs hE
 cases hv:eO s
 all_goals
  rw [hv] at hL hc
  have HL:=h_ hL;have HC:=h_ hc
  clear hL hc hv
  go_enter Tryz.func264,Tryz.ntmps264
  go_wp2_with fail
  refine HC.out.mono ?_
  rintro e w1 ⟨rfl,hb⟩
  go_wp2_with fail
 · go_ret
   rw [HL.out]
   exact⟨rfl,hb⟩
 · refine(Tryz.utf8_RuneCountInString s w1 (by omega)).mono ?_
   rintro e w2 ⟨rfl,pos,rfl⟩
   go_wp2_with fail
   go_ret
   rw [HL.out]
   exact⟨rfl,hb.trans (((TS _ _).alloc (TP _) _).mono hb.size)⟩
end Go.Proofs.YtnlnmbcaongehaaGreatDoor
namespace Go.Proofs.YtnlnmbcaongehaaGreatDoor
open Go.RowKit
def ke (r:Int):Int:=if r=1 then 5005 else if r=2 then 5000 else if r=3 then 4800 else if r=4 then 4004 else if r=5 then 4000 else if r=6 then 2400 else if r=7 then 2002 else 0
def iT (r:Int):Bool:=decide (r=4)||decide (r=7)
def fw:Array Sw:=#[.string ⟨#[]⟩,.int .i64 0,.int .i64 0,.bool false,.string ⟨#[50,51,46,57,55,54]⟩,.int .i64 5005,.int .i64 24,.bool false,.string ⟨#[50,52]⟩,.int .i64 5000,.int .i64 24,.bool false,.string ⟨#[50,53]⟩,.int .i64 4800,.int .i64 25,.bool false,.string ⟨#[50,57,46,57,55]⟩,.int .i64 4004,.int .i64 30,.bool true,.string ⟨#[51,48]⟩,.int .i64 4000,.int .i64 30,.bool false,.string ⟨#[53,48]⟩,.int .i64 2400,.int .i64 50,.bool false,.string ⟨#[53,57,46,57,52]⟩,.int .i64 2002,.int .i64 60,.bool true]
theorem sj:fw.all (·.oneCell')=true:=by decide +kernel
theorem Tryz.size189:(SR.info? 340).map (·.size)=some fw.size:=by kernel_rfl
theorem rI (w:Su)(o:Obj)(i:Nat)(v:Sw)(h:fw[i]? =some v):((w.alloc o).alloc (.cells fw 340)).cell? ⟨w.heap.size+1,i,none⟩=some v:=by
 have:=cell_of_row ((w.alloc o).alloc (.cells fw 340)) (w.heap.size+1) i fw 340 (0,0) (by
  have:=Sy (w.alloc o) (.cells fw 340)
  rwa [T5] at this)
 rw [this,h]
theorem u_ (w:Su)(o:Obj)(c c':Array Sw)(t:TypeId):((w.alloc o).alloc (.cells c t)).setRow (w.heap.size+1) c'=(w.alloc o).alloc (.cells c' t):=by
 have:=Su.setRow_alloc_new (w.alloc o) c c' t
 rwa [T5] at this
theorem rL (w:Su)(o o':Obj):((w.alloc o).alloc o').heap[w.heap.size+1]? =some o':=by
 have:=Sy (w.alloc o) o'
 rwa [T5] at this
def G_ (r:Int)(w:Su)(e:Ending)(w':Su):Prop:=∃ a b,e=.returned (.agg #[.string a,.int .i64 (ke r),.int .i64 b,.bool (iT r)])∧Below w.heap.size w w'
theorem Oa (r:Int)(w:Su)(h0:8≤r)(h1:r≤255) :
 Sv SR 260 #[.int .u8 r] w (G_ r w):=by
 have ht:ke r=0:=by unfold ke;repeat rw [if_neg (by omega)]
 have hd:iT r=false:=by simp [iT];omega
 have HT:=h_ ht;have HD:=h_ hd
 clear ht hd
 go_enter TI,TA
 go_wp2_with (with_reducible refine SB rfl 340 (.tmp 3) (.tmp 12) rfl (w.heap.size+1) fw ?hx ?hy 340 ?old ?hg Tryz.size189 ?ho sj ?_;rotate_right;rw [u_])
 case hx=>rfl
 case hy=>rfl
 case hg=>exact rL _ _ _
 case ho=>rfl
 exact SA (v:=.agg #[.string ⟨#[]⟩,.int .i64 0,.int .i64 0,.bool false]) (by simp [results,Tx,go_sem]) rfl
  ⟨⟨#[]⟩,0,by rw [HT.out,HD.out],((TS _ _).alloc (TP _) _).alloc (by simp) _⟩
theorem Sl (i:Nat)(w:Su)(h1:i<8)(a:ByteArray)(b:Int)
 (c0:fw[i*4]? =some (.string a)) (c1:fw[i*4+1]? =some (.int .i64 (ke i))) (c2:fw[i*4+2]? =some (.int .i64 b)) (c3:fw[i*4+3]? =some (.bool (iT i))) :
 Sv SR 260 #[.int .u8 i] w (G_ i w):=by
 have t0:=fun o=>rI w o _ _ c0
 have t1:=fun o=>rI w o _ _ c1
 have t2:=fun o=>rI w o _ _ c2
 have t3:=fun o=>rI w o _ _ c3
 clear c0 c1 c2 c3
 have h1':(i:Int)<8:=by omega
 go_enter TI,TA
 go_wp2_with (with_reducible refine SB rfl 340 (.tmp 3) (.tmp 12) rfl (w.heap.size+1) fw ?hx ?hy 340 ?old ?hg Tryz.size189 ?ho sj ?_;rotate_right;rw [u_])
 case hx=>rfl
 case hy=>rfl
 case hg=>exact rL _ _ _
 case ho=>rfl
 exact SA (v:=.agg #[.string a,.int .i64 (ke i),.int .i64 b,.bool (iT i)]) (by simp [results,Tx,go_sem]) rfl
  ⟨a,b,rfl,((TS _ _).alloc (TP _) _).alloc (by simp) _⟩
theorem CP (r:Int)(w:Su)(h0:0≤r)(h1:r≤255):Sv SR 260 #[.int .u8 r] w (G_ r w):=by
 by_cases h8:8≤r
 · exact Oa r w h8 h1
 · have h:∀ i:Fin 8,∃ a b,fw[i.val*4]? =some (.string a)∧fw[i.val*4+1]? =some (.int .i64 (ke i.val))∧fw[i.val*4+2]? =some (.int .i64 b)∧fw[i.val*4+3]? =some (.bool (iT i.val)):=by
    intro i
    match i with
    | 0=>exact⟨_,_,rfl,rfl,rfl,rfl⟩
    | 1=>exact⟨_,_,rfl,rfl,rfl,rfl⟩
    | 2=>exact⟨_,_,rfl,rfl,rfl,rfl⟩
    | 3=>exact⟨_,_,rfl,rfl,rfl,rfl⟩
    | 4=>exact⟨_,_,rfl,rfl,rfl,rfl⟩
    | 5=>exact⟨_,_,rfl,rfl,rfl,rfl⟩
    | 6=>exact⟨_,_,rfl,rfl,rfl,rfl⟩
    | 7=>exact⟨_,_,rfl,rfl,rfl,rfl⟩
   obtain⟨a,b,c0,c1,c2,c3⟩:=h ⟨r.toNat,by omega⟩
   have:=Sl r.toNat w (by omega) a b c0 c1 c2 c3
   rwa [Int.toNat_of_nonneg h0] at this
theorem El (a b c d:Sw)(w:Su):(TR 321 (.agg #[a,b,c,d]) 1).run SR w=.ok b w:=by kernel_rfl
theorem Ek (a b c d:Sw)(w:Su):(TR 321 (.agg #[a,b,c,d]) 3).run SR w=.ok d w:=by kernel_rfl
attribute [local go_sem] El Ek
def mQ (r:Int):Bool:=decide (0<ke r)
theorem j_ (r:Int)(w:Su)(h0:0≤r)(h1:r≤255) :
 Sv SR 207 #[.int .u8 r] w fun e w'=>e=.returned (.bool (mQ r))∧Below w.heap.size w w':=by
 unfold mQ
 go_enter Tryz.func207,Tryz.ntmps207
 go_wp2_with fail
 refine(CP r _ h0 h1).mono ?_
 rintro e w1 ⟨a,b,rfl,hb⟩
 go_wp2_with fail
 go_ret
 exact⟨rfl,hb⟩
theorem tS (r:Int)(w:Su)(h0:0≤r)(h1:r≤255) :
 Sv SR 208 #[.int .u8 r] w fun e w'=>e=.returned (.bool (iT r))∧Below w.heap.size w w':=by
 go_enter Tryz.func208,Tryz.ntmps208
 go_wp2_with fail
 refine(CP r _ h0 h1).mono ?_
 rintro e w1 ⟨a,b,rfl,hb⟩
 go_wp2_with fail
 go_ret
 exact⟨rfl,hb⟩
def wE (r:Int)(drop:Bool):Int:=if mQ r&&(!drop||iT r) then 0 else 13
theorem DR (r:Int)(drop:Bool)(w:Su)(h0:0≤r)(h1:r≤255) :
 Sv SR 151 #[.int .u8 r,.bool drop] w fun e w'=>e=.returned (.int .i64 (wE r drop))∧Below w.heap.size w w':=by
 have hE:wE r drop=if mQ r&&(!drop||iT r) then 0 else 13:=rfl
 cases hv:mQ r
 · rw [hv] at hE
   have HE:=h_ hE
   clear hE
   go_enter Tp,Tl
   go_wp2_with (go_at_call 207;refine(j_ _ _ h0 h1).mono ?_;rintro e w1 ⟨rfl,hb⟩)
   go_ret
   rw [HE.out]
   exact⟨rfl,hb⟩
 · cases drop
   · rw [hv] at hE
     have HE:=h_ hE
     clear hE
     go_enter Tp,Tl
     go_wp2_with (go_at_call 207;refine(j_ _ _ h0 h1).mono ?_;rintro e w1 ⟨rfl,hb⟩)
     go_ret
     rw [HE.out]
     exact⟨rfl,hb⟩
   · cases hd:iT r
     all_goals
      rw [hv,hd] at hE
      have HE:=h_ hE
      clear hE
      go_enter Tp,Tl
      go_wp2_with (first
       | (go_at_call 207;refine(j_ _ _ h0 h1).mono ?_;rintro e w1 ⟨rfl,hb⟩)
       | (go_at_call 208;refine(tS _ _ h0 h1).mono ?_;rintro e w2 ⟨rfl,hb2⟩))
      go_ret
      rw [HE.out]
      exact⟨rfl,hb.trans (hb2.mono hb.size)⟩
end Go.Proofs.YtnlnmbcaongehaaGreatDoor
namespace Go.Proofs.YtnlnmbcaongehaaGreatDoor
open Go.RowKit
theorem az {k:IntKind} {a b:Int} (h:a=b):Ending.returned (.int k a)=.returned (.int k b):=by rw [h]
theorem E5 {c:Prop} [Decidable c] {v a b:Int} (h:c)(h2:v=a):v=if c then a else b:=by rw [if_pos h,h2]
theorem val_neg {c:Prop} [Decidable c] {v a b:Int} (h:¬ c)(h2:v=b):v=if c then a else b:=by rw [if_neg h,h2]
def lN (t l:ByteArray)(r:Int)(d:Bool)(last:Int):Int :=
 if (!eO t)=true then 10 else if 400<t.size then 9 else if (!l.toList.isEmpty)=true∧(!jG l)=true then 5 else if (wE r d != 0)=true then wE r d else if last<0∨1099511627776<last then 2 else 0
theorem Bj (l:ByteArray):l.toList.length=l.size:=by
 rw [Lib.toList_data]
 simp
theorem pt (l:ByteArray):l.size=0↔l.toList=[]:=by
 have:=Bj l
 constructor
 · intro h
   exact List.eq_nil_of_length_eq_zero (by omega)
 · intro h
   rw [h] at this
   simpa using this.symm
theorem ag (w:Su)(cs:Array Sw)(t:TypeId)(j:Nat)(v:Sw)(h:cs[j]? =some v)(w':Su)(hb:Below (w.heap.size+1) (w.alloc (.cells cs t)) w'):w'.cell? ⟨w.heap.size,j,none⟩=some v:=by
 rw [hb.cell (p:=⟨w.heap.size,j,none⟩) (by simp)]
 rw [cell_of_row _ _ j cs t (0,0) (Sy w _),h]
theorem aU {w w':Su} {o:Obj} (hb:Below (w.heap.size+1) (w.alloc o) w'):Below w.heap.size w w' :=
 ((TS _ _).alloc (TP _) _).trans (hb.mono (by omega))
theorem zm (t l:ByteArray)(r:Int)(d:Bool)(last:Int)(a5 a6 a7:Option Addr)(n5 n6 n7 c5 c6 c7:Nat)(w:Su)(hE:Env w)(ht:t.size≤4000000)(hl:l.size≤4000000)(h0:0≤r)(h1:r≤255) :
 Sv SR 85 #[.agg #[.string t,.string l,.int .u8 r,.bool d,.int .i64 last,.slice a5 n5 c5,.slice a6 n6 c6,.slice a7 n7 c7]] w fun e w'=>e=.returned (.int .i64 (lN t l r d last))∧Below w.heap.size w w':=by
 generalize hG:lN t l r d last=G
 unfold lN at hG
 have HG:=h_ hG
 clear hG
 generalize hcs:#[Sw.string t,.string l,.int .u8 r,.bool d,.int .i64 last,.slice a5 n5 c5,.slice a6 n6 c6,.slice a7 n7 c7]=cs
 have f0:=ag w cs 27 0 (.string t) (by rw [←hcs];rfl)
 have f1:=ag w cs 27 1 (.string l) (by rw [←hcs];rfl)
 have f2:=ag w cs 27 2 (.int .u8 r) (by rw [←hcs];rfl)
 have f3:=ag w cs 27 3 (.bool d) (by rw [←hcs];rfl)
 have f4:=ag w cs 27 4 (.int .i64 last) (by rw [←hcs];rfl)
 have HE:=h_ (fun(w1:Su) (h:Below (w.heap.size+1) (w.alloc (.cells cs 27)) w1)=>hE.below (aU h) (TP _))
 have HB:=h_ (fun(w1:Su) (h:Below (w.heap.size+1) (w.alloc (.cells cs 27)) w1)=>aU h)
 have hb0:Below (w.heap.size+1) (w.alloc (.cells cs 27)) (w.alloc (.cells cs 27)):=TS _ _
 have hsz:(w.alloc (.cells cs 27)).heap.size=w.heap.size+1:=T5 _ _
 generalize hW0:w.alloc (.cells cs 27)=W0 at *
 have HW0:=h_ hW0
 have bu:=h_ hsz
 clear hW0 hsz hE
 go_enter Tryz.func85,Tryz.ntmps85
 subst hcs
 go_wp2_with fail
 rw [HW0.out]
 refine(lH t _ ht (HE.out _ hb0)).mono ?_
 rintro e w1 ⟨rfl,hb1⟩
 rw [bu.out] at hb1
 clear HW0
 go_wp2_with (first
  | (go_at_call 150;refine(nz _ _ (by assumption)).mono ?_;rintro e w2 ⟨rfl,rfl⟩)
  | (go_at_call 151;refine(DR _ _ _ (by assumption) (by assumption)).mono ?_;rintro e w3 ⟨rfl,hb3⟩;replace hb3:Below (w.heap.size+1) W0 w3:=hb1.trans (hb3.mono (by have:=hb1.size;rw [bu.out] at this;exact this))))
 all_goals
  go_ret
  refine⟨az ?_,HB.out _ (by first|exact hb3|exact hb1)⟩
  rw [←HG.out]
  clear f0 f1 f2 f3 f4
  repeat (first
   | rfl
   | (refine E5 ?_ ?_;focus (first|assumption|omega|(simp only [*];decide)|(simp_all<;>fail)))
   | (refine val_neg ?_ ?_;focus (first|omega|(simp only [*];decide)|(simp_all<;>fail))))
structure Reg where
 name:ByteArray
 top:Int
 aK:Int
 left:Int
 width:Int
 align:Int
 bottom:Bool
def Reg.enc (x:Reg):List Sw:=[.string x.name,.int .i64 x.top,.int .i64 x.aK,.int .i64 x.left,.int .i64 x.width,.int .u8 x.align,.bool x.bottom]
def i64 (n:Int):Prop:=-9223372036854775808≤n∧n≤9223372036854775807
def Reg.fits (x:Reg):Prop:=x.name.size≤4000000∧i64 x.top∧i64 x.aK∧i64 x.left∧i64 x.width∧0≤x.align∧x.align≤255
def inB (n lo hi:Int):Bool:=decide (lo≤n∧n≤hi)
theorem wS {n lo hi:Int} (h:lo≤n)(h':n≤hi):inB n lo hi=true:=by simp [inB,h,h']
theorem CX {n lo hi:Int} (h:¬ (lo≤n∧n≤hi)):inB n lo hi=false:=by unfold inB;exact decide_eq_false h
theorem Ef (n lo hi:Int)(w:Su):Sv SR 209 #[.int .i64 n,.int .i64 lo,.int .i64 hi] w fun e w'=>e=.returned (.bool (inB n lo hi))∧w=w':=by
 by_cases h1:lo≤n
 · by_cases h2:n≤hi
   · have HI:=h_ (wS h1 h2)
     go_enter To,Tk
     go_wp2
     go_ret
     rw [HI.out];exact⟨rfl,rfl⟩
   · have HI:=h_ (CX (n:=n) (lo:=lo) (hi:=hi) (by omega))
     have h2':decide (n≤hi)=false:=by simpa using h2
     go_enter To,Tk
     go_wp2
     go_ret
     rw [HI.out];exact⟨rfl,rfl⟩
 · have HI:=h_ (CX (n:=n) (lo:=lo) (hi:=hi) (by omega))
   have h1':decide (lo≤n)=false:=by simpa using h1
   go_enter To,Tk
   go_wp2
   go_ret
   rw [HI.out];exact⟨rfl,rfl⟩
def Pu (x:Reg):Bool:=inB x.top 0 14&&inB x.aK 1 (15-x.top)&&inB x.left 0 31&&inB x.width 1 (32-x.left)
def mh (x:Reg):Int:=if (!jG x.name)=true then 5 else if (!Pu x)=true then 2 else if x.align<1∨3<x.align then 3 else 0
theorem oq (x:Reg)(w:Su)(hf:x.fits) :
 Sv SR 152 #[.agg x.enc.toArray] w fun e w'=>e=.returned (.int .i64 (mh x))∧Below w.heap.size w w':=by
 obtain⟨nm,top,aK,left,width,align,bottom⟩:=x
 obtain⟨hs,hT,hH,hL,hW,ha0,ha1⟩:=hf
 simp only [i64] at hs hT hH hL hW ha0 ha1
 simp only [Reg.enc]
 generalize hG:mh ⟨nm,top,aK,left,width,align,bottom⟩=G
 simp only [mh,Pu] at hG
 have HG:=h_ hG
 clear hG
 rcases(show(¬ (0≤top∧top≤14))∨((0≤top∧top≤14)∧¬ (0≤left∧left≤31))∨((0≤top∧top≤14)∧(0≤left∧left≤31)) by omega) with h|⟨⟨t0,t1⟩,h⟩|⟨⟨t0,t1⟩,⟨l0,l1⟩⟩
 case' inl =>
  have i1:=CX h
 case' inr.inl =>
  have i1:=wS t0 t1
  have i3:=CX h
 case' inr.inr =>
  have i1:=wS t0 t1
  have i3:=wS l0 l1
 all_goals
  go_enter Tryz.func152,Tryz.ntmps152
  go_wp2_with (first
   | (go_at_call 150;refine(nz _ _ (by assumption)).mono ?_;rintro e w2 ⟨rfl,rfl⟩)
   | (go_at_call 209;refine(Ef _ _ _ _).mono ?_;rintro e w2 ⟨rfl,rfl⟩))
  all_goals
   go_ret
   refine⟨az ?_,(TS _ _).alloc (TP _) _⟩
   rw [←HG.out]
   repeat (first
    | rfl
    | (refine E5 ?_ ?_;focus (first|assumption|omega|(simp only [*];decide)|(simp_all<;>fail)))
    | (refine val_neg ?_ ?_;focus (first|omega|(simp only [*];decide)|(simp_all<;>fail))))
def af {α:Type} (k:Nat)(enc:α→List Sw)(Ok:Su→α→Prop)(w:Su)(a:Option Addr)(xs:List α):Prop :=
 xs=[]∨∃ b off,a=some ⟨b,off,none⟩∧b<w.heap.size∧∀ i x,xs[i]? =some x→(∀ j v,(enc x)[j]? =some v→w.cell? ⟨b,off+i*k+j,none⟩=some v)∧Ok w x
def Flat {α:Type} (_:Su)(_:α):Prop:=True
theorem af.at_ {α:Type} {k:Nat} {enc:α→List Sw} {Ok:Su→α→Prop} {w:Su} {a:Option Addr} {xs:List α} (h:af k enc Ok w a xs) {i:Nat} (hi:i<xs.length) :
 ∃ b off x,a=some ⟨b,off,none⟩∧b<w.heap.size∧xs[i]? =some x∧(∀ j v,(enc x)[j]? =some v→w.cell? ⟨b,off+i*k+j,none⟩=some v)∧Ok w x:=by
 rcases h with rfl|⟨b,off,rfl,hb,hc⟩
 · simp at hi
 · have:=hc i xs[i] (SM hi)
   exact⟨b,off,xs[i],rfl,hb,SM hi,this.1,this.2⟩
def Keeps {α:Type} (Ok:Su→α→Prop):Prop:=∀ (w w':Su) (x:α),Below w.heap.size w w'→Ok w x→Ok w' x
theorem Flat.keeps {α:Type}:Keeps (Flat (α:=α)):=fun _ _ _ _ _=>trivial
theorem af.keeps {α:Type} {k:Nat} {enc:α→List Sw} {Ok:Su→α→Prop} (hk:Keeps Ok)(w w':Su)(a:Option Addr)(xs:List α)(hb:Below w.heap.size w w')(h:af k enc Ok w a xs):af k enc Ok w' a xs:=by
 rcases h with h|⟨b,off,rfl,hlt,hc⟩
 · exact .inl h
 · refine .inr ⟨b,off,rfl,Nat.lt_of_lt_of_le hlt hb.size,fun i x hx=>⟨fun j v hv=>?_,hk w w' x hb (hc i x hx).2⟩⟩
   rw [hb.cell (p:=⟨b,off+i*k+j,none⟩) hlt]
   exact(hc i x hx).1 j v hv
def Regs (w:Su)(a:Option Addr)(xs:List Reg):Prop:=af 7 Reg.enc Flat w a xs
theorem Regs.later {w w':Su} {a:Option Addr} {xs:List Reg} (h:Regs w a xs)(hb:Below w.heap.size w w'):Regs w' a xs:=af.keeps Flat.keeps w w' a xs hb h
def ov:Reg:=⟨⟨#[]⟩,11,4,0,32,2,true⟩
def aD:Reg:=⟨⟨#[]⟩,0,0,0,0,0,false⟩
theorem pw (w:Su):Sv SR 210 #[] w fun e w'=>e=.returned (.agg ov.enc.toArray)∧Below w.heap.size w w':=by
 simp only [ov,Reg.enc]
 go_enter Tryz.func210,Tryz.ntmps210
 go_wp2
 exact SA (v:=.agg #[.string ⟨#[]⟩,.int .i64 11,.int .i64 4,.int .i64 0,.int .i64 32,.int .u8 2,.bool true]) (by simp [results,Tryz.results210,go_sem]) rfl ⟨rfl,(TS _ _).alloc (TP _) _⟩
def F6 (x:Reg):Bool:=(x.name.toList==[])&&(x.top==11)&&(x.aK==4)&&(x.left==0)&&(x.width==32)&&(x.align==2)&&(x.bottom==true)
def pJ (x:Reg):Bool:=F6 x||mh x==0
theorem Fm (x:Reg)(w:Su):(binOp .eql 44 (.agg x.enc.toArray) (.agg ov.enc.toArray)).run SR w=.ok (.bool (F6 x)) w:=by
 simp [go_sem,Reg.enc,ov,F6]
 repeat' split
 all_goals simp_all
theorem qo (x:Reg)(w:Su)(hf:x.fits) :
 Sv SR 216 #[.agg x.enc.toArray] w fun e w'=>e=.returned (.bool (pJ x))∧Below w.heap.size w w':=by
 have hU:pJ x=(F6 x||mh x==0):=rfl
 have hq:=Fm x
 have hc:=fun w=>oq x w hf
 have hd:=fun w=>pw w
 obtain⟨nm,top,aK,left,width,align,bottom⟩:=x
 generalize mh ⟨nm,top,aK,left,width,align,bottom⟩=E at *
 generalize pJ ⟨nm,top,aK,left,width,align,bottom⟩=U at *
 generalize hD:F6 ⟨nm,top,aK,left,width,align,bottom⟩=D at *
 simp only [Reg.enc,ov] at hq hc hd ⊢
 have HC:=h_ hc;have HD:=h_ hd
 clear hc hd hf hD
 generalize hcs:#[Sw.string nm,.int .i64 top,.int .i64 aK,.int .i64 left,.int .i64 width,.int .u8 align,.bool bottom]=cs
 have f0:=ag w cs 44 0 (.string nm) (by rw [←hcs];rfl)
 have f1:=ag w cs 44 1 (.int .i64 top) (by rw [←hcs];rfl)
 have f2:=ag w cs 44 2 (.int .i64 aK) (by rw [←hcs];rfl)
 have f3:=ag w cs 44 3 (.int .i64 left) (by rw [←hcs];rfl)
 have f4:=ag w cs 44 4 (.int .i64 width) (by rw [←hcs];rfl)
 have f5:=ag w cs 44 5 (.int .u8 align) (by rw [←hcs];rfl)
 have f6:=ag w cs 44 6 (.bool bottom) (by rw [←hcs];rfl)
 have HB:=h_ (fun(w1:Su) (h:Below (w.heap.size+1) (w.alloc (.cells cs 44)) w1)=>aU h)
 have hb0:Below (w.heap.size+1) (w.alloc (.cells cs 44)) (w.alloc (.cells cs 44)).drew:=(TS _ _).drew
 have hsz:(w.alloc (.cells cs 44)).heap.size=w.heap.size+1:=T5 _ _
 generalize hW0:w.alloc (.cells cs 44)=W0 at *
 have HW0:=h_ hW0
 have bu:=h_ hsz
 clear hW0 hsz
 go_enter Tryz.func216,Tryz.ntmps216
 subst hcs
 go_wp2_with fail
 rw [HW0.out]
 cases D
 · cases hE:E==0
   all_goals
    rw [hE] at hU
    have HU:=h_ hU
    clear hU
    go_region_with (first
     | (go_at_call 210;refine(HD.out _).mono ?_;rintro e w1 ⟨rfl,hb1⟩;replace hb1:Below (w.heap.size+1) W0 w1:=hb0.trans (hb1.mono (by have:=hb0.size;rw [bu.out] at this;exact this)))
     | (go_at_call 152;refine(HC.out _).mono ?_;rintro e w2 ⟨rfl,hb2⟩;replace hb2:Below (w.heap.size+1) W0 w2:=hb1.trans (hb2.mono (by have:=hb1.size;rw [bu.out] at this;exact this))))
    all_goals
     go_wp2_with fail
     go_ret
     rw [HU.out]
     exact⟨rfl,HB.out _ hb2⟩
 · have HU:=h_ hU
   clear hU
   go_region_with (first
    | (go_at_call 210;refine(HD.out _).mono ?_;rintro e w1 ⟨rfl,hb1⟩;replace hb1:Below (w.heap.size+1) W0 w1:=hb0.trans (hb1.mono (by have:=hb0.size;rw [bu.out] at this;exact this))))
   all_goals
    go_wp2_with fail
    go_ret
    rw [HU.out]
    exact⟨rfl,HB.out _ hb1⟩
end Go.Proofs.YtnlnmbcaongehaaGreatDoor
