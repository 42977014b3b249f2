/- Rows of structs that a call owns: how they are read, stored into and kept. The contract of region.Find: the region with a name. The contract of region.CheckList: the first error of a list of regions. -/
import Derived.Lib.SmallJoins
import Derived.Test.YtnlnmbcaongehaaGreatDoorN00
set_option linter.unusedVariables false
set_option linter.unusedSimpArgs false
set_option maxRecDepth 100000
set_option maxHeartbeats 12800000
open Go.Lib renaming hid→h_
open Go renaming World→Su,Value→Sv,Calls→Sw,TypeId→Sx,heap_alloc_last→Sy,TypeInfo→Sz,bodyPost_ret→SA,info_parts→SB,Operand→SC
open List renaming getElem?_eq_some_iff→SD,drop_eq_getElem_cons→SE,drop_length→SF,drop_zero→SG,mem_of_getElem?→SH,flatMap_cons→SI,length_append→SJ,length_cons→SK,append_nil→SL
open Nat renaming le_refl→SM,add_zero→SN,le_trans→SO,eq_zero_or_pos→SQ,succ_mul→SR,mul_comm→SS,mul_one→SU
open Option.some renaming injEq→SV,inj→SW
open Array renaming getElem?_eq_some_iff→SX
open Go.RowKit renaming Below→SY
open Go.Proofs.Tryz renaming prog→SZ,ntmps262→S5,underlying120→S6,func262→S7,results153→S8,underlying257→S9,underlying226→S_,ntmps157→Ta,ntmps153→Tb,ntmps122→Tc,ntmps86→Td,func157→Te,func153→Tf,func122→Tg,func86→Th
open Go.World renaming size_alloc→Ti,ownsRow_nil→Tj
open Go.RowKit.Below renaming refl→Tk,heap_alloc→Tl
open Go.Builtin renaming append_→Tm,firstCells→Tn,lenOf→To
open Go.Lib renaming byteCells→Tp,IsBuilder→Tq,BuilderAt→Tr,cell_of_heap→Ts,strCells→Tt
namespace Go.Proofs.YtnlnmbcaongehaaGreatDoor
open Go.RowKit
theorem lP {α:Type} (enc:α→List Sv)(k:Nat)(hk:∀ x,(enc x).length=k):∀ (xs:List α)(i:Nat)(x:α)(j:Nat)(v:Sv),xs[i]? =some x→(enc x)[j]? =some v→(xs.flatMap enc)[i*k+j]? =some v
 | [],i,x,j,v,h,_=>by simp at h
 | y::xs,0,x,j,v,h,hv=>by
   obtain rfl:y=x:=by simpa using h
   have hj:j<(enc y).length:=(SD.1 hv).1
   rw [SI,show 0*k+j=j by omega,List.getElem?_append_left hj]
   exact hv
 | y::xs,i+1,x,j,v,h,hv=>by
   have hx:xs[i]? =some x:=by simpa using h
   have:=hk y
   rw [SI,SR,List.getElem?_append_right (by omega),show i*k+k+j-(enc y).length=i*k+j by omega]
   exact lP enc k hk xs i x j v hx hv
theorem iW {α:Type} (enc:α→List Sv)(k:Nat)(hk:∀ x,(enc x).length=k):∀ xs:List α,(xs.flatMap enc).length=xs.length*k
 | []=>by simp
 | x::xs=>by rw [SI,SJ,hk,iW enc k hk xs,SK,SR];omega
theorem nB {α:Type} {enc:α→List Sv} (h1:∀ x,∀ v∈enc x,v.oneCell'=true)(xs:List α):∀ u∈xs.flatMap enc,u.oneCell'=true:=by
 intro u hu
 obtain⟨x,_,hx⟩:=List.mem_flatMap.1 hu
 exact h1 x u hx
theorem iJ {α:Type} {k:Nat} {enc:α→List Sv} {Ok:Su→α→Prop} (hk:∀ x,(enc x).length=k) {w:Su} {b off:Nat} {xs:List α} (h:af k enc Ok w (some ⟨b,off,none⟩) xs)(j:Nat)(u:Sv)(hu:(xs.flatMap enc)[j]? =some u):w.cell? ⟨b,off+j,none⟩=some u:=by
 have hj:j<xs.length*k:=by rw [←iW enc k hk xs];exact(SD.1 hu).1
 have hk0:0<k:=by
  rcases SQ k with h0|h0
  · rw [h0] at hj;omega
  · exact h0
 have hi:j / k<xs.length:=Nat.div_lt_of_lt_mul (by rw [SS];exact hj)
 have hm:j % k<k:=Nat.mod_lt _ hk0
 have he:j / k*k+j % k=j:=by rw [SS];exact Nat.div_add_mod j k
 obtain⟨b',off',x,hab,_,hx,hc,_⟩:=h.at_ hi
 simp only [SV,Addr.mk.injEq,and_true] at hab
 obtain⟨rfl,rfl⟩:=hab
 obtain⟨u',hv⟩:∃ u',(enc x)[j % k]? =some u':=⟨_,List.getElem?_eq_getElem (by rw [hk];exact hm)⟩
 have:=lP enc k hk xs (j / k) x (j % k) _ hx hv
 rw [he,hu] at this
 have hc2:=hc (j % k) _ hv
 rw [show off+j / k*k+j % k=off+j by omega] at hc2
 rw [hc2,this]
theorem ay {α:Type} {k:Nat} {enc:α→List Sv} {Ok:Su→α→Prop} (hk:∀ x,(enc x).length=k) {w:Su} {base T:Nat} {v:Sv} {xs:List α} (h:w.ownsRow base T k v xs.length (xs.flatMap enc))(ho:∀ x∈xs,Ok w x):∃ a cap,v=.slice a xs.length cap∧af k enc Ok w a xs:=by
 have h':=h
 rcases h.2 with⟨rfl,h0⟩|⟨g,cap,cur,rfl,hb,hg,_⟩
 · exact⟨none,0,by rw [h0],.inl (List.eq_nil_of_length_eq_zero h0)⟩
 · refine⟨_,cap,rfl,.inr ⟨g,0,rfl,(SX.1 hg).1,fun i x hx=>⟨fun j v hv=>?_,ho x (SH hx)⟩⟩⟩
   have hi:i<xs.length:=(SD.1 hx).1
   have hj:j<k:=by rw [←hk x];exact(SD.1 hv).1
   have hfl:=lP enc k hk xs i x j v hx hv
   have hlen:=iW enc k hk xs
   have hb2:i*k+j<xs.length*k:=by rw [←hlen];exact(SD.1 hfl).1
   rw [show 0+i*k+j=i*k+j by omega,h'.cellAt (i*k+j) hb2]
   exact hfl
theorem kZ {w:Su} {base e size n:Nat} {v:Sv} {xs:List Sv} (h:w.ownsRow base e size v n xs)(hn:0<n):∃ g cap,v=.slice (some ⟨g,0,none⟩) n cap:=by
 rcases h.2 with⟨_,h0⟩|⟨g,cap,_,h1,_⟩
 · omega
 · exact⟨g,cap,h1⟩
theorem aH {B e k n:Nat} {v:Sv} {xs:List Sv} {w w':Su} (h:w.ownsRow B e k v n xs)(hb:SY w.heap.size w w'):w'.ownsRow B e k v n xs:=by
 refine⟨h.1,?_⟩
 rcases h.2 with h0|⟨g,cap,cur,h1,h2,h3,h4⟩
 · exact .inl h0
 · exact .inr ⟨g,cap,cur,h1,h2,by rw [hb.block g (SX.1 h3).1];exact h3,h4⟩
theorem bcell {W w1:Su} (hb:SY W.heap.size W w1):(∀ b o,b<W.heap.size→w1.cell? ⟨b,o,none⟩=W.cell? ⟨b,o,none⟩)∧(∀ b o,b<W.heap.size→w1.frozen? ⟨b,o,none⟩=W.frozen? ⟨b,o,none⟩) :=
 ⟨fun b o h=>hb.cell (p:=⟨b,o,none⟩) h,fun b o h=>hb.frozen (p:=⟨b,o,none⟩) h⟩
def d_ {α:Type} (a:Option Addr)(xs:List α)(b:Nat):Prop:=xs≠[]∧∃ ad,a=some ad∧ad.block=b
theorem bL {α:Type} {k:Nat} {enc:α→List Sv} {Ok:Su→α→Prop} {w:Su} {a:Option Addr} {xs:List α} (h:af k enc Ok w a xs) {b:Nat} (hu:d_ a xs b):b<w.heap.size:=by
 obtain⟨hne,ad,rfl,rfl⟩:=hu
 rcases h with h|⟨b,off,he,hlt,_⟩
 · exact absurd h hne
 · obtain rfl:=SW he
   exact hlt
theorem af.frame {α:Type} {k:Nat} {enc:α→List Sv} {Ok:Su→α→Prop} {w w':Su} {a:Option Addr} {xs:List α} (h:af k enc Ok w a xs)(hs:w.heap.size≤w'.heap.size)(hb:∀ b,d_ a xs b→w'.heap[b]? =w.heap[b]?)(hok:∀ x∈xs,Ok w x→Ok w' x):af k enc Ok w' a xs:=by
 by_cases hne:xs=[]
 · exact .inl hne
 · rcases h with h|⟨b,off,rfl,hlt,hc⟩
   · exact .inl h
   · refine .inr ⟨b,off,rfl,Nat.lt_of_lt_of_le hlt hs,fun i x hx=>⟨fun j v hv=>?_,hok x (SH hx) (hc i x hx).2⟩⟩
     rw [Su.cell?_of_block (w:=w) (hb b ⟨hne,_,rfl,rfl⟩)]
     exact(hc i x hx).1 j v hv
def pZ (nm:ByteArray):List Reg→Reg × Bool
 | []=>(aD,false)
 | x::l=>if x.name.toList==nm.toList then (x,true) else pZ nm l
def pY (xs:List Reg)(nm:ByteArray):Reg × Bool:=if nm.toList=[] then (ov,true) else pZ nm xs
theorem uf (nm:ByteArray)(xs:List Reg)(k:Nat)(x:Reg)(hx:xs[k]? =some x)(h:(x.name.toList==nm.toList)=true):pZ nm (xs.drop k)=(x,true):=by
 have hk:k<xs.length:=(SD.1 hx).1
 have e:xs[k]=x:=(SD.1 hx).2
 rw [SE hk,e,pZ,if_pos h]
theorem wX (nm:ByteArray)(xs:List Reg)(k:Nat)(x:Reg)(hx:xs[k]? =some x)(h:(x.name.toList==nm.toList)=false):pZ nm (xs.drop k)=pZ nm (xs.drop (k+1)):=by
 have hk:k<xs.length:=(SD.1 hx).1
 have e:xs[k]=x:=(SD.1 hx).2
 rw [SE hk,e,pZ,if_neg (by simp [h])]
theorem iL (w:Su)(cs:Array Sv)(t:Sx)(j:Nat)(w':Su)(hb:SY (w.heap.size+1) (w.alloc (.cells cs t)) w'):w'.frozen? ⟨w.heap.size,j,none⟩=false:=by
 rw [hb.frozen (p:=⟨w.heap.size,j,none⟩) (by simp)]
 exact frozen_of_row _ _ j cs t (Sy w _)
def xJ (r:Reg × Bool)(w:Su)(e:Ending)(w':Su):Prop:=e=.returned (.tuple #[.agg r.1.enc.toArray,.bool r.2])∧SY w.heap.size w w'
structure xx (b:Nat)(w:Su):Prop where
 c0:w.cell? ⟨b,0,none⟩=some (.string ⟨#[]⟩)
 c1:w.cell? ⟨b,1,none⟩=some (.int .i64 0)
 c2:w.cell? ⟨b,2,none⟩=some (.int .i64 0)
 c3:w.cell? ⟨b,3,none⟩=some (.int .i64 0)
 c4:w.cell? ⟨b,4,none⟩=some (.int .i64 0)
 c5:w.cell? ⟨b,5,none⟩=some (.int .u8 0)
 c6:w.cell? ⟨b,6,none⟩=some (.bool false)
 z0:w.frozen? ⟨b,0,none⟩=false
 z1:w.frozen? ⟨b,1,none⟩=false
 z2:w.frozen? ⟨b,2,none⟩=false
 z3:w.frozen? ⟨b,3,none⟩=false
 z4:w.frozen? ⟨b,4,none⟩=false
 z5:w.frozen? ⟨b,5,none⟩=false
 z6:w.frozen? ⟨b,6,none⟩=false
def zeroCells:Array Sv:=#[.string ⟨#[]⟩,.int .i64 0,.int .i64 0,.int .i64 0,.int .i64 0,.int .u8 0,.bool false]
theorem xx.of (w w':Su)(hb:SY (w.heap.size+1) (w.alloc (.cells zeroCells 44)) w'):xx w.heap.size w' :=
 ⟨ag w _ _ 0 _ rfl w' hb,ag w _ _ 1 _ rfl w' hb,ag w _ _ 2 _ rfl w' hb,ag w _ _ 3 _ rfl w' hb,ag w _ _ 4 _ rfl w' hb,ag w _ _ 5 _ rfl w' hb,ag w _ _ 6 _ rfl w' hb,
  iL w _ _ 0 w' hb,iL w _ _ 1 w' hb,iL w _ _ 2 w' hb,iL w _ _ 3 w' hb,iL w _ _ 4 w' hb,iL w _ _ 5 w' hb,iL w _ _ 6 w' hb⟩
theorem l9 {w w':Su} {b:Nat} (hb:SY w.heap.size w w')(h:w.heap.size≤b)(v0 v1 v2 v3 v4 v5 v6:Sv) :
 SY w.heap.size w (((((((w'.setCell ⟨b,0,none⟩ v0).setCell ⟨b,1,none⟩ v1).setCell ⟨b,2,none⟩ v2).setCell ⟨b,3,none⟩ v3).setCell ⟨b,4,none⟩ v4).setCell ⟨b,5,none⟩ v5).setCell ⟨b,6,none⟩ v6) :=
 ((((((hb.setCell h _).setCell h _).setCell h _).setCell h _).setCell h _).setCell h _).setCell h _
theorem qd {w w':Su} {b:Nat} (hb:SY w.heap.size w w')(h:w.heap.size≤b)(v0 v1 v2 v3 v4 v5 v6:Sv)(o:Obj) :
 SY w.heap.size w ((((((((w'.setCell ⟨b,0,none⟩ v0).setCell ⟨b,1,none⟩ v1).setCell ⟨b,2,none⟩ v2).setCell ⟨b,3,none⟩ v3).setCell ⟨b,4,none⟩ v4).setCell ⟨b,5,none⟩ v5).setCell ⟨b,6,none⟩ v6).alloc o) :=
 (l9 hb h v0 v1 v2 v3 v4 v5 v6).alloc (l9 hb h v0 v1 v2 v3 v4 v5 v6).size o
theorem Gy (a:Option Addr)(cap:Nat)(xs:List Reg)(nm:ByteArray)(w:Su)(hm:nm.toList=[]) :
 Sw SZ 153 #[.slice a xs.length cap,.string nm] w (xJ (pY xs nm) w):=by
 have hF:pY xs nm=(ov,true):=by rw [pY,if_pos hm]
 rw [hF]
 have HD:=h_ (fun w=>pw w)
 clear hF
 go_enter Tf,Tb
 go_wp2_with fail
 refine(HD.out _).mono ?_
 rintro e w1 ⟨rfl,hb1⟩
 rw [Ti] at hb1
 obtain⟨c0,c1,c2,c3,c4,c5,c6,z0,z1,z2,z3,z4,z5,z6⟩:=xx.of w w1 hb1
 have HB:=h_ (aU hb1)
 have hlt:w.heap.size<w1.heap.size:=by have:=hb1.size;rw [Ti] at this;omega
 clear hb1 HD
 simp only [ov,Reg.enc]
 go_wp2_with fail
 exact SA (v:=.tuple #[.agg #[.string ⟨#[]⟩,.int .i64 11,.int .i64 4,.int .i64 0,.int .i64 32,.int .u8 2,.bool true],.bool true]) (by simp [results,S8,go_sem, *]) rfl ⟨rfl,l9 HB.out (SM _) _ _ _ _ _ _ _⟩
theorem below_alloc1 {W0 wr:Su} {B:Nat} (h:SY B W0 wr)(hB:B≤W0.heap.size)(o:Obj):SY B W0 (wr.alloc o):=h.alloc (SO hB h.size) o
theorem Gx (a:Option Addr)(cap:Nat)(xs:List Reg)(nm:ByteArray)(w:Su)(hR:Regs w a xs)(hm:¬ nm.toList=[])(hl:xs.length≤4000000) :
 Sw SZ 153 #[.slice a xs.length cap,.string nm] w (xJ (pY xs nm) w):=by
 have hF:pY xs nm=pZ nm xs:=by rw [pY,if_neg hm]
 rw [hF]
 generalize hG:pZ nm xs=G
 have H0:=h_ (show pZ nm (xs.drop 0)=G by rw [SG];exact hG)
 have hsz:(w.alloc (.cells zeroCells 44)).heap.size=w.heap.size+1:=Ti _ _
 have hme:nm.toList.isEmpty=false:=by simpa using hm
 clear hF hG
 go_enter Tf,Tb
 go_wp2_with fail
 go_loopw [13] (fun i wr=>∃ k:Nat,k≤xs.length∧i=.int .i64 k∧pZ nm (xs.drop k)=G∧SY (w.heap.size+1) (w.alloc (.cells zeroCells 44)) wr) (fun i _=>xs.length-(intOf i).toNat)
 case atStart=>exact⟨0,by omega,rfl,H0.out,Tk _ _⟩
 case round =>
  obtain⟨k,hk,rfl,hp,hb⟩:=hrel
  have hbw:=aU hb
  obtain⟨c0,c1,c2,c3,c4,c5,c6,z0,z1,z2,z3,z4,z5,z6⟩:=xx.of w wr hb
  have OQ:w.heap.size<wr.heap.size:=by have:=hb.size;rw [hsz] at this;omega
  by_cases hlt:k<xs.length
  · obtain⟨b,off,x,rfl,hbl,hx,hc,_⟩:=(hR.later hbw).at_ hlt
    cases he:x.name.toList==nm.toList
    · have hP:=wX nm xs k x hx he
      rw [hP] at hp
      obtain⟨xn,xt,xh,xl,xw,xa,xb⟩:=x
      have d0:=hc 0 _ rfl;have d1:=hc 1 _ rfl;have d2:=hc 2 _ rfl;have d3:=hc 3 _ rfl;have d4:=hc 4 _ rfl;have d5:=hc 5 _ rfl;have d6:=hc 6 _ rfl
      simp only [SN] at he d0 d1 d2 d3 d4 d5 d6
      have HP:=h_ hp
      have HB:=h_ (fun o=>below_alloc1 hb (by rw [hsz];omega) o)
      clear hp hP hc hx H0 c0 c1 c2 c3 c4 c5 c6 z0 z1 z2 z3 z4 z5 z6 hsz hR hb hbw
      go_wp2_with fail
      go_roundw
      case rel=>exact⟨k+1,by omega,by go_num,HP.out,HB.out _⟩
      case measure=>simp [intOf];omega
    · have hP:=uf nm xs k x hx he
      rw [hP] at hp
      obtain⟨xn,xt,xh,xl,xw,xa,xb⟩:=x
      have d0:=hc 0 _ rfl;have d1:=hc 1 _ rfl;have d2:=hc 2 _ rfl;have d3:=hc 3 _ rfl;have d4:=hc 4 _ rfl;have d5:=hc 5 _ rfl;have d6:=hc 6 _ rfl
      simp only [SN] at he d0 d1 d2 d3 d4 d5 d6
      have HP:=h_ hp
      have HB:=h_ hbw
      clear hp hP hc hx H0 hsz hR hb hbw
      go_wp2_with fail
      exact SA (v:=.tuple #[.agg #[.string xn,.int .i64 xt,.int .i64 xh,.int .i64 xl,.int .i64 xw,.int .u8 xa,.bool xb],.bool true]) (by simp [results,S8,go_sem, *]) rfl
       ⟨by rw [←HP.out];rfl,qd HB.out (SM _) _ _ _ _ _ _ _ _⟩
  · obtain rfl:k=xs.length:=by omega
    rw [SF] at hp
    have HP:=h_ hp
    have HB:=h_ hbw
    clear hp H0 hsz hR hb hbw
    go_wp2_with fail
    exact SA (v:=.tuple #[.agg #[.string ⟨#[]⟩,.int .i64 0,.int .i64 0,.int .i64 0,.int .i64 0,.int .u8 0,.bool false],.bool false]) (by simp [results,S8,go_sem, *]) rfl
     ⟨by rw [←HP.out];rfl,l9 HB.out (SM _) _ _ _ _ _ _ _⟩
theorem Eh (a:Option Addr)(cap:Nat)(xs:List Reg)(nm:ByteArray)(w:Su)(hR:Regs w a xs)(hl:xs.length≤4000000) :
 Sw SZ 153 #[.slice a xs.length cap,.string nm] w (xJ (pY xs nm) w):=by
 by_cases hm:nm.toList=[]
 · exact Gy a cap xs nm w hm
 · exact Gx a cap xs nm w hR hm hl
def iC (prev:Option ByteArray)(x:Reg):Int :=
 if (mh x != 0)=true then mh x else match prev with
  | none=>0
  | some p=>if (x.name.toList==p.toList)=true then 7 else if Op.bytesLess x.name.toList p.toList=true then 8 else 0
def fP:Option ByteArray→List Reg→Int
 | _,[]=>0
 | prev,x::l=>if (iC prev x != 0)=true then iC prev x else fP (some x.name) l
def kh (xs:List Reg):Int:=if 16<xs.length then 9 else fP none xs
def lu (xs:List Reg):Nat→Option ByteArray
 | 0=>none
 | k+1=>(xs[k]?).map Reg.name
theorem wN (xs:List Reg)(k:Nat)(x:Reg)(hx:xs[k]? =some x)(prev:Option ByteArray)(h:iC prev x=0):fP prev (xs.drop k)=fP (lu xs (k+1)) (xs.drop (k+1)):=by
 have hk:k<xs.length:=(SD.1 hx).1
 have e:xs[k]=x:=(SD.1 hx).2
 rw [SE hk,e,fP,h]
 simp [lu,hx]
theorem wM (xs:List Reg)(k:Nat)(x:Reg)(hx:xs[k]? =some x)(prev:Option ByteArray)(h:(iC prev x != 0)=true):fP prev (xs.drop k)=iC prev x:=by
 have hk:k<xs.length:=(SD.1 hx).1
 have e:xs[k]=x:=(SD.1 hx).2
 rw [SE hk,e,fP,if_pos h]
theorem FT (a:Option Addr)(cap:Nat)(xs:List Reg)(w:Su)(hn:16<xs.length) :
 Sw SZ 86 #[.slice a xs.length cap] w fun e w'=>e=.returned (.int .i64 (kh xs))∧SY w.heap.size w w':=by
 rw [kh,if_pos hn]
 have hn':(16:Int)<(xs.length:Int):=by omega
 go_enter Th,Td
 go_wp2_with fail
 go_ret
 exact⟨rfl,Tk _ _⟩
theorem IY (a:Option Addr)(cap:Nat)(xs:List Reg)(w:Su)(hR:Regs w a xs)(hf:∀ x∈xs,x.fits)(hn:xs.length≤16) :
 Sw SZ 86 #[.slice a xs.length cap] w fun e w'=>e=.returned (.int .i64 (kh xs))∧SY w.heap.size w w':=by
 rw [kh,if_neg (by omega)]
 generalize hG:fP none xs=G
 have H0:=h_ (show fP (lu xs 0) (xs.drop 0)=G by rw [SG];exact hG)
 have hn2:decide ((16:Int)<(xs.length:Int))=false:=by simp;omega
 clear hG
 go_enter Th,Td
 go_wp2_with fail
 go_loopw [11] (fun i wr=>∃ k:Nat,k≤xs.length∧i=.int .i64 k∧fP (lu xs k) (xs.drop k)=G∧SY w.heap.size w wr) (fun i _=>xs.length-(intOf i).toNat)
 case atStart=>exact⟨0,by omega,rfl,H0.out,Tk _ _⟩
 case round =>
  obtain⟨k,hk,rfl,hp,hb⟩:=hrel
  by_cases hlt:k<xs.length
  · obtain⟨b,off,x,rfl,hbl,hx,hc,_⟩:=(hR.later hb).at_ hlt
    have hfx:=hf x (SH hx)
    have HC:=h_ (fun w=>oq x w hfx)
    have hB1:∀ (o:Obj) (w1:Su),SY (wr.heap.size+1) (wr.alloc o) w1→SY w.heap.size w w1:=fun o w1 h=>(hb.alloc hb.size o).trans (h.mono (by have:=hb.size;omega))
    have HB1:=h_ hB1
    have HN:=h_ (wN xs k x hx (lu xs k))
    have HS:=h_ (wM xs k x hx (lu xs k))
    have HP:=h_ hp
    have hRr:=hR.later hb
    obtain⟨xn,xt,xh,xl,xw,xa,xb⟩:=x
    have d0:=hc 0 _ rfl;have d1:=hc 1 _ rfl;have d2:=hc 2 _ rfl;have d3:=hc 3 _ rfl;have d4:=hc 4 _ rfl;have d5:=hc 5 _ rfl;have d6:=hc 6 _ rfl
    simp only [SN] at d0 d1 d2 d3 d4 d5 d6
    cases hE:mh ⟨xn,xt,xh,xl,xw,xa,xb⟩ != 0
    · have hE0:mh ⟨xn,xt,xh,xl,xw,xa,xb⟩=0:=by simpa using hE
      have HE0:=h_ hE0
      simp only [Reg.enc] at HC
      rw [hE0] at HC
      clear hE hE0 hp hB1 hc
      rcases SQ k with hk0|hk0
      · have hst:=h_ (show iC (lu xs k) ⟨xn,xt,xh,xl,xw,xa,xb⟩=0 by rw [hk0];simp [iC,lu,HE0.out])
        have hkd:decide (0<k)=false:=by simp;omega
        clear hRr hk0
        go_wp2_with (go_at_call 152;refine(HC.out _).mono ?_;rintro e w1 ⟨rfl,hb1⟩;simp only [Ti] at hb1)
        go_quiet (fail)
        go_wp2_with fail
        go_quiet (fail)
        go_wp2_with fail
        go_roundw
        case rel=>exact⟨k+1,by omega,by go_num,by rw [←HN.out hst.out];exact HP.out,below_drewN (HB1.out _ _ hb1) _⟩
        case measure=>simp [intOf];omega
      · obtain⟨b',off',y,hab,_,hy,hcy,_⟩:=hRr.at_ (show k-1<xs.length by omega)
        simp only [SV,Addr.mk.injEq,and_true] at hab
        obtain⟨rfl,rfl⟩:=hab
        obtain⟨yn,yt,yh,yl,yw,ya,yb⟩:=y
        have e0:=hcy 0 _ rfl
        simp only [SN] at e0
        have hpv:lu xs k=some yn:=by
         obtain⟨j,rfl⟩:∃ j,k=j+1:=⟨k-1,by omega⟩
         simp only [Nat.add_sub_cancel] at hy
         simp [lu,hy]
        have hst:iC (lu xs k) ⟨xn,xt,xh,xl,xw,xa,xb⟩=if (xn.toList==yn.toList)=true then 7 else if Op.bytesLess xn.toList yn.toList=true then 8 else 0:=by
         rw [hpv];simp [iC,HE0.out]
        have hcell:∀ w1,SY (wr.heap.size+1) (wr.alloc (.cells #[.string xn,.int .i64 xt,.int .i64 xh,.int .i64 xl,.int .i64 xw,.int .u8 xa,.bool xb] 44)) w1→w1.cell? ⟨wr.heap.size,0,none⟩=some (.string xn)∧w1.cell? ⟨b,off+(k-1)*7,none⟩=some (.string yn):=fun w1 h =>
         ⟨ag wr _ _ 0 _ rfl w1 h,by
          rw [h.cell (p:=⟨b,off+(k-1)*7,none⟩) (by simp;omega),Su.cell?_alloc_lt _ _ _ (by simpa using hbl)]
          exact e0⟩
        have mw:=h_ hcell
        have hkd:decide (0<k)=true:=by simp;omega
        have hk1:1≤k:=hk0
        have hkz:(1:Int)≤(k:Int):=by omega
        have hkl:(k:Int)-1<(xs.length:Int):=by omega
        have hwr:IntKind.i64.wrap ((k:Int)-1)=(k:Int)-1:=IntWalk.i64_in _ (by omega)
        have hkn:((k:Int)-1).toNat=k-1:=by omega
        clear hcell hpv hRr hcy hy e0 hk0
        rcases h1:xn.toList==yn.toList with _|_
        · rcases h2:Op.bytesLess xn.toList yn.toList with _|_
          · rw [h1,h2,if_neg (by decide),if_neg (by decide)] at hst
            have HST:=h_ hst
            clear hst
            go_wp2_with (go_at_call 152;refine(HC.out _).mono ?_;rintro e w1 ⟨rfl,hb1⟩;simp only [Ti] at hb1;have hq1:=(mw.out _ hb1).1;have hq2:=(mw.out _ hb1).2)
            go_quiet (fail)
            go_wp2_with fail
            go_quiet (fail)
            go_wp2_with fail
            go_roundw
            case rel=>exact⟨k+1,by omega,by go_num,by rw [←HN.out HST.out];exact HP.out,below_drewN (HB1.out _ _ hb1) _⟩
            case measure=>simp [intOf];omega
          · rw [h1,h2,if_neg (by decide),if_pos rfl] at hst
            have HST:=h_ hst
            clear hst
            go_wp2_with (go_at_call 152;refine(HC.out _).mono ?_;rintro e w1 ⟨rfl,hb1⟩;simp only [Ti] at hb1;have hq1:=(mw.out _ hb1).1;have hq2:=(mw.out _ hb1).2)
            go_quiet (fail)
            go_wp2_with fail
            go_quiet (fail)
            go_wp2_with fail
            go_ret
            exact⟨az (by rw [←HP.out,HS.out (by rw [HST.out];rfl),HST.out]),below_drewN (below_drewN (HB1.out _ _ hb1) _) _⟩
        · rw [h1,if_pos rfl] at hst
          have HST:=h_ hst
          clear hst
          go_wp2_with (go_at_call 152;refine(HC.out _).mono ?_;rintro e w1 ⟨rfl,hb1⟩;simp only [Ti] at hb1;have hq1:=(mw.out _ hb1).1;have hq2:=(mw.out _ hb1).2)
          go_quiet (fail)
          go_wp2_with fail
          go_ret
          exact⟨az (by rw [←HP.out,HS.out (by rw [HST.out];rfl),HST.out]),below_drewN (HB1.out _ _ hb1) _⟩
    · have hst:iC (lu xs k) ⟨xn,xt,xh,xl,xw,xa,xb⟩=mh ⟨xn,xt,xh,xl,xw,xa,xb⟩:=by unfold iC;exact if_pos hE
      have HST:=h_ hst
      simp only [Reg.enc] at HC
      generalize mh ⟨xn,xt,xh,xl,xw,xa,xb⟩=E at *
      clear hst hp hB1 hc hRr hfx hx
      go_wp2_with (go_at_call 152;refine(HC.out _).mono ?_;rintro e w1 ⟨rfl,hb1⟩;simp only [Ti] at hb1)
      go_ret
      exact⟨az (by rw [←HP.out,HS.out (by rw [HST.out];exact hE),HST.out]),HB1.out _ _ hb1⟩
  · obtain rfl:k=xs.length:=by omega
    rw [SF] at hp
    have HP:=h_ hp
    clear hp H0
    go_wp2_with fail
    go_ret
    exact⟨az (by rw [←HP.out];cases lu xs xs.length<;>rfl),hb⟩
theorem D3 (a:Option Addr)(cap:Nat)(xs:List Reg)(w:Su)(hR:Regs w a xs)(hf:∀ x∈xs,x.fits) :
 Sw SZ 86 #[.slice a xs.length cap] w fun e w'=>e=.returned (.int .i64 (kh xs))∧SY w.heap.size w w':=by
 by_cases hn:16<xs.length
 · exact FT a cap xs w hn
 · exact IY a cap xs w hR hf (by omega)
def Ints (w:Su)(a:Option Addr)(zs:List Int):Prop:=af 1 (fun z=>[Sv.int .i64 z]) Flat w a zs
theorem Ints.later {w w':Su} {a:Option Addr} {xs:List Int} (h:Ints w a xs)(hb:SY w.heap.size w w'):Ints w' a xs:=af.keeps Flat.keeps w w' a xs hb h
def gY (width:Int):List Int→Int
 | []=>0
 | n::l=>if n<0 then 2 else if width<n then 11 else gY width l
def iU (x:Reg)(zs:List Int):Int:=if (!pJ x)=true then 1 else if x.aK<zs.length then 9 else gY x.width zs
theorem qv (width:Int)(zs:List Int)(k:Nat)(z:Int)(hz:zs[k]? =some z):gY width (zs.drop k)=if z<0 then 2 else if width<z then 11 else gY width (zs.drop (k+1)):=by
 have hk:k<zs.length:=(SD.1 hz).1
 have e:zs[k]=z:=(SD.1 hz).2
 rw [SE hk,e,gY]
theorem Tryz.info280:(SZ.info? 280).map (fun i=>(i.zero,i.size,i.bytes))=some (some (.agg #[.int .i64 0,.int .i64 0,.int .i64 0]),3,24):=by kernel_rfl
theorem nj (w:Su)(cs:Array Sv)(t:Sx):∀ j u,cs.toList[j]? =some u→(w.alloc (.cells cs t)).cell? ((⟨w.heap.size,0,none⟩:Addr).add j)=some u:=by
 intro j u hu
 have hadd:(⟨w.heap.size,0,none⟩:Addr).add j=⟨w.heap.size,j,none⟩:=by unfold Addr.add;split<;>simp_all
 rw [hadd,cell_of_row _ _ j cs t (0,0) (Sy w _)]
 simpa using hu
theorem aV {P:Program} (w:Su)(cs:Array Sv) {ops:Array Oper} {rest:List Oper} {o:Oper} {a:Act} {Q:Exit→Act→Su→Prop} (hgd:o.guard=none)(s x:SC)(t:Sx)
 (ho:o.op=.call { callee:=.builtin .append,args:=#[s,x],argTypes:=#[t,t] })
 (base:Nat) (e:Sx) (i:Sz) (z:Sv) (size bytes:Nat) (ht:P.underlying t=some (.slice e)) (hi:P.info? e=some i) (hz:i.zero=some z)
 (hsize:i.size=size) (hby:i.bytes=bytes) (hzs:z.cells.size=size) (hsz:0<size)
 (v:Sv) (n:Nat) (xs:List Sv) (hs:a.eval s=v) (hown:w.ownsRow base e size v n xs) (g:Nat) (hx:a.eval x=.slice (some ⟨g,0,none⟩) 1 1) (hg:g=w.heap.size)
 (hcs:cs.size=size) (h1:∀ u∈cs.toList,u.oneCell'=true) (h63:n+1≤maxLen) (hbytes:(n+1)*bytes≤140737488355328) (hbase:base≤w.heap.size)
 (h:∀ v' w2,w2.ownsRow base e size v' (n+1) (xs++cs.toList)→(w.alloc (.cells cs e)).grownBy w2 v.ownBlock→wpList P ops Q rest (a.put o.dst v') w2):wpList P ops Q (o::rest) a (w.alloc (.cells cs e)):=by
 subst hg
 refine wpList_append_own _ hgd s x t ho base e i z size bytes ht hi hz hsize hby hzs hsz v n xs hs (hown.alloc _) ⟨w.heap.size,0,none⟩ 1 1 cs.toList hx (by simpa using hcs) (nj w cs e) h1 h63 hbytes (by simp;omega) ?_
 intro v' w2 h2 h3 _
 exact h v' w2 h2 h3
def tn (E:Int)(w:Su)(e:Ending)(w':Su):Prop:=∃ v,e=.returned (.tuple #[v,.int .i64 E])∧SY w.heap.size w w'
theorem kY {k:IntKind} {v:Sv} {a b:Int} (h:a=b):Ending.returned (.tuple #[v,.int k a])=.returned (.tuple #[v,.int k b]):=by rw [h]
def Cy (b:Nat)(W0:Su)(k:Nat)(v:Sv)(wr:Su):Prop:=(∃ xs,wr.ownsRow b 280 3 v k xs)∧SY b W0 wr
theorem Cy.step {b k:Nat} {W0 wr w2:Su} {v v':Sv} {o o':Obj} {xs:List Sv} (h:Cy b W0 k v wr)(hW:b≤W0.heap.size)(hown:w2.ownsRow b 280 3 v' (k+1) xs)
 (hg:((wr.alloc o).alloc o').grownBy w2 v.ownBlock):Cy b W0 (k+1) v' w2:=by
 obtain⟨⟨ys,ho⟩,hb⟩:=h
 have h1:b≤wr.heap.size:=SO hW hb.size
 exact⟨⟨xs,hown⟩,((hb.alloc h1 o).alloc (by simp;omega) o').grown hg (by simp;omega) (fun j hj=>(ho.lt j hj).1)⟩
theorem Bu (x:Reg)(a:Option Addr)(cap:Nat)(zs:List Int)(w:Su)(hf:x.fits)(hI:Ints w a zs)(hl:zs.length≤4000000)(hB:x.bottom=false) :
 Sw SZ 157 #[.agg x.enc.toArray,.slice a zs.length cap] w (tn (iU x zs) w):=by
 have hU:=fun w=>qo x w hf
 generalize hG:iU x zs=G
 unfold iU at hG
 obtain⟨nm,top,aK,left,width,align,bottom⟩:=x
 obtain⟨_,hT,hH,hL,hW,ha0,ha1⟩:=hf
 simp only [i64] at hT hH hL hW ha0 ha1
 simp only at hB
 subst hB
 generalize pJ ⟨nm,top,aK,left,width,align,false⟩=U at *
 simp only [Reg.enc] at hU hG ⊢
 have HU:=h_ hU
 have HG:=h_ hG
 clear hU hG
 rcases(show U=false∨(U=true∧aK<zs.length∧decide (aK<(zs.length:Int))=true)∨(U=true∧zs.length≤aK∧decide (aK<(zs.length:Int))=false) by cases U<;>simp<;>omega) with rfl|⟨rfl,hlh,hld⟩|⟨rfl,hlh,hld⟩
 all_goals
  generalize hcs:#[Sv.string nm,.int .i64 top,.int .i64 aK,.int .i64 left,.int .i64 width,.int .u8 align,.bool false]=cs
  have f0:=ag w cs 44 0 (.string nm) (by rw [←hcs];rfl)
  have f1:=ag w cs 44 1 (.int .i64 top) (by rw [←hcs];rfl)
  have f2:=ag w cs 44 2 (.int .i64 aK) (by rw [←hcs];rfl)
  have f3:=ag w cs 44 3 (.int .i64 left) (by rw [←hcs];rfl)
  have f4:=ag w cs 44 4 (.int .i64 width) (by rw [←hcs];rfl)
  have f5:=ag w cs 44 5 (.int .u8 align) (by rw [←hcs];rfl)
  have f6:=ag w cs 44 6 (.bool false) (by rw [←hcs];rfl)
  have HB:=h_ (fun(w1:Su) (h:SY (w.heap.size+1) (w.alloc (.cells cs 44)) w1)=>aU h)
  have hb0:SY (w.heap.size+1) (w.alloc (.cells cs 44)) (w.alloc (.cells cs 44)):=Tk _ _
  have hsz:(w.alloc (.cells cs 44)).heap.size=w.heap.size+1:=Ti _ _
  generalize hW0:w.alloc (.cells cs 44)=W0 at *
  have HW0:=h_ hW0
  have bu:=h_ hsz
  clear hW0 hsz
  go_enter Te,Ta
  subst hcs
  go_wp2_with fail
  rw [HW0.out]
  refine(HU.out _).mono ?_
  rintro e w1 ⟨rfl,hb1⟩
  rw [bu.out] at hb1
  clear HW0
  go_wp2_with fail
 · go_ret2
   exact⟨.slice none 0 0,kY (by rw [←HG.out,if_pos (by decide)]),HB.out _ hb1⟩
 · go_ret2
   exact⟨.slice none 0 0,kY (by rw [←HG.out,if_neg (by decide),if_pos hlh]),HB.out _ hb1⟩
 · obtain⟨i0,hi,hz0,hz1,hz2⟩:=SB Tryz.info280
   have HI:=h_ hi;have H0:=h_ hz0;have H1:=h_ hz1;have H2:=h_ hz2
   clear hi hz0 hz1 hz2
   have hp0:gY width (zs.drop 0)=G:=by
    rw [SG,←HG.out,if_neg (by decide),if_neg (by omega)]
   have Nj:=h_ hp0
   clear hp0 HG
   go_loopw [7,34] (fun v i wr=>∃ k:Nat,k≤zs.length∧i=.int .i64 k∧gY width (zs.drop k)=G∧Cy (w.heap.size+1) W0 k v wr) (fun _ i _=>zs.length-(intOf i).toNat)
   case atStart=>exact⟨0,by omega,rfl,Nj.out,⟨[],Tj _ _ _ _⟩,hb1⟩
   case round =>
    obtain⟨k,hk,rfl,hp,Jp⟩:=hrel
    have hbr:=Jp.2
    have OQ:w.heap.size<wr.heap.size:=by have:=hbr.size;rw [bu.out] at this;omega
    by_cases hlt:k<zs.length
    · obtain⟨b,off,z,rfl,hbl,hz,hc,_⟩:=(hI.later (HB.out _ hbr)).at_ hlt
      have d0:=hc 0 _ rfl
      simp only [SN,SU] at d0
      rw [qv width zs k z hz] at hp
      have HP:=h_ hp
      clear hp hc hz Nj hI
      rcases(show z<0∨(0≤z∧width<z)∨(0≤z∧z≤width) by omega) with h|⟨h,h'⟩|⟨h,h'⟩
      · go_wp2_with fail
        go_ret2
        exact⟨.slice none 0 0,kY (by rw [←HP.out,if_pos h]),HB.out _ hbr⟩
      · go_wp2_with fail
        go_ret2
        exact⟨.slice none 0 0,kY (by rw [←HP.out,if_neg (by omega),if_pos h']),HB.out _ hbr⟩
      · rw [if_neg (by omega),if_neg (by omega)] at HP
        have hal:(align=3∨align=2∨((align==3)=false∧(align==2)=false)):=by
         by_cases h3:align=3
         · exact .inl h3
         · by_cases h2:align=2
           · exact .inr (.inl h2)
           · exact .inr (.inr ⟨by simpa using h3,by simpa using h2⟩)
        rcases hal with rfl|rfl|⟨e3,e2⟩
        all_goals
         obtain⟨xs,hown⟩:=Jp.1
         go_wp2_with (at_builtin;refine aV _ _ rfl (.tmp 75) (.tmp 77) 226 rfl (w.heap.size+1) 280 i0 _ 3 24 S_ HI.out H0.out H1.out H2.out rfl (by decide) _ _ _ rfl (hown.alloc _) _ rfl (by simp) rfl ?h1 ?h63 ?hb ?hbase ?_)
         case h1=>exact⟨rfl,rfl,rfl⟩
         case h63=>unfold maxLen;omega
         case hb=>omega
         case hbase=>simp;omega
         intro v' w2 hown' hgrow
         have R:=Cy.step Jp (by rw [bu.out];omega) hown' hgrow
         clear hown' hgrow Jp hown
         go_wp2_with fail
         go_roundw
         case rel=>exact⟨k+1,by omega,by go_num,HP.out,R⟩
         case measure=>simp [intOf];omega
    · obtain rfl:k=zs.length:=by omega
      rw [SF] at hp
      have HP:=h_ hp
      clear hp Nj
      go_wp2_with fail
      go_ret2
      exact⟨_,kY (by rw [←HP.out];rfl),HB.out _ hbr⟩
theorem DS (x:Reg)(a:Option Addr)(cap:Nat)(zs:List Int)(w:Su)(hf:x.fits)(hI:Ints w a zs)(hl:zs.length≤4000000)(hB:x.bottom=true) :
 Sw SZ 157 #[.agg x.enc.toArray,.slice a zs.length cap] w (tn (iU x zs) w):=by
 have hU:=fun w=>qo x w hf
 generalize hG:iU x zs=G
 unfold iU at hG
 obtain⟨nm,top,aK,left,width,align,bottom⟩:=x
 obtain⟨_,hT,hH,hL,hW,ha0,ha1⟩:=hf
 simp only [i64] at hT hH hL hW ha0 ha1
 simp only at hB
 subst hB
 generalize pJ ⟨nm,top,aK,left,width,align,true⟩=U at *
 simp only [Reg.enc] at hU hG ⊢
 have HU:=h_ hU
 have HG:=h_ hG
 clear hU hG
 rcases(show U=false∨(U=true∧aK<zs.length∧decide (aK<(zs.length:Int))=true)∨(U=true∧zs.length≤aK∧decide (aK<(zs.length:Int))=false) by cases U<;>simp<;>omega) with rfl|⟨rfl,hlh,hld⟩|⟨rfl,hlh,hld⟩
 all_goals
  generalize hcs:#[Sv.string nm,.int .i64 top,.int .i64 aK,.int .i64 left,.int .i64 width,.int .u8 align,.bool true]=cs
  have f0:=ag w cs 44 0 (.string nm) (by rw [←hcs];rfl)
  have f1:=ag w cs 44 1 (.int .i64 top) (by rw [←hcs];rfl)
  have f2:=ag w cs 44 2 (.int .i64 aK) (by rw [←hcs];rfl)
  have f3:=ag w cs 44 3 (.int .i64 left) (by rw [←hcs];rfl)
  have f4:=ag w cs 44 4 (.int .i64 width) (by rw [←hcs];rfl)
  have f5:=ag w cs 44 5 (.int .u8 align) (by rw [←hcs];rfl)
  have f6:=ag w cs 44 6 (.bool true) (by rw [←hcs];rfl)
  have HB:=h_ (fun(w1:Su) (h:SY (w.heap.size+1) (w.alloc (.cells cs 44)) w1)=>aU h)
  have hb0:SY (w.heap.size+1) (w.alloc (.cells cs 44)) (w.alloc (.cells cs 44)):=Tk _ _
  have hsz:(w.alloc (.cells cs 44)).heap.size=w.heap.size+1:=Ti _ _
  generalize hW0:w.alloc (.cells cs 44)=W0 at *
  have HW0:=h_ hW0
  have bu:=h_ hsz
  clear hW0 hsz
  go_enter Te,Ta
  subst hcs
  go_wp2_with fail
  rw [HW0.out]
  refine(HU.out _).mono ?_
  rintro e w1 ⟨rfl,hb1⟩
  rw [bu.out] at hb1
  clear HW0
  go_wp2_with fail
 · go_ret2
   exact⟨.slice none 0 0,kY (by rw [←HG.out,if_pos (by decide)]),HB.out _ hb1⟩
 · go_ret2
   exact⟨.slice none 0 0,kY (by rw [←HG.out,if_neg (by decide),if_pos hlh]),HB.out _ hb1⟩
 · obtain⟨i0,hi,hz0,hz1,hz2⟩:=SB Tryz.info280
   have HI:=h_ hi;have H0:=h_ hz0;have H1:=h_ hz1;have H2:=h_ hz2
   clear hi hz0 hz1 hz2
   have hp0:gY width (zs.drop 0)=G:=by
    rw [SG,←HG.out,if_neg (by decide),if_neg (by omega)]
   have Nj:=h_ hp0
   clear hp0 HG
   go_loopw [7,34] (fun v i wr=>∃ k:Nat,k≤zs.length∧i=.int .i64 k∧gY width (zs.drop k)=G∧Cy (w.heap.size+1) W0 k v wr) (fun _ i _=>zs.length-(intOf i).toNat)
   case atStart=>exact⟨0,by omega,rfl,Nj.out,⟨[],Tj _ _ _ _⟩,hb1⟩
   case round =>
    obtain⟨k,hk,rfl,hp,Jp⟩:=hrel
    have hbr:=Jp.2
    have OQ:w.heap.size<wr.heap.size:=by have:=hbr.size;rw [bu.out] at this;omega
    by_cases hlt:k<zs.length
    · obtain⟨b,off,z,rfl,hbl,hz,hc,_⟩:=(hI.later (HB.out _ hbr)).at_ hlt
      have d0:=hc 0 _ rfl
      simp only [SN,SU] at d0
      rw [qv width zs k z hz] at hp
      have HP:=h_ hp
      clear hp hc hz Nj hI
      rcases(show z<0∨(0≤z∧width<z)∨(0≤z∧z≤width) by omega) with h|⟨h,h'⟩|⟨h,h'⟩
      · go_wp2_with fail
        go_ret2
        exact⟨.slice none 0 0,kY (by rw [←HP.out,if_pos h]),HB.out _ hbr⟩
      · go_wp2_with fail
        go_ret2
        exact⟨.slice none 0 0,kY (by rw [←HP.out,if_neg (by omega),if_pos h']),HB.out _ hbr⟩
      · rw [if_neg (by omega),if_neg (by omega)] at HP
        have hal:(align=3∨align=2∨((align==3)=false∧(align==2)=false)):=by
         by_cases h3:align=3
         · exact .inl h3
         · by_cases h2:align=2
           · exact .inr (.inl h2)
           · exact .inr (.inr ⟨by simpa using h3,by simpa using h2⟩)
        rcases hal with rfl|rfl|⟨e3,e2⟩
        all_goals
         obtain⟨xs,hown⟩:=Jp.1
         go_wp2_with (at_builtin;refine aV _ _ rfl (.tmp 75) (.tmp 77) 226 rfl (w.heap.size+1) 280 i0 _ 3 24 S_ HI.out H0.out H1.out H2.out rfl (by decide) _ _ _ rfl (hown.alloc _) _ rfl (by simp) rfl ?h1 ?h63 ?hb ?hbase ?_)
         case h1=>exact⟨rfl,rfl,rfl⟩
         case h63=>unfold maxLen;omega
         case hb=>omega
         case hbase=>simp;omega
         intro v' w2 hown' hgrow
         have R:=Cy.step Jp (by rw [bu.out];omega) hown' hgrow
         clear hown' hgrow Jp hown
         go_wp2_with fail
         go_roundw
         case rel=>exact⟨k+1,by omega,by go_num,HP.out,R⟩
         case measure=>simp [intOf];omega
    · obtain rfl:k=zs.length:=by omega
      rw [SF] at hp
      have HP:=h_ hp
      clear hp Nj
      go_wp2_with fail
      go_ret2
      exact⟨_,kY (by rw [←HP.out];rfl),HB.out _ hbr⟩
theorem qu (x:Reg)(a:Option Addr)(cap:Nat)(zs:List Int)(w:Su)(hf:x.fits)(hI:Ints w a zs)(hl:zs.length≤4000000) :
 Sw SZ 157 #[.agg x.enc.toArray,.slice a zs.length cap] w (tn (iU x zs) w):=by
 cases hB:x.bottom
 · exact Bu x a cap zs w hf hI hl hB
 · exact DS x a cap zs w hf hI hl hB
end Go.Proofs.YtnlnmbcaongehaaGreatDoor
namespace Go.Proofs.YtnlnmbcaongehaaGreatDoor
open Go.RowKit
theorem aI {P:Program} (w:Su)(cs:Array Sv) {ops:Array Oper} {rest:List Oper} {o:Oper} {a:Act} {Q:Exit→Act→Su→Prop} (hgd:o.guard=none)(s x:SC)(t:Sx)
 (ho:o.op=.call { callee:=.builtin .append,args:=#[s,x],argTypes:=#[t,t] })
 (base:Nat) (e:Sx) (i:Sz) (z:Sv) (size bytes:Nat) (ht:P.underlying t=some (.slice e)) (hi:P.info? e=some i) (hz:i.zero=some z)
 (hsize:i.size=size) (hby:i.bytes=bytes) (hzs:z.cells.size=size) (hsz:0<size)
 (v:Sv) (n:Nat) (xs:List Sv) (hs:a.eval s=v) (hown:w.ownsRow base e size v n xs) (g:Nat) (hx:a.eval x=.slice (some ⟨g,0,none⟩) 1 1) (hg:g=w.heap.size)
 (hcs:cs.size=size) (h1:∀ u∈cs.toList,u.oneCell'=true) (h63:n+1≤maxLen) (hbytes:(n+1)*bytes≤140737488355328) (hbase:base≤w.heap.size)
 (h:∀ v' w2,w2.ownsRow base e size v' (n+1) (xs++cs.toList)→(w.alloc (.cells cs e)).grownBy w2 v.ownBlock→(v'.ownBlock=v.ownBlock∨v'.ownBlock=some (w.heap.size+1))→wpList P ops Q rest (a.put o.dst v') w2):wpList P ops Q (o::rest) a (w.alloc (.cells cs e)):=by
 subst hg
 refine wpList_append_own_at _ hgd s x t ho base e i z size bytes ht hi hz hsize hby hzs hsz v n xs hs (hown.alloc _) ⟨w.heap.size,0,none⟩ 1 1 cs.toList hx (by simpa using hcs) (nj w cs e) h1 h63 hbytes (by simp;omega) ?_
 intro v' w2 h2 h3 _ h4
 refine h v' w2 h2 h3 ?_
 simpa using h4
section
variable {P:Program} {α:Type} {enc:α→List Sv} {Ok:Su→α→Prop} (w:Su)
theorem rj (base:Nat)(t ty e:Sx)(i:Sz)(z:Sv)(size bytes:Nat)(ht:P.underlying t=some (.slice e))(hi:P.info? e=some i)(hz:i.zero=some z)
 (hsize:i.size=size) (hby:i.bytes=bytes) (hzs:z.cells.size=size) (hsz:0<size) (hk:∀ x,(enc x).length=size) (h1:∀ x,∀ v∈enc x,v.oneCell'=true)
 (v:Sv) (n:Nat) (xs:List Sv) (hown:w.ownsRow base e size v n xs) (A:Option Addr) (c:Nat) (ys:List α) (hS:af size enc Ok w A ys)
 (h63:n+ys.length≤maxLen) (hbytes:(n+ys.length)*bytes≤140737488355328) (hbase:base≤w.heap.size) :
 ∃ v' w',(Tm #[t,t] ty #[v,.slice A ys.length c]).run P w=.ok v' w'∧w'.ownsRow base e size v' (n+ys.length) (xs++ys.flatMap enc)∧w.grownBy w' v.ownBlock∧(v'.ownBlock=v.ownBlock∨v'.ownBlock=some w.heap.size):=by
 rcases A with _|ad
 · have hm:ys=[]:=by
    rcases hS with h|⟨_,_,h,_⟩
    · exact h
    · cases h
   subst hm
   refine⟨v,w,?_,by simpa using hown,⟨rfl,rfl,rfl,SM _,fun _ _ _=>rfl⟩,.inl rfl⟩
   rcases hown.2 with⟨rfl,rfl⟩|⟨g,cap,cur,rfl,_,_,hnc,_⟩
   · simp [Tm,run_underlying ht,sizeOf,typeInfo,hi,To,Tn]
   · simp [Tm,run_underlying ht,sizeOf,typeInfo,hi,To,Tn,hnc,storeCells]
 · have hcells:∀ j u,(ys.flatMap enc)[j]? =some u→w.cell? (ad.add j)=some u:=by
    intro j u hu
    rcases hS with h|⟨b,off,h,hlt,hc⟩
    · subst h
      simp at hu
    · obtain rfl:=SW h
      have h':=iJ (Ok:=Ok) hk (.inr ⟨b,off,rfl,hlt,hc⟩) j u hu
      simp only [Addr.add]
      split
      · rename_i h0
        have h0:j=0:=by simpa using h0
        subst h0
        simpa using h'
      · exact h'
   obtain⟨v',w',hrun,h2,h3,_,h5⟩:=run_append_own_at (P:=P) w base t ty e i z size bytes ht hi hz hsize hby hzs hsz v n xs hown ad ys.length c (ys.flatMap enc) (iW enc size hk ys) hcells (nB h1 ys) h63 hbytes hbase
   exact⟨v',w',hrun,h2,h3,h5⟩
theorem rV {o:Oper} {a:Act} {K:Act→Su→Prop} {Q:Exit→Act→Su→Prop} (s x:SC)(t:Sx)
 (ho:o.op=.call { callee:=.builtin .append,args:=#[s,x],argTypes:=#[t,t] })
 (base:Nat) (e:Sx) (i:Sz) (z:Sv) (size bytes:Nat) (ht:P.underlying t=some (.slice e)) (hi:P.info? e=some i) (hz:i.zero=some z)
 (hsize:i.size=size) (hby:i.bytes=bytes) (hzs:z.cells.size=size) (hsz:0<size) (hk:∀ x,(enc x).length=size) (h1:∀ x,∀ v∈enc x,v.oneCell'=true)
 (v:Sv) (n:Nat) (xs:List Sv) (hs:a.eval s=v) (hown:w.ownsRow base e size v n xs) (A:Option Addr) (c:Nat) (ys:List α) (hx:a.eval x=.slice A ys.length c) (hS:af size enc Ok w A ys)
 (h63:n+ys.length≤maxLen) (hbytes:(n+ys.length)*bytes≤140737488355328) (hbase:base≤w.heap.size)
 (h:∀ v' w',w'.ownsRow base e size v' (n+ys.length) (xs++ys.flatMap enc)→w.grownBy w' v.ownBlock→(v'.ownBlock=v.ownBlock∨v'.ownBlock=some w.heap.size)→K (a.put o.dst v') w'):o.wp P a w K Q:=by
 obtain⟨v',w',hrun,h2,h3,h4⟩:=rj (P:=P) (enc:=enc) (Ok:=Ok) w base t o.type e i z size bytes ht hi hz hsize hby hzs hsz hk h1 v n xs hown A c ys hS h63 hbytes hbase
 unfold Oper.wp execOp
 simp only [ho,resolve,invoke,builtin,Sem.run_bind,Sem.run_pure,Result.andThen_ok,List.map_toArray,List.map_cons,List.map_nil,hs,hx,hrun]
 exact h v' w' h2 h3 h4
theorem ax {ops:Array Oper} {rest:List Oper} {o:Oper} {a:Act} {Q:Exit→Act→Su→Prop} (hgd:o.guard=none)(s x:SC)(t:Sx)
 (ho:o.op=.call { callee:=.builtin .append,args:=#[s,x],argTypes:=#[t,t] })
 (base:Nat) (e:Sx) (i:Sz) (z:Sv) (size bytes:Nat) (ht:P.underlying t=some (.slice e)) (hi:P.info? e=some i) (hz:i.zero=some z)
 (hsize:i.size=size) (hby:i.bytes=bytes) (hzs:z.cells.size=size) (hsz:0<size) (hk:∀ x,(enc x).length=size) (h1:∀ x,∀ v∈enc x,v.oneCell'=true)
 (v:Sv) (n:Nat) (xs:List Sv) (hs:a.eval s=v) (hown:w.ownsRow base e size v n xs) (A:Option Addr) (c:Nat) (ys:List α) (hx:a.eval x=.slice A ys.length c) (hS:af size enc Ok w A ys)
 (h63:n+ys.length≤maxLen) (hbytes:(n+ys.length)*bytes≤140737488355328) (hbase:base≤w.heap.size)
 (h:∀ v' w',w'.ownsRow base e size v' (n+ys.length) (xs++ys.flatMap enc)→w.grownBy w' v.ownBlock→(v'.ownBlock=v.ownBlock∨v'.ownBlock=some w.heap.size)→wpList P ops Q rest (a.put o.dst v') w'):wpList P ops Q (o::rest) a w :=
 wpList_plain hgd fun _ hK=>rV (enc:=enc) (Ok:=Ok) w s x t ho base e i z size bytes ht hi hz hsize hby hzs hsz hk h1 v n xs hs hown A c ys hx hS h63 hbytes hbase fun v' w' h2 h3 h4=>hK _ _ (h v' w' h2 h3 h4)
end
structure Deep {α:Type} (lies:Su→α→Prop)(uses:α→Nat→Prop):Prop where
 frame:∀ x w w',lies w x→w.heap.size≤w'.heap.size→(∀ b,uses x b→w'.heap[b]? =w.heap[b]?)→lies w' x
 lt:∀ x w b,lies w x→uses x b→b<w.heap.size
def iO {α:Type} (T k:Nat)(enc:α→List Sv)(lies:Su→α→Prop)(uses:α→Nat→Prop)(B:Nat)(W0:Su)(v:Sv)(zs:List α)(wr:Su):Prop :=
 wr.ownsRow B T k v zs.length (zs.flatMap enc)∧(∀ z∈zs,lies wr z∧(∀ b,uses z b→v.ownBlock≠some b∧B≤b))∧SY B W0 wr
theorem iO.start {α:Type} {T k:Nat} {enc:α→List Sv} {lies:Su→α→Prop} {uses:α→Nat→Prop} {B:Nat} {W0 wr:Su} (hb:SY B W0 wr):iO T k enc lies uses B W0 (.slice none 0 0) [] wr :=
 ⟨Tj _ _ _ _,fun z hz=>by simp at hz,hb⟩
theorem iO.later {α:Type} {T k:Nat} {enc:α→List Sv} {lies:Su→α→Prop} {uses:α→Nat→Prop} (hD:Deep lies uses) {B:Nat} {W0 wr w1:Su} {v:Sv} {zs:List α} (h:iO T k enc lies uses B W0 v zs wr)(hB:B≤W0.heap.size)(hb:SY wr.heap.size wr w1):iO T k enc lies uses B W0 v zs w1:=by
 obtain⟨h1,h2,h3⟩:=h
 exact⟨aH h1 hb,fun z hz=>⟨hD.frame z wr w1 (h2 z hz).1 hb.size (fun b hu=>hb.block b (hD.lt z wr b (h2 z hz).1 hu)),(h2 z hz).2⟩,h3.trans (hb.mono (SO hB h3.size))⟩
theorem iO.push {α:Type} {T k:Nat} {enc:α→List Sv} {lies:Su→α→Prop} {uses:α→Nat→Prop} (hD:Deep lies uses) {B:Nat} {W0 w1 w2:Su} {v v':Sv} {zs:List α} {y:α} {cs:Array Sv} (h:iO T k enc lies uses B W0 v zs w1)(hB:B≤W0.heap.size)
 (hcs:cs.toList=enc y) (hown:w2.ownsRow B T k v' (zs.length+1) (zs.flatMap enc++cs.toList)) (hg:(w1.alloc (.cells cs T)).grownBy w2 v.ownBlock) (hat:v'.ownBlock=v.ownBlock∨v'.ownBlock=some (w1.heap.size+1))
 (hy:lies w1 y) (hyu:∀ b,uses y b→v.ownBlock≠some b∧B≤b):iO T k enc lies uses B W0 v' (zs++[y]) w2:=by
 obtain⟨h1,h2,h3⟩:=h
 have hsz:w1.heap.size+1≤w2.heap.size:=by
  have:=hg.size
  simpa using this
 have hblk:∀ b,b<w1.heap.size→v.ownBlock≠some b→w2.heap[b]? =w1.heap[b]?:=fun b hb hne=>by
  rw [hg.block b (by simp;omega) (fun e=>hne e.symm)]
  exact Tl w1 _ b hb
 have hne':∀ b,b<w1.heap.size→v.ownBlock≠some b→v'.ownBlock≠some b:=fun b hb hne e=>by
  rcases hat with e'|e'
  · exact hne (e'▸e)
  · rw [e'] at e
    simp only [SV] at e
    omega
 refine⟨?_,fun z hz=>?_,?_⟩
 · rw [SJ,List.flatMap_append]
   simp only [SK,List.length_nil,SI,List.flatMap_nil,SL,←hcs]
   exact hown
 · rcases List.mem_append.1 hz with hz|hz
   · have hl:=(h2 z hz).1
     exact⟨hD.frame z w1 w2 hl (by omega) (fun b hu=>hblk b (hD.lt z w1 b hl hu) ((h2 z hz).2 b hu).1),fun b hu=>⟨hne' b (hD.lt z w1 b hl hu) ((h2 z hz).2 b hu).1,((h2 z hz).2 b hu).2⟩⟩
   · obtain rfl:z=y:=by simpa using hz
     exact⟨hD.frame z w1 w2 hy (by omega) (fun b hu=>hblk b (hD.lt z w1 b hy hu) (hyu b hu).1),fun b hu=>⟨hne' b (hD.lt z w1 b hy hu) (hyu b hu).1,(hyu b hu).2⟩⟩
 · have hB1:B≤w1.heap.size:=SO hB h3.size
   exact(h3.alloc hB1 _).grown hg (by simp;omega) (fun j hj=>(h1.lt j hj).1)
theorem iO.slice {α:Type} {T k:Nat} {enc:α→List Sv} {lies:Su→α→Prop} {uses:α→Nat→Prop} (hk:∀ x,(enc x).length=k) {B:Nat} {W0 wr:Su} {v:Sv} {zs:List α} (h:iO T k enc lies uses B W0 v zs wr):∃ a cap,v=.slice a zs.length cap∧af k enc lies wr a zs :=
 ay hk h.1 fun z hz=>(h.2.1 z hz).1
end Go.Proofs.YtnlnmbcaongehaaGreatDoor
namespace Go.Proofs.YtnlnmbcaongehaaGreatDoor
open Go.RowKit
structure Run where
 text:ByteArray
 color:Int
 it:Bool
 un:Bool
 ruby:ByteArray
def Run.enc (x:Run):List Sv:=[.string x.text,.int .u8 x.color,.bool x.it,.bool x.un,.string x.ruby]
def Run.fits (x:Run):Prop:=x.text.size≤4000000∧x.ruby.size≤4000000∧0≤x.color∧x.color≤255
structure Row where
 at_:Option Addr
 cap:Nat
 runs:List Run
def Row.enc (r:Row):List Sv:=[.slice r.at_ r.runs.length r.cap]
def Runs (w:Su)(a:Option Addr)(xs:List Run):Prop:=af 5 Run.enc Flat w a xs
theorem Runs.later {w w':Su} {a:Option Addr} {xs:List Run} (h:Runs w a xs)(hb:SY w.heap.size w w'):Runs w' a xs:=af.keeps Flat.keeps w w' a xs hb h
def Row.lies (w:Su)(r:Row):Prop:=Runs w r.at_ r.runs
theorem Row.keeps:Keeps Row.lies:=fun w w' r hb h=>Runs.later h hb
def fE:List Run→Nat
 | []=>0
 | x::l=>x.text.size+fE l
def Row.fits (r:Row):Prop:=(∀ x∈r.runs,x.fits)∧r.runs.length≤4000000∧fE r.runs≤4000000
theorem eY (c:Int)(i u:Bool)(w:Su):Sw SZ 261 #[.agg #[.int .u8 c,.bool i,.bool u]] w fun e w'=>e=.returned (.bool (decide (c≤6)))∧SY w.heap.size w w':=by
 go_enter Tryz.func261,Tryz.ntmps261
 go_wp2
 go_ret
 exact⟨rfl,(Tk _ _).alloc (SM _) _⟩
def vE (a b:Run):Bool:=(a.color==b.color&&a.it==b.it&&a.un==b.un)&&(a.ruby.toList.isEmpty&&b.ruby.toList.isEmpty)
theorem DK (c d:Int)(i u j v:Bool)(w:Su):(binOp .eql 73 (.agg #[.int .u8 c,.bool i,.bool u]) (.agg #[.int .u8 d,.bool j,.bool v])).run SZ w=.ok (.bool (c==d&&i==j&&u==v)) w:=by
 simp [go_sem]
 repeat' split
 all_goals simp_all
theorem Cg (a b:Run)(w:Su):Sw SZ 262 #[.agg a.enc.toArray,.agg b.enc.toArray] w fun e w'=>e=.returned (.bool (vE a b))∧SY w.heap.size w w':=by
 have hA:vE a b=((a.color==b.color&&a.it==b.it&&a.un==b.un)&&(a.ruby.toList.isEmpty&&b.ruby.toList.isEmpty)):=rfl
 have hq:=DK a.color b.color a.it a.un b.it b.un
 obtain⟨t,c,i,u,r⟩:=a
 obtain⟨t',c',i',u',r'⟩:=b
 simp only at hA hq
 simp only [Run.enc]
 generalize vE ⟨t,c,i,u,r⟩ ⟨t',c',i',u',r'⟩=A at *
 generalize (c==c'&&i==i'&&u==u')=S at *
 have hb:∀ o o',SY w.heap.size w ((w.alloc o).alloc o'):=fun o o'=>((Tk _ _).alloc (SM _) _).alloc (by simp) _
 cases S
 · rw [Bool.false_and] at hA
   have HA:=h_ hA
   clear hA
   go_enter S7,S5
   go_wp2
   go_ret
   rw [HA.out]
   exact⟨rfl,hb _ _⟩
 · rw [Bool.true_and] at hA
   by_cases h1:r.toList=[]
   · have h1':r.toList.isEmpty=true:=by simpa using h1
     rw [h1',Bool.true_and] at hA
     by_cases h2:r'.toList=[]
     · have h2':r'.toList.isEmpty=true:=by simpa using h2
       rw [h2'] at hA
       have HA:=h_ hA
       clear hA
       go_enter S7,S5
       go_wp2
       go_ret
       rw [HA.out]
       exact⟨rfl,hb _ _⟩
     · have h2':r'.toList.isEmpty=false:=by simpa using h2
       rw [h2'] at hA
       have HA:=h_ hA
       clear hA
       go_enter S7,S5
       go_wp2
       go_ret
       rw [HA.out]
       exact⟨rfl,hb _ _⟩
   · have h1':r.toList.isEmpty=false:=by simpa using h1
     rw [h1',Bool.false_and] at hA
     have HA:=h_ hA
     clear hA
     go_enter S7,S5
     go_wp2
     go_ret
     rw [HA.out]
     exact⟨rfl,hb _ _⟩
theorem N4:(SZ.info? 123).map (·.size)=some 2:=by kernel_rfl
theorem uo (b:Nat)(w:Su)(h0:w.cell? ⟨b,0,none⟩=some (.pointer (some ⟨b,0,none⟩))) :
 Sw SZ 122 #[.pointer (some ⟨b,0,none⟩)] w fun e w'=>e=.returned (.tuple #[])∧w'=w:=by
 obtain⟨j,hj,_⟩:=Option.map_eq_some_iff.1 N4
 go_enter Tg,Tc
 go_wp2
 rw [Lib.run_neq_ptr_same w _ S6 hj]
 go_wp2
 go_end0
 exact⟨rfl,rfl⟩
theorem te (b:Nat)(w:Su)(h0:w.cell? ⟨b,0,none⟩=some (.pointer none))(hsh:w.shape? b=some (123,2))(hfz:w.frozen? ⟨b,0,none⟩=false) :
 Sw SZ 122 #[.pointer (some ⟨b,0,none⟩)] w fun e w'=>e=.returned (.tuple #[])∧w'=w.setCell ⟨b,0,none⟩ (.pointer (some ⟨b,0,none⟩)):=by
 obtain⟨j,hj,hjs⟩:=Option.map_eq_some_iff.1 N4
 go_enter Tg,Tc
 go_wp2
 rw [Lib.run_to_unsafe w ⟨b,0,none⟩ S6 S9 hj (by rw [hjs];decide) hsh (Nat.zero_lt_succ 1)]
 simp only [Result.andThen]
 rw [Oper.upon_value]
 go_wp2
 rw [run_callFunc_extern Tryz.func193 (by kernel_rfl) (by kernel_rfl) (by kernel_rfl) (e:=Extern.AbiNoEscape.same) (by kernel_rfl)]
 rw [Lib.run_noEscape]
 simp only [Result.andThen]
 rw [Oper.upon_value]
 go_wp2
 rw [Lib.run_from_unsafe w ⟨b,0,none⟩ S9 S6 hj hsh Tryz.Builder_Extra_169.liesBuilder]
 simp only [Result.andThen]
 rw [Oper.upon_value]
 go_wp2
 go_end0
 exact⟨rfl,rfl⟩
theorem tf (B b:Nat)(bs:List Sv)(w:Su)(h:Tq 123 5 B b bs w) :
 Sw SZ 122 #[.pointer (some ⟨b,0,none⟩)] w fun e w'=>e=.returned (.tuple #[])∧(Tr 123 5 B b (.pointer (some ⟨b,0,none⟩)) bs w'∧SY B w w'):=by
 rcases h with h|h
 · refine(te b w h.cell0 h.shape h.frozen0).mono ?_
   rintro e w' ⟨rfl,rfl⟩
   exact⟨rfl,h.used _,(Tk B w).setCell (p:=⟨b,0,none⟩) h.1 _⟩
 · refine(uo b w h.cell0).mono ?_
   rintro e w' ⟨rfl,rfl⟩
   exact⟨rfl,h,Tk B _⟩
theorem pI (B b:Nat)(bs:List Sv)(s:ByteArray)(w:Su)(h:Tq 123 5 B b bs w)(hlen:bs.length+s.size≤140737488355328)(hBw:B≤w.heap.size) :
 Sw SZ 67 #[.pointer (some ⟨b,0,none⟩),.string s] w fun e w'=>e=.returned (.tuple #[.int .i64 s.size,.nilIface])∧(Tr 123 5 B b (.pointer (some ⟨b,0,none⟩)) (bs++Tt s) w'∧SY B w w'):=by
 obtain⟨i0,hi,hz0,hz1,hz2⟩:=SB Tryz.Builder_Extra_169.infoByte
 go_enter Tryz.func67,Tryz.ntmps67
 go_wp2_with (go_at_call 122;refine(tf B b bs _ h).mono ?_)
 rintro e w1 ⟨rfl,h1,hb1⟩
 obtain⟨hB,v,hbk,hown,hne⟩:=h1
 have c0:w1.cell? ⟨b,0,none⟩=some (.pointer (some ⟨b,0,none⟩)):=by rw [Ts hbk];rfl
 have c1:w1.cell? ⟨b,1,none⟩=some v:=by rw [Ts hbk];rfl
 go_wp2_with (at_builtin;refine Lib.wpList_append_own_string _ rfl _ _ 121 9 rfl B 5 i0 Tryz.underlying121 Tryz.underlying9 hi hz0 hz1 hz2 _ _ _ rfl hown s rfl ?c3 ?c4 ?c5 ?_)
 case c3=>unfold maxLen;omega
 case c4=>omega
 case c5=>have:=hb1.size;omega
 intro v' w2 hown' hgrow _
 have hlt:b<w1.heap.size:=by
  rcases Nat.lt_or_ge b w1.heap.size with h'|h'
  · exact h'
  · simp [Array.getElem?_eq_none h'] at hbk
 have hb2:w2.heap[b]? =some (.cells #[.pointer (some ⟨b,0,none⟩),v] 123 (0,0)):=by
  rw [hgrow.block b hlt (fun e=>hne e.symm)]
  exact hbk
 have d0:w2.cell? ⟨b,0,none⟩=some (.pointer (some ⟨b,0,none⟩)):=by rw [Ts hb2];rfl
 have d1:w2.cell? ⟨b,1,none⟩=some v:=by rw [Ts hb2];rfl
 have f1:w2.frozen? ⟨b,1,none⟩=false:=Lib.frozen_of_heap hb2 1
 obtain⟨ao,n',cap,rfl⟩:∃ ao n' cap,v'=.slice ao n' cap:=by
  rcases hown'.2 with⟨hv,_⟩|⟨g,cap,cur,hv,_⟩
  · exact⟨_,_,_,hv⟩
  · exact⟨_,_,_,hv⟩
 go_wp2
 go_ret2
 refine⟨rfl,?_,?_⟩
 · exact Tr.put (T:=123) (e:=5) hB hb2 (bs':=bs++Tt s) (by simpa [Lib.strCells_length] using hown') (by decide)
 · exact(hb1.grown hgrow (by have:=hb1.size;omega) (fun k hk=>(hown.lt k hk).1)).setCell (p:=⟨b,1,none⟩) hB _
theorem lr (s:ByteArray):∀ b pos,(iy s b pos).length≤b
 | 0,_=>by simp [iy]
 | b+1,pos=>by
   simp only [iy]
   split
   · have:=lr s b (pos+(Utf8.decode s pos).2)
     rw [SK];omega
   · simp
theorem FW (s:ByteArray):-1≤lenB s∧lenB s≤s.size:=by
 unfold lenB
 have:=lr s s.size 0
 split
 · unfold runes;omega
 · omega
def lL:List Run→Int→Int
 | [],acc=>acc
 | x::l,acc=>if lenB x.text<0 then -1 else lL l (acc+lenB x.text)
def rowLen (runs:List Run):Int:=lL runs 0
theorem eT {α:Type} (xs:List α)(k:Nat)(x:α)(hx:xs[k]? =some x):xs.drop k=x::xs.drop (k+1):=by
 have hk:k<xs.length:=(SD.1 hx).1
 have e:xs[k]=x:=(SD.1 hx).2
 rw [SE hk,e]
theorem iM {w wr w1:Su} (hb:SY w.heap.size w wr)(o:Obj)(h1:SY (wr.heap.size+1) (wr.alloc o) w1):SY w.heap.size w w1 :=
 (hb.alloc hb.size o).trans (h1.mono (by have:=hb.size;omega))
theorem qq (r:Row)(w:Su)(hE:Env w)(hr:r.lies w)(hf:r.fits) :
 Sw SZ 215 #[.agg r.enc.toArray] w fun e w'=>e=.returned (.int .i64 (rowLen r.runs))∧SY w.heap.size w w':=by
 obtain⟨a,cap,xs⟩:=r
 obtain⟨hfx,hl,hsum⟩:=hf
 simp only [Row.lies] at hr
 simp only [Row.enc] at *
 generalize hG:rowLen xs=G
 have H0:=h_ (show lL (xs.drop 0) 0=G by rw [SG];exact hG)
 have hs0:0+fE (xs.drop 0)≤4000000:=by simpa using hsum
 clear hG
 go_enter Tryz.func215,Tryz.ntmps215
 go_wp2_with fail
 go_loopw [3,10] (fun s i wr=>∃ (k acc:Nat),k≤xs.length∧i=.int .i64 k∧s=.int .i64 acc∧lL (xs.drop k) acc=G∧acc+fE (xs.drop k)≤4000000∧SY w.heap.size w wr) (fun _ i _=>xs.length-(intOf i).toNat)
 case atStart=>exact⟨0,0,by omega,rfl,rfl,H0.out,hs0,(Tk _ _).alloc (SM _) _⟩
 case round =>
  obtain⟨k,acc,hk,rfl,rfl,hp,hs,hb⟩:=hrel
  by_cases hlt:k<xs.length
  · obtain⟨b,off,x,rfl,hbl,hx,hc,_⟩:=(hr.later hb).at_ hlt
    have hft:=hfx x (SH hx)
    rw [eT xs k x hx] at hp hs
    simp only [lL] at hp
    simp only [fE] at hs
    have hll:=FW x.text
    have HL:=h_ (fun w1 (h:Env w1)=>FV x.text w1 hft.1 h)
    have HE:=h_ (fun w1 (h:SY w.heap.size w w1)=>hE.below h (SM _))
    have hbo:=fun o=>hb.alloc hb.size o
    have HB:=h_ (fun o w1 h1=>iM (w1:=w1) hb o h1)
    obtain⟨t,c,i,u,ru⟩:=x
    have d0:=hc 0 _ rfl;have d1:=hc 1 _ rfl;have d2:=hc 2 _ rfl;have d3:=hc 3 _ rfl;have d4:=hc 4 _ rfl
    simp only [SN] at d0 d1 d2 d3 d4 hp hs HL hll
    have HP:=h_ hp
    have HBO:=h_ hbo
    clear hp hc hx H0 hr hbo hfx hft
    generalize hL:lenB t=L at *
    clear hL
    obtain⟨l0,l1⟩:=hll
    by_cases hneg:L<0
    · go_wp2_with (go_at_call 264;refine(HL.out _ (HE.out _ (HBO.out _))).mono ?_;rintro e w1 ⟨rfl,hb1⟩;simp only [Ti] at hb1)
      go_ret
      exact⟨az (by rw [←HP.out,if_pos hneg]),HB.out _ _ hb1⟩
    · have hnn:0≤L:=by omega
      go_wp2_with (go_at_call 264;refine(HL.out _ (HE.out _ (HBO.out _))).mono ?_;rintro e w1 ⟨rfl,hb1⟩;simp only [Ti] at hb1)
      have hq:=HP.out
      rw [if_neg (by omega)] at hq
      have HQ:=h_ hq
      clear hq HP
      obtain⟨m,rfl⟩:=Int.eq_ofNat_of_zero_le hnn
      go_roundw
      case rel=>exact⟨k+1,acc+m,by omega,by go_num,by go_num,by have:=HQ.out;simpa using this,by omega,HB.out _ _ hb1⟩
      case measure=>simp [intOf];omega
  · obtain rfl:k=xs.length:=by omega
    rw [SF] at hp
    have HP:=h_ hp
    clear hp H0
    go_wp2_with fail
    go_ret
    exact⟨az (by rw [←HP.out];rfl),hb⟩
def mi:List Run→List UInt8
 | []=>[]
 | x::l=>x.text.data.toList++mi l
def plain (runs:List Run):ByteArray:=⟨(mi runs).toArray⟩
theorem lv:∀ l,(mi l).length=fE l
 | []=>rfl
 | x::l=>by simp [mi,fE,lv l]
theorem uM (l:List UInt8)(s:ByteArray):Tp l++Tt s=Tp (l++s.data.toList):=by
 rw [Lib.byteCells_append,Lib.strCells_eq]
theorem xp {B b:Nat} {bs:List Sv} {w:Su} (h:Tq 123 5 B b bs w)(o:Obj):Tq 123 5 B b bs (w.alloc o):=by
 have key:∀ p,Tr 123 5 B b p bs w→Tr 123 5 B b p bs (w.alloc o):=by
  rintro p ⟨hB,v,hb,hown,hne⟩
  have hlt:b<w.heap.size:=(SX.1 hb).1
  exact⟨hB,v,(Tl w o b hlt).trans hb,hown.alloc o,hne⟩
 rcases h with h|h
 · exact .inl (key _ h)
 · exact .inr (key _ h)
theorem Cc (w:Su):Tq 123 5 w.heap.size w.heap.size (Tp []) (w.alloc (.cells #[.pointer none,.slice none 0 0] 123)) :=
 .inl ⟨SM _,.slice none 0 0,Sy w _,Tj _ _ _ _,by simp [Sv.ownBlock]⟩
def pF (xs:List Run)(w:Su)(B k:Nat)(wr:Su):Prop :=
 ∃ done,done++mi (xs.drop k)=mi xs∧Tq 123 5 B B (Tp done) wr∧SY B w wr
theorem pF.size {xs:List Run} {w:Su} {B k:Nat} {wr:Su} (h:pF xs w B k wr):B<wr.heap.size:=by
 obtain⟨done,_,hb,_⟩:=h
 rcases hb with⟨_,v,hb,_⟩|⟨_,v,hb,_⟩
 · exact(SX.1 hb).1
 · exact(SX.1 hb).1
theorem sk (r:Row)(w:Su)(hr:r.lies w)(hf:r.fits) :
 Sw SZ 213 #[.agg r.enc.toArray] w fun e w'=>e=.returned (.string (plain r.runs))∧SY w.heap.size w w':=by
 obtain⟨a,cap,xs⟩:=r
 obtain⟨hfx,hl,hsum⟩:=hf
 simp only [Row.lies] at hr
 simp only [Row.enc] at *
 have hpl:(mi xs).length≤4000000:=by rw [lv];exact hsum
 have Hg:=h_ hpl
 go_enter Tryz.func213,Tryz.ntmps213
 go_wp2_with fail
 have hst:∀ o,pF xs (w.alloc o) (w.heap.size+1) 0 ((w.alloc o).alloc (.cells #[.pointer none,.slice none 0 0] 123)):=fun o=>by
  have h1:=Cc (w.alloc o)
  rw [Ti] at h1
  exact⟨[],by rw [SG,List.nil_append],h1,(Tk _ _).alloc (by simp) _⟩
 have HST:=h_ hst
 clear hst hpl hsum
 go_loopw [9] (fun i wr=>∃ k:Nat,k≤xs.length∧i=.int .i64 k∧pF xs (w.alloc (.cells #[.slice a xs.length cap] 78)) (w.heap.size+1) k wr) (fun i _=>xs.length-(intOf i).toNat)
 case atStart=>exact⟨0,by omega,rfl,HST.out _⟩
 case round =>
  obtain⟨k,hk,rfl,hP⟩:=hrel
  have hsz:=hP.size
  obtain⟨done,hd,hB,hbel⟩:=hP
  have hbw:=aU hbel
  by_cases hlt:k<xs.length
  · obtain⟨b,off,x,rfl,hbl,hx,hc,_⟩:=(hr.later hbw).at_ hlt
    rw [eT xs k x hx] at hd
    simp only [mi] at hd
    obtain⟨t,c,i,u,ru⟩:=x
    have d0:=hc 0 _ rfl;have d1:=hc 1 _ rfl;have d2:=hc 2 _ rfl;have d3:=hc 3 _ rfl;have d4:=hc 4 _ rfl
    simp only [SN] at d0 d1 d2 d3 d4 hd
    have hlen:(Tp done).length+t.size≤140737488355328:=by
     have h1:=congrArg List.length hd
     have h2:=Hg.out
     simp only [SJ,Array.length_toList,ByteArray.size_data] at h1
     rw [Lib.byteCells_length]
     omega
    have HW:=h_ (fun o=>pI (w.heap.size+1) (w.heap.size+1) (Tp done) t (wr.alloc o) (xp hB o) hlen (by simp;omega))
    have HR:=h_ (fun(o:Obj) (w1:Su) (h1:Tr 123 5 (w.heap.size+1) (w.heap.size+1) (.pointer (some ⟨w.heap.size+1,0,none⟩)) (Tp done++Tt t) w1) (h2:SY (w.heap.size+1) (wr.alloc o) w1) =>
     (show pF xs (w.alloc (.cells #[.slice (some ⟨b,off,none⟩) xs.length cap] 78)) (w.heap.size+1) (k+1) w1 from
      ⟨done++t.data.toList,by rw [List.append_assoc];exact hd,.inr (by rw [←uM];exact h1),(hbel.alloc (by omega) o).trans h2⟩))
    clear hc hx hr hd hB hbel hlen hfx
    go_wp2_with (go_at_call 67;refine(HW.out _).mono ?_;rintro e w1 ⟨rfl,h1,h2⟩)
    have hR:=HR.out _ _ h1 h2
    go_roundw
    case rel=>exact⟨k+1,by omega,by go_num,hR⟩
    case measure=>simp [intOf];omega
  · obtain rfl:k=xs.length:=by omega
    rw [SF] at hd
    simp only [mi,SL] at hd
    have HW:=h_ (Tryz.Builder_String_any (w.heap.size+1) (w.heap.size+1) done wr hB (by omega))
    have HB:=h_ (fun w1 (h:SY (w.heap.size+1) wr w1)=>hbw.trans (h.mono (by omega)))
    have HD:=h_ hd
    clear hd hB hbel hr hfx
    go_wp2_with (go_at_call 69;refine HW.out.mono ?_;rintro e w1 ⟨rfl,h1⟩)
    go_ret
    exact⟨by rw [HD.out];rfl,HB.out _ h1⟩
end Go.Proofs.YtnlnmbcaongehaaGreatDoor
