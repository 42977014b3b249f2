/- The contract of document.header: the first error of a document's header. The contracts of region.from, Check, Default, usable: what they return for any region. Slices of structs in memory: what is read of them, and that later worlds keep them. The contract of region.Find: the region with a name. The contract of region.CheckList: the first error of a list of regions. The contract of region.Place: its error for any region and lengths. The contracts of style.Valid, alike and Len: what they return for any runs and rows. The contracts of (*strings.Builder).copyCheck and WriteString at this program: the builder holds the bytes behind what it held. (The shelf's own proofs, turned to this program, whose copyCheck bears a refused panic.) -/
import Derived.Test.YtnlnmbcaongehaaGreatDoorM00
set_option linter.unusedVariables false
set_option linter.unusedSimpArgs false
set_option maxRecDepth 100000
set_option maxHeartbeats 12800000
open Go.Lib renaming hid→h_
open Go renaming World→fm,Value→fp,Calls→ft,below_drewN→fu,bodyPost_ret→fw,heap_alloc_last→fB,info_parts→fC,TypeId→fD
open Go.RowKit renaming Below→fE
open Go.RowKit.Below renaming refl→fF
open Nat renaming le_refl→fG,add_zero→fH,le_trans→fI,mul_one→fJ
open Go.Value renaming string→fK
open Go.World renaming size_alloc→fL,ownsRow_nil→fM
open List renaming getElem?_eq_some_iff→fN,drop_eq_getElem_cons→fO,drop_length→fP,drop_zero→fQ,getElem?_eq_getElem→fR
open Go.Lib renaming cell_of_heap→fS,IsBuilder→fT,BuilderAt→fU,strCells→fV
namespace Go.Proofs.YtnlnmbcaongehaaGreatDoor
open Go.RowKit
theorem ag {k:IntKind} {a b:Int} (h:a=b):Ending.returned (.int k a)=.returned (.int k b):=by rw [h]
theorem zh2 {c:Prop} [Decidable c] {v a b:Int} (h:c)(h2:v=a):v=if c then a else b:=by rw [if_pos h,h2]
theorem val_neg {c:Prop} [Decidable c] {v a b:Int} (h:¬ c)(h2:v=b):v=if c then a else b:=by rw [if_neg h,h2]
def ef (t l:ByteArray)(r:Int)(d:Bool)(last:Int):Int :=
 if (!aY t)=true then 10 else if 400<t.size then 9 else if (!l.toList.isEmpty)=true∧(!cU l)=true then 5 else if (zel r d != 0)=true then zel r d else if last<0∨1099511627776<last then 2 else 0
theorem zfM (l:ByteArray):l.toList.length=l.size:=by
 rw [Lib.toList_data]
 simp
theorem za1 (l:ByteArray):l.size=0↔l.toList=[]:=by
 have:=zfM l
 constructor
 · intro h
   exact List.eq_nil_of_length_eq_zero (by omega)
 · intro h
   rw [h] at this
   simpa using this.symm
theorem ab (w:fm)(cs:Array fp)(t:fD)(j:Nat)(v:fp)(h:cs[j]? =some v)(w':fm)(hb:fE (w.heap.size+1) (w.alloc (.cells cs t)) w'):w'.cell? ⟨w.heap.size,j,none⟩=some v:=by
 rw [hb.cell (p:=⟨w.heap.size,j,none⟩) (by simp)]
 rw [cell_of_row _ _ j cs t (0,0) (fB w _),h]
theorem aH {w w':fm} {o:Obj} (hb:fE (w.heap.size+1) (w.alloc o) w'):fE w.heap.size w w' :=
 ((fF _ _).alloc (fG _) _).trans (hb.mono (by omega))
theorem zfr (t l:ByteArray)(r:Int)(d:Bool)(last:Int)(a5 a6 a7:Option Addr)(n5 n6 n7 c5 c6 c7:Nat)(w:fm)(hE:Env w)(ht:t.size≤4000000)(hl:l.size≤4000000)(h0:0≤r)(h1:r≤255) :
 ft Tryz.prog 85 #[.agg #[.string t,.string l,.int .u8 r,.bool d,.int .i64 last,.slice a5 n5 c5,.slice a6 n6 c6,.slice a7 n7 c7]] w fun e w'=>e=.returned (.int .i64 (ef t l r d last))∧fE w.heap.size w w':=by
 generalize hG:ef t l r d last=G
 unfold ef at hG
 have HG:=h_ hG
 clear hG
 generalize hcs:#[fK t,.string l,.int .u8 r,.bool d,.int .i64 last,.slice a5 n5 c5,.slice a6 n6 c6,.slice a7 n7 c7]=cs
 have f0:=ab w cs 27 0 (.string t) (by rw [←hcs];rfl)
 have f1:=ab w cs 27 1 (.string l) (by rw [←hcs];rfl)
 have f2:=ab w cs 27 2 (.int .u8 r) (by rw [←hcs];rfl)
 have f3:=ab w cs 27 3 (.bool d) (by rw [←hcs];rfl)
 have f4:=ab w cs 27 4 (.int .i64 last) (by rw [←hcs];rfl)
 have HE:=h_ (fun(w1:fm) (h:fE (w.heap.size+1) (w.alloc (.cells cs 27)) w1)=>hE.below (aH h) (fG _))
 have HB:=h_ (fun(w1:fm) (h:fE (w.heap.size+1) (w.alloc (.cells cs 27)) w1)=>aH h)
 have hb0:fE (w.heap.size+1) (w.alloc (.cells cs 27)) (w.alloc (.cells cs 27)):=fF _ _
 have hsz:(w.alloc (.cells cs 27)).heap.size=w.heap.size+1:=fL _ _
 generalize hW0:w.alloc (.cells cs 27)=W0 at *
 have HW0:=h_ hW0
 have HSZ:=h_ hsz
 clear hW0 hsz hE
 go_enter Tryz.func85,Tryz.ntmps85
 subst hcs
 go_wp2_with fail
 rw [HW0.out]
 refine(dX t _ ht (HE.out _ hb0)).mono ?_
 rintro e w1 ⟨rfl,hb1⟩
 rw [HSZ.out] at hb1
 clear HW0
 go_wp2_with (first
  | (go_at_call 150;refine(fe _ _ (by assumption)).mono ?_;rintro e w2 ⟨rfl,rfl⟩)
  | (go_at_call 151;refine(zhk _ _ _ (by assumption) (by assumption)).mono ?_;rintro e w3 ⟨rfl,hb3⟩;replace hb3:fE (w.heap.size+1) W0 w3:=hb1.trans (hb3.mono (by have:=hb1.size;rw [HSZ.out] at this;exact this))))
 all_goals
  go_ret
  refine⟨ag ?_,HB.out _ (by first|exact hb3|exact hb1)⟩
  rw [←HG.out]
  clear f0 f1 f2 f3 f4
  repeat (first
   | rfl
   | (refine zh2 ?_ ?_;focus (first|assumption|omega|(simp only [*];decide)|(simp_all<;>fail)))
   | (refine val_neg ?_ ?_;focus (first|omega|(simp only [*];decide)|(simp_all<;>fail))))
structure Reg where
 name:ByteArray
 top:Int
 height:Int
 left:Int
 width:Int
 align:Int
 bottom:Bool
def Reg.enc (x:Reg):List fp:=[.string x.name,.int .i64 x.top,.int .i64 x.height,.int .i64 x.left,.int .i64 x.width,.int .u8 x.align,.bool x.bottom]
def i64 (n:Int):Prop:=-9223372036854775808≤n∧n≤9223372036854775807
def Reg.fits (x:Reg):Prop:=x.name.size≤4000000∧i64 x.top∧i64 x.height∧i64 x.left∧i64 x.width∧0≤x.align∧x.align≤255
def inB (n lo hi:Int):Bool:=decide (lo≤n∧n≤hi)
theorem zez {n lo hi:Int} (h:lo≤n)(h':n≤hi):inB n lo hi=true:=by simp [inB,h,h']
theorem zgI {n lo hi:Int} (h:¬ (lo≤n∧n≤hi)):inB n lo hi=false:=by unfold inB;exact decide_eq_false h
theorem zhC (n lo hi:Int)(w:fm):ft Tryz.prog 209 #[.int .i64 n,.int .i64 lo,.int .i64 hi] w fun e w'=>e=.returned (.bool (inB n lo hi))∧w=w':=by
 by_cases h1:lo≤n
 · by_cases h2:n≤hi
   · have HI:=h_ (zez h1 h2)
     go_enter Tryz.func209,Tryz.ntmps209
     go_wp2
     go_ret
     rw [HI.out];exact⟨rfl,rfl⟩
   · have HI:=h_ (zgI (n:=n) (lo:=lo) (hi:=hi) (by omega))
     have h2':decide (n≤hi)=false:=by simpa using h2
     go_enter Tryz.func209,Tryz.ntmps209
     go_wp2
     go_ret
     rw [HI.out];exact⟨rfl,rfl⟩
 · have HI:=h_ (zgI (n:=n) (lo:=lo) (hi:=hi) (by omega))
   have h1':decide (lo≤n)=false:=by simpa using h1
   go_enter Tryz.func209,Tryz.ntmps209
   go_wp2
   go_ret
   rw [HI.out];exact⟨rfl,rfl⟩
def zkL (x:Reg):Bool:=inB x.top 0 14&&inB x.height 1 (15-x.top)&&inB x.left 0 31&&inB x.width 1 (32-x.left)
def ep (x:Reg):Int:=if (!cU x.name)=true then 5 else if (!zkL x)=true then 2 else if x.align<1∨3<x.align then 3 else 0
theorem zam (x:Reg)(w:fm)(hf:x.fits) :
 ft Tryz.prog 152 #[.agg x.enc.toArray] w fun e w'=>e=.returned (.int .i64 (ep x))∧fE w.heap.size w w':=by
 obtain⟨nm,top,height,left,width,align,bottom⟩:=x
 obtain⟨hs,hT,hH,hL,hW,ha0,ha1⟩:=hf
 simp only [i64] at hs hT hH hL hW ha0 ha1
 simp only [Reg.enc]
 generalize hG:ep ⟨nm,top,height,left,width,align,bottom⟩=G
 simp only [ep,zkL] at hG
 have HG:=h_ hG
 clear hG
 rcases(show(¬ (0≤top∧top≤14))∨((0≤top∧top≤14)∧¬ (0≤left∧left≤31))∨((0≤top∧top≤14)∧(0≤left∧left≤31)) by omega) with h|⟨⟨t0,t1⟩,h⟩|⟨⟨t0,t1⟩,⟨l0,l1⟩⟩
 case' inl =>
  have i1:=zgI h
 case' inr.inl =>
  have i1:=zez t0 t1
  have i3:=zgI h
 case' inr.inr =>
  have i1:=zez t0 t1
  have i3:=zez l0 l1
 all_goals
  go_enter Tryz.func152,Tryz.ntmps152
  go_wp2_with (first
   | (go_at_call 150;refine(fe _ _ (by assumption)).mono ?_;rintro e w2 ⟨rfl,rfl⟩)
   | (go_at_call 209;refine(zhC _ _ _ _).mono ?_;rintro e w2 ⟨rfl,rfl⟩))
  all_goals
   go_ret
   refine⟨ag ?_,(fF _ _).alloc (fG _) _⟩
   rw [←HG.out]
   repeat (first
    | rfl
    | (refine zh2 ?_ ?_;focus (first|assumption|omega|(simp only [*];decide)|(simp_all<;>fail)))
    | (refine val_neg ?_ ?_;focus (first|omega|(simp only [*];decide)|(simp_all<;>fail))))
def af {α:Type} (k:Nat)(enc:α→List fp)(Ok:fm→α→Prop)(w:fm)(a:Option Addr)(xs:List α):Prop :=
 xs=[]∨∃ b off,a=some ⟨b,off,none⟩∧b<w.heap.size∧∀ i x,xs[i]? =some x→(∀ j v,(enc x)[j]? =some v→w.cell? ⟨b,off+i*k+j,none⟩=some v)∧Ok w x
def Flat {α:Type} (_:fm)(_:α):Prop:=True
theorem af.at_ {α:Type} {k:Nat} {enc:α→List fp} {Ok:fm→α→Prop} {w:fm} {a:Option Addr} {xs:List α} (h:af k enc Ok w a xs) {i:Nat} (hi:i<xs.length) :
 ∃ b off x,a=some ⟨b,off,none⟩∧b<w.heap.size∧xs[i]? =some x∧(∀ j v,(enc x)[j]? =some v→w.cell? ⟨b,off+i*k+j,none⟩=some v)∧Ok w x:=by
 rcases h with rfl|⟨b,off,rfl,hb,hc⟩
 · simp at hi
 · have:=hc i xs[i] (fR hi)
   exact⟨b,off,xs[i],rfl,hb,fR hi,this.1,this.2⟩
def Keeps {α:Type} (Ok:fm→α→Prop):Prop:=∀ (w w':fm) (x:α),fE w.heap.size w w'→Ok w x→Ok w' x
theorem Flat.keeps {α:Type}:Keeps (Flat (α:=α)):=fun _ _ _ _ _=>trivial
theorem af.keeps {α:Type} {k:Nat} {enc:α→List fp} {Ok:fm→α→Prop} (hk:Keeps Ok)(w w':fm)(a:Option Addr)(xs:List α)(hb:fE w.heap.size w w')(h:af k enc Ok w a xs):af k enc Ok w' a xs:=by
 rcases h with h|⟨b,off,rfl,hlt,hc⟩
 · exact .inl h
 · refine .inr ⟨b,off,rfl,Nat.lt_of_lt_of_le hlt hb.size,fun i x hx=>⟨fun j v hv=>?_,hk w w' x hb (hc i x hx).2⟩⟩
   rw [hb.cell (p:=⟨b,off+i*k+j,none⟩) hlt]
   exact(hc i x hx).1 j v hv
def Regs (w:fm)(a:Option Addr)(xs:List Reg):Prop:=af 7 Reg.enc Flat w a xs
theorem Regs.later {w w':fm} {a:Option Addr} {xs:List Reg} (h:Regs w a xs)(hb:fE w.heap.size w w'):Regs w' a xs:=af.keeps Flat.keeps w w' a xs hb h
def zan:Reg:=⟨⟨#[]⟩,11,4,0,32,2,true⟩
def bB:Reg:=⟨⟨#[]⟩,0,0,0,0,0,false⟩
theorem za4 (w:fm):ft Tryz.prog 210 #[] w fun e w'=>e=.returned (.agg zan.enc.toArray)∧fE w.heap.size w w':=by
 simp only [zan,Reg.enc]
 go_enter Tryz.func210,Tryz.ntmps210
 go_wp2
 exact fw (v:=.agg #[.string ⟨#[]⟩,.int .i64 11,.int .i64 4,.int .i64 0,.int .i64 32,.int .u8 2,.bool true]) (by simp [results,Tryz.results210,go_sem]) rfl ⟨rfl,(fF _ _).alloc (fG _) _⟩
def ziF (x:Reg):Bool:=(x.name.toList==[])&&(x.top==11)&&(x.height==4)&&(x.left==0)&&(x.width==32)&&(x.align==2)&&(x.bottom==true)
def zbh (x:Reg):Bool:=ziF x||ep x==0
theorem zia (x:Reg)(w:fm):(binOp .eql 44 (.agg x.enc.toArray) (.agg zan.enc.toArray)).run Tryz.prog w=.ok (.bool (ziF x)) w:=by
 simp [go_sem,Reg.enc,zan,ziF]
 repeat' split
 all_goals simp_all
theorem zbC (x:Reg)(w:fm)(hf:x.fits) :
 ft Tryz.prog 216 #[.agg x.enc.toArray] w fun e w'=>e=.returned (.bool (zbh x))∧fE w.heap.size w w':=by
 have hU:zbh x=(ziF x||ep x==0):=rfl
 have hq:=zia x
 have hc:=fun w=>zam x w hf
 have hd:=fun w=>za4 w
 obtain⟨nm,top,height,left,width,align,bottom⟩:=x
 generalize ep ⟨nm,top,height,left,width,align,bottom⟩=E at *
 generalize zbh ⟨nm,top,height,left,width,align,bottom⟩=U at *
 generalize hD:ziF ⟨nm,top,height,left,width,align,bottom⟩=D at *
 simp only [Reg.enc,zan] at hq hc hd ⊢
 have HC:=h_ hc;have HD:=h_ hd
 clear hc hd hf hD
 generalize hcs:#[fK nm,.int .i64 top,.int .i64 height,.int .i64 left,.int .i64 width,.int .u8 align,.bool bottom]=cs
 have f0:=ab w cs 44 0 (.string nm) (by rw [←hcs];rfl)
 have f1:=ab w cs 44 1 (.int .i64 top) (by rw [←hcs];rfl)
 have f2:=ab w cs 44 2 (.int .i64 height) (by rw [←hcs];rfl)
 have f3:=ab w cs 44 3 (.int .i64 left) (by rw [←hcs];rfl)
 have f4:=ab w cs 44 4 (.int .i64 width) (by rw [←hcs];rfl)
 have f5:=ab w cs 44 5 (.int .u8 align) (by rw [←hcs];rfl)
 have f6:=ab w cs 44 6 (.bool bottom) (by rw [←hcs];rfl)
 have HB:=h_ (fun(w1:fm) (h:fE (w.heap.size+1) (w.alloc (.cells cs 44)) w1)=>aH h)
 have hb0:fE (w.heap.size+1) (w.alloc (.cells cs 44)) (w.alloc (.cells cs 44)).drew:=(fF _ _).drew
 have hsz:(w.alloc (.cells cs 44)).heap.size=w.heap.size+1:=fL _ _
 generalize hW0:w.alloc (.cells cs 44)=W0 at *
 have HW0:=h_ hW0
 have HSZ:=h_ hsz
 clear hW0 hsz
 go_enter Tryz.func216,Tryz.ntmps216
 subst hcs
 go_wp2_with fail
 rw [HW0.out]
 cases D
 · cases hE:E==0
   all_goals
    rw [hE] at hU
    have HU:=h_ hU
    clear hU
    go_region_with (first
     | (go_at_call 210;refine(HD.out _).mono ?_;rintro e w1 ⟨rfl,hb1⟩;replace hb1:fE (w.heap.size+1) W0 w1:=hb0.trans (hb1.mono (by have:=hb0.size;rw [HSZ.out] at this;exact this)))
     | (go_at_call 152;refine(HC.out _).mono ?_;rintro e w2 ⟨rfl,hb2⟩;replace hb2:fE (w.heap.size+1) W0 w2:=hb1.trans (hb2.mono (by have:=hb1.size;rw [HSZ.out] at this;exact this))))
    all_goals
     go_wp2_with fail
     go_ret
     rw [HU.out]
     exact⟨rfl,HB.out _ hb2⟩
 · have HU:=h_ hU
   clear hU
   go_region_with (first
    | (go_at_call 210;refine(HD.out _).mono ?_;rintro e w1 ⟨rfl,hb1⟩;replace hb1:fE (w.heap.size+1) W0 w1:=hb0.trans (hb1.mono (by have:=hb0.size;rw [HSZ.out] at this;exact this))))
   all_goals
    go_wp2_with fail
    go_ret
    rw [HU.out]
    exact⟨rfl,HB.out _ hb1⟩
def zbt (nm:ByteArray):List Reg→Reg × Bool
 | []=>(bB,false)
 | x::l=>if x.name.toList==nm.toList then (x,true) else zbt nm l
def zbs (xs:List Reg)(nm:ByteArray):Reg × Bool:=if nm.toList=[] then (zan,true) else zbt nm xs
theorem zdk (nm:ByteArray)(xs:List Reg)(k:Nat)(x:Reg)(hx:xs[k]? =some x)(h:(x.name.toList==nm.toList)=true):zbt nm (xs.drop k)=(x,true):=by
 have hk:k<xs.length:=(fN.1 hx).1
 have e:xs[k]=x:=(fN.1 hx).2
 rw [fO hk,e,zbt,if_pos h]
theorem zeA (nm:ByteArray)(xs:List Reg)(k:Nat)(x:Reg)(hx:xs[k]? =some x)(h:(x.name.toList==nm.toList)=false):zbt nm (xs.drop k)=zbt nm (xs.drop (k+1)):=by
 have hk:k<xs.length:=(fN.1 hx).1
 have e:xs[k]=x:=(fN.1 hx).2
 rw [fO hk,e,zbt,if_neg (by simp [h])]
theorem ct (w:fm)(cs:Array fp)(t:fD)(j:Nat)(w':fm)(hb:fE (w.heap.size+1) (w.alloc (.cells cs t)) w'):w'.frozen? ⟨w.heap.size,j,none⟩=false:=by
 rw [hb.frozen (p:=⟨w.heap.size,j,none⟩) (by simp)]
 exact frozen_of_row _ _ j cs t (fB w _)
def zeO (r:Reg × Bool)(w:fm)(e:Ending)(w':fm):Prop:=e=.returned (.tuple #[.agg r.1.enc.toArray,.bool r.2])∧fE w.heap.size w w'
structure zeJ (b:Nat)(w:fm):Prop where
 c0:w.cell? ⟨b,0,none⟩=some (.string ⟨#[]⟩)
 c1:w.cell? ⟨b,1,none⟩=some (.int .i64 0)
 c2:w.cell? ⟨b,2,none⟩=some (.int .i64 0)
 c3:w.cell? ⟨b,3,none⟩=some (.int .i64 0)
 c4:w.cell? ⟨b,4,none⟩=some (.int .i64 0)
 c5:w.cell? ⟨b,5,none⟩=some (.int .u8 0)
 c6:w.cell? ⟨b,6,none⟩=some (.bool false)
 z0:w.frozen? ⟨b,0,none⟩=false
 z1:w.frozen? ⟨b,1,none⟩=false
 z2:w.frozen? ⟨b,2,none⟩=false
 z3:w.frozen? ⟨b,3,none⟩=false
 z4:w.frozen? ⟨b,4,none⟩=false
 z5:w.frozen? ⟨b,5,none⟩=false
 z6:w.frozen? ⟨b,6,none⟩=false
def zeroCells:Array fp:=#[.string ⟨#[]⟩,.int .i64 0,.int .i64 0,.int .i64 0,.int .i64 0,.int .u8 0,.bool false]
theorem zeJ.of (w w':fm)(hb:fE (w.heap.size+1) (w.alloc (.cells zeroCells 44)) w'):zeJ w.heap.size w' :=
 ⟨ab w _ _ 0 _ rfl w' hb,ab w _ _ 1 _ rfl w' hb,ab w _ _ 2 _ rfl w' hb,ab w _ _ 3 _ rfl w' hb,ab w _ _ 4 _ rfl w' hb,ab w _ _ 5 _ rfl w' hb,ab w _ _ 6 _ rfl w' hb,
  ct w _ _ 0 w' hb,ct w _ _ 1 w' hb,ct w _ _ 2 w' hb,ct w _ _ 3 w' hb,ct w _ _ 4 w' hb,ct w _ _ 5 w' hb,ct w _ _ 6 w' hb⟩
theorem el {w w':fm} {b:Nat} (hb:fE w.heap.size w w')(h:w.heap.size≤b)(v0 v1 v2 v3 v4 v5 v6:fp) :
 fE w.heap.size w (((((((w'.setCell ⟨b,0,none⟩ v0).setCell ⟨b,1,none⟩ v1).setCell ⟨b,2,none⟩ v2).setCell ⟨b,3,none⟩ v3).setCell ⟨b,4,none⟩ v4).setCell ⟨b,5,none⟩ v5).setCell ⟨b,6,none⟩ v6) :=
 ((((((hb.setCell h _).setCell h _).setCell h _).setCell h _).setCell h _).setCell h _).setCell h _
theorem zby {w w':fm} {b:Nat} (hb:fE w.heap.size w w')(h:w.heap.size≤b)(v0 v1 v2 v3 v4 v5 v6:fp)(o:Obj) :
 fE w.heap.size w ((((((((w'.setCell ⟨b,0,none⟩ v0).setCell ⟨b,1,none⟩ v1).setCell ⟨b,2,none⟩ v2).setCell ⟨b,3,none⟩ v3).setCell ⟨b,4,none⟩ v4).setCell ⟨b,5,none⟩ v5).setCell ⟨b,6,none⟩ v6).alloc o) :=
 (el hb h v0 v1 v2 v3 v4 v5 v6).alloc (el hb h v0 v1 v2 v3 v4 v5 v6).size o
theorem ziL (a:Option Addr)(cap:Nat)(xs:List Reg)(nm:ByteArray)(w:fm)(hm:nm.toList=[]) :
 ft Tryz.prog 153 #[.slice a xs.length cap,.string nm] w (zeO (zbs xs nm) w):=by
 have hF:zbs xs nm=(zan,true):=by rw [zbs,if_pos hm]
 rw [hF]
 have HD:=h_ (fun w=>za4 w)
 clear hF
 go_enter Tryz.func153,Tryz.ntmps153
 go_wp2_with fail
 refine(HD.out _).mono ?_
 rintro e w1 ⟨rfl,hb1⟩
 rw [fL] at hb1
 obtain⟨c0,c1,c2,c3,c4,c5,c6,z0,z1,z2,z3,z4,z5,z6⟩:=zeJ.of w w1 hb1
 have HB:=h_ (aH hb1)
 have hlt:w.heap.size<w1.heap.size:=by have:=hb1.size;rw [fL] at this;omega
 clear hb1 HD
 simp only [zan,Reg.enc]
 go_wp2_with fail
 exact fw (v:=.tuple #[.agg #[.string ⟨#[]⟩,.int .i64 11,.int .i64 4,.int .i64 0,.int .i64 32,.int .u8 2,.bool true],.bool true]) (by simp [results,Tryz.results153,go_sem, *]) rfl ⟨rfl,el HB.out (fG _) _ _ _ _ _ _ _⟩
theorem below_alloc1 {W0 wr:fm} {B:Nat} (h:fE B W0 wr)(hB:B≤W0.heap.size)(o:Obj):fE B W0 (wr.alloc o):=h.alloc (fI hB h.size) o
theorem ziK (a:Option Addr)(cap:Nat)(xs:List Reg)(nm:ByteArray)(w:fm)(hR:Regs w a xs)(hm:¬ nm.toList=[])(hl:xs.length≤4000000) :
 ft Tryz.prog 153 #[.slice a xs.length cap,.string nm] w (zeO (zbs xs nm) w):=by
 have hF:zbs xs nm=zbt nm xs:=by rw [zbs,if_neg hm]
 rw [hF]
 generalize hG:zbt nm xs=G
 have H0:=h_ (show zbt nm (xs.drop 0)=G by rw [fQ];exact hG)
 have hsz:(w.alloc (.cells zeroCells 44)).heap.size=w.heap.size+1:=fL _ _
 have hme:nm.toList.isEmpty=false:=by simpa using hm
 clear hF hG
 go_enter Tryz.func153,Tryz.ntmps153
 go_wp2_with fail
 go_loopw [13] (fun i wr=>∃ k:Nat,k≤xs.length∧i=.int .i64 k∧zbt nm (xs.drop k)=G∧fE (w.heap.size+1) (w.alloc (.cells zeroCells 44)) wr) (fun i _=>xs.length-(intOf i).toNat)
 case atStart=>exact⟨0,by omega,rfl,H0.out,fF _ _⟩
 case round =>
  obtain⟨k,hk,rfl,hp,hb⟩:=hrel
  have hbw:=aH hb
  obtain⟨c0,c1,c2,c3,c4,c5,c6,z0,z1,z2,z3,z4,z5,z6⟩:=zeJ.of w wr hb
  have hlt0:w.heap.size<wr.heap.size:=by have:=hb.size;rw [hsz] at this;omega
  by_cases hlt:k<xs.length
  · obtain⟨b,off,x,rfl,hbl,hx,hc,_⟩:=(hR.later hbw).at_ hlt
    cases he:x.name.toList==nm.toList
    · have hP:=zeA nm xs k x hx he
      rw [hP] at hp
      obtain⟨xn,xt,xh,xl,xw,xa,xb⟩:=x
      have d0:=hc 0 _ rfl;have d1:=hc 1 _ rfl;have d2:=hc 2 _ rfl;have d3:=hc 3 _ rfl;have d4:=hc 4 _ rfl;have d5:=hc 5 _ rfl;have d6:=hc 6 _ rfl
      simp only [fH] at he d0 d1 d2 d3 d4 d5 d6
      have HP:=h_ hp
      have HB:=h_ (fun o=>below_alloc1 hb (by rw [hsz];omega) o)
      clear hp hP hc hx H0 c0 c1 c2 c3 c4 c5 c6 z0 z1 z2 z3 z4 z5 z6 hsz hR hb hbw
      go_wp2_with fail
      go_roundw
      case rel=>exact⟨k+1,by omega,by go_num,HP.out,HB.out _⟩
      case measure=>simp [intOf];omega
    · have hP:=zdk nm xs k x hx he
      rw [hP] at hp
      obtain⟨xn,xt,xh,xl,xw,xa,xb⟩:=x
      have d0:=hc 0 _ rfl;have d1:=hc 1 _ rfl;have d2:=hc 2 _ rfl;have d3:=hc 3 _ rfl;have d4:=hc 4 _ rfl;have d5:=hc 5 _ rfl;have d6:=hc 6 _ rfl
      simp only [fH] at he d0 d1 d2 d3 d4 d5 d6
      have HP:=h_ hp
      have HB:=h_ hbw
      clear hp hP hc hx H0 hsz hR hb hbw
      go_wp2_with fail
      exact fw (v:=.tuple #[.agg #[.string xn,.int .i64 xt,.int .i64 xh,.int .i64 xl,.int .i64 xw,.int .u8 xa,.bool xb],.bool true]) (by simp [results,Tryz.results153,go_sem, *]) rfl
       ⟨by rw [←HP.out];rfl,zby HB.out (fG _) _ _ _ _ _ _ _ _⟩
  · obtain rfl:k=xs.length:=by omega
    rw [fP] at hp
    have HP:=h_ hp
    have HB:=h_ hbw
    clear hp H0 hsz hR hb hbw
    go_wp2_with fail
    exact fw (v:=.tuple #[.agg #[.string ⟨#[]⟩,.int .i64 0,.int .i64 0,.int .i64 0,.int .i64 0,.int .u8 0,.bool false],.bool false]) (by simp [results,Tryz.results153,go_sem, *]) rfl
     ⟨by rw [←HP.out];rfl,el HB.out (fG _) _ _ _ _ _ _ _⟩
theorem zhD (a:Option Addr)(cap:Nat)(xs:List Reg)(nm:ByteArray)(w:fm)(hR:Regs w a xs)(hl:xs.length≤4000000) :
 ft Tryz.prog 153 #[.slice a xs.length cap,.string nm] w (zeO (zbs xs nm) w):=by
 by_cases hm:nm.toList=[]
 · exact ziL a cap xs nm w hm
 · exact ziK a cap xs nm w hR hm hl
def cZ (prev:Option ByteArray)(x:Reg):Int :=
 if (ep x != 0)=true then ep x else match prev with
  | none=>0
  | some p=>if (x.name.toList==p.toList)=true then 7 else if Op.bytesLess x.name.toList p.toList=true then 8 else 0
def cE:Option ByteArray→List Reg→Int
 | _,[]=>0
 | prev,x::l=>if (cZ prev x != 0)=true then cZ prev x else cE (some x.name) l
def dK (xs:List Reg):Int:=if 16<xs.length then 9 else cE none xs
def dQ (xs:List Reg):Nat→Option ByteArray
 | 0=>none
 | k+1=>(xs[k]?).map Reg.name
theorem zew (xs:List Reg)(k:Nat)(x:Reg)(hx:xs[k]? =some x)(prev:Option ByteArray)(h:cZ prev x=0):cE prev (xs.drop k)=cE (dQ xs (k+1)) (xs.drop (k+1)):=by
 have hk:k<xs.length:=(fN.1 hx).1
 have e:xs[k]=x:=(fN.1 hx).2
 rw [fO hk,e,cE,h]
 simp [dQ,hx]
theorem zeu (xs:List Reg)(k:Nat)(x:Reg)(hx:xs[k]? =some x)(prev:Option ByteArray)(h:(cZ prev x != 0)=true):cE prev (xs.drop k)=cZ prev x:=by
 have hk:k<xs.length:=(fN.1 hx).1
 have e:xs[k]=x:=(fN.1 hx).2
 rw [fO hk,e,cE,if_pos h]
theorem ziA (a:Option Addr)(cap:Nat)(xs:List Reg)(w:fm)(hn:16<xs.length) :
 ft Tryz.prog 86 #[.slice a xs.length cap] w fun e w'=>e=.returned (.int .i64 (dK xs))∧fE w.heap.size w w':=by
 rw [dK,if_pos hn]
 have hn':(16:Int)<(xs.length:Int):=by omega
 go_enter Tryz.func86,Tryz.ntmps86
 go_wp2_with fail
 go_ret
 exact⟨rfl,fF _ _⟩
theorem zjA (a:Option Addr)(cap:Nat)(xs:List Reg)(w:fm)(hR:Regs w a xs)(hf:∀ x∈xs,x.fits)(hn:xs.length≤16) :
 ft Tryz.prog 86 #[.slice a xs.length cap] w fun e w'=>e=.returned (.int .i64 (dK xs))∧fE w.heap.size w w':=by
 rw [dK,if_neg (by omega)]
 generalize hG:cE none xs=G
 have H0:=h_ (show cE (dQ xs 0) (xs.drop 0)=G by rw [fQ];exact hG)
 have hn2:decide ((16:Int)<(xs.length:Int))=false:=by simp;omega
 clear hG
 go_enter Tryz.func86,Tryz.ntmps86
 go_wp2_with fail
 go_loopw [11] (fun i wr=>∃ k:Nat,k≤xs.length∧i=.int .i64 k∧cE (dQ xs k) (xs.drop k)=G∧fE w.heap.size w wr) (fun i _=>xs.length-(intOf i).toNat)
 case atStart=>exact⟨0,by omega,rfl,H0.out,fF _ _⟩
 case round =>
  obtain⟨k,hk,rfl,hp,hb⟩:=hrel
  by_cases hlt:k<xs.length
  · obtain⟨b,off,x,rfl,hbl,hx,hc,_⟩:=(hR.later hb).at_ hlt
    have hfx:=hf x (List.mem_of_getElem? hx)
    have HC:=h_ (fun w=>zam x w hfx)
    have hB1:∀ (o:Obj) (w1:fm),fE (wr.heap.size+1) (wr.alloc o) w1→fE w.heap.size w w1:=fun o w1 h=>(hb.alloc hb.size o).trans (h.mono (by have:=hb.size;omega))
    have HB1:=h_ hB1
    have HN:=h_ (zew xs k x hx (dQ xs k))
    have HS:=h_ (zeu xs k x hx (dQ xs k))
    have HP:=h_ hp
    have hRr:=hR.later hb
    obtain⟨xn,xt,xh,xl,xw,xa,xb⟩:=x
    have d0:=hc 0 _ rfl;have d1:=hc 1 _ rfl;have d2:=hc 2 _ rfl;have d3:=hc 3 _ rfl;have d4:=hc 4 _ rfl;have d5:=hc 5 _ rfl;have d6:=hc 6 _ rfl
    simp only [fH] at d0 d1 d2 d3 d4 d5 d6
    cases hE:ep ⟨xn,xt,xh,xl,xw,xa,xb⟩ != 0
    · have hE0:ep ⟨xn,xt,xh,xl,xw,xa,xb⟩=0:=by simpa using hE
      have HE0:=h_ hE0
      simp only [Reg.enc] at HC
      rw [hE0] at HC
      clear hE hE0 hp hB1 hc
      rcases Nat.eq_zero_or_pos k with hk0|hk0
      · have hst:=h_ (show cZ (dQ xs k) ⟨xn,xt,xh,xl,xw,xa,xb⟩=0 by rw [hk0];simp [cZ,dQ,HE0.out])
        have hkd:decide (0<k)=false:=by simp;omega
        clear hRr hk0
        go_wp2_with (go_at_call 152;refine(HC.out _).mono ?_;rintro e w1 ⟨rfl,hb1⟩;simp only [fL] at hb1)
        go_quiet (fail)
        go_wp2_with fail
        go_quiet (fail)
        go_wp2_with fail
        go_roundw
        case rel=>exact⟨k+1,by omega,by go_num,by rw [←HN.out hst.out];exact HP.out,fu (HB1.out _ _ hb1) _⟩
        case measure=>simp [intOf];omega
      · obtain⟨b',off',y,hab,_,hy,hcy,_⟩:=hRr.at_ (show k-1<xs.length by omega)
        simp only [Option.some.injEq,Addr.mk.injEq,and_true] at hab
        obtain⟨rfl,rfl⟩:=hab
        obtain⟨yn,yt,yh,yl,yw,ya,yb⟩:=y
        have e0:=hcy 0 _ rfl
        simp only [fH] at e0
        have hpv:dQ xs k=some yn:=by
         obtain⟨j,rfl⟩:∃ j,k=j+1:=⟨k-1,by omega⟩
         simp only [Nat.add_sub_cancel] at hy
         simp [dQ,hy]
        have hst:cZ (dQ xs k) ⟨xn,xt,xh,xl,xw,xa,xb⟩=if (xn.toList==yn.toList)=true then 7 else if Op.bytesLess xn.toList yn.toList=true then 8 else 0:=by
         rw [hpv];simp [cZ,HE0.out]
        have hcell:∀ w1,fE (wr.heap.size+1) (wr.alloc (.cells #[.string xn,.int .i64 xt,.int .i64 xh,.int .i64 xl,.int .i64 xw,.int .u8 xa,.bool xb] 44)) w1→w1.cell? ⟨wr.heap.size,0,none⟩=some (.string xn)∧w1.cell? ⟨b,off+(k-1)*7,none⟩=some (.string yn):=fun w1 h =>
         ⟨ab wr _ _ 0 _ rfl w1 h,by
          rw [h.cell (p:=⟨b,off+(k-1)*7,none⟩) (by simp;omega),fm.cell?_alloc_lt _ _ _ (by simpa using hbl)]
          exact e0⟩
        have HCELL:=h_ hcell
        have hkd:decide (0<k)=true:=by simp;omega
        have hk1:1≤k:=hk0
        have hkz:(1:Int)≤(k:Int):=by omega
        have hkl:(k:Int)-1<(xs.length:Int):=by omega
        have hwr:IntKind.i64.wrap ((k:Int)-1)=(k:Int)-1:=IntWalk.i64_in _ (by omega)
        have hkn:((k:Int)-1).toNat=k-1:=by omega
        clear hcell hpv hRr hcy hy e0 hk0
        rcases h1:xn.toList==yn.toList with _|_
        · rcases h2:Op.bytesLess xn.toList yn.toList with _|_
          · rw [h1,h2,if_neg (by decide),if_neg (by decide)] at hst
            have HST:=h_ hst
            clear hst
            go_wp2_with (go_at_call 152;refine(HC.out _).mono ?_;rintro e w1 ⟨rfl,hb1⟩;simp only [fL] at hb1;have hq1:=(HCELL.out _ hb1).1;have hq2:=(HCELL.out _ hb1).2)
            go_quiet (fail)
            go_wp2_with fail
            go_quiet (fail)
            go_wp2_with fail
            go_roundw
            case rel=>exact⟨k+1,by omega,by go_num,by rw [←HN.out HST.out];exact HP.out,fu (HB1.out _ _ hb1) _⟩
            case measure=>simp [intOf];omega
          · rw [h1,h2,if_neg (by decide),if_pos rfl] at hst
            have HST:=h_ hst
            clear hst
            go_wp2_with (go_at_call 152;refine(HC.out _).mono ?_;rintro e w1 ⟨rfl,hb1⟩;simp only [fL] at hb1;have hq1:=(HCELL.out _ hb1).1;have hq2:=(HCELL.out _ hb1).2)
            go_quiet (fail)
            go_wp2_with fail
            go_quiet (fail)
            go_wp2_with fail
            go_ret
            exact⟨ag (by rw [←HP.out,HS.out (by rw [HST.out];rfl),HST.out]),fu (fu (HB1.out _ _ hb1) _) _⟩
        · rw [h1,if_pos rfl] at hst
          have HST:=h_ hst
          clear hst
          go_wp2_with (go_at_call 152;refine(HC.out _).mono ?_;rintro e w1 ⟨rfl,hb1⟩;simp only [fL] at hb1;have hq1:=(HCELL.out _ hb1).1;have hq2:=(HCELL.out _ hb1).2)
          go_quiet (fail)
          go_wp2_with fail
          go_ret
          exact⟨ag (by rw [←HP.out,HS.out (by rw [HST.out];rfl),HST.out]),fu (HB1.out _ _ hb1) _⟩
    · have hst:cZ (dQ xs k) ⟨xn,xt,xh,xl,xw,xa,xb⟩=ep ⟨xn,xt,xh,xl,xw,xa,xb⟩:=by unfold cZ;exact if_pos hE
      have HST:=h_ hst
      simp only [Reg.enc] at HC
      generalize ep ⟨xn,xt,xh,xl,xw,xa,xb⟩=E at *
      clear hst hp hB1 hc hRr hfx hx
      go_wp2_with (go_at_call 152;refine(HC.out _).mono ?_;rintro e w1 ⟨rfl,hb1⟩;simp only [fL] at hb1)
      go_ret
      exact⟨ag (by rw [←HP.out,HS.out (by rw [HST.out];exact hE),HST.out]),HB1.out _ _ hb1⟩
  · obtain rfl:k=xs.length:=by omega
    rw [fP] at hp
    have HP:=h_ hp
    clear hp H0
    go_wp2_with fail
    go_ret
    exact⟨ag (by rw [←HP.out];cases dQ xs xs.length<;>rfl),hb⟩
theorem zhx (a:Option Addr)(cap:Nat)(xs:List Reg)(w:fm)(hR:Regs w a xs)(hf:∀ x∈xs,x.fits) :
 ft Tryz.prog 86 #[.slice a xs.length cap] w fun e w'=>e=.returned (.int .i64 (dK xs))∧fE w.heap.size w w':=by
 by_cases hn:16<xs.length
 · exact ziA a cap xs w hn
 · exact zjA a cap xs w hR hf (by omega)
def Ints (w:fm)(a:Option Addr)(zs:List Int):Prop:=af 1 (fun z=>[fp.int .i64 z]) Flat w a zs
theorem Ints.later {w w':fm} {a:Option Addr} {xs:List Int} (h:Ints w a xs)(hb:fE w.heap.size w w'):Ints w' a xs:=af.keeps Flat.keeps w w' a xs hb h
def bW (width:Int):List Int→Int
 | []=>0
 | n::l=>if n<0 then 2 else if width<n then 11 else bW width l
def cD (x:Reg)(zs:List Int):Int:=if (!zbh x)=true then 1 else if x.height<zs.length then 9 else bW x.width zs
theorem zbH (width:Int)(zs:List Int)(k:Nat)(z:Int)(hz:zs[k]? =some z):bW width (zs.drop k)=if z<0 then 2 else if width<z then 11 else bW width (zs.drop (k+1)):=by
 have hk:k<zs.length:=(fN.1 hz).1
 have e:zs[k]=z:=(fN.1 hz).2
 rw [fO hk,e,bW]
theorem Tryz.info280:(Tryz.prog.info? 280).map (fun i=>(i.zero,i.size,i.bytes))=some (some (.agg #[.int .i64 0,.int .i64 0,.int .i64 0]),3,24):=by kernel_rfl
theorem za7 (w:fm)(cs:Array fp)(t:fD):∀ j u,cs.toList[j]? =some u→(w.alloc (.cells cs t)).cell? ((⟨w.heap.size,0,none⟩:Addr).add j)=some u:=by
 intro j u hu
 have hadd:(⟨w.heap.size,0,none⟩:Addr).add j=⟨w.heap.size,j,none⟩:=by unfold Addr.add;split<;>simp_all
 rw [hadd,cell_of_row _ _ j cs t (0,0) (fB w _)]
 simpa using hu
theorem aP {P:Program} (w:fm)(cs:Array fp) {ops:Array Oper} {rest:List Oper} {o:Oper} {a:Act} {Q:Exit→Act→fm→Prop} (hgd:o.guard=none)(s x:Operand)(t:fD)
 (ho:o.op=.call { callee:=.builtin .append,args:=#[s,x],argTypes:=#[t,t] })
 (base:Nat) (e:fD) (i:TypeInfo) (z:fp) (size bytes:Nat) (ht:P.underlying t=some (.slice e)) (hi:P.info? e=some i) (hz:i.zero=some z)
 (hsize:i.size=size) (hby:i.bytes=bytes) (hzs:z.cells.size=size) (hsz:0<size)
 (v:fp) (n:Nat) (xs:List fp) (hs:a.eval s=v) (hown:w.ownsRow base e size v n xs) (g:Nat) (hx:a.eval x=.slice (some ⟨g,0,none⟩) 1 1) (hg:g=w.heap.size)
 (hcs:cs.size=size) (h1:∀ u∈cs.toList,u.oneCell'=true) (h63:n+1≤maxLen) (hbytes:(n+1)*bytes≤140737488355328) (hbase:base≤w.heap.size)
 (h:∀ v' w2,w2.ownsRow base e size v' (n+1) (xs++cs.toList)→(w.alloc (.cells cs e)).grownBy w2 v.ownBlock→wpList P ops Q rest (a.put o.dst v') w2):wpList P ops Q (o::rest) a (w.alloc (.cells cs e)):=by
 subst hg
 refine wpList_append_own _ hgd s x t ho base e i z size bytes ht hi hz hsize hby hzs hsz v n xs hs (hown.alloc _) ⟨w.heap.size,0,none⟩ 1 1 cs.toList hx (by simpa using hcs) (za7 w cs e) h1 h63 hbytes (by simp;omega) ?_
 intro v' w2 h2 h3 _
 exact h v' w2 h2 h3
def zc1 (E:Int)(w:fm)(e:Ending)(w':fm):Prop:=∃ v,e=.returned (.tuple #[v,.int .i64 E])∧fE w.heap.size w w'
theorem dJ {k:IntKind} {v:fp} {a b:Int} (h:a=b):Ending.returned (.tuple #[v,.int k a])=.returned (.tuple #[v,.int k b]):=by rw [h]
def zgp (b:Nat)(W0:fm)(k:Nat)(v:fp)(wr:fm):Prop:=(∃ xs,wr.ownsRow b 280 3 v k xs)∧fE b W0 wr
theorem zgp.step {b k:Nat} {W0 wr w2:fm} {v v':fp} {o o':Obj} {xs:List fp} (h:zgp b W0 k v wr)(hW:b≤W0.heap.size)(hown:w2.ownsRow b 280 3 v' (k+1) xs)
 (hg:((wr.alloc o).alloc o').grownBy w2 v.ownBlock):zgp b W0 (k+1) v' w2:=by
 obtain⟨⟨ys,ho⟩,hb⟩:=h
 have h1:b≤wr.heap.size:=fI hW hb.size
 exact⟨⟨xs,hown⟩,((hb.alloc h1 o).alloc (by simp;omega) o').grown hg (by simp;omega) (fun j hj=>(ho.lt j hj).1)⟩
theorem zfT (x:Reg)(a:Option Addr)(cap:Nat)(zs:List Int)(w:fm)(hf:x.fits)(hI:Ints w a zs)(hl:zs.length≤4000000)(hB:x.bottom=false) :
 ft Tryz.prog 157 #[.agg x.enc.toArray,.slice a zs.length cap] w (zc1 (cD x zs) w):=by
 have hU:=fun w=>zbC x w hf
 generalize hG:cD x zs=G
 unfold cD at hG
 obtain⟨nm,top,height,left,width,align,bottom⟩:=x
 obtain⟨_,hT,hH,hL,hW,ha0,ha1⟩:=hf
 simp only [i64] at hT hH hL hW ha0 ha1
 simp only at hB
 subst hB
 generalize zbh ⟨nm,top,height,left,width,align,false⟩=U at *
 simp only [Reg.enc] at hU hG ⊢
 have HU:=h_ hU
 have HG:=h_ hG
 clear hU hG
 rcases(show U=false∨(U=true∧height<zs.length∧decide (height<(zs.length:Int))=true)∨(U=true∧zs.length≤height∧decide (height<(zs.length:Int))=false) by cases U<;>simp<;>omega) with rfl|⟨rfl,hlh,hld⟩|⟨rfl,hlh,hld⟩
 all_goals
  generalize hcs:#[fK nm,.int .i64 top,.int .i64 height,.int .i64 left,.int .i64 width,.int .u8 align,.bool false]=cs
  have f0:=ab w cs 44 0 (.string nm) (by rw [←hcs];rfl)
  have f1:=ab w cs 44 1 (.int .i64 top) (by rw [←hcs];rfl)
  have f2:=ab w cs 44 2 (.int .i64 height) (by rw [←hcs];rfl)
  have f3:=ab w cs 44 3 (.int .i64 left) (by rw [←hcs];rfl)
  have f4:=ab w cs 44 4 (.int .i64 width) (by rw [←hcs];rfl)
  have f5:=ab w cs 44 5 (.int .u8 align) (by rw [←hcs];rfl)
  have f6:=ab w cs 44 6 (.bool false) (by rw [←hcs];rfl)
  have HB:=h_ (fun(w1:fm) (h:fE (w.heap.size+1) (w.alloc (.cells cs 44)) w1)=>aH h)
  have hb0:fE (w.heap.size+1) (w.alloc (.cells cs 44)) (w.alloc (.cells cs 44)):=fF _ _
  have hsz:(w.alloc (.cells cs 44)).heap.size=w.heap.size+1:=fL _ _
  generalize hW0:w.alloc (.cells cs 44)=W0 at *
  have HW0:=h_ hW0
  have HSZ:=h_ hsz
  clear hW0 hsz
  go_enter Tryz.func157,Tryz.ntmps157
  subst hcs
  go_wp2_with fail
  rw [HW0.out]
  refine(HU.out _).mono ?_
  rintro e w1 ⟨rfl,hb1⟩
  rw [HSZ.out] at hb1
  clear HW0
  go_wp2_with fail
 · go_ret2
   exact⟨.slice none 0 0,dJ (by rw [←HG.out,if_pos (by decide)]),HB.out _ hb1⟩
 · go_ret2
   exact⟨.slice none 0 0,dJ (by rw [←HG.out,if_neg (by decide),if_pos hlh]),HB.out _ hb1⟩
 · obtain⟨i0,hi,hz0,hz1,hz2⟩:=fC Tryz.info280
   have HI:=h_ hi;have H0:=h_ hz0;have H1:=h_ hz1;have H2:=h_ hz2
   clear hi hz0 hz1 hz2
   have hp0:bW width (zs.drop 0)=G:=by
    rw [fQ,←HG.out,if_neg (by decide),if_neg (by omega)]
   have HP0:=h_ hp0
   clear hp0 HG
   go_loopw [7,34] (fun v i wr=>∃ k:Nat,k≤zs.length∧i=.int .i64 k∧bW width (zs.drop k)=G∧zgp (w.heap.size+1) W0 k v wr) (fun _ i _=>zs.length-(intOf i).toNat)
   case atStart=>exact⟨0,by omega,rfl,HP0.out,⟨[],fM _ _ _ _⟩,hb1⟩
   case round =>
    obtain⟨k,hk,rfl,hp,hGr⟩:=hrel
    have hbr:=hGr.2
    have hlt0:w.heap.size<wr.heap.size:=by have:=hbr.size;rw [HSZ.out] at this;omega
    by_cases hlt:k<zs.length
    · obtain⟨b,off,z,rfl,hbl,hz,hc,_⟩:=(hI.later (HB.out _ hbr)).at_ hlt
      have d0:=hc 0 _ rfl
      simp only [fH,fJ] at d0
      rw [zbH width zs k z hz] at hp
      have HP:=h_ hp
      clear hp hc hz HP0 hI
      rcases(show z<0∨(0≤z∧width<z)∨(0≤z∧z≤width) by omega) with h|⟨h,h'⟩|⟨h,h'⟩
      · go_wp2_with fail
        go_ret2
        exact⟨.slice none 0 0,dJ (by rw [←HP.out,if_pos h]),HB.out _ hbr⟩
      · go_wp2_with fail
        go_ret2
        exact⟨.slice none 0 0,dJ (by rw [←HP.out,if_neg (by omega),if_pos h']),HB.out _ hbr⟩
      · rw [if_neg (by omega),if_neg (by omega)] at HP
        have hal:(align=3∨align=2∨((align==3)=false∧(align==2)=false)):=by
         by_cases h3:align=3
         · exact .inl h3
         · by_cases h2:align=2
           · exact .inr (.inl h2)
           · exact .inr (.inr ⟨by simpa using h3,by simpa using h2⟩)
        rcases hal with rfl|rfl|⟨e3,e2⟩
        all_goals
         obtain⟨xs,hown⟩:=hGr.1
         go_wp2_with (at_builtin;refine aP _ _ rfl (.tmp 75) (.tmp 77) 226 rfl (w.heap.size+1) 280 i0 _ 3 24 Tryz.underlying226 HI.out H0.out H1.out H2.out rfl (by decide) _ _ _ rfl (hown.alloc _) _ rfl (by simp) rfl ?h1 ?h63 ?hb ?hbase ?_)
         case h1=>exact⟨rfl,rfl,rfl⟩
         case h63=>unfold maxLen;omega
         case hb=>omega
         case hbase=>simp;omega
         intro v' w2 hown' hgrow
         have R:=zgp.step hGr (by rw [HSZ.out];omega) hown' hgrow
         clear hown' hgrow hGr hown
         go_wp2_with fail
         go_roundw
         case rel=>exact⟨k+1,by omega,by go_num,HP.out,R⟩
         case measure=>simp [intOf];omega
    · obtain rfl:k=zs.length:=by omega
      rw [fP] at hp
      have HP:=h_ hp
      clear hp HP0
      go_wp2_with fail
      go_ret2
      exact⟨_,dJ (by rw [←HP.out];rfl),HB.out _ hbr⟩
theorem zhl (x:Reg)(a:Option Addr)(cap:Nat)(zs:List Int)(w:fm)(hf:x.fits)(hI:Ints w a zs)(hl:zs.length≤4000000)(hB:x.bottom=true) :
 ft Tryz.prog 157 #[.agg x.enc.toArray,.slice a zs.length cap] w (zc1 (cD x zs) w):=by
 have hU:=fun w=>zbC x w hf
 generalize hG:cD x zs=G
 unfold cD at hG
 obtain⟨nm,top,height,left,width,align,bottom⟩:=x
 obtain⟨_,hT,hH,hL,hW,ha0,ha1⟩:=hf
 simp only [i64] at hT hH hL hW ha0 ha1
 simp only at hB
 subst hB
 generalize zbh ⟨nm,top,height,left,width,align,true⟩=U at *
 simp only [Reg.enc] at hU hG ⊢
 have HU:=h_ hU
 have HG:=h_ hG
 clear hU hG
 rcases(show U=false∨(U=true∧height<zs.length∧decide (height<(zs.length:Int))=true)∨(U=true∧zs.length≤height∧decide (height<(zs.length:Int))=false) by cases U<;>simp<;>omega) with rfl|⟨rfl,hlh,hld⟩|⟨rfl,hlh,hld⟩
 all_goals
  generalize hcs:#[fK nm,.int .i64 top,.int .i64 height,.int .i64 left,.int .i64 width,.int .u8 align,.bool true]=cs
  have f0:=ab w cs 44 0 (.string nm) (by rw [←hcs];rfl)
  have f1:=ab w cs 44 1 (.int .i64 top) (by rw [←hcs];rfl)
  have f2:=ab w cs 44 2 (.int .i64 height) (by rw [←hcs];rfl)
  have f3:=ab w cs 44 3 (.int .i64 left) (by rw [←hcs];rfl)
  have f4:=ab w cs 44 4 (.int .i64 width) (by rw [←hcs];rfl)
  have f5:=ab w cs 44 5 (.int .u8 align) (by rw [←hcs];rfl)
  have f6:=ab w cs 44 6 (.bool true) (by rw [←hcs];rfl)
  have HB:=h_ (fun(w1:fm) (h:fE (w.heap.size+1) (w.alloc (.cells cs 44)) w1)=>aH h)
  have hb0:fE (w.heap.size+1) (w.alloc (.cells cs 44)) (w.alloc (.cells cs 44)):=fF _ _
  have hsz:(w.alloc (.cells cs 44)).heap.size=w.heap.size+1:=fL _ _
  generalize hW0:w.alloc (.cells cs 44)=W0 at *
  have HW0:=h_ hW0
  have HSZ:=h_ hsz
  clear hW0 hsz
  go_enter Tryz.func157,Tryz.ntmps157
  subst hcs
  go_wp2_with fail
  rw [HW0.out]
  refine(HU.out _).mono ?_
  rintro e w1 ⟨rfl,hb1⟩
  rw [HSZ.out] at hb1
  clear HW0
  go_wp2_with fail
 · go_ret2
   exact⟨.slice none 0 0,dJ (by rw [←HG.out,if_pos (by decide)]),HB.out _ hb1⟩
 · go_ret2
   exact⟨.slice none 0 0,dJ (by rw [←HG.out,if_neg (by decide),if_pos hlh]),HB.out _ hb1⟩
 · obtain⟨i0,hi,hz0,hz1,hz2⟩:=fC Tryz.info280
   have HI:=h_ hi;have H0:=h_ hz0;have H1:=h_ hz1;have H2:=h_ hz2
   clear hi hz0 hz1 hz2
   have hp0:bW width (zs.drop 0)=G:=by
    rw [fQ,←HG.out,if_neg (by decide),if_neg (by omega)]
   have HP0:=h_ hp0
   clear hp0 HG
   go_loopw [7,34] (fun v i wr=>∃ k:Nat,k≤zs.length∧i=.int .i64 k∧bW width (zs.drop k)=G∧zgp (w.heap.size+1) W0 k v wr) (fun _ i _=>zs.length-(intOf i).toNat)
   case atStart=>exact⟨0,by omega,rfl,HP0.out,⟨[],fM _ _ _ _⟩,hb1⟩
   case round =>
    obtain⟨k,hk,rfl,hp,hGr⟩:=hrel
    have hbr:=hGr.2
    have hlt0:w.heap.size<wr.heap.size:=by have:=hbr.size;rw [HSZ.out] at this;omega
    by_cases hlt:k<zs.length
    · obtain⟨b,off,z,rfl,hbl,hz,hc,_⟩:=(hI.later (HB.out _ hbr)).at_ hlt
      have d0:=hc 0 _ rfl
      simp only [fH,fJ] at d0
      rw [zbH width zs k z hz] at hp
      have HP:=h_ hp
      clear hp hc hz HP0 hI
      rcases(show z<0∨(0≤z∧width<z)∨(0≤z∧z≤width) by omega) with h|⟨h,h'⟩|⟨h,h'⟩
      · go_wp2_with fail
        go_ret2
        exact⟨.slice none 0 0,dJ (by rw [←HP.out,if_pos h]),HB.out _ hbr⟩
      · go_wp2_with fail
        go_ret2
        exact⟨.slice none 0 0,dJ (by rw [←HP.out,if_neg (by omega),if_pos h']),HB.out _ hbr⟩
      · rw [if_neg (by omega),if_neg (by omega)] at HP
        have hal:(align=3∨align=2∨((align==3)=false∧(align==2)=false)):=by
         by_cases h3:align=3
         · exact .inl h3
         · by_cases h2:align=2
           · exact .inr (.inl h2)
           · exact .inr (.inr ⟨by simpa using h3,by simpa using h2⟩)
        rcases hal with rfl|rfl|⟨e3,e2⟩
        all_goals
         obtain⟨xs,hown⟩:=hGr.1
         go_wp2_with (at_builtin;refine aP _ _ rfl (.tmp 75) (.tmp 77) 226 rfl (w.heap.size+1) 280 i0 _ 3 24 Tryz.underlying226 HI.out H0.out H1.out H2.out rfl (by decide) _ _ _ rfl (hown.alloc _) _ rfl (by simp) rfl ?h1 ?h63 ?hb ?hbase ?_)
         case h1=>exact⟨rfl,rfl,rfl⟩
         case h63=>unfold maxLen;omega
         case hb=>omega
         case hbase=>simp;omega
         intro v' w2 hown' hgrow
         have R:=zgp.step hGr (by rw [HSZ.out];omega) hown' hgrow
         clear hown' hgrow hGr hown
         go_wp2_with fail
         go_roundw
         case rel=>exact⟨k+1,by omega,by go_num,HP.out,R⟩
         case measure=>simp [intOf];omega
    · obtain rfl:k=zs.length:=by omega
      rw [fP] at hp
      have HP:=h_ hp
      clear hp HP0
      go_wp2_with fail
      go_ret2
      exact⟨_,dJ (by rw [←HP.out];rfl),HB.out _ hbr⟩
theorem zbG (x:Reg)(a:Option Addr)(cap:Nat)(zs:List Int)(w:fm)(hf:x.fits)(hI:Ints w a zs)(hl:zs.length≤4000000) :
 ft Tryz.prog 157 #[.agg x.enc.toArray,.slice a zs.length cap] w (zc1 (cD x zs) w):=by
 cases hB:x.bottom
 · exact zfT x a cap zs w hf hI hl hB
 · exact zhl x a cap zs w hf hI hl hB
structure Run where
 text:ByteArray
 color:Int
 it:Bool
 un:Bool
 ruby:ByteArray
def Run.enc (x:Run):List fp:=[.string x.text,.int .u8 x.color,.bool x.it,.bool x.un,.string x.ruby]
def Run.fits (x:Run):Prop:=x.text.size≤4000000∧x.ruby.size≤4000000∧0≤x.color∧x.color≤255
structure Row where
 at_:Option Addr
 cap:Nat
 runs:List Run
def Row.enc (r:Row):List fp:=[.slice r.at_ r.runs.length r.cap]
def Runs (w:fm)(a:Option Addr)(xs:List Run):Prop:=af 5 Run.enc Flat w a xs
theorem Runs.later {w w':fm} {a:Option Addr} {xs:List Run} (h:Runs w a xs)(hb:fE w.heap.size w w'):Runs w' a xs:=af.keeps Flat.keeps w w' a xs hb h
def Row.lies (w:fm)(r:Row):Prop:=Runs w r.at_ r.runs
theorem Row.keeps:Keeps Row.lies:=fun w w' r hb h=>Runs.later h hb
def bQ:List Run→Nat
 | []=>0
 | x::l=>x.text.size+bQ l
def Row.fits (r:Row):Prop:=(∀ x∈r.runs,x.fits)∧r.runs.length≤4000000∧bQ r.runs≤4000000
theorem bg (c:Int)(i u:Bool)(w:fm):ft Tryz.prog 261 #[.agg #[.int .u8 c,.bool i,.bool u]] w fun e w'=>e=.returned (.bool (decide (c≤6)))∧fE w.heap.size w w':=by
 go_enter Tryz.func261,Tryz.ntmps261
 go_wp2
 go_ret
 exact⟨rfl,(fF _ _).alloc (fG _) _⟩
def zd2 (a b:Run):Bool:=(a.color==b.color&&a.it==b.it&&a.un==b.un)&&(a.ruby.toList.isEmpty&&b.ruby.toList.isEmpty)
theorem zhc (c d:Int)(i u j v:Bool)(w:fm):(binOp .eql 73 (.agg #[.int .u8 c,.bool i,.bool u]) (.agg #[.int .u8 d,.bool j,.bool v])).run Tryz.prog w=.ok (.bool (c==d&&i==j&&u==v)) w:=by
 simp [go_sem]
 repeat' split
 all_goals simp_all
theorem zgk (a b:Run)(w:fm):ft Tryz.prog 262 #[.agg a.enc.toArray,.agg b.enc.toArray] w fun e w'=>e=.returned (.bool (zd2 a b))∧fE w.heap.size w w':=by
 have hA:zd2 a b=((a.color==b.color&&a.it==b.it&&a.un==b.un)&&(a.ruby.toList.isEmpty&&b.ruby.toList.isEmpty)):=rfl
 have hq:=zhc a.color b.color a.it a.un b.it b.un
 obtain⟨t,c,i,u,r⟩:=a
 obtain⟨t',c',i',u',r'⟩:=b
 simp only at hA hq
 simp only [Run.enc]
 generalize zd2 ⟨t,c,i,u,r⟩ ⟨t',c',i',u',r'⟩=A at *
 generalize (c==c'&&i==i'&&u==u')=S at *
 have hb:∀ o o',fE w.heap.size w ((w.alloc o).alloc o'):=fun o o'=>((fF _ _).alloc (fG _) _).alloc (by simp) _
 cases S
 · rw [Bool.false_and] at hA
   have HA:=h_ hA
   clear hA
   go_enter Tryz.func262,Tryz.ntmps262
   go_wp2
   go_ret
   rw [HA.out]
   exact⟨rfl,hb _ _⟩
 · rw [Bool.true_and] at hA
   by_cases h1:r.toList=[]
   · have h1':r.toList.isEmpty=true:=by simpa using h1
     rw [h1',Bool.true_and] at hA
     by_cases h2:r'.toList=[]
     · have h2':r'.toList.isEmpty=true:=by simpa using h2
       rw [h2'] at hA
       have HA:=h_ hA
       clear hA
       go_enter Tryz.func262,Tryz.ntmps262
       go_wp2
       go_ret
       rw [HA.out]
       exact⟨rfl,hb _ _⟩
     · have h2':r'.toList.isEmpty=false:=by simpa using h2
       rw [h2'] at hA
       have HA:=h_ hA
       clear hA
       go_enter Tryz.func262,Tryz.ntmps262
       go_wp2
       go_ret
       rw [HA.out]
       exact⟨rfl,hb _ _⟩
   · have h1':r.toList.isEmpty=false:=by simpa using h1
     rw [h1',Bool.false_and] at hA
     have HA:=h_ hA
     clear hA
     go_enter Tryz.func262,Tryz.ntmps262
     go_wp2
     go_ret
     rw [HA.out]
     exact⟨rfl,hb _ _⟩
theorem zky:(Tryz.prog.info? 123).map (·.size)=some 2:=by kernel_rfl
theorem zdt (b:Nat)(w:fm)(h0:w.cell? ⟨b,0,none⟩=some (.pointer (some ⟨b,0,none⟩))) :
 ft Tryz.prog 122 #[.pointer (some ⟨b,0,none⟩)] w fun e w'=>e=.returned (.tuple #[])∧w'=w:=by
 obtain⟨j,hj,_⟩:=Option.map_eq_some_iff.1 zky
 go_enter Tryz.func122,Tryz.ntmps122
 go_wp2
 rw [Lib.run_neq_ptr_same w _ Tryz.underlying120 hj]
 go_wp2
 go_end0
 exact⟨rfl,rfl⟩
theorem zcU (b:Nat)(w:fm)(h0:w.cell? ⟨b,0,none⟩=some (.pointer none))(hsh:w.shape? b=some (123,2))(hfz:w.frozen? ⟨b,0,none⟩=false) :
 ft Tryz.prog 122 #[.pointer (some ⟨b,0,none⟩)] w fun e w'=>e=.returned (.tuple #[])∧w'=w.setCell ⟨b,0,none⟩ (.pointer (some ⟨b,0,none⟩)):=by
 obtain⟨j,hj,hjs⟩:=Option.map_eq_some_iff.1 zky
 go_enter Tryz.func122,Tryz.ntmps122
 go_wp2
 rw [Lib.run_to_unsafe w ⟨b,0,none⟩ Tryz.underlying120 Tryz.underlying257 hj (by rw [hjs];decide) hsh (Nat.zero_lt_succ 1)]
 simp only [Result.andThen]
 rw [Oper.upon_value]
 go_wp2
 rw [run_callFunc_extern Tryz.func193 (by kernel_rfl) (by kernel_rfl) (by kernel_rfl) (e:=Extern.AbiNoEscape.same) (by kernel_rfl)]
 rw [Lib.run_noEscape]
 simp only [Result.andThen]
 rw [Oper.upon_value]
 go_wp2
 rw [Lib.run_from_unsafe w ⟨b,0,none⟩ Tryz.underlying257 Tryz.underlying120 hj hsh Tryz.Builder_Extra_169.liesBuilder]
 simp only [Result.andThen]
 rw [Oper.upon_value]
 go_wp2
 go_end0
 exact⟨rfl,rfl⟩
theorem zcV (B b:Nat)(bs:List fp)(w:fm)(h:fT 123 5 B b bs w) :
 ft Tryz.prog 122 #[.pointer (some ⟨b,0,none⟩)] w fun e w'=>e=.returned (.tuple #[])∧(fU 123 5 B b (.pointer (some ⟨b,0,none⟩)) bs w'∧fE B w w'):=by
 rcases h with h|h
 · refine(zcU b w h.cell0 h.shape h.frozen0).mono ?_
   rintro e w' ⟨rfl,rfl⟩
   exact⟨rfl,h.used _,(fF B w).setCell (p:=⟨b,0,none⟩) h.1 _⟩
 · refine(zdt b w h.cell0).mono ?_
   rintro e w' ⟨rfl,rfl⟩
   exact⟨rfl,h,fF B _⟩
theorem zbg (B b:Nat)(bs:List fp)(s:ByteArray)(w:fm)(h:fT 123 5 B b bs w)(hlen:bs.length+s.size≤140737488355328)(hBw:B≤w.heap.size) :
 ft Tryz.prog 67 #[.pointer (some ⟨b,0,none⟩),.string s] w fun e w'=>e=.returned (.tuple #[.int .i64 s.size,.nilIface])∧(fU 123 5 B b (.pointer (some ⟨b,0,none⟩)) (bs++fV s) w'∧fE B w w'):=by
 obtain⟨i0,hi,hz0,hz1,hz2⟩:=fC Tryz.Builder_Extra_169.infoByte
 go_enter Tryz.func67,Tryz.ntmps67
 go_wp2_with (go_at_call 122;refine(zcV B b bs _ h).mono ?_)
 rintro e w1 ⟨rfl,h1,hb1⟩
 obtain⟨hB,v,hbk,hown,hne⟩:=h1
 have c0:w1.cell? ⟨b,0,none⟩=some (.pointer (some ⟨b,0,none⟩)):=by rw [fS hbk];rfl
 have c1:w1.cell? ⟨b,1,none⟩=some v:=by rw [fS hbk];rfl
 go_wp2_with (at_builtin;refine Lib.wpList_append_own_string _ rfl _ _ 121 9 rfl B 5 i0 Tryz.underlying121 Tryz.underlying9 hi hz0 hz1 hz2 _ _ _ rfl hown s rfl ?c3 ?c4 ?c5 ?_)
 case c3=>unfold maxLen;omega
 case c4=>omega
 case c5=>have:=hb1.size;omega
 intro v' w2 hown' hgrow _
 have hlt:b<w1.heap.size:=by
  rcases Nat.lt_or_ge b w1.heap.size with h'|h'
  · exact h'
  · simp [Array.getElem?_eq_none h'] at hbk
 have hb2:w2.heap[b]? =some (.cells #[.pointer (some ⟨b,0,none⟩),v] 123 (0,0)):=by
  rw [hgrow.block b hlt (fun e=>hne e.symm)]
  exact hbk
 have d0:w2.cell? ⟨b,0,none⟩=some (.pointer (some ⟨b,0,none⟩)):=by rw [fS hb2];rfl
 have d1:w2.cell? ⟨b,1,none⟩=some v:=by rw [fS hb2];rfl
 have f1:w2.frozen? ⟨b,1,none⟩=false:=Lib.frozen_of_heap hb2 1
 obtain⟨ao,n',cap,rfl⟩:∃ ao n' cap,v'=.slice ao n' cap:=by
  rcases hown'.2 with⟨hv,_⟩|⟨g,cap,cur,hv,_⟩
  · exact⟨_,_,_,hv⟩
  · exact⟨_,_,_,hv⟩
 go_wp2
 go_ret2
 refine⟨rfl,?_,?_⟩
 · exact fU.put (T:=123) (e:=5) hB hb2 (bs':=bs++fV s) (by simpa [Lib.strCells_length] using hown') (by decide)
 · exact(hb1.grown hgrow (by have:=hb1.size;omega) (fun k hk=>(hown.lt k hk).1)).setCell (p:=⟨b,1,none⟩) hB _
end Go.Proofs.YtnlnmbcaongehaaGreatDoor
