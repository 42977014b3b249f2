/- The contract of document.header: the first error of a document's header. The contracts of region.from, Check, Default, usable: what they return for any region. Slices of structs in memory: what is read of them, and that later worlds keep them. Rows of structs that a call owns: how they are read, stored into and kept. The contract of region.Find: the region with a name. The contract of region.CheckList: the first error of a list of regions. The contract of region.Place: its error for any region and lengths. -/
import Derived.Lib.SmallJoins
import Derived.Test.YtnlnmbcaongehaaGreatDoorB00
set_option linter.unusedVariables false
set_option linter.unusedSimpArgs false
set_option maxRecDepth 100000
set_option maxHeartbeats 12800000
open Go.Lib renaming hid→h_
open List renaming getElem?_eq_some_iff→e_,drop_eq_getElem_cons→fb,getElem?_eq_getElem→fe,drop_length→ff,mem_of_getElem?→fg,drop_zero→fh,flatMap_cons→fi,eq_nil_of_length_eq_zero→fj
open Go renaming World→fk,Value→fm,Calls→fo,bodyPost_ret→fp,heap_alloc_last→fq,TypeId→fr
open Go.RowKit renaming Below→ft
open Go.RowKit.Below renaming refl→fu
open Nat renaming le_refl→fw,add_zero→fx,lt_of_lt_of_le→fy,eq_zero_or_pos→fz,succ_mul→fA,mul_comm→fB,le_trans→fC,mul_one→fD
open Go.Proofs.Tryz renaming prog→fE,results153→fF,ntmps209→fG,func209→fH,underlying226→fI,ntmps157→fJ,ntmps153→fK,ntmps86→fL,func157→fM,func153→fN,func86→fO
open Go.Value renaming string→fP
open Go.World renaming size_alloc→fQ,ownsRow_nil→fR
open Array renaming getElem?_eq_some_iff→fS
namespace Go.Proofs.YtnlnmbcaongehaaGreatDoor
open Go.RowKit
theorem ag {k:IntKind} {a b:Int} (h:a=b):Ending.returned (.int k a)=.returned (.int k b):=by rw [h]
theorem zhK {c:Prop} [Decidable c] {v a b:Int} (h:c)(h2:v=a):v=if c then a else b:=by rw [if_pos h,h2]
theorem val_neg {c:Prop} [Decidable c] {v a b:Int} (h:¬ c)(h2:v=b):v=if c then a else b:=by rw [if_neg h,h2]
def ep (t l:ByteArray)(r:Int)(d:Bool)(last:Int):Int :=
 if (!bf t)=true then 10 else if 400<t.size then 9 else if (!l.toList.isEmpty)=true∧(!bW l)=true then 5 else if (zdT r d != 0)=true then zdT r d else if last<0∨1099511627776<last then 2 else 0
theorem zhN (l:ByteArray):l.toList.length=l.size:=by
 rw [Lib.toList_data]
 simp
theorem dO (l:ByteArray):l.size=0↔l.toList=[]:=by
 have:=zhN l
 constructor
 · intro h
   exact fj (by omega)
 · intro h
   rw [h] at this
   simpa using this.symm
theorem aa (w:fk)(cs:Array fm)(t:fr)(j:Nat)(v:fm)(h:cs[j]? =some v)(w':fk)(hb:ft (w.heap.size+1) (w.alloc (.cells cs t)) w'):w'.cell? ⟨w.heap.size,j,none⟩=some v:=by
 rw [hb.cell (p:=⟨w.heap.size,j,none⟩) (by simp)]
 rw [cell_of_row _ _ j cs t (0,0) (fq w _),h]
theorem aq {w w':fk} {o:Obj} (hb:ft (w.heap.size+1) (w.alloc o) w'):ft w.heap.size w w' :=
 ((fu _ _).alloc (fw _) _).trans (hb.mono (by omega))
theorem zhn (t l:ByteArray)(r:Int)(d:Bool)(last:Int)(a5 a6 a7:Option Addr)(n5 n6 n7 c5 c6 c7:Nat)(w:fk)(hE:Env w)(ht:t.size≤4000000)(hl:l.size≤4000000)(h0:0≤r)(h1:r≤255) :
 fo fE 85 #[.agg #[.string t,.string l,.int .u8 r,.bool d,.int .i64 last,.slice a5 n5 c5,.slice a6 n6 c6,.slice a7 n7 c7]] w fun e w'=>e=.returned (.int .i64 (ep t l r d last))∧ft w.heap.size w w':=by
 generalize hG:ep t l r d last=G
 unfold ep at hG
 have HG:=h_ hG
 clear hG
 generalize hcs:#[fP t,.string l,.int .u8 r,.bool d,.int .i64 last,.slice a5 n5 c5,.slice a6 n6 c6,.slice a7 n7 c7]=cs
 have f0:=aa w cs 27 0 (.string t) (by rw [←hcs];rfl)
 have f1:=aa w cs 27 1 (.string l) (by rw [←hcs];rfl)
 have f2:=aa w cs 27 2 (.int .u8 r) (by rw [←hcs];rfl)
 have f3:=aa w cs 27 3 (.bool d) (by rw [←hcs];rfl)
 have f4:=aa w cs 27 4 (.int .i64 last) (by rw [←hcs];rfl)
 have HE:=h_ (fun(w1:fk) (h:ft (w.heap.size+1) (w.alloc (.cells cs 27)) w1)=>hE.below (aq h) (fw _))
 have HB:=h_ (fun(w1:fk) (h:ft (w.heap.size+1) (w.alloc (.cells cs 27)) w1)=>aq h)
 have hb0:ft (w.heap.size+1) (w.alloc (.cells cs 27)) (w.alloc (.cells cs 27)):=fu _ _
 have hsz:(w.alloc (.cells cs 27)).heap.size=w.heap.size+1:=fQ _ _
 generalize hW0:w.alloc (.cells cs 27)=W0 at *
 have HW0:=h_ hW0
 have HSZ:=h_ hsz
 clear hW0 hsz hE
 go_enter Tryz.func85,Tryz.ntmps85
 subst hcs
 go_wp2_with fail
 rw [HW0.out]
 refine(zab t _ ht (HE.out _ hb0)).mono ?_
 rintro e w1 ⟨rfl,hb1⟩
 rw [HSZ.out] at hb1
 clear HW0
 go_wp2_with (first
  | (go_at_call 150;refine(zaU _ _ (by assumption)).mono ?_;rintro e w2 ⟨rfl,rfl⟩)
  | (go_at_call 151;refine(zje _ _ _ (by assumption) (by assumption)).mono ?_;rintro e w3 ⟨rfl,hb3⟩;replace hb3:ft (w.heap.size+1) W0 w3:=hb1.trans (hb3.mono (by have:=hb1.size;rw [HSZ.out] at this;exact this))))
 all_goals
  go_ret
  refine⟨ag ?_,HB.out _ (by first|exact hb3|exact hb1)⟩
  rw [←HG.out]
  clear f0 f1 f2 f3 f4
  repeat (first
   | rfl
   | (refine zhK ?_ ?_;focus (first|assumption|omega|(simp only [*];decide)|(simp_all<;>fail)))
   | (refine val_neg ?_ ?_;focus (first|omega|(simp only [*];decide)|(simp_all<;>fail))))
structure Reg where
 name:ByteArray
 top:Int
 height:Int
 left:Int
 width:Int
 align:Int
 bottom:Bool
def Reg.enc (x:Reg):List fm:=[.string x.name,.int .i64 x.top,.int .i64 x.height,.int .i64 x.left,.int .i64 x.width,.int .u8 x.align,.bool x.bottom]
def i64 (n:Int):Prop:=-9223372036854775808≤n∧n≤9223372036854775807
def Reg.fits (x:Reg):Prop:=x.name.size≤4000000∧i64 x.top∧i64 x.height∧i64 x.left∧i64 x.width∧0≤x.align∧x.align≤255
def inB (n lo hi:Int):Bool:=decide (lo≤n∧n≤hi)
theorem zf9 {n lo hi:Int} (h:lo≤n)(h':n≤hi):inB n lo hi=true:=by simp [inB,h,h']
theorem ziO {n lo hi:Int} (h:¬ (lo≤n∧n≤hi)):inB n lo hi=false:=by unfold inB;exact decide_eq_false h
theorem zju (n lo hi:Int)(w:fk):fo fE 209 #[.int .i64 n,.int .i64 lo,.int .i64 hi] w fun e w'=>e=.returned (.bool (inB n lo hi))∧w=w':=by
 by_cases h1:lo≤n
 · by_cases h2:n≤hi
   · have HI:=h_ (zf9 h1 h2)
     go_enter fH,fG
     go_wp2
     go_ret
     rw [HI.out];exact⟨rfl,rfl⟩
   · have HI:=h_ (ziO (n:=n) (lo:=lo) (hi:=hi) (by omega))
     have h2':decide (n≤hi)=false:=by simpa using h2
     go_enter fH,fG
     go_wp2
     go_ret
     rw [HI.out];exact⟨rfl,rfl⟩
 · have HI:=h_ (ziO (n:=n) (lo:=lo) (hi:=hi) (by omega))
   have h1':decide (lo≤n)=false:=by simpa using h1
   go_enter fH,fG
   go_wp2
   go_ret
   rw [HI.out];exact⟨rfl,rfl⟩
def zjt (x:Reg):Bool:=inB x.top 0 14&&inB x.height 1 (15-x.top)&&inB x.left 0 31&&inB x.width 1 (32-x.left)
def cC (x:Reg):Int:=if (!bW x.name)=true then 5 else if (!zjt x)=true then 2 else if x.align<1∨3<x.align then 3 else 0
theorem za5 (x:Reg)(w:fk)(hf:x.fits) :
 fo fE 152 #[.agg x.enc.toArray] w fun e w'=>e=.returned (.int .i64 (cC x))∧ft w.heap.size w w':=by
 obtain⟨nm,top,height,left,width,align,bottom⟩:=x
 obtain⟨hs,hT,hH,hL,hW,ha0,ha1⟩:=hf
 simp only [i64] at hs hT hH hL hW ha0 ha1
 simp only [Reg.enc]
 generalize hG:cC ⟨nm,top,height,left,width,align,bottom⟩=G
 simp only [cC,zjt] at hG
 have HG:=h_ hG
 clear hG
 rcases(show(¬ (0≤top∧top≤14))∨((0≤top∧top≤14)∧¬ (0≤left∧left≤31))∨((0≤top∧top≤14)∧(0≤left∧left≤31)) by omega) with h|⟨⟨t0,t1⟩,h⟩|⟨⟨t0,t1⟩,⟨l0,l1⟩⟩
 case' inl =>
  have i1:=ziO h
 case' inr.inl =>
  have i1:=zf9 t0 t1
  have i3:=ziO h
 case' inr.inr =>
  have i1:=zf9 t0 t1
  have i3:=zf9 l0 l1
 all_goals
  go_enter Tryz.func152,Tryz.ntmps152
  go_wp2_with (first
   | (go_at_call 150;refine(zaU _ _ (by assumption)).mono ?_;rintro e w2 ⟨rfl,rfl⟩)
   | (go_at_call 209;refine(zju _ _ _ _).mono ?_;rintro e w2 ⟨rfl,rfl⟩))
  all_goals
   go_ret
   refine⟨ag ?_,(fu _ _).alloc (fw _) _⟩
   rw [←HG.out]
   repeat (first
    | rfl
    | (refine zhK ?_ ?_;focus (first|assumption|omega|(simp only [*];decide)|(simp_all<;>fail)))
    | (refine val_neg ?_ ?_;focus (first|omega|(simp only [*];decide)|(simp_all<;>fail))))
def ab {α:Type} (k:Nat)(enc:α→List fm)(Ok:fk→α→Prop)(w:fk)(a:Option Addr)(xs:List α):Prop :=
 xs=[]∨∃ b off,a=some ⟨b,off,none⟩∧b<w.heap.size∧∀ i x,xs[i]? =some x→(∀ j v,(enc x)[j]? =some v→w.cell? ⟨b,off+i*k+j,none⟩=some v)∧Ok w x
def Flat {α:Type} (_:fk)(_:α):Prop:=True
theorem ab.at_ {α:Type} {k:Nat} {enc:α→List fm} {Ok:fk→α→Prop} {w:fk} {a:Option Addr} {xs:List α} (h:ab k enc Ok w a xs) {i:Nat} (hi:i<xs.length) :
 ∃ b off x,a=some ⟨b,off,none⟩∧b<w.heap.size∧xs[i]? =some x∧(∀ j v,(enc x)[j]? =some v→w.cell? ⟨b,off+i*k+j,none⟩=some v)∧Ok w x:=by
 rcases h with rfl|⟨b,off,rfl,hb,hc⟩
 · simp at hi
 · have:=hc i xs[i] (fe hi)
   exact⟨b,off,xs[i],rfl,hb,fe hi,this.1,this.2⟩
def Keeps {α:Type} (Ok:fk→α→Prop):Prop:=∀ (w w':fk) (x:α),ft w.heap.size w w'→Ok w x→Ok w' x
theorem Flat.keeps {α:Type}:Keeps (Flat (α:=α)):=fun _ _ _ _ _=>trivial
theorem ab.keeps {α:Type} {k:Nat} {enc:α→List fm} {Ok:fk→α→Prop} (hk:Keeps Ok)(w w':fk)(a:Option Addr)(xs:List α)(hb:ft w.heap.size w w')(h:ab k enc Ok w a xs):ab k enc Ok w' a xs:=by
 rcases h with h|⟨b,off,rfl,hlt,hc⟩
 · exact .inl h
 · refine .inr ⟨b,off,rfl,fy hlt hb.size,fun i x hx=>⟨fun j v hv=>?_,hk w w' x hb (hc i x hx).2⟩⟩
   rw [hb.cell (p:=⟨b,off+i*k+j,none⟩) hlt]
   exact(hc i x hx).1 j v hv
def Regs (w:fk)(a:Option Addr)(xs:List Reg):Prop:=ab 7 Reg.enc Flat w a xs
theorem Regs.later {w w':fk} {a:Option Addr} {xs:List Reg} (h:Regs w a xs)(hb:ft w.heap.size w w'):Regs w' a xs:=ab.keeps Flat.keeps w w' a xs hb h
def et:Reg:=⟨⟨#[]⟩,11,4,0,32,2,true⟩
def aw:Reg:=⟨⟨#[]⟩,0,0,0,0,0,false⟩
theorem zbZ (w:fk):fo fE 210 #[] w fun e w'=>e=.returned (.agg et.enc.toArray)∧ft w.heap.size w w':=by
 simp only [et,Reg.enc]
 go_enter Tryz.func210,Tryz.ntmps210
 go_wp2
 exact fp (v:=.agg #[.string ⟨#[]⟩,.int .i64 11,.int .i64 4,.int .i64 0,.int .i64 32,.int .u8 2,.bool true]) (by simp [results,Tryz.results210,go_sem]) rfl ⟨rfl,(fu _ _).alloc (fw _) _⟩
def zh8 (x:Reg):Bool:=(x.name.toList==[])&&(x.top==11)&&(x.height==4)&&(x.left==0)&&(x.width==32)&&(x.align==2)&&(x.bottom==true)
def ee (x:Reg):Bool:=zh8 x||cC x==0
theorem zgN (x:Reg)(w:fk):(binOp .eql 44 (.agg x.enc.toArray) (.agg et.enc.toArray)).run fE w=.ok (.bool (zh8 x)) w:=by
 simp [go_sem,Reg.enc,et,zh8]
 repeat' split
 all_goals simp_all
theorem zcF (x:Reg)(w:fk)(hf:x.fits) :
 fo fE 216 #[.agg x.enc.toArray] w fun e w'=>e=.returned (.bool (ee x))∧ft w.heap.size w w':=by
 have hU:ee x=(zh8 x||cC x==0):=rfl
 have hq:=zgN x
 have hc:=fun w=>za5 x w hf
 have hd:=fun w=>zbZ w
 obtain⟨nm,top,height,left,width,align,bottom⟩:=x
 generalize cC ⟨nm,top,height,left,width,align,bottom⟩=E at *
 generalize ee ⟨nm,top,height,left,width,align,bottom⟩=U at *
 generalize hD:zh8 ⟨nm,top,height,left,width,align,bottom⟩=D at *
 simp only [Reg.enc,et] at hq hc hd ⊢
 have HC:=h_ hc;have HD:=h_ hd
 clear hc hd hf hD
 generalize hcs:#[fP nm,.int .i64 top,.int .i64 height,.int .i64 left,.int .i64 width,.int .u8 align,.bool bottom]=cs
 have f0:=aa w cs 44 0 (.string nm) (by rw [←hcs];rfl)
 have f1:=aa w cs 44 1 (.int .i64 top) (by rw [←hcs];rfl)
 have f2:=aa w cs 44 2 (.int .i64 height) (by rw [←hcs];rfl)
 have f3:=aa w cs 44 3 (.int .i64 left) (by rw [←hcs];rfl)
 have f4:=aa w cs 44 4 (.int .i64 width) (by rw [←hcs];rfl)
 have f5:=aa w cs 44 5 (.int .u8 align) (by rw [←hcs];rfl)
 have f6:=aa w cs 44 6 (.bool bottom) (by rw [←hcs];rfl)
 have HB:=h_ (fun(w1:fk) (h:ft (w.heap.size+1) (w.alloc (.cells cs 44)) w1)=>aq h)
 have hb0:ft (w.heap.size+1) (w.alloc (.cells cs 44)) (w.alloc (.cells cs 44)).drew:=(fu _ _).drew
 have hsz:(w.alloc (.cells cs 44)).heap.size=w.heap.size+1:=fQ _ _
 generalize hW0:w.alloc (.cells cs 44)=W0 at *
 have HW0:=h_ hW0
 have HSZ:=h_ hsz
 clear hW0 hsz
 go_enter Tryz.func216,Tryz.ntmps216
 subst hcs
 go_wp2_with fail
 rw [HW0.out]
 cases D
 · cases hE:E==0
   all_goals
    rw [hE] at hU
    have HU:=h_ hU
    clear hU
    go_region_with (first
     | (go_at_call 210;refine(HD.out _).mono ?_;rintro e w1 ⟨rfl,hb1⟩;replace hb1:ft (w.heap.size+1) W0 w1:=hb0.trans (hb1.mono (by have:=hb0.size;rw [HSZ.out] at this;exact this)))
     | (go_at_call 152;refine(HC.out _).mono ?_;rintro e w2 ⟨rfl,hb2⟩;replace hb2:ft (w.heap.size+1) W0 w2:=hb1.trans (hb2.mono (by have:=hb1.size;rw [HSZ.out] at this;exact this))))
    all_goals
     go_wp2_with fail
     go_ret
     rw [HU.out]
     exact⟨rfl,HB.out _ hb2⟩
 · have HU:=h_ hU
   clear hU
   go_region_with (first
    | (go_at_call 210;refine(HD.out _).mono ?_;rintro e w1 ⟨rfl,hb1⟩;replace hb1:ft (w.heap.size+1) W0 w1:=hb0.trans (hb1.mono (by have:=hb0.size;rw [HSZ.out] at this;exact this))))
   all_goals
    go_wp2_with fail
    go_ret
    rw [HU.out]
    exact⟨rfl,HB.out _ hb1⟩
theorem er {α:Type} (enc:α→List fm)(k:Nat)(hk:∀ x,(enc x).length=k):∀ (xs:List α)(i:Nat)(x:α)(j:Nat)(v:fm),xs[i]? =some x→(enc x)[j]? =some v→(xs.flatMap enc)[i*k+j]? =some v
 | [],i,x,j,v,h,_=>by simp at h
 | y::xs,0,x,j,v,h,hv=>by
   obtain rfl:y=x:=by simpa using h
   have hj:j<(enc y).length:=(e_.1 hv).1
   rw [fi,show 0*k+j=j by omega,List.getElem?_append_left hj]
   exact hv
 | y::xs,i+1,x,j,v,h,hv=>by
   have hx:xs[i]? =some x:=by simpa using h
   have:=hk y
   rw [fi,fA,List.getElem?_append_right (by omega),show i*k+k+j-(enc y).length=i*k+j by omega]
   exact er enc k hk xs i x j v hx hv
theorem aC {α:Type} (enc:α→List fm)(k:Nat)(hk:∀ x,(enc x).length=k):∀ xs:List α,(xs.flatMap enc).length=xs.length*k
 | []=>by simp
 | x::xs=>by rw [fi,List.length_append,hk,aC enc k hk xs,List.length_cons,fA];omega
theorem bP {α:Type} {enc:α→List fm} (h1:∀ x,∀ v∈enc x,v.oneCell'=true)(xs:List α):∀ u∈xs.flatMap enc,u.oneCell'=true:=by
 intro u hu
 obtain⟨x,_,hx⟩:=List.mem_flatMap.1 hu
 exact h1 x u hx
theorem cn {α:Type} {k:Nat} {enc:α→List fm} {Ok:fk→α→Prop} (hk:∀ x,(enc x).length=k) {w:fk} {b off:Nat} {xs:List α} (h:ab k enc Ok w (some ⟨b,off,none⟩) xs)(j:Nat)(u:fm)(hu:(xs.flatMap enc)[j]? =some u):w.cell? ⟨b,off+j,none⟩=some u:=by
 have hj:j<xs.length*k:=by rw [←aC enc k hk xs];exact(e_.1 hu).1
 have hk0:0<k:=by
  rcases fz k with h0|h0
  · rw [h0] at hj;omega
  · exact h0
 have hi:j / k<xs.length:=Nat.div_lt_of_lt_mul (by rw [fB];exact hj)
 have hm:j % k<k:=Nat.mod_lt _ hk0
 have he:j / k*k+j % k=j:=by rw [fB];exact Nat.div_add_mod j k
 obtain⟨b',off',x,hab,_,hx,hc,_⟩:=h.at_ hi
 simp only [Option.some.injEq,Addr.mk.injEq,and_true] at hab
 obtain⟨rfl,rfl⟩:=hab
 obtain⟨u',hv⟩:∃ u',(enc x)[j % k]? =some u':=⟨_,fe (by rw [hk];exact hm)⟩
 have:=er enc k hk xs (j / k) x (j % k) _ hx hv
 rw [he,hu] at this
 have hc2:=hc (j % k) _ hv
 rw [show off+j / k*k+j % k=off+j by omega] at hc2
 rw [hc2,this]
theorem ax {α:Type} {k:Nat} {enc:α→List fm} {Ok:fk→α→Prop} (hk:∀ x,(enc x).length=k) {w:fk} {base T:Nat} {v:fm} {xs:List α} (h:w.ownsRow base T k v xs.length (xs.flatMap enc))(ho:∀ x∈xs,Ok w x):∃ a cap,v=.slice a xs.length cap∧ab k enc Ok w a xs:=by
 have h':=h
 rcases h.2 with⟨rfl,h0⟩|⟨g,cap,cur,rfl,hb,hg,_⟩
 · exact⟨none,0,by rw [h0],.inl (fj h0)⟩
 · refine⟨_,cap,rfl,.inr ⟨g,0,rfl,(fS.1 hg).1,fun i x hx=>⟨fun j v hv=>?_,ho x (fg hx)⟩⟩⟩
   have hi:i<xs.length:=(e_.1 hx).1
   have hj:j<k:=by rw [←hk x];exact(e_.1 hv).1
   have hfl:=er enc k hk xs i x j v hx hv
   have hlen:=aC enc k hk xs
   have hb2:i*k+j<xs.length*k:=by rw [←hlen];exact(e_.1 hfl).1
   rw [show 0+i*k+j=i*k+j by omega,h'.cellAt (i*k+j) hb2]
   exact hfl
theorem zci {w:fk} {base e size n:Nat} {v:fm} {xs:List fm} (h:w.ownsRow base e size v n xs)(hn:0<n):∃ g cap,v=.slice (some ⟨g,0,none⟩) n cap:=by
 rcases h.2 with⟨_,h0⟩|⟨g,cap,_,h1,_⟩
 · omega
 · exact⟨g,cap,h1⟩
theorem aM {B e k n:Nat} {v:fm} {xs:List fm} {w w':fk} (h:w.ownsRow B e k v n xs)(hb:ft w.heap.size w w'):w'.ownsRow B e k v n xs:=by
 refine⟨h.1,?_⟩
 rcases h.2 with h0|⟨g,cap,cur,h1,h2,h3,h4⟩
 · exact .inl h0
 · exact .inr ⟨g,cap,cur,h1,h2,by rw [hb.block g (fS.1 h3).1];exact h3,h4⟩
def zgJ {α:Type} (a:Option Addr)(xs:List α)(b:Nat):Prop:=xs≠[]∧∃ ad,a=some ad∧ad.block=b
theorem bu {α:Type} {k:Nat} {enc:α→List fm} {Ok:fk→α→Prop} {w:fk} {a:Option Addr} {xs:List α} (h:ab k enc Ok w a xs) {b:Nat} (hu:zgJ a xs b):b<w.heap.size:=by
 obtain⟨hne,ad,rfl,rfl⟩:=hu
 rcases h with h|⟨b,off,he,hlt,_⟩
 · exact absurd h hne
 · obtain rfl:=Option.some.inj he
   exact hlt
theorem ab.frame {α:Type} {k:Nat} {enc:α→List fm} {Ok:fk→α→Prop} {w w':fk} {a:Option Addr} {xs:List α} (h:ab k enc Ok w a xs)(hs:w.heap.size≤w'.heap.size)(hb:∀ b,zgJ a xs b→w'.heap[b]? =w.heap[b]?)(hok:∀ x∈xs,Ok w x→Ok w' x):ab k enc Ok w' a xs:=by
 by_cases hne:xs=[]
 · exact .inl hne
 · rcases h with h|⟨b,off,rfl,hlt,hc⟩
   · exact .inl h
   · refine .inr ⟨b,off,rfl,fy hlt hs,fun i x hx=>⟨fun j v hv=>?_,hok x (fg hx) (hc i x hx).2⟩⟩
     rw [fk.cell?_of_block (w:=w) (hb b ⟨hne,_,rfl,rfl⟩)]
     exact(hc i x hx).1 j v hv
def zaH (nm:ByteArray):List Reg→Reg × Bool
 | []=>(aw,false)
 | x::l=>if x.name.toList==nm.toList then (x,true) else zaH nm l
def eO (xs:List Reg)(nm:ByteArray):Reg × Bool:=if nm.toList=[] then (et,true) else zaH nm xs
theorem zbb (nm:ByteArray)(xs:List Reg)(k:Nat)(x:Reg)(hx:xs[k]? =some x)(h:(x.name.toList==nm.toList)=true):zaH nm (xs.drop k)=(x,true):=by
 have hk:k<xs.length:=(e_.1 hx).1
 have e:xs[k]=x:=(e_.1 hx).2
 rw [fb hk,e,zaH,if_pos h]
theorem zbR (nm:ByteArray)(xs:List Reg)(k:Nat)(x:Reg)(hx:xs[k]? =some x)(h:(x.name.toList==nm.toList)=false):zaH nm (xs.drop k)=zaH nm (xs.drop (k+1)):=by
 have hk:k<xs.length:=(e_.1 hx).1
 have e:xs[k]=x:=(e_.1 hx).2
 rw [fb hk,e,zaH,if_neg (by simp [h])]
theorem du (w:fk)(cs:Array fm)(t:fr)(j:Nat)(w':fk)(hb:ft (w.heap.size+1) (w.alloc (.cells cs t)) w'):w'.frozen? ⟨w.heap.size,j,none⟩=false:=by
 rw [hb.frozen (p:=⟨w.heap.size,j,none⟩) (by simp)]
 exact frozen_of_row _ _ j cs t (fq w _)
def za1 (r:Reg × Bool)(w:fk)(e:Ending)(w':fk):Prop:=e=.returned (.tuple #[.agg r.1.enc.toArray,.bool r.2])∧ft w.heap.size w w'
structure zcw (b:Nat)(w:fk):Prop where
 c0:w.cell? ⟨b,0,none⟩=some (.string ⟨#[]⟩)
 c1:w.cell? ⟨b,1,none⟩=some (.int .i64 0)
 c2:w.cell? ⟨b,2,none⟩=some (.int .i64 0)
 c3:w.cell? ⟨b,3,none⟩=some (.int .i64 0)
 c4:w.cell? ⟨b,4,none⟩=some (.int .i64 0)
 c5:w.cell? ⟨b,5,none⟩=some (.int .u8 0)
 c6:w.cell? ⟨b,6,none⟩=some (.bool false)
 z0:w.frozen? ⟨b,0,none⟩=false
 z1:w.frozen? ⟨b,1,none⟩=false
 z2:w.frozen? ⟨b,2,none⟩=false
 z3:w.frozen? ⟨b,3,none⟩=false
 z4:w.frozen? ⟨b,4,none⟩=false
 z5:w.frozen? ⟨b,5,none⟩=false
 z6:w.frozen? ⟨b,6,none⟩=false
def zeroCells:Array fm:=#[.string ⟨#[]⟩,.int .i64 0,.int .i64 0,.int .i64 0,.int .i64 0,.int .u8 0,.bool false]
theorem zcw.of (w w':fk)(hb:ft (w.heap.size+1) (w.alloc (.cells zeroCells 44)) w'):zcw w.heap.size w' :=
 ⟨aa w _ _ 0 _ rfl w' hb,aa w _ _ 1 _ rfl w' hb,aa w _ _ 2 _ rfl w' hb,aa w _ _ 3 _ rfl w' hb,aa w _ _ 4 _ rfl w' hb,aa w _ _ 5 _ rfl w' hb,aa w _ _ 6 _ rfl w' hb,
  du w _ _ 0 w' hb,du w _ _ 1 w' hb,du w _ _ 2 w' hb,du w _ _ 3 w' hb,du w _ _ 4 w' hb,du w _ _ 5 w' hb,du w _ _ 6 w' hb⟩
theorem dv {w w':fk} {b:Nat} (hb:ft w.heap.size w w')(h:w.heap.size≤b)(v0 v1 v2 v3 v4 v5 v6:fm) :
 ft w.heap.size w (((((((w'.setCell ⟨b,0,none⟩ v0).setCell ⟨b,1,none⟩ v1).setCell ⟨b,2,none⟩ v2).setCell ⟨b,3,none⟩ v3).setCell ⟨b,4,none⟩ v4).setCell ⟨b,5,none⟩ v5).setCell ⟨b,6,none⟩ v6) :=
 ((((((hb.setCell h _).setCell h _).setCell h _).setCell h _).setCell h _).setCell h _).setCell h _
theorem eX {w w':fk} {b:Nat} (hb:ft w.heap.size w w')(h:w.heap.size≤b)(v0 v1 v2 v3 v4 v5 v6:fm)(o:Obj) :
 ft w.heap.size w ((((((((w'.setCell ⟨b,0,none⟩ v0).setCell ⟨b,1,none⟩ v1).setCell ⟨b,2,none⟩ v2).setCell ⟨b,3,none⟩ v3).setCell ⟨b,4,none⟩ v4).setCell ⟨b,5,none⟩ v5).setCell ⟨b,6,none⟩ v6).alloc o) :=
 (dv hb h v0 v1 v2 v3 v4 v5 v6).alloc (dv hb h v0 v1 v2 v3 v4 v5 v6).size o
theorem zkl (a:Option Addr)(cap:Nat)(xs:List Reg)(nm:ByteArray)(w:fk)(hm:nm.toList=[]) :
 fo fE 153 #[.slice a xs.length cap,.string nm] w (za1 (eO xs nm) w):=by
 have hF:eO xs nm=(et,true):=by rw [eO,if_pos hm]
 rw [hF]
 have HD:=h_ (fun w=>zbZ w)
 clear hF
 go_enter fN,fK
 go_wp2_with fail
 refine(HD.out _).mono ?_
 rintro e w1 ⟨rfl,hb1⟩
 rw [fQ] at hb1
 obtain⟨c0,c1,c2,c3,c4,c5,c6,z0,z1,z2,z3,z4,z5,z6⟩:=zcw.of w w1 hb1
 have HB:=h_ (aq hb1)
 have hlt:w.heap.size<w1.heap.size:=by have:=hb1.size;rw [fQ] at this;omega
 clear hb1 HD
 simp only [et,Reg.enc]
 go_wp2_with fail
 exact fp (v:=.tuple #[.agg #[.string ⟨#[]⟩,.int .i64 11,.int .i64 4,.int .i64 0,.int .i64 32,.int .u8 2,.bool true],.bool true]) (by simp [results,fF,go_sem, *]) rfl ⟨rfl,dv HB.out (fw _) _ _ _ _ _ _ _⟩
theorem below_alloc1 {W0 wr:fk} {B:Nat} (h:ft B W0 wr)(hB:B≤W0.heap.size)(o:Obj):ft B W0 (wr.alloc o):=h.alloc (fC hB h.size) o
theorem zkk (a:Option Addr)(cap:Nat)(xs:List Reg)(nm:ByteArray)(w:fk)(hR:Regs w a xs)(hm:¬ nm.toList=[])(hl:xs.length≤4000000) :
 fo fE 153 #[.slice a xs.length cap,.string nm] w (za1 (eO xs nm) w):=by
 have hF:eO xs nm=zaH nm xs:=by rw [eO,if_neg hm]
 rw [hF]
 generalize hG:zaH nm xs=G
 have H0:=h_ (show zaH nm (xs.drop 0)=G by rw [fh];exact hG)
 have hsz:(w.alloc (.cells zeroCells 44)).heap.size=w.heap.size+1:=fQ _ _
 have hme:nm.toList.isEmpty=false:=by simpa using hm
 clear hF hG
 go_enter fN,fK
 go_wp2_with fail
 go_loopw [13] (fun i wr=>∃ k:Nat,k≤xs.length∧i=.int .i64 k∧zaH nm (xs.drop k)=G∧ft (w.heap.size+1) (w.alloc (.cells zeroCells 44)) wr) (fun i _=>xs.length-(intOf i).toNat)
 case atStart=>exact⟨0,by omega,rfl,H0.out,fu _ _⟩
 case round =>
  obtain⟨k,hk,rfl,hp,hb⟩:=hrel
  have hbw:=aq hb
  obtain⟨c0,c1,c2,c3,c4,c5,c6,z0,z1,z2,z3,z4,z5,z6⟩:=zcw.of w wr hb
  have hlt0:w.heap.size<wr.heap.size:=by have:=hb.size;rw [hsz] at this;omega
  by_cases hlt:k<xs.length
  · obtain⟨b,off,x,rfl,hbl,hx,hc,_⟩:=(hR.later hbw).at_ hlt
    cases he:x.name.toList==nm.toList
    · have hP:=zbR nm xs k x hx he
      rw [hP] at hp
      obtain⟨xn,xt,xh,xl,xw,xa,xb⟩:=x
      have d0:=hc 0 _ rfl;have d1:=hc 1 _ rfl;have d2:=hc 2 _ rfl;have d3:=hc 3 _ rfl;have d4:=hc 4 _ rfl;have d5:=hc 5 _ rfl;have d6:=hc 6 _ rfl
      simp only [fx] at he d0 d1 d2 d3 d4 d5 d6
      have HP:=h_ hp
      have HB:=h_ (fun o=>below_alloc1 hb (by rw [hsz];omega) o)
      clear hp hP hc hx H0 c0 c1 c2 c3 c4 c5 c6 z0 z1 z2 z3 z4 z5 z6 hsz hR hb hbw
      go_wp2_with fail
      go_roundw
      case rel=>exact⟨k+1,by omega,by go_num,HP.out,HB.out _⟩
      case measure=>simp [intOf];omega
    · have hP:=zbb nm xs k x hx he
      rw [hP] at hp
      obtain⟨xn,xt,xh,xl,xw,xa,xb⟩:=x
      have d0:=hc 0 _ rfl;have d1:=hc 1 _ rfl;have d2:=hc 2 _ rfl;have d3:=hc 3 _ rfl;have d4:=hc 4 _ rfl;have d5:=hc 5 _ rfl;have d6:=hc 6 _ rfl
      simp only [fx] at he d0 d1 d2 d3 d4 d5 d6
      have HP:=h_ hp
      have HB:=h_ hbw
      clear hp hP hc hx H0 hsz hR hb hbw
      go_wp2_with fail
      exact fp (v:=.tuple #[.agg #[.string xn,.int .i64 xt,.int .i64 xh,.int .i64 xl,.int .i64 xw,.int .u8 xa,.bool xb],.bool true]) (by simp [results,fF,go_sem, *]) rfl
       ⟨by rw [←HP.out];rfl,eX HB.out (fw _) _ _ _ _ _ _ _ _⟩
  · obtain rfl:k=xs.length:=by omega
    rw [ff] at hp
    have HP:=h_ hp
    have HB:=h_ hbw
    clear hp H0 hsz hR hb hbw
    go_wp2_with fail
    exact fp (v:=.tuple #[.agg #[.string ⟨#[]⟩,.int .i64 0,.int .i64 0,.int .i64 0,.int .i64 0,.int .u8 0,.bool false],.bool false]) (by simp [results,fF,go_sem, *]) rfl
     ⟨by rw [←HP.out];rfl,dv HB.out (fw _) _ _ _ _ _ _ _⟩
theorem zjv (a:Option Addr)(cap:Nat)(xs:List Reg)(nm:ByteArray)(w:fk)(hR:Regs w a xs)(hl:xs.length≤4000000) :
 fo fE 153 #[.slice a xs.length cap,.string nm] w (za1 (eO xs nm) w):=by
 by_cases hm:nm.toList=[]
 · exact zkl a cap xs nm w hm
 · exact zkk a cap xs nm w hR hm hl
def bN (prev:Option ByteArray)(x:Reg):Int :=
 if (cC x != 0)=true then cC x else match prev with
  | none=>0
  | some p=>if (x.name.toList==p.toList)=true then 7 else if Op.bytesLess x.name.toList p.toList=true then 8 else 0
def bO:Option ByteArray→List Reg→Int
 | _,[]=>0
 | prev,x::l=>if (bN prev x != 0)=true then bN prev x else bO (some x.name) l
def ch (xs:List Reg):Int:=if 16<xs.length then 9 else bO none xs
def b7 (xs:List Reg):Nat→Option ByteArray
 | 0=>none
 | k+1=>(xs[k]?).map Reg.name
theorem zbN (xs:List Reg)(k:Nat)(x:Reg)(hx:xs[k]? =some x)(prev:Option ByteArray)(h:bN prev x=0):bO prev (xs.drop k)=bO (b7 xs (k+1)) (xs.drop (k+1)):=by
 have hk:k<xs.length:=(e_.1 hx).1
 have e:xs[k]=x:=(e_.1 hx).2
 rw [fb hk,e,bO,h]
 simp [b7,hx]
theorem zbM (xs:List Reg)(k:Nat)(x:Reg)(hx:xs[k]? =some x)(prev:Option ByteArray)(h:(bN prev x != 0)=true):bO prev (xs.drop k)=bN prev x:=by
 have hk:k<xs.length:=(e_.1 hx).1
 have e:xs[k]=x:=(e_.1 hx).2
 rw [fb hk,e,bO,if_pos h]
theorem zj9 (a:Option Addr)(cap:Nat)(xs:List Reg)(w:fk)(hn:16<xs.length) :
 fo fE 86 #[.slice a xs.length cap] w fun e w'=>e=.returned (.int .i64 (ch xs))∧ft w.heap.size w w':=by
 rw [ch,if_pos hn]
 have hn':(16:Int)<(xs.length:Int):=by omega
 go_enter fO,fL
 go_wp2_with fail
 go_ret
 exact⟨rfl,fu _ _⟩
theorem zli (a:Option Addr)(cap:Nat)(xs:List Reg)(w:fk)(hR:Regs w a xs)(hf:∀ x∈xs,x.fits)(hn:xs.length≤16) :
 fo fE 86 #[.slice a xs.length cap] w fun e w'=>e=.returned (.int .i64 (ch xs))∧ft w.heap.size w w':=by
 rw [ch,if_neg (by omega)]
 generalize hG:bO none xs=G
 have H0:=h_ (show bO (b7 xs 0) (xs.drop 0)=G by rw [fh];exact hG)
 have hn2:decide ((16:Int)<(xs.length:Int))=false:=by simp;omega
 clear hG
 go_enter fO,fL
 go_wp2_with fail
 go_loopw [11] (fun i wr=>∃ k:Nat,k≤xs.length∧i=.int .i64 k∧bO (b7 xs k) (xs.drop k)=G∧ft w.heap.size w wr) (fun i _=>xs.length-(intOf i).toNat)
 case atStart=>exact⟨0,by omega,rfl,H0.out,fu _ _⟩
 case round =>
  obtain⟨k,hk,rfl,hp,hb⟩:=hrel
  by_cases hlt:k<xs.length
  · obtain⟨b,off,x,rfl,hbl,hx,hc,_⟩:=(hR.later hb).at_ hlt
    have hfx:=hf x (fg hx)
    have HC:=h_ (fun w=>za5 x w hfx)
    have hB1:∀ (o:Obj) (w1:fk),ft (wr.heap.size+1) (wr.alloc o) w1→ft w.heap.size w w1:=fun o w1 h=>(hb.alloc hb.size o).trans (h.mono (by have:=hb.size;omega))
    have HB1:=h_ hB1
    have HN:=h_ (zbN xs k x hx (b7 xs k))
    have HS:=h_ (zbM xs k x hx (b7 xs k))
    have HP:=h_ hp
    have hRr:=hR.later hb
    obtain⟨xn,xt,xh,xl,xw,xa,xb⟩:=x
    have d0:=hc 0 _ rfl;have d1:=hc 1 _ rfl;have d2:=hc 2 _ rfl;have d3:=hc 3 _ rfl;have d4:=hc 4 _ rfl;have d5:=hc 5 _ rfl;have d6:=hc 6 _ rfl
    simp only [fx] at d0 d1 d2 d3 d4 d5 d6
    cases hE:cC ⟨xn,xt,xh,xl,xw,xa,xb⟩ != 0
    · have hE0:cC ⟨xn,xt,xh,xl,xw,xa,xb⟩=0:=by simpa using hE
      have HE0:=h_ hE0
      simp only [Reg.enc] at HC
      rw [hE0] at HC
      clear hE hE0 hp hB1 hc
      rcases fz k with hk0|hk0
      · have hst:=h_ (show bN (b7 xs k) ⟨xn,xt,xh,xl,xw,xa,xb⟩=0 by rw [hk0];simp [bN,b7,HE0.out])
        have hkd:decide (0<k)=false:=by simp;omega
        clear hRr hk0
        go_wp2_with (go_at_call 152;refine(HC.out _).mono ?_;rintro e w1 ⟨rfl,hb1⟩;simp only [fQ] at hb1)
        go_quiet (fail)
        go_wp2_with fail
        go_quiet (fail)
        go_wp2_with fail
        go_roundw
        case rel=>exact⟨k+1,by omega,by go_num,by rw [←HN.out hst.out];exact HP.out,below_drewN (HB1.out _ _ hb1) _⟩
        case measure=>simp [intOf];omega
      · obtain⟨b',off',y,hab,_,hy,hcy,_⟩:=hRr.at_ (show k-1<xs.length by omega)
        simp only [Option.some.injEq,Addr.mk.injEq,and_true] at hab
        obtain⟨rfl,rfl⟩:=hab
        obtain⟨yn,yt,yh,yl,yw,ya,yb⟩:=y
        have e0:=hcy 0 _ rfl
        simp only [fx] at e0
        have hpv:b7 xs k=some yn:=by
         obtain⟨j,rfl⟩:∃ j,k=j+1:=⟨k-1,by omega⟩
         simp only [Nat.add_sub_cancel] at hy
         simp [b7,hy]
        have hst:bN (b7 xs k) ⟨xn,xt,xh,xl,xw,xa,xb⟩=if (xn.toList==yn.toList)=true then 7 else if Op.bytesLess xn.toList yn.toList=true then 8 else 0:=by
         rw [hpv];simp [bN,HE0.out]
        have hcell:∀ w1,ft (wr.heap.size+1) (wr.alloc (.cells #[.string xn,.int .i64 xt,.int .i64 xh,.int .i64 xl,.int .i64 xw,.int .u8 xa,.bool xb] 44)) w1→w1.cell? ⟨wr.heap.size,0,none⟩=some (.string xn)∧w1.cell? ⟨b,off+(k-1)*7,none⟩=some (.string yn):=fun w1 h =>
         ⟨aa wr _ _ 0 _ rfl w1 h,by
          rw [h.cell (p:=⟨b,off+(k-1)*7,none⟩) (by simp;omega),fk.cell?_alloc_lt _ _ _ (by simpa using hbl)]
          exact e0⟩
        have HCELL:=h_ hcell
        have hkd:decide (0<k)=true:=by simp;omega
        have hk1:1≤k:=hk0
        have hkz:(1:Int)≤(k:Int):=by omega
        have hkl:(k:Int)-1<(xs.length:Int):=by omega
        have hwr:IntKind.i64.wrap ((k:Int)-1)=(k:Int)-1:=IntWalk.i64_in _ (by omega)
        have hkn:((k:Int)-1).toNat=k-1:=by omega
        clear hcell hpv hRr hcy hy e0 hk0
        rcases h1:xn.toList==yn.toList with _|_
        · rcases h2:Op.bytesLess xn.toList yn.toList with _|_
          · rw [h1,h2,if_neg (by decide),if_neg (by decide)] at hst
            have HST:=h_ hst
            clear hst
            go_wp2_with (go_at_call 152;refine(HC.out _).mono ?_;rintro e w1 ⟨rfl,hb1⟩;simp only [fQ] at hb1;have hq1:=(HCELL.out _ hb1).1;have hq2:=(HCELL.out _ hb1).2)
            go_quiet (fail)
            go_wp2_with fail
            go_quiet (fail)
            go_wp2_with fail
            go_roundw
            case rel=>exact⟨k+1,by omega,by go_num,by rw [←HN.out HST.out];exact HP.out,below_drewN (HB1.out _ _ hb1) _⟩
            case measure=>simp [intOf];omega
          · rw [h1,h2,if_neg (by decide),if_pos rfl] at hst
            have HST:=h_ hst
            clear hst
            go_wp2_with (go_at_call 152;refine(HC.out _).mono ?_;rintro e w1 ⟨rfl,hb1⟩;simp only [fQ] at hb1;have hq1:=(HCELL.out _ hb1).1;have hq2:=(HCELL.out _ hb1).2)
            go_quiet (fail)
            go_wp2_with fail
            go_quiet (fail)
            go_wp2_with fail
            go_ret
            exact⟨ag (by rw [←HP.out,HS.out (by rw [HST.out];rfl),HST.out]),below_drewN (below_drewN (HB1.out _ _ hb1) _) _⟩
        · rw [h1,if_pos rfl] at hst
          have HST:=h_ hst
          clear hst
          go_wp2_with (go_at_call 152;refine(HC.out _).mono ?_;rintro e w1 ⟨rfl,hb1⟩;simp only [fQ] at hb1;have hq1:=(HCELL.out _ hb1).1;have hq2:=(HCELL.out _ hb1).2)
          go_quiet (fail)
          go_wp2_with fail
          go_ret
          exact⟨ag (by rw [←HP.out,HS.out (by rw [HST.out];rfl),HST.out]),below_drewN (HB1.out _ _ hb1) _⟩
    · have hst:bN (b7 xs k) ⟨xn,xt,xh,xl,xw,xa,xb⟩=cC ⟨xn,xt,xh,xl,xw,xa,xb⟩:=by unfold bN;exact if_pos hE
      have HST:=h_ hst
      simp only [Reg.enc] at HC
      generalize cC ⟨xn,xt,xh,xl,xw,xa,xb⟩=E at *
      clear hst hp hB1 hc hRr hfx hx
      go_wp2_with (go_at_call 152;refine(HC.out _).mono ?_;rintro e w1 ⟨rfl,hb1⟩;simp only [fQ] at hb1)
      go_ret
      exact⟨ag (by rw [←HP.out,HS.out (by rw [HST.out];exact hE),HST.out]),HB1.out _ _ hb1⟩
  · obtain rfl:k=xs.length:=by omega
    rw [ff] at hp
    have HP:=h_ hp
    clear hp H0
    go_wp2_with fail
    go_ret
    exact⟨ag (by rw [←HP.out];cases b7 xs xs.length<;>rfl),hb⟩
theorem zjj (a:Option Addr)(cap:Nat)(xs:List Reg)(w:fk)(hR:Regs w a xs)(hf:∀ x∈xs,x.fits) :
 fo fE 86 #[.slice a xs.length cap] w fun e w'=>e=.returned (.int .i64 (ch xs))∧ft w.heap.size w w':=by
 by_cases hn:16<xs.length
 · exact zj9 a cap xs w hn
 · exact zli a cap xs w hR hf (by omega)
def Ints (w:fk)(a:Option Addr)(zs:List Int):Prop:=ab 1 (fun z=>[fm.int .i64 z]) Flat w a zs
theorem Ints.later {w w':fk} {a:Option Addr} {xs:List Int} (h:Ints w a xs)(hb:ft w.heap.size w w'):Ints w' a xs:=ab.keeps Flat.keeps w w' a xs hb h
def bI (width:Int):List Int→Int
 | []=>0
 | n::l=>if n<0 then 2 else if width<n then 11 else bI width l
def bB (x:Reg)(zs:List Int):Int:=if (!ee x)=true then 1 else if x.height<zs.length then 9 else bI x.width zs
theorem eH (width:Int)(zs:List Int)(k:Nat)(z:Int)(hz:zs[k]? =some z):bI width (zs.drop k)=if z<0 then 2 else if width<z then 11 else bI width (zs.drop (k+1)):=by
 have hk:k<zs.length:=(e_.1 hz).1
 have e:zs[k]=z:=(e_.1 hz).2
 rw [fb hk,e,bI]
theorem Tryz.info280:(fE.info? 280).map (fun i=>(i.zero,i.size,i.bytes))=some (some (.agg #[.int .i64 0,.int .i64 0,.int .i64 0]),3,24):=by kernel_rfl
theorem zb1 (w:fk)(cs:Array fm)(t:fr):∀ j u,cs.toList[j]? =some u→(w.alloc (.cells cs t)).cell? ((⟨w.heap.size,0,none⟩:Addr).add j)=some u:=by
 intro j u hu
 have hadd:(⟨w.heap.size,0,none⟩:Addr).add j=⟨w.heap.size,j,none⟩:=by unfold Addr.add;split<;>simp_all
 rw [hadd,cell_of_row _ _ j cs t (0,0) (fq w _)]
 simpa using hu
theorem aH {P:Program} (w:fk)(cs:Array fm) {ops:Array Oper} {rest:List Oper} {o:Oper} {a:Act} {Q:Exit→Act→fk→Prop} (hgd:o.guard=none)(s x:Operand)(t:fr)
 (ho:o.op=.call { callee:=.builtin .append,args:=#[s,x],argTypes:=#[t,t] })
 (base:Nat) (e:fr) (i:TypeInfo) (z:fm) (size bytes:Nat) (ht:P.underlying t=some (.slice e)) (hi:P.info? e=some i) (hz:i.zero=some z)
 (hsize:i.size=size) (hby:i.bytes=bytes) (hzs:z.cells.size=size) (hsz:0<size)
 (v:fm) (n:Nat) (xs:List fm) (hs:a.eval s=v) (hown:w.ownsRow base e size v n xs) (g:Nat) (hx:a.eval x=.slice (some ⟨g,0,none⟩) 1 1) (hg:g=w.heap.size)
 (hcs:cs.size=size) (h1:∀ u∈cs.toList,u.oneCell'=true) (h63:n+1≤maxLen) (hbytes:(n+1)*bytes≤140737488355328) (hbase:base≤w.heap.size)
 (h:∀ v' w2,w2.ownsRow base e size v' (n+1) (xs++cs.toList)→(w.alloc (.cells cs e)).grownBy w2 v.ownBlock→wpList P ops Q rest (a.put o.dst v') w2):wpList P ops Q (o::rest) a (w.alloc (.cells cs e)):=by
 subst hg
 refine wpList_append_own _ hgd s x t ho base e i z size bytes ht hi hz hsize hby hzs hsz v n xs hs (hown.alloc _) ⟨w.heap.size,0,none⟩ 1 1 cs.toList hx (by simpa using hcs) (zb1 w cs e) h1 h63 hbytes (by simp;omega) ?_
 intro v' w2 h2 h3 _
 exact h v' w2 h2 h3
def eY (E:Int)(w:fk)(e:Ending)(w':fk):Prop:=∃ v,e=.returned (.tuple #[v,.int .i64 E])∧ft w.heap.size w w'
theorem bH {k:IntKind} {v:fm} {a b:Int} (h:a=b):Ending.returned (.tuple #[v,.int k a])=.returned (.tuple #[v,.int k b]):=by rw [h]
def zex (b:Nat)(W0:fk)(k:Nat)(v:fm)(wr:fk):Prop:=(∃ xs,wr.ownsRow b 280 3 v k xs)∧ft b W0 wr
theorem zex.step {b k:Nat} {W0 wr w2:fk} {v v':fm} {o o':Obj} {xs:List fm} (h:zex b W0 k v wr)(hW:b≤W0.heap.size)(hown:w2.ownsRow b 280 3 v' (k+1) xs)
 (hg:((wr.alloc o).alloc o').grownBy w2 v.ownBlock):zex b W0 (k+1) v' w2:=by
 obtain⟨⟨ys,ho⟩,hb⟩:=h
 have h1:b≤wr.heap.size:=fC hW hb.size
 exact⟨⟨xs,hown⟩,((hb.alloc h1 o).alloc (by simp;omega) o').grown hg (by simp;omega) (fun j hj=>(ho.lt j hj).1)⟩
theorem zh0 (x:Reg)(a:Option Addr)(cap:Nat)(zs:List Int)(w:fk)(hf:x.fits)(hI:Ints w a zs)(hl:zs.length≤4000000)(hB:x.bottom=false) :
 fo fE 157 #[.agg x.enc.toArray,.slice a zs.length cap] w (eY (bB x zs) w):=by
 have hU:=fun w=>zcF x w hf
 generalize hG:bB x zs=G
 unfold bB at hG
 obtain⟨nm,top,height,left,width,align,bottom⟩:=x
 obtain⟨_,hT,hH,hL,hW,ha0,ha1⟩:=hf
 simp only [i64] at hT hH hL hW ha0 ha1
 simp only at hB
 subst hB
 generalize ee ⟨nm,top,height,left,width,align,false⟩=U at *
 simp only [Reg.enc] at hU hG ⊢
 have HU:=h_ hU
 have HG:=h_ hG
 clear hU hG
 rcases(show U=false∨(U=true∧height<zs.length∧decide (height<(zs.length:Int))=true)∨(U=true∧zs.length≤height∧decide (height<(zs.length:Int))=false) by cases U<;>simp<;>omega) with rfl|⟨rfl,hlh,hld⟩|⟨rfl,hlh,hld⟩
 all_goals
  generalize hcs:#[fP nm,.int .i64 top,.int .i64 height,.int .i64 left,.int .i64 width,.int .u8 align,.bool false]=cs
  have f0:=aa w cs 44 0 (.string nm) (by rw [←hcs];rfl)
  have f1:=aa w cs 44 1 (.int .i64 top) (by rw [←hcs];rfl)
  have f2:=aa w cs 44 2 (.int .i64 height) (by rw [←hcs];rfl)
  have f3:=aa w cs 44 3 (.int .i64 left) (by rw [←hcs];rfl)
  have f4:=aa w cs 44 4 (.int .i64 width) (by rw [←hcs];rfl)
  have f5:=aa w cs 44 5 (.int .u8 align) (by rw [←hcs];rfl)
  have f6:=aa w cs 44 6 (.bool false) (by rw [←hcs];rfl)
  have HB:=h_ (fun(w1:fk) (h:ft (w.heap.size+1) (w.alloc (.cells cs 44)) w1)=>aq h)
  have hb0:ft (w.heap.size+1) (w.alloc (.cells cs 44)) (w.alloc (.cells cs 44)):=fu _ _
  have hsz:(w.alloc (.cells cs 44)).heap.size=w.heap.size+1:=fQ _ _
  generalize hW0:w.alloc (.cells cs 44)=W0 at *
  have HW0:=h_ hW0
  have HSZ:=h_ hsz
  clear hW0 hsz
  go_enter fM,fJ
  subst hcs
  go_wp2_with fail
  rw [HW0.out]
  refine(HU.out _).mono ?_
  rintro e w1 ⟨rfl,hb1⟩
  rw [HSZ.out] at hb1
  clear HW0
  go_wp2_with fail
 · go_ret2
   exact⟨.slice none 0 0,bH (by rw [←HG.out,if_pos (by decide)]),HB.out _ hb1⟩
 · go_ret2
   exact⟨.slice none 0 0,bH (by rw [←HG.out,if_neg (by decide),if_pos hlh]),HB.out _ hb1⟩
 · obtain⟨i0,hi,hz0,hz1,hz2⟩:=info_parts Tryz.info280
   have HI:=h_ hi;have H0:=h_ hz0;have H1:=h_ hz1;have H2:=h_ hz2
   clear hi hz0 hz1 hz2
   have hp0:bI width (zs.drop 0)=G:=by
    rw [fh,←HG.out,if_neg (by decide),if_neg (by omega)]
   have HP0:=h_ hp0
   clear hp0 HG
   go_loopw [7,34] (fun v i wr=>∃ k:Nat,k≤zs.length∧i=.int .i64 k∧bI width (zs.drop k)=G∧zex (w.heap.size+1) W0 k v wr) (fun _ i _=>zs.length-(intOf i).toNat)
   case atStart=>exact⟨0,by omega,rfl,HP0.out,⟨[],fR _ _ _ _⟩,hb1⟩
   case round =>
    obtain⟨k,hk,rfl,hp,hGr⟩:=hrel
    have hbr:=hGr.2
    have hlt0:w.heap.size<wr.heap.size:=by have:=hbr.size;rw [HSZ.out] at this;omega
    by_cases hlt:k<zs.length
    · obtain⟨b,off,z,rfl,hbl,hz,hc,_⟩:=(hI.later (HB.out _ hbr)).at_ hlt
      have d0:=hc 0 _ rfl
      simp only [fx,fD] at d0
      rw [eH width zs k z hz] at hp
      have HP:=h_ hp
      clear hp hc hz HP0 hI
      rcases(show z<0∨(0≤z∧width<z)∨(0≤z∧z≤width) by omega) with h|⟨h,h'⟩|⟨h,h'⟩
      · go_wp2_with fail
        go_ret2
        exact⟨.slice none 0 0,bH (by rw [←HP.out,if_pos h]),HB.out _ hbr⟩
      · go_wp2_with fail
        go_ret2
        exact⟨.slice none 0 0,bH (by rw [←HP.out,if_neg (by omega),if_pos h']),HB.out _ hbr⟩
      · rw [if_neg (by omega),if_neg (by omega)] at HP
        have hal:(align=3∨align=2∨((align==3)=false∧(align==2)=false)):=by
         by_cases h3:align=3
         · exact .inl h3
         · by_cases h2:align=2
           · exact .inr (.inl h2)
           · exact .inr (.inr ⟨by simpa using h3,by simpa using h2⟩)
        rcases hal with rfl|rfl|⟨e3,e2⟩
        all_goals
         obtain⟨xs,hown⟩:=hGr.1
         go_wp2_with (at_builtin;refine aH _ _ rfl (.tmp 75) (.tmp 77) 226 rfl (w.heap.size+1) 280 i0 _ 3 24 fI HI.out H0.out H1.out H2.out rfl (by decide) _ _ _ rfl (hown.alloc _) _ rfl (by simp) rfl ?h1 ?h63 ?hb ?hbase ?_)
         case h1=>exact⟨rfl,rfl,rfl⟩
         case h63=>unfold maxLen;omega
         case hb=>omega
         case hbase=>simp;omega
         intro v' w2 hown' hgrow
         have R:=zex.step hGr (by rw [HSZ.out];omega) hown' hgrow
         clear hown' hgrow hGr hown
         go_wp2_with fail
         go_roundw
         case rel=>exact⟨k+1,by omega,by go_num,HP.out,R⟩
         case measure=>simp [intOf];omega
    · obtain rfl:k=zs.length:=by omega
      rw [ff] at hp
      have HP:=h_ hp
      clear hp HP0
      go_wp2_with fail
      go_ret2
      exact⟨_,bH (by rw [←HP.out];rfl),HB.out _ hbr⟩
theorem zjf (x:Reg)(a:Option Addr)(cap:Nat)(zs:List Int)(w:fk)(hf:x.fits)(hI:Ints w a zs)(hl:zs.length≤4000000)(hB:x.bottom=true) :
 fo fE 157 #[.agg x.enc.toArray,.slice a zs.length cap] w (eY (bB x zs) w):=by
 have hU:=fun w=>zcF x w hf
 generalize hG:bB x zs=G
 unfold bB at hG
 obtain⟨nm,top,height,left,width,align,bottom⟩:=x
 obtain⟨_,hT,hH,hL,hW,ha0,ha1⟩:=hf
 simp only [i64] at hT hH hL hW ha0 ha1
 simp only at hB
 subst hB
 generalize ee ⟨nm,top,height,left,width,align,true⟩=U at *
 simp only [Reg.enc] at hU hG ⊢
 have HU:=h_ hU
 have HG:=h_ hG
 clear hU hG
 rcases(show U=false∨(U=true∧height<zs.length∧decide (height<(zs.length:Int))=true)∨(U=true∧zs.length≤height∧decide (height<(zs.length:Int))=false) by cases U<;>simp<;>omega) with rfl|⟨rfl,hlh,hld⟩|⟨rfl,hlh,hld⟩
 all_goals
  generalize hcs:#[fP nm,.int .i64 top,.int .i64 height,.int .i64 left,.int .i64 width,.int .u8 align,.bool true]=cs
  have f0:=aa w cs 44 0 (.string nm) (by rw [←hcs];rfl)
  have f1:=aa w cs 44 1 (.int .i64 top) (by rw [←hcs];rfl)
  have f2:=aa w cs 44 2 (.int .i64 height) (by rw [←hcs];rfl)
  have f3:=aa w cs 44 3 (.int .i64 left) (by rw [←hcs];rfl)
  have f4:=aa w cs 44 4 (.int .i64 width) (by rw [←hcs];rfl)
  have f5:=aa w cs 44 5 (.int .u8 align) (by rw [←hcs];rfl)
  have f6:=aa w cs 44 6 (.bool true) (by rw [←hcs];rfl)
  have HB:=h_ (fun(w1:fk) (h:ft (w.heap.size+1) (w.alloc (.cells cs 44)) w1)=>aq h)
  have hb0:ft (w.heap.size+1) (w.alloc (.cells cs 44)) (w.alloc (.cells cs 44)):=fu _ _
  have hsz:(w.alloc (.cells cs 44)).heap.size=w.heap.size+1:=fQ _ _
  generalize hW0:w.alloc (.cells cs 44)=W0 at *
  have HW0:=h_ hW0
  have HSZ:=h_ hsz
  clear hW0 hsz
  go_enter fM,fJ
  subst hcs
  go_wp2_with fail
  rw [HW0.out]
  refine(HU.out _).mono ?_
  rintro e w1 ⟨rfl,hb1⟩
  rw [HSZ.out] at hb1
  clear HW0
  go_wp2_with fail
 · go_ret2
   exact⟨.slice none 0 0,bH (by rw [←HG.out,if_pos (by decide)]),HB.out _ hb1⟩
 · go_ret2
   exact⟨.slice none 0 0,bH (by rw [←HG.out,if_neg (by decide),if_pos hlh]),HB.out _ hb1⟩
 · obtain⟨i0,hi,hz0,hz1,hz2⟩:=info_parts Tryz.info280
   have HI:=h_ hi;have H0:=h_ hz0;have H1:=h_ hz1;have H2:=h_ hz2
   clear hi hz0 hz1 hz2
   have hp0:bI width (zs.drop 0)=G:=by
    rw [fh,←HG.out,if_neg (by decide),if_neg (by omega)]
   have HP0:=h_ hp0
   clear hp0 HG
   go_loopw [7,34] (fun v i wr=>∃ k:Nat,k≤zs.length∧i=.int .i64 k∧bI width (zs.drop k)=G∧zex (w.heap.size+1) W0 k v wr) (fun _ i _=>zs.length-(intOf i).toNat)
   case atStart=>exact⟨0,by omega,rfl,HP0.out,⟨[],fR _ _ _ _⟩,hb1⟩
   case round =>
    obtain⟨k,hk,rfl,hp,hGr⟩:=hrel
    have hbr:=hGr.2
    have hlt0:w.heap.size<wr.heap.size:=by have:=hbr.size;rw [HSZ.out] at this;omega
    by_cases hlt:k<zs.length
    · obtain⟨b,off,z,rfl,hbl,hz,hc,_⟩:=(hI.later (HB.out _ hbr)).at_ hlt
      have d0:=hc 0 _ rfl
      simp only [fx,fD] at d0
      rw [eH width zs k z hz] at hp
      have HP:=h_ hp
      clear hp hc hz HP0 hI
      rcases(show z<0∨(0≤z∧width<z)∨(0≤z∧z≤width) by omega) with h|⟨h,h'⟩|⟨h,h'⟩
      · go_wp2_with fail
        go_ret2
        exact⟨.slice none 0 0,bH (by rw [←HP.out,if_pos h]),HB.out _ hbr⟩
      · go_wp2_with fail
        go_ret2
        exact⟨.slice none 0 0,bH (by rw [←HP.out,if_neg (by omega),if_pos h']),HB.out _ hbr⟩
      · rw [if_neg (by omega),if_neg (by omega)] at HP
        have hal:(align=3∨align=2∨((align==3)=false∧(align==2)=false)):=by
         by_cases h3:align=3
         · exact .inl h3
         · by_cases h2:align=2
           · exact .inr (.inl h2)
           · exact .inr (.inr ⟨by simpa using h3,by simpa using h2⟩)
        rcases hal with rfl|rfl|⟨e3,e2⟩
        all_goals
         obtain⟨xs,hown⟩:=hGr.1
         go_wp2_with (at_builtin;refine aH _ _ rfl (.tmp 75) (.tmp 77) 226 rfl (w.heap.size+1) 280 i0 _ 3 24 fI HI.out H0.out H1.out H2.out rfl (by decide) _ _ _ rfl (hown.alloc _) _ rfl (by simp) rfl ?h1 ?h63 ?hb ?hbase ?_)
         case h1=>exact⟨rfl,rfl,rfl⟩
         case h63=>unfold maxLen;omega
         case hb=>omega
         case hbase=>simp;omega
         intro v' w2 hown' hgrow
         have R:=zex.step hGr (by rw [HSZ.out];omega) hown' hgrow
         clear hown' hgrow hGr hown
         go_wp2_with fail
         go_roundw
         case rel=>exact⟨k+1,by omega,by go_num,HP.out,R⟩
         case measure=>simp [intOf];omega
    · obtain rfl:k=zs.length:=by omega
      rw [ff] at hp
      have HP:=h_ hp
      clear hp HP0
      go_wp2_with fail
      go_ret2
      exact⟨_,bH (by rw [←HP.out];rfl),HB.out _ hbr⟩
theorem zcP (x:Reg)(a:Option Addr)(cap:Nat)(zs:List Int)(w:fk)(hf:x.fits)(hI:Ints w a zs)(hl:zs.length≤4000000) :
 fo fE 157 #[.agg x.enc.toArray,.slice a zs.length cap] w (eY (bB x zs) w):=by
 cases hB:x.bottom
 · exact zh0 x a cap zs w hf hI hl hB
 · exact zjf x a cap zs w hf hI hl hB
end Go.Proofs.YtnlnmbcaongehaaGreatDoor
