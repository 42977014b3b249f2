/- The contracts of style.Len and style.Plain: the number of characters and the text of any row. Maps that a call makes, from int64 to int and from int64 to bool: what they hold, key by key. Maps from int64 to values of any type that a call makes: what they hold, key by key; ranging over them. Rows of structs that a call owns: how they are read, stored into and kept. Lists of the call's own that grow by append, whose elements have memory of their own. The contract of style.Check: the first error of a row. -/
import Derived.Lib.SmallJoins
import Derived.Test.YtnlnmbcaongehaaGreatDoorM01
set_option linter.unusedVariables false
set_option linter.unusedSimpArgs false
set_option maxRecDepth 100000
set_option maxHeartbeats 12800000
open Go.Lib renaming hid→h_
open List renaming getElem?_eq_some_iff→fm,mem_of_getElem?→fp,flatMap_cons→ft,length_append→fu,length_cons→fw,drop_length→fB,drop_zero→fC,mem_append→fD,append_nil→fE
open Go renaming World→fF,Value→fG,TypeId→fH,Operand→fI,DataW→fJ,wpList_plain→fK,TypeInfo→fL,Program→fM
open Go.RowKit renaming Below→fN
open Go.RowKit.Below renaming refl→fO,heap_alloc→fP
open Nat renaming le_refl→fQ,add_zero→fR,eq_zero_or_pos→fS,succ_mul→fT,mul_comm→fU,le_trans→fV
open Go.World renaming size_alloc→fW,ownsMap_made→fX,ownsRow_nil→fY
open Go.Lib renaming byteCells→fZ,IsBuilder→f_,BuilderAt→gd,strCells→gf
open Array renaming getElem?_eq_some_iff→gh
open Go.Lit renaming int→gj
open Go.Instr renaming lookup→gl,mapUpdate→gp
open Option.some renaming injEq→gq,inj→gu
open Go.Builtin renaming append_→gv,firstCells→gw,lenOf→gx
namespace Go.Proofs.YtnlnmbcaongehaaGreatDoor
open Go.RowKit
theorem dP (s:ByteArray):∀ b pos,(cd s b pos).length≤b
 | 0,_=>by simp [cd]
 | b+1,pos=>by
   simp only [cd]
   split
   · have:=dP s b (pos+(Utf8.decode s pos).2)
     rw [fw];omega
   · simp
theorem ziD (s:ByteArray):-1≤lenB s∧lenB s≤s.size:=by
 unfold lenB
 have:=dP s s.size 0
 split
 · unfold runes;omega
 · omega
def ee:List Run→Int→Int
 | [],acc=>acc
 | x::l,acc=>if lenB x.text<0 then -1 else ee l (acc+lenB x.text)
def rowLen (runs:List Run):Int:=ee runs 0
theorem aZ {α:Type} (xs:List α)(k:Nat)(x:α)(hx:xs[k]? =some x):xs.drop k=x::xs.drop (k+1):=by
 have hk:k<xs.length:=(fm.1 hx).1
 have e:xs[k]=x:=(fm.1 hx).2
 rw [List.drop_eq_getElem_cons hk,e]
theorem cu {w wr w1:fF} (hb:fN w.heap.size w wr)(o:Obj)(h1:fN (wr.heap.size+1) (wr.alloc o) w1):fN w.heap.size w w1 :=
 (hb.alloc hb.size o).trans (h1.mono (by have:=hb.size;omega))
theorem zbE (r:Row)(w:fF)(hE:Env w)(hr:r.lies w)(hf:r.fits) :
 Calls Tryz.prog 215 #[.agg r.enc.toArray] w fun e w'=>e=.returned (.int .i64 (rowLen r.runs))∧fN w.heap.size w w':=by
 obtain⟨a,cap,xs⟩:=r
 obtain⟨hfx,hl,hsum⟩:=hf
 simp only [Row.lies] at hr
 simp only [Row.enc] at *
 generalize hG:rowLen xs=G
 have H0:=h_ (show ee (xs.drop 0) 0=G by rw [fC];exact hG)
 have hs0:0+bQ (xs.drop 0)≤4000000:=by simpa using hsum
 clear hG
 go_enter Tryz.func215,Tryz.ntmps215
 go_wp2_with fail
 go_loopw [3,10] (fun s i wr=>∃ (k acc:Nat),k≤xs.length∧i=.int .i64 k∧s=.int .i64 acc∧ee (xs.drop k) acc=G∧acc+bQ (xs.drop k)≤4000000∧fN w.heap.size w wr) (fun _ i _=>xs.length-(intOf i).toNat)
 case atStart=>exact⟨0,0,by omega,rfl,rfl,H0.out,hs0,(fO _ _).alloc (fQ _) _⟩
 case round =>
  obtain⟨k,acc,hk,rfl,rfl,hp,hs,hb⟩:=hrel
  by_cases hlt:k<xs.length
  · obtain⟨b,off,x,rfl,hbl,hx,hc,_⟩:=(hr.later hb).at_ hlt
    have hft:=hfx x (fp hx)
    rw [aZ xs k x hx] at hp hs
    simp only [ee] at hp
    simp only [bQ] at hs
    have hll:=ziD x.text
    have HL:=h_ (fun w1 (h:Env w1)=>ziC x.text w1 hft.1 h)
    have HE:=h_ (fun w1 (h:fN w.heap.size w w1)=>hE.below h (fQ _))
    have hbo:=fun o=>hb.alloc hb.size o
    have HB:=h_ (fun o w1 h1=>cu (w1:=w1) hb o h1)
    obtain⟨t,c,i,u,ru⟩:=x
    have d0:=hc 0 _ rfl;have d1:=hc 1 _ rfl;have d2:=hc 2 _ rfl;have d3:=hc 3 _ rfl;have d4:=hc 4 _ rfl
    simp only [fR] at d0 d1 d2 d3 d4 hp hs HL hll
    have HP:=h_ hp
    have HBO:=h_ hbo
    clear hp hc hx H0 hr hbo hfx hft
    generalize hL:lenB t=L at *
    clear hL
    obtain⟨l0,l1⟩:=hll
    by_cases hneg:L<0
    · go_wp2_with (go_at_call 264;refine(HL.out _ (HE.out _ (HBO.out _))).mono ?_;rintro e w1 ⟨rfl,hb1⟩;simp only [fW] at hb1)
      go_ret
      exact⟨ag (by rw [←HP.out,if_pos hneg]),HB.out _ _ hb1⟩
    · have hnn:0≤L:=by omega
      go_wp2_with (go_at_call 264;refine(HL.out _ (HE.out _ (HBO.out _))).mono ?_;rintro e w1 ⟨rfl,hb1⟩;simp only [fW] at hb1)
      have hq:=HP.out
      rw [if_neg (by omega)] at hq
      have HQ:=h_ hq
      clear hq HP
      obtain⟨m,rfl⟩:=Int.eq_ofNat_of_zero_le hnn
      go_roundw
      case rel=>exact⟨k+1,acc+m,by omega,by go_num,by go_num,by have:=HQ.out;simpa using this,by omega,HB.out _ _ hb1⟩
      case measure=>simp [intOf];omega
  · obtain rfl:k=xs.length:=by omega
    rw [fB] at hp
    have HP:=h_ hp
    clear hp H0
    go_wp2_with fail
    go_ret
    exact⟨ag (by rw [←HP.out];rfl),hb⟩
def et:List Run→List UInt8
 | []=>[]
 | x::l=>x.text.data.toList++et l
def plain (runs:List Run):ByteArray:=⟨(et runs).toArray⟩
theorem dR:∀ l,(et l).length=bQ l
 | []=>rfl
 | x::l=>by simp [et,bQ,dR l]
theorem zdG (l:List UInt8)(s:ByteArray):fZ l++gf s=fZ (l++s.data.toList):=by
 rw [Lib.byteCells_append,Lib.strCells_eq]
theorem zeH {B b:Nat} {bs:List fG} {w:fF} (h:f_ 123 5 B b bs w)(o:Obj):f_ 123 5 B b bs (w.alloc o):=by
 have key:∀ p,gd 123 5 B b p bs w→gd 123 5 B b p bs (w.alloc o):=by
  rintro p ⟨hB,v,hb,hown,hne⟩
  have hlt:b<w.heap.size:=(gh.1 hb).1
  exact⟨hB,v,(fP w o b hlt).trans hb,hown.alloc o,hne⟩
 rcases h with h|h
 · exact .inl (key _ h)
 · exact .inr (key _ h)
theorem zgh (w:fF):f_ 123 5 w.heap.size w.heap.size (fZ []) (w.alloc (.cells #[.pointer none,.slice none 0 0] 123)) :=
 .inl ⟨fQ _,.slice none 0 0,heap_alloc_last w _,fY _ _ _ _,by simp [fG.ownBlock]⟩
def zbd (xs:List Run)(w:fF)(B k:Nat)(wr:fF):Prop :=
 ∃ done,done++et (xs.drop k)=et xs∧f_ 123 5 B B (fZ done) wr∧fN B w wr
theorem zbd.size {xs:List Run} {w:fF} {B k:Nat} {wr:fF} (h:zbd xs w B k wr):B<wr.heap.size:=by
 obtain⟨done,_,hb,_⟩:=h
 rcases hb with⟨_,v,hb,_⟩|⟨_,v,hb,_⟩
 · exact(gh.1 hb).1
 · exact(gh.1 hb).1
theorem zcu (r:Row)(w:fF)(hr:r.lies w)(hf:r.fits) :
 Calls Tryz.prog 213 #[.agg r.enc.toArray] w fun e w'=>e=.returned (.string (plain r.runs))∧fN w.heap.size w w':=by
 obtain⟨a,cap,xs⟩:=r
 obtain⟨hfx,hl,hsum⟩:=hf
 simp only [Row.lies] at hr
 simp only [Row.enc] at *
 have hpl:(et xs).length≤4000000:=by rw [dR];exact hsum
 have HPL:=h_ hpl
 go_enter Tryz.func213,Tryz.ntmps213
 go_wp2_with fail
 have hst:∀ o,zbd xs (w.alloc o) (w.heap.size+1) 0 ((w.alloc o).alloc (.cells #[.pointer none,.slice none 0 0] 123)):=fun o=>by
  have h1:=zgh (w.alloc o)
  rw [fW] at h1
  exact⟨[],by rw [fC,List.nil_append],h1,(fO _ _).alloc (by simp) _⟩
 have HST:=h_ hst
 clear hst hpl hsum
 go_loopw [9] (fun i wr=>∃ k:Nat,k≤xs.length∧i=.int .i64 k∧zbd xs (w.alloc (.cells #[.slice a xs.length cap] 78)) (w.heap.size+1) k wr) (fun i _=>xs.length-(intOf i).toNat)
 case atStart=>exact⟨0,by omega,rfl,HST.out _⟩
 case round =>
  obtain⟨k,hk,rfl,hP⟩:=hrel
  have hsz:=hP.size
  obtain⟨done,hd,hB,hbel⟩:=hP
  have hbw:=aH hbel
  by_cases hlt:k<xs.length
  · obtain⟨b,off,x,rfl,hbl,hx,hc,_⟩:=(hr.later hbw).at_ hlt
    rw [aZ xs k x hx] at hd
    simp only [et] at hd
    obtain⟨t,c,i,u,ru⟩:=x
    have d0:=hc 0 _ rfl;have d1:=hc 1 _ rfl;have d2:=hc 2 _ rfl;have d3:=hc 3 _ rfl;have d4:=hc 4 _ rfl
    simp only [fR] at d0 d1 d2 d3 d4 hd
    have hlen:(fZ done).length+t.size≤140737488355328:=by
     have h1:=congrArg List.length hd
     have h2:=HPL.out
     simp only [fu,Array.length_toList,ByteArray.size_data] at h1
     rw [Lib.byteCells_length]
     omega
    have HW:=h_ (fun o=>zbg (w.heap.size+1) (w.heap.size+1) (fZ done) t (wr.alloc o) (zeH hB o) hlen (by simp;omega))
    have HR:=h_ (fun(o:Obj) (w1:fF) (h1:gd 123 5 (w.heap.size+1) (w.heap.size+1) (.pointer (some ⟨w.heap.size+1,0,none⟩)) (fZ done++gf t) w1) (h2:fN (w.heap.size+1) (wr.alloc o) w1) =>
     (show zbd xs (w.alloc (.cells #[.slice (some ⟨b,off,none⟩) xs.length cap] 78)) (w.heap.size+1) (k+1) w1 from
      ⟨done++t.data.toList,by rw [List.append_assoc];exact hd,.inr (by rw [←zdG];exact h1),(hbel.alloc (by omega) o).trans h2⟩))
    clear hc hx hr hd hB hbel hlen hfx
    go_wp2_with (go_at_call 67;refine(HW.out _).mono ?_;rintro e w1 ⟨rfl,h1,h2⟩)
    have hR:=HR.out _ _ h1 h2
    go_roundw
    case rel=>exact⟨k+1,by omega,by go_num,hR⟩
    case measure=>simp [intOf];omega
  · obtain rfl:k=xs.length:=by omega
    rw [fB] at hd
    simp only [et,fE] at hd
    have HW:=h_ (Tryz.Builder_String_any (w.heap.size+1) (w.heap.size+1) done wr hB (by omega))
    have HB:=h_ (fun w1 (h:fN (w.heap.size+1) wr w1)=>hbw.trans (h.mono (by omega)))
    have HD:=h_ hd
    clear hd hB hbel hr hfx
    go_wp2_with (go_at_call 69;refine HW.out.mono ?_;rintro e w1 ⟨rfl,h1⟩)
    go_ret
    exact⟨by rw [HD.out];rfl,HB.out _ h1⟩
end Go.Proofs.YtnlnmbcaongehaaGreatDoor
namespace Go.Proofs.YtnlnmbcaongehaaGreatDoor
open Go.RowKit Go.Maps
def aL {α:Type} (xs:List α):Nat→Option α
 | 0=>none
 | k+1=>xs[k]?
theorem zcH:Keyed Tryz.prog 2:=int_keyed Tryz.underlying2
theorem zkZ (w:fF):(zeroValue 3).run Tryz.prog w=.ok (.int .i64 0) w:=by kernel_rfl
theorem isKey (z:Int):WideAt.IsKeyLit (.int .i64 z):=trivial
theorem wf64 {z:Int} (h:i64 z):(gj .i64 z).wf=true:=WalkArith.wf_i64 h
theorem key2 {z:Int} (h:i64 z):keyOf Tryz.prog 2 (.int .i64 z)=some (.int .i64 z):=keyOf_int_mk Tryz.underlying2 (wf64 h)
theorem aa {P:fM} (w:fF) {ops:Array Oper} {rest:List Oper} {o:Oper} {a:Act} {Q:Exit→Act→fF→Prop}
 (hg:o.guard=none) (m x:fI) (t:fH) (c:Bool) (hop:o.op=Op.lookup t m x c) (mv key v:fG) (hm:a.eval m=mv) (hx:a.eval x=key)
 (hrun:(gl t mv key c).run P w=.ok v w) (hK:wpList P ops Q rest (a.put o.dst v) w):wpList P ops Q (o::rest) a w:=by
 refine fK hg fun K' hK'=>?_
 unfold Oper.wp
 simp [execOp,hop,hm,hx,hrun,Result.andThen]
 exact hK' _ _ hK
def IMap (w:fF)(b n:Nat)(f:Int→Option Nat):Prop:=∃ D:fJ Unit,w.ownsMap Tryz.prog 2 (plainElem Tryz.prog 3) b n D ∧
 ∀ z,Maps.has D (.int .i64 z)=(f z).isSome∧D.atKey (.int .i64 z) (.lit (.int .i64 0))=.lit (.int .i64 ((f z).getD 0:Nat))
theorem IMap.made (w:fF):IMap (w.alloc (.map #[] 0)) w.heap.size 0 (fun _=>none) :=
 ⟨_,fX _ _ _ _,fun z=>⟨rfl,rfl⟩⟩
theorem IMap.lt {w:fF} {b n:Nat} {f:Int→Option Nat} (h:IMap w b n f):b<w.heap.size:=by
 obtain⟨D,h,_⟩:=h;exact h.lt
theorem zaL {H:Type} {P:fM} {k:fH} {R:fG→Option (fJ H × List MemPlace)} {w w':fF} {b n B:Nat} {D:fJ H} (h:w.ownsMap P k R b n D)(hb:fN B w w')(hB:b<B):w'.ownsMap P k R b n D:=by
 obtain⟨es,clock,h1,r⟩:=h
 exact⟨es,clock,(hb.block b hB).trans h1,r⟩
theorem IMap.below {w w':fF} {b n B:Nat} {f:Int→Option Nat} (h:IMap w b n f)(hb:fN B w w')(hB:b<B):IMap w' b n f:=by
 obtain⟨D,h,r⟩:=h
 exact⟨D,zaL h hb hB,r⟩
theorem IMap.look {w:fF} {b n:Nat} {f:Int→Option Nat} (h:IMap w b n f) {z:Int} (hz:i64 z) :
 (gl 154 (.map (some b)) (.int .i64 z) true).run Tryz.prog w=.ok (.tuple #[.int .i64 ((f z).getD 0:Nat),.bool (f z).isSome]) w:=by
 obtain⟨D,h,r⟩:=h
 obtain⟨v,ps,hrun,hv⟩:=h.look_ok zcH Tryz.underlying154 (zkZ w) (plainElem_int Tryz.underlying3 (by decide)) (key2 hz)
 rw [(r z).2] at hv
 obtain⟨c,rfl,hc,_⟩:=plainElem_int_inv Tryz.underlying3 hv
 simp only [Prod.mk.injEq,fJ.lit.injEq,gj.injEq,true_and] at hc
 rw [hrun,(r z).1,←hc.1]
theorem IMap.put {w:fF} {b n:Nat} {f:Int→Option Nat} (h:IMap w b n f) {z:Int} (hz:i64 z)(hn:n<maxLen)(v:Nat)(hv:i64 v) :
 ∃ w',(gp 154 (.map (some b)) (.int .i64 z) (.int .i64 v)).run Tryz.prog w=.ok () w'∧IMap w' b (n+1) (fun y=>if y=z then some v else f y)∧w.grownBy w' (some b):=by
 obtain⟨D,h,r⟩:=h
 obtain⟨w',h1,h2,h3⟩:=h.update zcH Tryz.underlying154 hn (key2 hz) (plainElem_int Tryz.underlying3 (wf64 hv))
 refine⟨w',h1,⟨_,h2,fun y=>?_⟩,h3⟩
 by_cases hy:y=z
 · subst hy
   simp only [if_true]
   exact⟨has_put_same h.isMap (isKey _) _,atKey_put_same h.isMap (isKey _) _ _⟩
 · simp only [if_neg hy]
   have hne:gj .i64 y≠gj .i64 z:=by simpa using hy
   rw [has_put_other hne,atKey_put_other hne]
   exact r y
def BMap (w:fF)(b n:Nat)(f:Int→Bool):Prop:=∃ D:fJ Unit,w.ownsMap Tryz.prog 2 (plainElem Tryz.prog 4) b n D ∧
 ∀ z,D.atKey (.int .i64 z) (.lit (.bool false))=.lit (.bool (f z))
theorem BMap.made (w:fF):BMap (w.alloc (.map #[] 0)) w.heap.size 0 (fun _=>false) :=
 ⟨_,fX _ _ _ _,fun z=>rfl⟩
theorem BMap.lt {w:fF} {b n:Nat} {f:Int→Bool} (h:BMap w b n f):b<w.heap.size:=by
 obtain⟨D,h,_⟩:=h;exact h.lt
theorem BMap.below {w w':fF} {b n B:Nat} {f:Int→Bool} (h:BMap w b n f)(hb:fN B w w')(hB:b<B):BMap w' b n f:=by
 obtain⟨D,h,r⟩:=h
 exact⟨D,zaL h hb hB,r⟩
def zf6 (v:fG):Option (fJ fG × List MemPlace):=some (.held v,[])
def Holds (D:fJ fG)(f:Int→Option fG):Prop:=∀ k,Maps.has D (.int .i64 k)=(f k).isSome∧∀ zd,D.atKey (.int .i64 k) zd=((f k).map fJ.held).getD zd
def VMap (w:fF)(b n:Nat)(f:Int→Option fG):Prop:=∃ D:fJ fG,w.ownsMap Tryz.prog 2 zf6 b n D∧Holds D f
theorem VMap.made (w:fF):VMap (w.alloc (.map #[] 0)) w.heap.size 0 (fun _=>none) :=
 ⟨_,fX _ _ _ _,fun z=>⟨rfl,fun _=>rfl⟩⟩
theorem VMap.lt {w:fF} {b n:Nat} {f:Int→Option fG} (h:VMap w b n f):b<w.heap.size:=by
 obtain⟨D,h,_⟩:=h;exact h.lt
theorem VMap.kept {w w':fF} {b n:Nat} {f:Int→Option fG} (h:VMap w b n f)(hb:w'.heap[b]? =w.heap[b]?):VMap w' b n f:=by
 obtain⟨D,⟨es,clock,h1,r⟩,hD⟩:=h
 exact⟨D,⟨es,clock,hb.trans h1,r⟩,hD⟩
theorem VMap.below {w w':fF} {b n B:Nat} {f:Int→Option fG} (h:VMap w b n f)(hb:fN B w w')(hB:b<B):VMap w' b n f:=h.kept (hb.block b hB)
theorem VMap.mono {w:fF} {b n m:Nat} {f:Int→Option fG} (h:VMap w b n f)(hn:n≤m):VMap w b m f:=by
 obtain⟨D,h,hD⟩:=h
 exact⟨D,h.mono hn,hD⟩
theorem VMap.look {w:fF} {b n:Nat} {f:Int→Option fG} (h:VMap w b n f) {t e:fH} (ht:Tryz.prog.underlying t=some (.map 2 e)) {zero:fG} (hz:(zeroValue e).run Tryz.prog w=.ok zero w) {z:Int} (hk:i64 z) :
 (gl t (.map (some b)) (.int .i64 z) true).run Tryz.prog w=.ok (.tuple #[(f z).getD zero,.bool (f z).isSome]) w:=by
 obtain⟨D,h,r⟩:=h
 obtain⟨v,ps,hrun,hv⟩:=h.look_ok zcH ht hz (zd:=.held zero) (zp:=[]) rfl (key2 hk)
 rw [(r z).2] at hv
 rw [hrun,(r z).1]
 have:v=(f z).getD zero:=by
  unfold zf6 at hv
  cases hf:f z with
  | none=>rw [hf] at hv;simp at hv;exact hv.1
  | some u=>rw [hf] at hv;simp at hv;exact hv.1
 rw [this]
theorem VMap.look1 {w:fF} {b n:Nat} {f:Int→Option fG} (h:VMap w b n f) {t e:fH} (ht:Tryz.prog.underlying t=some (.map 2 e)) {zero:fG} (hz:(zeroValue e).run Tryz.prog w=.ok zero w) {z:Int} (hk:i64 z) :
 (gl t (.map (some b)) (.int .i64 z) false).run Tryz.prog w=.ok ((f z).getD zero) w:=by
 obtain⟨D,h,r⟩:=h
 obtain⟨v,ps,hrun,hv⟩:=h.lookup zcH ht hz (zd:=.held zero) (zp:=[]) rfl (key2 hk)
 rw [(r z).2] at hv
 rw [hrun]
 have:v=(f z).getD zero:=by
  unfold zf6 at hv
  cases hf:f z with
  | none=>rw [hf] at hv;simp at hv;exact hv.1
  | some u=>rw [hf] at hv;simp at hv;exact hv.1
 rw [this]
theorem VMap.put {w:fF} {b n:Nat} {f:Int→Option fG} (h:VMap w b n f) {t e:fH} (ht:Tryz.prog.underlying t=some (.map 2 e)) {z:Int} (hk:i64 z)(hn:n<maxLen)(v:fG) :
 ∃ w',(gp t (.map (some b)) (.int .i64 z) v).run Tryz.prog w=.ok () w'∧VMap w' b (n+1) (fun y=>if y=z then some v else f y)∧w.grownBy w' (some b):=by
 obtain⟨D,h,r⟩:=h
 obtain⟨w',h1,h2,h3⟩:=h.update zcH ht hn (key2 hk) (d:=.held v) (ps:=[]) rfl
 refine⟨w',h1,⟨_,h2,fun y=>?_⟩,h3⟩
 by_cases hy:y=z
 · subst hy
   simp only [if_true]
   exact⟨has_put_same h.isMap (isKey _) _,fun zd=>atKey_put_same h.isMap (isKey _) _ _⟩
 · simp only [if_neg hy]
   have hne:gj .i64 y≠gj .i64 z:=by simpa using hy
   exact⟨by rw [has_put_other hne];exact(r y).1,fun zd=>by rw [atKey_put_other hne];exact(r y).2 zd⟩
theorem cx (w:fF) {ops:Array Oper} {rest:List Oper} {o:Oper} {a:Act} {Q:Exit→Act→fF→Prop}
 (hg:o.guard=none) (m x v:fI) (t e:fH) (hop:o.op=Op.mapUpdate t m x v) (ht:Tryz.prog.underlying t=some (.map 2 e)) (b n:Nat) (f:Int→Option fG)
 (hm:a.eval m=.map (some b)) (h:VMap w b n f) (hn:n<maxLen) (z:Int) (hx:a.eval x=.int .i64 z) (hz:i64 z) (u:fG) (hv:a.eval v=u)
 (hK:∀ w',VMap w' b (n+1) (fun y=>if y=z then some u else f y)→w.grownBy w' (some b)→wpList Tryz.prog ops Q rest (a.put o.dst undef) w'):wpList Tryz.prog ops Q (o::rest) a w:=by
 obtain⟨w',hrun,h1,h2⟩:=h.put ht hz hn u
 refine fK hg fun K' hK'=>?_
 unfold Oper.wp
 simp [execOp,hop,hm,hx,hv,hrun,Result.andThen]
 exact hK' _ _ (hK _ h1 h2)
def VRange (w:fF)(b r n:Nat)(f:Int→Option fG)(left:Int→Bool)(cnt:Nat):Prop :=
 ∃ (D:fJ fG) (L:Lit→Bool),w.ranges Tryz.prog 2 zf6 b r n D L cnt∧Holds D f∧∀ k,L (.int .i64 k)=left k
theorem VRange.lt {w:fF} {b r n cnt:Nat} {f:Int→Option fG} {left:Int→Bool} (h:VRange w b r n f left cnt):r<w.heap.size∧b<w.heap.size∧r≠b:=by
 obtain⟨D,L,h,_⟩:=h
 exact⟨h.lt,h.owns.lt,h.ne⟩
theorem VRange.map {w:fF} {b r n cnt:Nat} {f:Int→Option fG} {left:Int→Bool} (h:VRange w b r n f left cnt):VMap w b n f:=by
 obtain⟨D,L,h,hD,_⟩:=h
 exact⟨D,h.owns,hD⟩
theorem VRange.kept {w w':fF} {b r n cnt:Nat} {f:Int→Option fG} {left:Int→Bool} (h:VRange w b r n f left cnt)(hb:w'.heap[b]? =w.heap[b]?)(hr:w'.heap[r]? =w.heap[r]?):VRange w' b r n f left cnt:=by
 obtain⟨D,L,⟨es,clock,since,seen,c0,h1,F,hs,hD,h2,rest⟩,r1,r2⟩:=h
 exact⟨D,L,⟨es,clock,since,seen,c0,hb.trans h1,F,hs,hD,hr.trans h2,rest⟩,r1,r2⟩
theorem VRange.left_eq {w:fF} {b r n cnt:Nat} {f:Int→Option fG} {left:Int→Bool} (h:VRange w b r n f left cnt):w.rangeLeft b r=cnt:=by
 obtain⟨D,L,h,_⟩:=h
 exact h.left_eq
theorem bK (w:fF) {ops:Array Oper} {rest:List Oper} {o:Oper} {a:Act} {Q:Exit→Act→fF→Prop}
 (hg:o.guard=none) (m:fI) (t e:fH) (hop:o.op=Op.range t m) (ht:Tryz.prog.underlying t=some (.map 2 e)) (b n:Nat) (f:Int→Option fG)
 (hm:a.eval m=.map (some b)) (h:VMap w b n f)
 (hK:∀ w' cnt,VRange w' b w.heap.size n f (fun k=>(f k).isSome) cnt→cnt≤n→w.grownBy w' none→w'.heap.size=w.heap.size+1→wpList Tryz.prog ops Q rest (a.put o.dst (.pointer (some ⟨w.heap.size,0,none⟩))) w') :
 wpList Tryz.prog ops Q (o::rest) a w:=by
 obtain⟨D,h,hD⟩:=h
 exact wpList_range_own w hg m t hop 2 e zcH ht zf6 b n D hm h fun w' h1 h2 h3=>hK w' _ ⟨D,_,h1,hD,fun k=>(hD k).1⟩ h.size_le h2 h3
theorem bP (w:fF) {ops:Array Oper} {rest:List Oper} {o:Oper} {a:Act} {Q:Exit→Act→fF→Prop}
 (hg:o.guard=none) (it:fI) (hop:o.op=Op.next it false) (b r n:Nat) (f:Int→Option fG) (left:Int→Bool) (cnt:Nat)
 (hit:a.eval it=.pointer (some ⟨r,0,none⟩)) (h:VRange w b r n f left cnt)
 (hDone:cnt=0→(∀ k,left k=false)→wpList Tryz.prog ops Q rest (a.put o.dst (.tuple #[.bool false])) w)
 (hMore:∀ (k:Int) (v:fG) (w':fF) (cnt':Nat),i64 k→left k=true→f k=some v→VRange w' b r n f (fun z=>left z&&!(z==k)) cnt'→cnt'<cnt →
  w.grownBy w' (some r)→w'.heap.size=w.heap.size→(Instr.entry (.pointer (some ⟨r,0,none⟩))).run Tryz.prog w'=.ok (.tuple #[.int .i64 k,v]) w'→wpList Tryz.prog ops Q rest (a.put o.dst (.tuple #[.bool true,.int .i64 k,v])) w') :
 wpList Tryz.prog ops Q (o::rest) a w:=by
 obtain⟨D,L,hr,hD,hL⟩:=h
 refine wpList_next_ranges w hg it hop 2 zcH zf6 (fG.int .i64) (fun v:fG=>v) (fun key kl hkey=>by obtain⟨x,rfl,_⟩:=Maps.keyOf_int_inv Tryz.underlying2 hkey;exact⟨x,rfl⟩) (fun v _ _=>⟨v,rfl⟩) b r n D L cnt hit hr
  (fun h0 hl=>hDone h0 fun k=>by rw [←hL];exact hl _) fun x c kl y w' cnt' hkey hlk hv hat hrg hlt hgr hsz hen=>?_
 obtain⟨x',ex,rfl,hwx⟩:=Maps.keyOf_int_inv Tryz.underlying2 hkey
 cases ex
 have hy:y.1=.held c:=by
  unfold zf6 at hv
  have:=gu hv
  rw [←this]
 have hfk:f x=some c:=by
  have h1:=(hD x).2 (.held undef)
  have h2:=(hD x).2 (fJ.nil)
  rw [hat,hy] at h1 h2
  cases hf:f x with
  | none=>rw [hf] at h2;simp at h2
  | some u=>rw [hf] at h2;simp at h2;rw [h2]
 refine hMore x c w' cnt' ?_ (by rw [←hL];exact hlk) hfk ⟨D,_,hrg,hD,fun k=>?_⟩ hlt hgr hsz hen
 · exact show _∧_ from(by simpa [Lit.wf,IntKind.min,IntKind.max,IntKind.signed,IntKind.bits] using hwx)
 · rw [hL]
   have:(gj .i64 k).sameKey (gj .i64 x)=(k==x):=by
    by_cases hkx:k=x
    · subst hkx
      rw [WideAt.sameKey_self (isKey _)]
      simp
    · cases hs:(gj .i64 k).sameKey (gj .i64 x)
      · simp [hkx]
      · have:=WideAt.sameKey_eq hs
        simp at this
        exact absurd this hkx
   rw [this]
structure Keys (f:Int→Option fG)(left:Int→Bool)(K0 ks:List Int):Prop where
 mem:∀ z,z∈ks↔z∈K0∨((f z).isSome=true∧left z=false)
theorem Keys.start (f:Int→Option fG)(K0:List Int):Keys f (fun k=>(f k).isSome) K0 K0:=⟨fun z=>by
 constructor
 · exact .inl
 · rintro (h|⟨h1,h2⟩)
   · exact h
   · rw [h1] at h2;cases h2⟩
theorem Keys.step {f:Int→Option fG} {left:Int→Bool} {K0 ks:List Int} (h:Keys f left K0 ks) {k:Int} {v:fG} (hk:left k=true)(hf:f k=some v):Keys f (fun z=>left z&&!(z==k)) K0 (ks++[k]):=⟨fun z=>by
 rw [fD,h.mem z,List.mem_singleton]
 by_cases hz:z=k
 · subst hz
   simp [hf]
 · simp [hz]⟩
theorem Keys.fin {f:Int→Option fG} {left:Int→Bool} {K0 ks:List Int} (h:Keys f left K0 ks)(hl:∀ k,left k=false)(z:Int):z∈ks↔z∈K0∨(f z).isSome=true:=by
 rw [h.mem z,hl z]
 simp
end Go.Proofs.YtnlnmbcaongehaaGreatDoor
namespace Go.Proofs.YtnlnmbcaongehaaGreatDoor
open Go.RowKit
theorem zbr {α:Type} (enc:α→List fG)(k:Nat)(hk:∀ x,(enc x).length=k):∀ (xs:List α)(i:Nat)(x:α)(j:Nat)(v:fG),xs[i]? =some x→(enc x)[j]? =some v→(xs.flatMap enc)[i*k+j]? =some v
 | [],i,x,j,v,h,_=>by simp at h
 | y::xs,0,x,j,v,h,hv=>by
   obtain rfl:y=x:=by simpa using h
   have hj:j<(enc y).length:=(fm.1 hv).1
   rw [ft,show 0*k+j=j by omega,List.getElem?_append_left hj]
   exact hv
 | y::xs,i+1,x,j,v,h,hv=>by
   have hx:xs[i]? =some x:=by simpa using h
   have:=hk y
   rw [ft,fT,List.getElem?_append_right (by omega),show i*k+k+j-(enc y).length=i*k+j by omega]
   exact zbr enc k hk xs i x j v hx hv
theorem cG {α:Type} (enc:α→List fG)(k:Nat)(hk:∀ x,(enc x).length=k):∀ xs:List α,(xs.flatMap enc).length=xs.length*k
 | []=>by simp
 | x::xs=>by rw [ft,fu,hk,cG enc k hk xs,fw,fT];omega
theorem fk {α:Type} {enc:α→List fG} (h1:∀ x,∀ v∈enc x,v.oneCell'=true)(xs:List α):∀ u∈xs.flatMap enc,u.oneCell'=true:=by
 intro u hu
 obtain⟨x,_,hx⟩:=List.mem_flatMap.1 hu
 exact h1 x u hx
theorem cq {α:Type} {k:Nat} {enc:α→List fG} {Ok:fF→α→Prop} (hk:∀ x,(enc x).length=k) {w:fF} {b off:Nat} {xs:List α} (h:af k enc Ok w (some ⟨b,off,none⟩) xs)(j:Nat)(u:fG)(hu:(xs.flatMap enc)[j]? =some u):w.cell? ⟨b,off+j,none⟩=some u:=by
 have hj:j<xs.length*k:=by rw [←cG enc k hk xs];exact(fm.1 hu).1
 have hk0:0<k:=by
  rcases fS k with h0|h0
  · rw [h0] at hj;omega
  · exact h0
 have hi:j / k<xs.length:=Nat.div_lt_of_lt_mul (by rw [fU];exact hj)
 have hm:j % k<k:=Nat.mod_lt _ hk0
 have he:j / k*k+j % k=j:=by rw [fU];exact Nat.div_add_mod j k
 obtain⟨b',off',x,hab,_,hx,hc,_⟩:=h.at_ hi
 simp only [gq,Addr.mk.injEq,and_true] at hab
 obtain⟨rfl,rfl⟩:=hab
 obtain⟨u',hv⟩:∃ u',(enc x)[j % k]? =some u':=⟨_,List.getElem?_eq_getElem (by rw [hk];exact hm)⟩
 have:=zbr enc k hk xs (j / k) x (j % k) _ hx hv
 rw [he,hu] at this
 have hc2:=hc (j % k) _ hv
 rw [show off+j / k*k+j % k=off+j by omega] at hc2
 rw [hc2,this]
theorem aj {α:Type} {k:Nat} {enc:α→List fG} {Ok:fF→α→Prop} (hk:∀ x,(enc x).length=k) {w:fF} {base T:Nat} {v:fG} {xs:List α} (h:w.ownsRow base T k v xs.length (xs.flatMap enc))(ho:∀ x∈xs,Ok w x):∃ a cap,v=.slice a xs.length cap∧af k enc Ok w a xs:=by
 have h':=h
 rcases h.2 with⟨rfl,h0⟩|⟨g,cap,cur,rfl,hb,hg,_⟩
 · exact⟨none,0,by rw [h0],.inl (List.eq_nil_of_length_eq_zero h0)⟩
 · refine⟨_,cap,rfl,.inr ⟨g,0,rfl,(gh.1 hg).1,fun i x hx=>⟨fun j v hv=>?_,ho x (fp hx)⟩⟩⟩
   have hi:i<xs.length:=(fm.1 hx).1
   have hj:j<k:=by rw [←hk x];exact(fm.1 hv).1
   have hfl:=zbr enc k hk xs i x j v hx hv
   have hlen:=cG enc k hk xs
   have hb2:i*k+j<xs.length*k:=by rw [←hlen];exact(fm.1 hfl).1
   rw [show 0+i*k+j=i*k+j by omega,h'.cellAt (i*k+j) hb2]
   exact hfl
theorem zat {w:fF} {base e size n:Nat} {v:fG} {xs:List fG} (h:w.ownsRow base e size v n xs)(hn:0<n):∃ g cap,v=.slice (some ⟨g,0,none⟩) n cap:=by
 rcases h.2 with⟨_,h0⟩|⟨g,cap,_,h1,_⟩
 · omega
 · exact⟨g,cap,h1⟩
theorem aq {B e k n:Nat} {v:fG} {xs:List fG} {w w':fF} (h:w.ownsRow B e k v n xs)(hb:fN w.heap.size w w'):w'.ownsRow B e k v n xs:=by
 refine⟨h.1,?_⟩
 rcases h.2 with h0|⟨g,cap,cur,h1,h2,h3,h4⟩
 · exact .inl h0
 · exact .inr ⟨g,cap,cur,h1,h2,by rw [hb.block g (gh.1 h3).1];exact h3,h4⟩
theorem bcell {W w1:fF} (hb:fN W.heap.size W w1):(∀ b o,b<W.heap.size→w1.cell? ⟨b,o,none⟩=W.cell? ⟨b,o,none⟩)∧(∀ b o,b<W.heap.size→w1.frozen? ⟨b,o,none⟩=W.frozen? ⟨b,o,none⟩) :=
 ⟨fun b o h=>hb.cell (p:=⟨b,o,none⟩) h,fun b o h=>hb.frozen (p:=⟨b,o,none⟩) h⟩
def zb0 {α:Type} (a:Option Addr)(xs:List α)(b:Nat):Prop:=xs≠[]∧∃ ad,a=some ad∧ad.block=b
theorem bL {α:Type} {k:Nat} {enc:α→List fG} {Ok:fF→α→Prop} {w:fF} {a:Option Addr} {xs:List α} (h:af k enc Ok w a xs) {b:Nat} (hu:zb0 a xs b):b<w.heap.size:=by
 obtain⟨hne,ad,rfl,rfl⟩:=hu
 rcases h with h|⟨b,off,he,hlt,_⟩
 · exact absurd h hne
 · obtain rfl:=gu he
   exact hlt
theorem af.frame {α:Type} {k:Nat} {enc:α→List fG} {Ok:fF→α→Prop} {w w':fF} {a:Option Addr} {xs:List α} (h:af k enc Ok w a xs)(hs:w.heap.size≤w'.heap.size)(hb:∀ b,zb0 a xs b→w'.heap[b]? =w.heap[b]?)(hok:∀ x∈xs,Ok w x→Ok w' x):af k enc Ok w' a xs:=by
 by_cases hne:xs=[]
 · exact .inl hne
 · rcases h with h|⟨b,off,rfl,hlt,hc⟩
   · exact .inl h
   · refine .inr ⟨b,off,rfl,Nat.lt_of_lt_of_le hlt hs,fun i x hx=>⟨fun j v hv=>?_,hok x (fp hx) (hc i x hx).2⟩⟩
     rw [fF.cell?_of_block (w:=w) (hb b ⟨hne,_,rfl,rfl⟩)]
     exact(hc i x hx).1 j v hv
end Go.Proofs.YtnlnmbcaongehaaGreatDoor
namespace Go.Proofs.YtnlnmbcaongehaaGreatDoor
open Go.RowKit
theorem aA {P:fM} (w:fF)(cs:Array fG) {ops:Array Oper} {rest:List Oper} {o:Oper} {a:Act} {Q:Exit→Act→fF→Prop} (hgd:o.guard=none)(s x:fI)(t:fH)
 (ho:o.op=.call { callee:=.builtin .append,args:=#[s,x],argTypes:=#[t,t] })
 (base:Nat) (e:fH) (i:fL) (z:fG) (size bytes:Nat) (ht:P.underlying t=some (.slice e)) (hi:P.info? e=some i) (hz:i.zero=some z)
 (hsize:i.size=size) (hby:i.bytes=bytes) (hzs:z.cells.size=size) (hsz:0<size)
 (v:fG) (n:Nat) (xs:List fG) (hs:a.eval s=v) (hown:w.ownsRow base e size v n xs) (g:Nat) (hx:a.eval x=.slice (some ⟨g,0,none⟩) 1 1) (hg:g=w.heap.size)
 (hcs:cs.size=size) (h1:∀ u∈cs.toList,u.oneCell'=true) (h63:n+1≤maxLen) (hbytes:(n+1)*bytes≤140737488355328) (hbase:base≤w.heap.size)
 (h:∀ v' w2,w2.ownsRow base e size v' (n+1) (xs++cs.toList)→(w.alloc (.cells cs e)).grownBy w2 v.ownBlock→(v'.ownBlock=v.ownBlock∨v'.ownBlock=some (w.heap.size+1))→wpList P ops Q rest (a.put o.dst v') w2):wpList P ops Q (o::rest) a (w.alloc (.cells cs e)):=by
 subst hg
 refine wpList_append_own_at _ hgd s x t ho base e i z size bytes ht hi hz hsize hby hzs hsz v n xs hs (hown.alloc _) ⟨w.heap.size,0,none⟩ 1 1 cs.toList hx (by simpa using hcs) (za7 w cs e) h1 h63 hbytes (by simp;omega) ?_
 intro v' w2 h2 h3 _ h4
 refine h v' w2 h2 h3 ?_
 simpa using h4
section
variable {P:fM} {α:Type} {enc:α→List fG} {Ok:fF→α→Prop} (w:fF)
theorem zb1 (base:Nat)(t ty e:fH)(i:fL)(z:fG)(size bytes:Nat)(ht:P.underlying t=some (.slice e))(hi:P.info? e=some i)(hz:i.zero=some z)
 (hsize:i.size=size) (hby:i.bytes=bytes) (hzs:z.cells.size=size) (hsz:0<size) (hk:∀ x,(enc x).length=size) (h1:∀ x,∀ v∈enc x,v.oneCell'=true)
 (v:fG) (n:Nat) (xs:List fG) (hown:w.ownsRow base e size v n xs) (A:Option Addr) (c:Nat) (ys:List α) (hS:af size enc Ok w A ys)
 (h63:n+ys.length≤maxLen) (hbytes:(n+ys.length)*bytes≤140737488355328) (hbase:base≤w.heap.size) :
 ∃ v' w',(gv #[t,t] ty #[v,.slice A ys.length c]).run P w=.ok v' w'∧w'.ownsRow base e size v' (n+ys.length) (xs++ys.flatMap enc)∧w.grownBy w' v.ownBlock∧(v'.ownBlock=v.ownBlock∨v'.ownBlock=some w.heap.size):=by
 rcases A with _|ad
 · have hm:ys=[]:=by
    rcases hS with h|⟨_,_,h,_⟩
    · exact h
    · cases h
   subst hm
   refine⟨v,w,?_,by simpa using hown,⟨rfl,rfl,rfl,fQ _,fun _ _ _=>rfl⟩,.inl rfl⟩
   rcases hown.2 with⟨rfl,rfl⟩|⟨g,cap,cur,rfl,_,_,hnc,_⟩
   · simp [gv,run_underlying ht,sizeOf,typeInfo,hi,gx,gw]
   · simp [gv,run_underlying ht,sizeOf,typeInfo,hi,gx,gw,hnc,storeCells]
 · have hcells:∀ j u,(ys.flatMap enc)[j]? =some u→w.cell? (ad.add j)=some u:=by
    intro j u hu
    rcases hS with h|⟨b,off,h,hlt,hc⟩
    · subst h
      simp at hu
    · obtain rfl:=gu h
      have h':=cq (Ok:=Ok) hk (.inr ⟨b,off,rfl,hlt,hc⟩) j u hu
      simp only [Addr.add]
      split
      · rename_i h0
        have h0:j=0:=by simpa using h0
        subst h0
        simpa using h'
      · exact h'
   obtain⟨v',w',hrun,h2,h3,_,h5⟩:=run_append_own_at (P:=P) w base t ty e i z size bytes ht hi hz hsize hby hzs hsz v n xs hown ad ys.length c (ys.flatMap enc) (cG enc size hk ys) hcells (fk h1 ys) h63 hbytes hbase
   exact⟨v',w',hrun,h2,h3,h5⟩
theorem zcg {o:Oper} {a:Act} {K:Act→fF→Prop} {Q:Exit→Act→fF→Prop} (s x:fI)(t:fH)
 (ho:o.op=.call { callee:=.builtin .append,args:=#[s,x],argTypes:=#[t,t] })
 (base:Nat) (e:fH) (i:fL) (z:fG) (size bytes:Nat) (ht:P.underlying t=some (.slice e)) (hi:P.info? e=some i) (hz:i.zero=some z)
 (hsize:i.size=size) (hby:i.bytes=bytes) (hzs:z.cells.size=size) (hsz:0<size) (hk:∀ x,(enc x).length=size) (h1:∀ x,∀ v∈enc x,v.oneCell'=true)
 (v:fG) (n:Nat) (xs:List fG) (hs:a.eval s=v) (hown:w.ownsRow base e size v n xs) (A:Option Addr) (c:Nat) (ys:List α) (hx:a.eval x=.slice A ys.length c) (hS:af size enc Ok w A ys)
 (h63:n+ys.length≤maxLen) (hbytes:(n+ys.length)*bytes≤140737488355328) (hbase:base≤w.heap.size)
 (h:∀ v' w',w'.ownsRow base e size v' (n+ys.length) (xs++ys.flatMap enc)→w.grownBy w' v.ownBlock→(v'.ownBlock=v.ownBlock∨v'.ownBlock=some w.heap.size)→K (a.put o.dst v') w'):o.wp P a w K Q:=by
 obtain⟨v',w',hrun,h2,h3,h4⟩:=zb1 (P:=P) (enc:=enc) (Ok:=Ok) w base t o.type e i z size bytes ht hi hz hsize hby hzs hsz hk h1 v n xs hown A c ys hS h63 hbytes hbase
 unfold Oper.wp execOp
 simp only [ho,resolve,invoke,builtin,Sem.run_bind,Sem.run_pure,Result.andThen_ok,List.map_toArray,List.map_cons,List.map_nil,hs,hx,hrun]
 exact h v' w' h2 h3 h4
theorem aw {ops:Array Oper} {rest:List Oper} {o:Oper} {a:Act} {Q:Exit→Act→fF→Prop} (hgd:o.guard=none)(s x:fI)(t:fH)
 (ho:o.op=.call { callee:=.builtin .append,args:=#[s,x],argTypes:=#[t,t] })
 (base:Nat) (e:fH) (i:fL) (z:fG) (size bytes:Nat) (ht:P.underlying t=some (.slice e)) (hi:P.info? e=some i) (hz:i.zero=some z)
 (hsize:i.size=size) (hby:i.bytes=bytes) (hzs:z.cells.size=size) (hsz:0<size) (hk:∀ x,(enc x).length=size) (h1:∀ x,∀ v∈enc x,v.oneCell'=true)
 (v:fG) (n:Nat) (xs:List fG) (hs:a.eval s=v) (hown:w.ownsRow base e size v n xs) (A:Option Addr) (c:Nat) (ys:List α) (hx:a.eval x=.slice A ys.length c) (hS:af size enc Ok w A ys)
 (h63:n+ys.length≤maxLen) (hbytes:(n+ys.length)*bytes≤140737488355328) (hbase:base≤w.heap.size)
 (h:∀ v' w',w'.ownsRow base e size v' (n+ys.length) (xs++ys.flatMap enc)→w.grownBy w' v.ownBlock→(v'.ownBlock=v.ownBlock∨v'.ownBlock=some w.heap.size)→wpList P ops Q rest (a.put o.dst v') w'):wpList P ops Q (o::rest) a w :=
 fK hgd fun _ hK=>zcg (enc:=enc) (Ok:=Ok) w s x t ho base e i z size bytes ht hi hz hsize hby hzs hsz hk h1 v n xs hs hown A c ys hx hS h63 hbytes hbase fun v' w' h2 h3 h4=>hK _ _ (h v' w' h2 h3 h4)
end
structure Deep {α:Type} (lies:fF→α→Prop)(uses:α→Nat→Prop):Prop where
 frame:∀ x w w',lies w x→w.heap.size≤w'.heap.size→(∀ b,uses x b→w'.heap[b]? =w.heap[b]?)→lies w' x
 lt:∀ x w b,lies w x→uses x b→b<w.heap.size
def cY {α:Type} (T k:Nat)(enc:α→List fG)(lies:fF→α→Prop)(uses:α→Nat→Prop)(B:Nat)(W0:fF)(v:fG)(zs:List α)(wr:fF):Prop :=
 wr.ownsRow B T k v zs.length (zs.flatMap enc)∧(∀ z∈zs,lies wr z∧(∀ b,uses z b→v.ownBlock≠some b∧B≤b))∧fN B W0 wr
theorem cY.start {α:Type} {T k:Nat} {enc:α→List fG} {lies:fF→α→Prop} {uses:α→Nat→Prop} {B:Nat} {W0 wr:fF} (hb:fN B W0 wr):cY T k enc lies uses B W0 (.slice none 0 0) [] wr :=
 ⟨fY _ _ _ _,fun z hz=>by simp at hz,hb⟩
theorem cY.later {α:Type} {T k:Nat} {enc:α→List fG} {lies:fF→α→Prop} {uses:α→Nat→Prop} (hD:Deep lies uses) {B:Nat} {W0 wr w1:fF} {v:fG} {zs:List α} (h:cY T k enc lies uses B W0 v zs wr)(hB:B≤W0.heap.size)(hb:fN wr.heap.size wr w1):cY T k enc lies uses B W0 v zs w1:=by
 obtain⟨h1,h2,h3⟩:=h
 exact⟨aq h1 hb,fun z hz=>⟨hD.frame z wr w1 (h2 z hz).1 hb.size (fun b hu=>hb.block b (hD.lt z wr b (h2 z hz).1 hu)),(h2 z hz).2⟩,h3.trans (hb.mono (fV hB h3.size))⟩
theorem cY.push {α:Type} {T k:Nat} {enc:α→List fG} {lies:fF→α→Prop} {uses:α→Nat→Prop} (hD:Deep lies uses) {B:Nat} {W0 w1 w2:fF} {v v':fG} {zs:List α} {y:α} {cs:Array fG} (h:cY T k enc lies uses B W0 v zs w1)(hB:B≤W0.heap.size)
 (hcs:cs.toList=enc y) (hown:w2.ownsRow B T k v' (zs.length+1) (zs.flatMap enc++cs.toList)) (hg:(w1.alloc (.cells cs T)).grownBy w2 v.ownBlock) (hat:v'.ownBlock=v.ownBlock∨v'.ownBlock=some (w1.heap.size+1))
 (hy:lies w1 y) (hyu:∀ b,uses y b→v.ownBlock≠some b∧B≤b):cY T k enc lies uses B W0 v' (zs++[y]) w2:=by
 obtain⟨h1,h2,h3⟩:=h
 have hsz:w1.heap.size+1≤w2.heap.size:=by
  have:=hg.size
  simpa using this
 have hblk:∀ b,b<w1.heap.size→v.ownBlock≠some b→w2.heap[b]? =w1.heap[b]?:=fun b hb hne=>by
  rw [hg.block b (by simp;omega) (fun e=>hne e.symm)]
  exact fP w1 _ b hb
 have hne':∀ b,b<w1.heap.size→v.ownBlock≠some b→v'.ownBlock≠some b:=fun b hb hne e=>by
  rcases hat with e'|e'
  · exact hne (e'▸e)
  · rw [e'] at e
    simp only [gq] at e
    omega
 refine⟨?_,fun z hz=>?_,?_⟩
 · rw [fu,List.flatMap_append]
   simp only [fw,List.length_nil,ft,List.flatMap_nil,fE,←hcs]
   exact hown
 · rcases fD.1 hz with hz|hz
   · have hl:=(h2 z hz).1
     exact⟨hD.frame z w1 w2 hl (by omega) (fun b hu=>hblk b (hD.lt z w1 b hl hu) ((h2 z hz).2 b hu).1),fun b hu=>⟨hne' b (hD.lt z w1 b hl hu) ((h2 z hz).2 b hu).1,((h2 z hz).2 b hu).2⟩⟩
   · obtain rfl:z=y:=by simpa using hz
     exact⟨hD.frame z w1 w2 hy (by omega) (fun b hu=>hblk b (hD.lt z w1 b hy hu) (hyu b hu).1),fun b hu=>⟨hne' b (hD.lt z w1 b hy hu) (hyu b hu).1,(hyu b hu).2⟩⟩
 · have hB1:B≤w1.heap.size:=fV hB h3.size
   exact(h3.alloc hB1 _).grown hg (by simp;omega) (fun j hj=>(h1.lt j hj).1)
theorem cY.slice {α:Type} {T k:Nat} {enc:α→List fG} {lies:fF→α→Prop} {uses:α→Nat→Prop} (hk:∀ x,(enc x).length=k) {B:Nat} {W0 wr:fF} {v:fG} {zs:List α} (h:cY T k enc lies uses B W0 v zs wr):∃ a cap,v=.slice a zs.length cap∧af k enc lies wr a zs :=
 aj hk h.1 fun z hz=>(h.2.1 z hz).1
end Go.Proofs.YtnlnmbcaongehaaGreatDoor
namespace Go.Proofs.YtnlnmbcaongehaaGreatDoor
open Go.RowKit
def zal (x:Run):Int:=if (!aY x.text)=true then 10 else if x.text.toList=[] then 4 else if ¬ x.color≤6 then 12 else if (!aY x.ruby)=true then 10 else 0
def de (prev:Option Run)(x:Run):Int:=if (zal x != 0)=true then zal x else match prev with
 | none=>0
 | some p=>if zd2 p x=true then 8 else 0
def cy:Option Run→List Run→Int
 | _,[]=>0
 | prev,x::l=>if (de prev x != 0)=true then de prev x else cy (some x) l
def zbF (runs:List Run):Int:=if 16<runs.length then 9 else cy none runs
def bC (xs:List Run):Nat→Option Run
 | 0=>none
 | k+1=>xs[k]?
theorem zef (xs:List Run)(k:Nat)(x:Run)(hx:xs[k]? =some x)(prev:Option Run)(h:de prev x=0):cy prev (xs.drop k)=cy (bC xs (k+1)) (xs.drop (k+1)):=by
 rw [aZ xs k x hx,cy,h]
 simp [bC,hx]
theorem zee (xs:List Run)(k:Nat)(x:Run)(hx:xs[k]? =some x)(prev:Option Run)(h:(de prev x != 0)=true):cy prev (xs.drop k)=de prev x:=by
 rw [aZ xs k x hx,cy,if_pos h]
theorem zeg (r:Row)(w:fF)(hn:16<r.runs.length) :
 Calls Tryz.prog 212 #[.agg r.enc.toArray] w fun e w'=>e=.returned (.int .i64 (zbF r.runs))∧fN w.heap.size w w':=by
 rw [zbF,if_pos hn]
 have hn':(16:Int)<(r.runs.length:Int):=by omega
 simp only [Row.enc]
 go_enter Tryz.func212,Tryz.ntmps212
 go_wp2_with fail
 go_ret
 exact⟨rfl,(fO _ _).alloc (fQ _) _⟩
theorem zib (x:Run):(aY x.text=false∧zal x=10)∨(aY x.text=true∧x.text.toList=[]∧zal x=4)∨(aY x.text=true∧¬ x.text.toList=[]∧¬ x.color≤6∧zal x=12) ∨
 (aY x.text=true∧¬ x.text.toList=[]∧x.color≤6∧aY x.ruby=false∧zal x=10)∨(aY x.text=true∧¬ x.text.toList=[]∧x.color≤6∧aY x.ruby=true∧zal x=0):=by
 unfold zal
 cases h1:aY x.text<;>by_cases h2:x.text.toList=[]<;>by_cases h3:x.color≤6<;>cases h4:aY x.ruby<;>simp [h2,h3]
theorem ze4 (r:Row)(w:fF)(hE:Env w)(hr:r.lies w)(hf:r.fits)(hn:r.runs.length≤16) :
 Calls Tryz.prog 212 #[.agg r.enc.toArray] w fun e w'=>e=.returned (.int .i64 (zbF r.runs))∧fN w.heap.size w w':=by
 obtain⟨a,cap,xs⟩:=r
 obtain⟨hfx,hl,hsum⟩:=hf
 simp only [Row.lies] at hr
 simp only [Row.enc] at *
 rw [zbF,if_neg (by omega)]
 generalize hG:cy none xs=G
 have H0:=h_ (show cy (bC xs 0) (xs.drop 0)=G by rw [fC];exact hG)
 have hn2:decide ((16:Int)<(xs.length:Int))=false:=by simp;omega
 clear hG
 go_enter Tryz.func212,Tryz.ntmps212
 go_wp2_with fail
 go_loopw [12] (fun i wr=>∃ k:Nat,k≤xs.length∧i=.int .i64 k∧cy (bC xs k) (xs.drop k)=G∧fN (w.heap.size+1) (w.alloc (.cells #[.slice a xs.length cap] 78)) wr) (fun i _=>xs.length-(intOf i).toNat)
 case atStart=>exact⟨0,by omega,rfl,H0.out,fO _ _⟩
 case round =>
  obtain⟨k,hk,rfl,hp,hb0⟩:=hrel
  have hb:=aH hb0
  by_cases hlt:k<xs.length
  · have hRr:=hr.later hb
    obtain⟨b,off,x,rfl,hbl,hx,hc,_⟩:=hRr.at_ hlt
    have hft:=hfx x (fp hx)
    have HN:=h_ (zef xs k x hx (bC xs k))
    have HS:=h_ (zee xs k x hx (bC xs k))
    have HP:=h_ hp
    have hcs:=zib x
    have hfb:=ab w #[.slice (some ⟨b,off,none⟩) xs.length cap] 78 0 _ rfl
    have HFB:=h_ (fun w1 (h:fN (wr.heap.size+1) (wr.alloc (.cells x.enc.toArray 75)) w1)=>hfb w1 ((hb0.alloc (by have:=hb0.size;rw [fW] at this;exact this) _).trans (h.mono (by have:=hb0.size;rw [fW] at this;omega))))
    have HB:=h_ (fun w1 (h:fN (wr.heap.size+1) (wr.alloc (.cells x.enc.toArray 75)) w1)=>cu hb _ h)
    have HB0:=h_ (fun w1 (h:fN (wr.heap.size+1) (wr.alloc (.cells x.enc.toArray 75)) w1)=>(hb0.alloc (by have:=hb0.size;rw [fW] at this;exact this) _).trans (h.mono (by have:=hb0.size;rw [fW] at this;omega)))
    obtain⟨f1,f2,f3,f4⟩:=hft
    have hsE:∀ p,zal x≠0→de p x=zal x:=fun p h=>by unfold de;rw [if_pos (by simpa using h)]
    have HSE:=h_ hsE
    have hg:=fun j v h=>ab wr x.enc.toArray 75 j v h
    obtain⟨t,c,i,u,ru⟩:=x
    have d0:=hc 0 _ rfl;have d1:=hc 1 _ rfl;have d2:=hc 2 _ rfl;have d3:=hc 3 _ rfl;have d4:=hc 4 _ rfl
    have g0:=hg 0 _ rfl;have g1:=hg 1 _ rfl;have g2:=hg 2 _ rfl;have g3:=hg 3 _ rfl;have g4:=hg 4 _ rfl
    simp only [fR,Run.enc] at d0 d1 d2 d3 d4 g0 g1 g2 g3 g4 HB HB0 HFB f1 f2 f3 f4 hcs
    have HE:=h_ (fun w1 (h:fN (wr.heap.size+1) (wr.alloc (.cells #[.string t,.int .u8 c,.bool i,.bool u,.string ru] 75)) w1)=>hE.below (HB.out w1 h) (fQ _))
    have hq0:fN (wr.heap.size+1) (wr.alloc (.cells #[.string t,.int .u8 c,.bool i,.bool u,.string ru] 75)) (wr.alloc (.cells #[.string t,.int .u8 c,.bool i,.bool u,.string ru] 75)):=fO _ _
    have hsz1:(wr.alloc (.cells #[.string t,.int .u8 c,.bool i,.bool u,.string ru] 75)).heap.size=wr.heap.size+1:=fW _ _
    have HV:=h_ (fun s (hs:s.size≤4000000) w1 (h:fN (wr.heap.size+1) (wr.alloc (.cells #[.string t,.int .u8 c,.bool i,.bool u,.string ru] 75)) w1)=>dX s w1 hs (HE.out w1 h))
    generalize hW1:wr.alloc (.cells #[.string t,.int .u8 c,.bool i,.bool u,.string ru] 75)=W1 at *
    have HW1:=h_ hW1
    have HSZ:=h_ hsz1
    clear hW1 hsz1 hc hg hsE hfb hp H0 hfx
    rcases hcs with⟨v1,he⟩|⟨v1,v2,he⟩|⟨v1,v2,v3,he⟩|⟨v1,v2,v3,v4,he⟩|⟨v1,v2,v3,v4,he⟩
    · have hst:=h_ (HSE.out (bC xs k) (by rw [he];decide))
      have HEE:=h_ he
      clear he hRr
      go_wp2_with fail
      rw [HW1.out]
      refine(HV.out t f1 _ hq0).mono ?_
      rintro e w1 ⟨rfl,hb1⟩
      rw [HSZ.out] at hb1
      go_wp2_with fail
      go_ret
      exact⟨ag (by rw [←HP.out,HS.out (by rw [hst.out,HEE.out];rfl),hst.out,HEE.out]),HB.out _ hb1⟩
    · have hst:=h_ (HSE.out (bC xs k) (by rw [he];decide))
      have HEE:=h_ he
      clear he hRr
      have v2':t.toList.isEmpty=true:=by simpa using v2
      go_wp2_with fail
      rw [HW1.out]
      refine(HV.out t f1 _ hq0).mono ?_
      rintro e w1 ⟨rfl,hb1⟩
      rw [HSZ.out] at hb1
      go_wp2_with fail
      go_ret
      exact⟨ag (by rw [←HP.out,HS.out (by rw [hst.out,HEE.out];rfl),hst.out,HEE.out]),HB.out _ hb1⟩
    · have hst:=h_ (HSE.out (bC xs k) (by rw [he];decide))
      have HEE:=h_ he
      clear he hRr
      have v2':t.toList.isEmpty=false:=by simpa using v2
      have v3':decide (c≤6)=false:=by simpa using v3
      go_wp2_with fail
      rw [HW1.out]
      refine(HV.out t f1 _ hq0).mono ?_
      rintro e w1 ⟨rfl,hb1⟩
      rw [HSZ.out] at hb1
      go_wp2_with fail
      refine(bg c i u _).mono ?_
      rintro e w2 ⟨rfl,hb2⟩
      replace hb2:fN (wr.heap.size+1) W1 w2:=hb1.trans (hb2.mono (by have:=hb1.size;rw [HSZ.out] at this;exact this))
      go_wp2_with fail
      go_ret
      exact⟨ag (by rw [←HP.out,HS.out (by rw [hst.out,HEE.out];rfl),hst.out,HEE.out]),HB.out _ hb2⟩
    · have hst:=h_ (HSE.out (bC xs k) (by rw [he];decide))
      have HEE:=h_ he
      clear he hRr
      have v2':t.toList.isEmpty=false:=by simpa using v2
      have v3':decide (c≤6)=true:=by simpa using v3
      go_wp2_with fail
      rw [HW1.out]
      refine(HV.out t f1 _ hq0).mono ?_
      rintro e w1 ⟨rfl,hb1⟩
      rw [HSZ.out] at hb1
      go_wp2_with fail
      refine(bg c i u _).mono ?_
      rintro e w2 ⟨rfl,hb2⟩
      replace hb2:fN (wr.heap.size+1) W1 w2:=hb1.trans (hb2.mono (by have:=hb1.size;rw [HSZ.out] at this;exact this))
      go_wp2_with fail
      refine(HV.out ru f2 _ hb2).mono ?_
      rintro e w3 ⟨rfl,hb3⟩
      replace hb3:fN (wr.heap.size+1) W1 w3:=hb2.trans (hb3.mono (by have:=hb2.size;rw [HSZ.out] at this;exact this))
      go_wp2_with fail
      go_ret
      exact⟨ag (by rw [←HP.out,HS.out (by rw [hst.out,HEE.out];rfl),hst.out,HEE.out]),HB.out _ hb3⟩
    · have HEE:=h_ he
      clear he
      have v2':t.toList.isEmpty=false:=by simpa using v2
      have v3':decide (c≤6)=true:=by simpa using v3
      rcases fS k with hk0|hk0
      · have hst:=h_ (show de (bC xs k) ⟨t,c,i,u,ru⟩=0 by rw [hk0];simp [de,bC,HEE.out])
        have hkd:decide (0<k)=false:=by simp;omega
        clear hRr hk0
        go_wp2_with fail
        rw [HW1.out]
        refine(HV.out t f1 _ hq0).mono ?_
        rintro e w1 ⟨rfl,hb1⟩
        rw [HSZ.out] at hb1
        go_wp2_with fail
        refine(bg c i u _).mono ?_
        rintro e w2 ⟨rfl,hb2⟩
        replace hb2:fN (wr.heap.size+1) W1 w2:=hb1.trans (hb2.mono (by have:=hb1.size;rw [HSZ.out] at this;exact this))
        go_wp2_with fail
        refine(HV.out ru f2 _ hb2).mono ?_
        rintro e w3 ⟨rfl,hb3⟩
        replace hb3:fN (wr.heap.size+1) W1 w3:=hb2.trans (hb3.mono (by have:=hb2.size;rw [HSZ.out] at this;exact this))
        go_wp2_with fail
        go_quiet (fail)
        go_wp2_with fail
        go_roundw
        case rel=>exact⟨k+1,by omega,by go_num,by rw [←HN.out hst.out];exact HP.out,below_drewN (HB0.out _ hb3) _⟩
        case measure=>simp [intOf];omega
      · obtain⟨b',off',y,hab,_,hy,hcy,_⟩:=hRr.at_ (show k-1<xs.length by omega)
        simp only [gq,Addr.mk.injEq,and_true] at hab
        obtain⟨rfl,rfl⟩:=hab
        have hpv:bC xs k=some y:=by
         obtain⟨j,rfl⟩:∃ j,k=j+1:=⟨k-1,by omega⟩
         simp only [Nat.add_sub_cancel] at hy
         simp [bC,hy]
        have hst:de (bC xs k) ⟨t,c,i,u,ru⟩=if zd2 y ⟨t,c,i,u,ru⟩=true then 8 else 0:=by
         rw [hpv];simp [de,HEE.out]
        have hpc:∀ j v,y.enc[j]? =some v→∀ w1,fN (wr.heap.size+1) W1 w1→w1.cell? ⟨b,off+(k-1)*5+j,none⟩=some v:=fun j v hv w1 h=>by
         rw [h.cell (p:=⟨b,off+(k-1)*5+j,none⟩) (by simp;omega),←HW1.out,fF.cell?_alloc_lt _ _ _ (by simpa using hbl)]
         exact hcy j v hv
        have hal:=fun w=>zgk y ⟨t,c,i,u,ru⟩ w
        obtain⟨yt,yc,yi,yu,yr⟩:=y
        generalize zd2 ⟨yt,yc,yi,yu,yr⟩ ⟨t,c,i,u,ru⟩=AL at *
        have p0:=hpc 0 _ rfl;have p1:=hpc 1 _ rfl;have p2:=hpc 2 _ rfl;have p3:=hpc 3 _ rfl;have p4:=hpc 4 _ rfl
        simp only [fR,Run.enc] at p0 p1 p2 p3 p4 hal
        have HAL:=h_ hal
        have hfb:=HFB.out
        have hkd:decide (0<k)=true:=by simp;omega
        have hk1:1≤k:=hk0
        have hkz:(1:Int)≤(k:Int):=by omega
        have hkl:(k:Int)-1<(xs.length:Int):=by omega
        have hwr:IntKind.i64.wrap ((k:Int)-1)=(k:Int)-1:=IntWalk.i64_in _ (by omega)
        have hkn:((k:Int)-1).toNat=k-1:=by omega
        clear hpc hpv hRr hcy hy hk0 hal
        cases AL
        · rw [if_neg (by decide)] at hst
          have HST:=h_ hst
          clear hst
          go_wp2_with fail
          rw [HW1.out]
          refine(HV.out t f1 _ hq0).mono ?_
          rintro e w1 ⟨rfl,hb1⟩
          rw [HSZ.out] at hb1
          go_wp2_with fail
          refine(bg c i u _).mono ?_
          rintro e w2 ⟨rfl,hb2⟩
          replace hb2:fN (wr.heap.size+1) W1 w2:=hb1.trans (hb2.mono (by have:=hb1.size;rw [HSZ.out] at this;exact this))
          go_wp2_with fail
          refine(HV.out ru f2 _ hb2).mono ?_
          rintro e w3 ⟨rfl,hb3⟩
          replace hb3:fN (wr.heap.size+1) W1 w3:=hb2.trans (hb3.mono (by have:=hb2.size;rw [HSZ.out] at this;exact this))
          go_wp2_with fail
          have hb3d:fN (wr.heap.size+1) W1 w3.drew:=hb3.drew
          go_region_with (go_at_call 262;refine(HAL.out _).mono ?_;rintro e w4 ⟨rfl,hb4⟩;replace hb4:fN (wr.heap.size+1) W1 w4:=hb3d.trans (hb4.mono (by have:=hb3d.size;rw [HSZ.out] at this;exact this)))
          all_goals
           go_wp2_with fail
           go_roundw
           case rel=>exact⟨k+1,by omega,by go_num,by rw [←HN.out HST.out];exact HP.out,HB0.out _ hb4⟩
           case measure=>simp [intOf];omega
        · rw [if_pos rfl] at hst
          have HST:=h_ hst
          clear hst
          go_wp2_with fail
          rw [HW1.out]
          refine(HV.out t f1 _ hq0).mono ?_
          rintro e w1 ⟨rfl,hb1⟩
          rw [HSZ.out] at hb1
          go_wp2_with fail
          refine(bg c i u _).mono ?_
          rintro e w2 ⟨rfl,hb2⟩
          replace hb2:fN (wr.heap.size+1) W1 w2:=hb1.trans (hb2.mono (by have:=hb1.size;rw [HSZ.out] at this;exact this))
          go_wp2_with fail
          refine(HV.out ru f2 _ hb2).mono ?_
          rintro e w3 ⟨rfl,hb3⟩
          replace hb3:fN (wr.heap.size+1) W1 w3:=hb2.trans (hb3.mono (by have:=hb2.size;rw [HSZ.out] at this;exact this))
          go_wp2_with fail
          have hb3d:fN (wr.heap.size+1) W1 w3.drew:=hb3.drew
          go_region_with (go_at_call 262;refine(HAL.out _).mono ?_;rintro e w4 ⟨rfl,hb4⟩;replace hb4:fN (wr.heap.size+1) W1 w4:=hb3d.trans (hb4.mono (by have:=hb3d.size;rw [HSZ.out] at this;exact this)))
          all_goals
           go_wp2_with fail
           go_ret
           exact⟨ag (by rw [←HP.out,HS.out (by rw [HST.out];rfl),HST.out]),HB.out _ hb4⟩
  · obtain rfl:k=xs.length:=by omega
    rw [fB] at hp
    have HP:=h_ hp
    clear hp H0
    go_wp2_with fail
    go_ret
    exact⟨ag (by rw [←HP.out];cases bC xs xs.length<;>rfl),hb⟩
theorem zdd (r:Row)(w:fF)(hE:Env w)(hr:r.lies w)(hf:r.fits) :
 Calls Tryz.prog 212 #[.agg r.enc.toArray] w fun e w'=>e=.returned (.int .i64 (zbF r.runs))∧fN w.heap.size w w':=by
 by_cases hn:16<r.runs.length
 · exact zeg r w hn
 · exact ze4 r w hE hr hf (by omega)
end Go.Proofs.YtnlnmbcaongehaaGreatDoor
