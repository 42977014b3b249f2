/- The contract of region.CheckList: the first error of a list of regions. Append, as a step of a region that draws its order. -/
import Derived.Test.YtjebaagkomejaaaGreatDoorK07
import Derived.Test.YtjebaagkomejaaaGreatDoorK05
set_option linter.unusedVariables false
set_option linter.unusedSimpArgs false
set_option maxRecDepth 100000
set_option maxHeartbeats 12800000
open Go.Lib renaming hid→h_
open List renaming getElem?_eq_some_iff→Sj,drop_eq_getElem_cons→Sk,mem_of_getElem?→Sl
open Go renaming World→Sm,Value→Sn,cell_of_row→Sp,heap_alloc_last→Sq
open Go.RowKit renaming Below→Sr
open Go.RowKit.Below renaming refl→Ss
open Go.Lib renaming compareInt→St
open Go.Sort renaming alloc_eq_grow→Su,grow_grow→Sv
open Go.Value renaming int→Sw,agg→Sx
open Nat renaming le_refl→Sy,add_zero→Sz,mul_one→SA
namespace Go.Proofs.YtjebaagkomejaaaGreatDoor
open Go.RowKit
def eA (prev:Option ByteArray)(x:Reg):Int :=
 if (fj x != 0)=true then fj x else match prev with
  | none=>0
  | some p=>if (x.name.toList==p.toList)=true then 7 else if Op.bytesLess x.name.toList p.toList=true then 8 else 0
def dH:Option ByteArray→List Reg→Int
 | _,[]=>0
 | prev,x::l=>if (eA prev x != 0)=true then eA prev x else dH (some x.name) l
def gA (xs:List Reg):Int:=if 16<xs.length then 9 else dH none xs
def gP (xs:List Reg):Nat→Option ByteArray
 | 0=>none
 | k+1=>(xs[k]?).map Reg.name
theorem qn (xs:List Reg)(k:Nat)(x:Reg)(hx:xs[k]? =some x)(prev:Option ByteArray)(h:eA prev x=0):dH prev (xs.drop k)=dH (gP xs (k+1)) (xs.drop (k+1)):=by
 have hk:k<xs.length:=(Sj.1 hx).1
 have e:xs[k]=x:=(Sj.1 hx).2
 rw [Sk hk,e,dH,h]
 simp [gP,hx]
theorem qm (xs:List Reg)(k:Nat)(x:Reg)(hx:xs[k]? =some x)(prev:Option ByteArray)(h:(eA prev x != 0)=true):dH prev (xs.drop k)=eA prev x:=by
 have hk:k<xs.length:=(Sj.1 hx).1
 have e:xs[k]=x:=(Sj.1 hx).2
 rw [Sk hk,e,dH,if_pos h]
theorem Aa (a:Option Addr)(cap:Nat)(xs:List Reg)(w:Sm)(hn:16<xs.length) :
 Calls Tryz.prog 64 #[.slice a xs.length cap] w fun e w'=>e=.returned (.int .i64 (gA xs))∧Sr w.heap.size w w':=by
 rw [gA,if_pos hn]
 have hn':(16:Int)<(xs.length:Int):=by omega
 go_enter Tryz.func64,Tryz.ntmps64
 go_wp2_with fail
 go_ret
 exact⟨rfl,Ss _ _⟩
theorem jw {P:Program} {ops:Array Oper} {o:Oper} {a:Act} {K:Act→Sm→Prop} {Q:Exit→Act→Sm→Prop} {E:Prop} (w:Sm)(cs:Array Sn)(hgd:o.guard=none)(s x:Operand)(t:TypeId)
 (ho:o.op=.call { callee:=.builtin .append,args:=#[s,x],argTypes:=#[t,t] })
 (base:Nat) (e:TypeId) (i:TypeInfo) (z:Sn) (size bytes:Nat) (ht:P.underlying t=some (.slice e)) (hi:P.info? e=some i) (hz:i.zero=some z)
 (hsize:i.size=size) (hby:i.bytes=bytes) (hzs:z.cells.size=size) (hsz:0<size)
 (v:Sn) (n:Nat) (xs:List Sn) (hs:a.eval s=v) (hown:w.ownsRow base e size v n xs) (g:Nat) (hx:a.eval x=.slice (some ⟨g,0,none⟩) 1 1) (hg:g=w.heap.size)
 (hcs:cs.size=size) (h1:∀ u∈cs.toList,u.oneCell'=true) (h63:n+1≤maxLen) (hbytes:(n+1)*bytes≤140737488355328) (hbase:base≤w.heap.size)
 (h:∀ v' w2,w2.ownsRow base e size v' (n+1) (xs++cs.toList)→(w.alloc (.cells cs e)).grownBy w2 v.ownBlock→(v'.ownBlock=v.ownBlock∨v'.ownBlock=some (w.heap.size+1))→K (a.put o.dst v') w2) :
 if Region.wanted o (yielded ops a.tmps)=true then Oper.wp P o a (w.alloc (.cells cs e)) K Q else E:=by
 have hw:Region.wanted o (yielded ops a.tmps)=true:=by simp [Region.wanted,hgd]
 rw [if_pos hw]
 subst hg
 obtain⟨v',w',hrun,h2,h3,_,h5⟩:=run_append_own_at (P:=P) (w.alloc (.cells cs e)) base t o.type e i z size bytes ht hi hz hsize hby hzs hsz v n xs (hown.alloc _) ⟨w.heap.size,0,none⟩ 1 1 cs.toList (by simpa using hcs) (nG w cs e) h1 h63 hbytes (by simp;omega)
 unfold Oper.wp execOp
 simp only [ho,resolve,invoke,builtin,Sem.run_bind,Sem.run_pure,Result.andThen_ok,List.map_toArray,List.map_cons,List.map_nil,hs,hx,hrun]
 exact h v' w' h2 h3 (by simpa using h5)
theorem Tryz.stLay:qV Tryz.prog:={
 mixed:=by kernel_rfl
 f255:=Tryz.func255
 f242:=Tryz.func242
 f224:=Tryz.func224
 f187:=Tryz.func187
 f133:=Tryz.func133
 ins:={ mixed:=by kernel_rfl,f20:=⟨Tryz.f223.name,by decide,Tryz.func223.trans (congrArg some (by kernel_rfl))⟩,t0:=Tryz.underlying0,a0:=Tryz.isAgg0,z0:=Tryz.sizeOf0,v0:=Tryz.zeroValue0,t3:=Tryz.underlying3,a3:=Tryz.isAgg3,z3:=Tryz.sizeOf3,v3:=Tryz.zeroValue3,t4:=Tryz.underlying4,a4:=Tryz.isAgg4,z4:=Tryz.sizeOf4,v4:=Tryz.zeroValue4,t22:=Tryz.underlying24,a22:=Tryz.isAgg24,z22:=Tryz.sizeOf24,v22:=Tryz.zeroValue24,t25:=Tryz.underlying183,a25:=Tryz.isAgg183,z25:=Tryz.sizeOf183,v25:=Tryz.zeroValue183 }
 t0:=Tryz.underlying0
 a0:=Tryz.isAgg0
 z0:=Tryz.sizeOf0
 v0:=Tryz.zeroValue0
 t3:=Tryz.underlying3
 a3:=Tryz.isAgg3
 z3:=Tryz.sizeOf3
 v3:=Tryz.zeroValue3
 t4:=Tryz.underlying4
 a4:=Tryz.isAgg4
 z4:=Tryz.sizeOf4
 v4:=Tryz.zeroValue4
 t24:=Tryz.underlying24
 a24:=Tryz.isAgg24
 z24:=Tryz.sizeOf24
 v24:=Tryz.zeroValue24
 t216:=Tryz.underlying216
 a216:=Tryz.isAgg216
 z216:=Tryz.sizeOf216
 v216:=Tryz.zeroValue216
 t183:=Tryz.underlying183
 a183:=Tryz.isAgg183
 z183:=Tryz.sizeOf183
 v183:=Tryz.zeroValue183 }
def lY (x y:Ev):Int:=orL [St x.inn y.inn,St x.id y.id]
theorem H6 (w:Sm)(o o' o'':Obj):∃ q os',(((w.alloc o).alloc o').alloc o'').drew=Sort.grow (w.drewN q) os':=⟨1,#[o,o',o''],by
 rw [Su,Su,Su,Sv,Sv];rfl⟩
theorem pP (x y:Ev)(w:Sm):Calls Tryz.prog 134 (#[.agg x.enc.toArray,.agg y.enc.toArray]++#[]) w fun e w'=>e=.returned (.int .i64 (lY x y))∧∃ q os',w'=Sort.grow (w.drewN q) os':=by
 unfold lY
 obtain⟨id,inn,out,region,kind,speaker,a,cap,xs⟩:=x
 obtain⟨id',inn',out',region',kind',speaker',a',cap',xs'⟩:=y
 simp only [Ev.enc]
 rw [show(#[Sx [Sw .i64 id,.int .i64 inn,.int .i64 out,.string region,.int .u8 kind,.string speaker,.slice a xs.length cap].toArray,.agg [Sw .i64 id',.int .i64 inn',.int .i64 out',.string region',.int .u8 kind',.string speaker',.slice a' xs'.length cap'].toArray]++#[]:Array Sn)=#[Sx [Sw .i64 id,.int .i64 inn,.int .i64 out,.string region,.int .u8 kind,.string speaker,.slice a xs.length cap].toArray,.agg [Sw .i64 id',.int .i64 inn',.int .i64 out',.string region',.int .u8 kind',.string speaker',.slice a' xs'.length cap'].toArray] by simp]
 have HC:=h_ (fun p q w=>Tryz.cmp_Compare_int p q w)
 have hc1:∀ (cs cs':Array Sn) (j:Nat),((w.alloc (.cells cs 72)).alloc (.cells cs' 72)).cell? ⟨w.heap.size,j,none⟩=cs[j]?:=fun cs cs' j=>by
  rw [Sm.cell?_alloc_lt _ _ _ (by simp),Sp _ _ j cs 72 (0,0) (Sq w _)]
 have hc2:∀ (cs cs':Array Sn) (j:Nat),((w.alloc (.cells cs 72)).alloc (.cells cs' 72)).cell? ⟨w.heap.size+1,j,none⟩=cs'[j]?:=fun cs cs' j=>by
  rw [Sp _ _ j cs' 72 (0,0) (mf w _ _)]
 obtain⟨cs,hcs⟩:∃ cs:Array Sn,cs=#[.int .i64 id,.int .i64 inn,.int .i64 out,.string region,.int .u8 kind,.string speaker,.slice a xs.length cap]:=⟨_,rfl⟩
 obtain⟨cs',hcs'⟩:∃ cs:Array Sn,cs=#[.int .i64 id',.int .i64 inn',.int .i64 out',.string region',.int .u8 kind',.string speaker',.slice a' xs'.length cap']:=⟨_,rfl⟩
 have HG:=h_ (fun o=>H6 w (.cells cs 72) (.cells cs' 72) o)
 have e1:=(hc1 cs cs' 0).trans (show _=some (Sw .i64 id) by rw [hcs];rfl)
 have e2:=(hc1 cs cs' 1).trans (show _=some (Sw .i64 inn) by rw [hcs];rfl)
 have e3:=(hc2 cs cs' 0).trans (show _=some (Sw .i64 id') by rw [hcs'];rfl)
 have e4:=(hc2 cs cs' 1).trans (show _=some (Sw .i64 inn') by rw [hcs'];rfl)
 rw [hcs,hcs'] at e1 e2 e3 e4 HG
 generalize hW:(w.alloc (.cells #[.int .i64 id,.int .i64 inn,.int .i64 out,.string region,.int .u8 kind,.string speaker,.slice a xs.length cap] 72)).alloc (.cells #[.int .i64 id',.int .i64 inn',.int .i64 out',.string region',.int .u8 kind',.string speaker',.slice a' xs'.length cap'] 72)=W at *
 have HW:=h_ hW
 clear hW hc1 hc2 hcs hcs' cs cs'
 go_enter Tryz.func134,Tryz.ntmps134
 go_wp2_with fail
 rw [HW.out]
 refine wp_region_still_tail 12 (by kernel_rfl) (by kernel_rfl) ?_
 simp only [List.take_succ_cons,List.take_zero,List.drop_succ_cons,List.drop_zero]
 repeat still_step
 still_call (HC.out _ _ _)
 repeat still_step
 still_call (HC.out _ _ _)
 refine wpStill_nil ?_
 have HI:Hid (∀ w2:Sm,Ints (w2.alloc (.cells #[.int .i64 (St inn inn'),.int .i64 (St id id')] 3)) (some ⟨w2.heap.size,0,none⟩) [St inn inn',St id id']):=h_ (fun w2=>by
  refine .inr ⟨w2.heap.size,0,rfl,by simp,fun i z hz=>⟨fun j v hv=>?_,trivial⟩⟩
  match j,hv with
  | 0,hv =>
    simp at hv
    subst hv
    rw [show 0+i*1+0=i by omega,Sp _ _ i _ 3 (0,0) (Sq w2 _)]
    match i,hz with
    | 0,hz=>simp at hz;subst hz;rfl
    | 1,hz=>simp at hz;subst hz;rfl)
 have HI2:Hid (Ints ((W.alloc (.cells #[.int .i64 (St inn inn'),.int .i64 (St id id')] 3)).drew) (some ⟨W.heap.size,0,none⟩) [St inn inn',St id id']):=h_ (HI.out W)
 go_wp2_with fail
 refine(wi _ _ [St inn inn',St id id'] _ HI2.out (by simp)).mono ?_
 rintro e w' ⟨rfl,rfl⟩
 go_wp2_with fail
 go_ret
 exact⟨rfl,HG.out _⟩
theorem Eb (p q:Int):orL [p,q]=if p=0 then q else p:=by
 simp only [orL]
 repeat' split
 all_goals simp_all
theorem lF (x y:Int):(St x y=-1∧x<y)∨(St x y=0∧x=y)∨(St x y=1∧y<x):=by
 unfold St
 repeat' split
 all_goals omega
theorem iW (x y:Ev):ltOf lY x y=decide (x.inn<y.inn∨(x.inn=y.inn∧x.id<y.id)):=by
 unfold ltOf lY
 rw [Eb]
 congr 1
 rcases lF x.inn y.inn with⟨h,h1⟩|⟨h,h1⟩|⟨h,h1⟩<;>rcases lF x.id y.id with⟨k,k1⟩|⟨k,k1⟩|⟨k,k1⟩<;>rw [h,k]<;>simp<;>omega
theorem A7:Sort.SWO (ltOf lY) where
 irrefl x:=by rw [iW];simp
 trans x y z h1 h2:=by rw [iW] at *;simp at *;omega
 ntrans x y z h1 h2:=by rw [iW] at *;simp at *;omega
def eL:List Row→Int
 | []=>0
 | r::l=>if (eO r.runs != 0)=true then eO r.runs else eL l
def uC (R:Reg)(rows:List Row):Int:=if (eL rows != 0)=true then eL rows else eN R (db rows)
def gk (x:Ev)(found:Bool):Int :=
 if x.id<1∨1099511627776<x.id∨cQ x.inn x.out=false then 2 else if found=false then 6 else if x.kind<1∨4<x.kind then 3 else if ¬ x.speaker.toList=[]∧da x.speaker=false then 5 else if x.rows.length=0∨4<x.rows.length then 9 else 0
def fK (x:Ev)(rG:List Reg):Int:=if (gk x (kd rG x.region).2 != 0)=true then gk x (kd rG x.region).2 else uC (kd rG x.region).1 x.rows
def mw (R:Reg)(rows:List Row)(k:Nat):Int:=if (eL (rows.drop k) != 0)=true then eL (rows.drop k) else eN R (db rows)
theorem se (R:Reg)(rows:List Row)(k:Nat)(r:Row)(h:rows[k]? =some r):mw R rows k=if (eO r.runs != 0)=true then eO r.runs else mw R rows (k+1):=by
 unfold mw
 rw [ck rows k r h,eL]
 by_cases he:(eO r.runs != 0)=true
 · rw [if_pos he,if_pos he,if_pos he]
 · rw [if_neg he,if_neg he]
theorem o4 (R:Reg)(rows:List Row):mw R rows rows.length=eN R (db rows):=by
 unfold mw
 rw [List.drop_length];rfl
theorem uP (k:Int)(h:k<1∨4<k):kindName k=⟨#[]⟩:=by unfold kindName;repeat rw [if_neg (by omega)]
theorem sB (k:Int)(h0:1≤k)(h:k≤4):¬ (kindName k).toList=[]:=by
 rcases(show k=1∨k=2∨k=3∨k=4 by omega) with rfl|rfl|rfl|rfl<;>decide +kernel
theorem yv (rG:List Reg)(nm:ByteArray)(hf:∀ r∈rG,r.fits):(kd rG nm).1.fits:=by
 have hd:jC.fits:=by simp only [jC,Reg.fits,i64];decide
 have hz:gn.fits:=by simp only [gn,Reg.fits,i64];decide
 have key:∀ l:List Reg,(∀ r∈l,r.fits)→(kP nm l).1.fits:=by
  intro l
  induction l with
  | nil=>intro _;exact hz
  | cons r l ih =>
    intro h
    rw [kP]
    split
    · exact h r (by simp)
    · exact ih (fun q hq=>h q (by simp [hq]))
 unfold kd
 split
 · exact hd
 · exact key rG hf
theorem CG (x:Ev)(found:Bool):(gk x found=2∧(x.id<1∨(1≤x.id∧1099511627776<x.id)))∨(gk x found=2∧1≤x.id∧x.id≤1099511627776∧cQ x.inn x.out=false) ∨
 (1≤x.id∧x.id≤1099511627776∧cQ x.inn x.out=true∧((gk x found=6∧found=false)∨(found=true ∧
  ((gk x found=3∧(x.kind<1∨4<x.kind))∨(1≤x.kind∧x.kind≤4 ∧
   ((gk x found=5∧¬ x.speaker.toList=[]∧da x.speaker=false)∨((x.speaker.toList=[]∨(¬ x.speaker.toList=[]∧da x.speaker=true)) ∧
    ((gk x found=9∧(x.rows.length=0∨4<x.rows.length))∨(gk x found=0∧1≤x.rows.length∧x.rows.length≤4))))))))):=by
 unfold gk
 generalize x.rows.length=n
 cases hs:cQ x.inn x.out<;>cases found<;>cases hn:da x.speaker<;>by_cases hp:x.speaker.toList=[]<;>simp [hp]<;>omega
theorem fw (x:Ev)(a:Option Addr)(cap:Nat)(rG:List Reg)(w:Sm)(hE:Env w)(hr:x.lies w)(hf:x.fits)(hR:Regs w a rG)(hfr:∀ r∈rG,r.fits)(hlr:rG.length≤4000000) :
 Calls Tryz.prog 65 #[.agg x.enc.toArray,.slice a rG.length cap] w fun e w'=>e=.returned (.int .i64 (fK x rG))∧Sr w.heap.size w w':=by
 have AJ:=fun w1 h1=>yq a cap rG x.region w1 h1 hlr
 have KV:=yv rG x.region hfr
 have hLn:=fun w1 h1 h2=>pj x w1 h1 h2 hf
 have hfl:=mO x.rows hf.2.2.2.2.2.2.2.1
 generalize hG:fK x rG=G
 unfold fK at hG
 generalize hF:kd rG x.region=F at *
 obtain⟨R,found⟩:=F
 simp only at hG KV
 have hcs:=CG x found
 obtain⟨_,_,_,hs1,hk0,hk1,hs2,hfx,hl⟩:=hf
 have Ax:(db x.rows).length=x.rows.length:=by simp [db]
 obtain⟨id,inn,out,region,kind,speaker,ra,rc,rows⟩:=x
 simp only [Ev.lies] at hr hfx hl hLn hs1 hs2 hk0 hk1 Ax hfl
 simp only [Ev.enc] at hLn AJ ⊢
 generalize gk ⟨id,inn,out,region,kind,speaker,ra,rc,rows⟩ found=EH at *
 simp only at hG hcs
 have HG:=h_ hG
 generalize sU:#[Sw .i64 id,.int .i64 inn,.int .i64 out,.string region,.int .u8 kind,.string speaker,.slice ra rows.length rc]=cs at *
 have f0:=aw w cs 72 0 (.int .i64 id) (by rw [←sU];rfl)
 have f1:=aw w cs 72 1 (.int .i64 inn) (by rw [←sU];rfl)
 have f2:=aw w cs 72 2 (.int .i64 out) (by rw [←sU];rfl)
 have f3:=aw w cs 72 3 (.string region) (by rw [←sU];rfl)
 have f4:=aw w cs 72 4 (.int .u8 kind) (by rw [←sU];rfl)
 have f5:=aw w cs 72 5 (.string speaker) (by rw [←sU];rfl)
 have f6:=aw w cs 72 6 (.slice ra rows.length rc) (by rw [←sU];rfl)
 have HB:=h_ (fun(w1:Sm) (h:Sr (w.heap.size+1) (w.alloc (.cells cs 72)) w1)=>bL h)
 have HE:=h_ (fun(w1:Sm) (h:Sr (w.heap.size+1) (w.alloc (.cells cs 72)) w1)=>hE.below (bL h) (Sy _))
 have HR:=h_ (fun(w1:Sm) (h:Sr (w.heap.size+1) (w.alloc (.cells cs 72)) w1)=>hr.later (bL h))
 have MD:=h_ (fun(w1:Sm) (h:Sr (w.heap.size+1) (w.alloc (.cells cs 72)) w1)=>hR.later (bL h))
 have hb0:Sr (w.heap.size+1) (w.alloc (.cells cs 72)) (w.alloc (.cells cs 72)):=Ss _ _
 have hsz:(w.alloc (.cells cs 72)).heap.size=w.heap.size+1:=Sm.size_alloc _ _
 have DF:=h_ AJ
 have IE:=h_ hLn
 generalize hW0:w.alloc (.cells cs 72)=W0 at *
 have HW0:=h_ hW0
 have dI:=h_ hsz
 have wW:=h_ Ax
 have Jx:=h_ KV
 have jo:=h_ hfx
 have IX:=h_ hcs
 clear hW0 hsz hE hr hR AJ hLn hG hcs hfr hF Ax KV hfx hfl
 go_enter Tryz.func65,Tryz.ntmps65
 subst sU
 go_wp2_with fail
 rw [HW0.out]
 refine(DF.out _ (MD.out _ hb0)).mono ?_
 rintro e w1 ⟨rfl,hb1⟩
 rw [dI.out] at hb1
 clear HW0 DF
 obtain⟨Rn,Rt,Rh,Rl,Rw,Ra,Rb⟩:=R
 simp only [Reg.enc]
 have hlt1:w.heap.size<w1.heap.size:=by have:=hb1.size;rw [dI.out] at this;omega
 have E3:Hid (∀ o,Sr (w.heap.size+1) W0 (w1.alloc o)):=h_ (fun o=>hb1.alloc (by omega) o)
 have Bo:=h_ (fun(n:Int) (h:EH=n) (h0:(n != 0)=true)=>(show n=G by rw [←HG.out,h,if_pos h0]))
 have MV:=h_ (fun(h:EH=0)=>(show uC ⟨Rn,Rt,Rh,Rl,Rw,Ra,Rb⟩ rows=G by rw [←HG.out,h,if_neg (by decide)]))
 clear HG
 generalize hrs:#[Sn.string Rn,.int .i64 Rt,.int .i64 Rh,.int .i64 Rl,.int .i64 Rw,.int .u8 Ra,.bool Rb]=rs at *
 have g0:=aw w1 rs 37 0 (.string Rn) (by rw [←hrs];rfl)
 have g1:=aw w1 rs 37 1 (.int .i64 Rt) (by rw [←hrs];rfl)
 have g2:=aw w1 rs 37 2 (.int .i64 Rh) (by rw [←hrs];rfl)
 have g3:=aw w1 rs 37 3 (.int .i64 Rl) (by rw [←hrs];rfl)
 have g4:=aw w1 rs 37 4 (.int .i64 Rw) (by rw [←hrs];rfl)
 have g5:=aw w1 rs 37 5 (.int .u8 Ra) (by rw [←hrs];rfl)
 have g6:=aw w1 rs 37 6 (.bool Rb) (by rw [←hrs];rfl)
 have hsz1:(w1.alloc (.cells rs 37)).heap.size=w1.heap.size+1:=Sm.size_alloc _ _
 have HT1:=h_ (fun(w2:Sm) (h:Sr (w1.heap.size+1) (w1.alloc (.cells rs 37)) w2)=>(E3.out (.cells rs 37)).trans (h.mono (by omega)))
 have HT2:=h_ (fun(w2 w3:Sm) (h:Sr (w1.heap.size+1) (w1.alloc (.cells rs 37)) w2) (h3:Sr w2.heap.size w2 w3)=>h.trans (h3.mono (by have:=h.size;omega)))
 have hc1:Sr (w1.heap.size+1) (w1.alloc (.cells rs 37)) (w1.alloc (.cells rs 37)):=Ss _ _
 have hd1:Sr (w.heap.size+1) W0 (w1.alloc (.cells rs 37)):=E3.out _
 have If:=h_ hsz1
 have CQ:=HT1
 clear hsz1
 generalize hW1:w1.alloc (.cells rs 37)=W1 at *
 have HW1:=h_ hW1
 clear hW1
 subst hrs
 have hsb:=fun w2=>uj inn out w2
 have hkb:=fun w2=>jA kind w2 hk0 hk1
 have hnb:=fun w2=>eG speaker w2 hs2
 generalize cQ inn out=SP at *
 generalize da speaker=NB at *
 have HS:=h_ hsb
 have HK:=h_ hkb
 have HN:=h_ hnb
 clear hsb hkb hnb
 rcases IX.out with⟨he,hi|⟨hi0,hi⟩⟩|⟨he,hi0,hi1,hsp⟩|⟨hi0,hi1,hsp,⟨he,rfl⟩|⟨rfl,⟨he,hk⟩|⟨G9,G8,⟨he,tQ,hnm⟩|⟨tQ,⟨he,hn⟩|⟨he,hn0,hn1⟩⟩⟩⟩⟩
 · have vM:=h_ he
   clear he IX
   go_wp2_with fail
   rw [HW1.out]
   go_ret
   exact⟨aG (Bo.out _ vM.out rfl),HB.out _ hd1⟩
 · have vM:=h_ he
   clear he IX
   go_wp2_with fail
   rw [HW1.out]
   go_ret
   exact⟨aG (Bo.out _ vM.out rfl),HB.out _ hd1⟩
 · have vM:=h_ he
   subst hsp
   clear he IX
   go_wp2_with fail
   rw [HW1.out]
   refine(HS.out _).mono ?_
   rintro e w2 ⟨rfl,hb2⟩
   have hc2:=HT2.out _ _ hc1 hb2
   have hd2:=HT1.out _ hc2
   go_wp2_with fail
   go_ret
   exact⟨aG (Bo.out _ vM.out rfl),HB.out _ hd2⟩
 all_goals
  have vM:=h_ he
  subst hsp
  clear he IX
  go_wp2_with fail
  rw [HW1.out]
  refine(HS.out _).mono ?_
  rintro e w2 ⟨rfl,hb2⟩
  have hc2:=HT2.out _ _ hc1 hb2
  have hd2:=HT1.out _ hc2
  clear hb2
 · go_wp2_with fail
   go_ret
   exact⟨aG (Bo.out _ vM.out rfl),HB.out _ hd2⟩
 · rw [uP kind hk] at HK
   clear hk
   go_wp2_with fail
   refine(HK.out _).mono ?_
   rintro e w3 ⟨rfl,hb3⟩
   have hc3:=HT2.out _ _ hc2 hb3
   have hd3:=HT1.out _ hc3
   go_wp2_with fail
   go_ret
   exact⟨aG (Bo.out _ vM.out rfl),HB.out _ hd3⟩
 all_goals
  have hkn:=sB kind G9 G8
  clear G9 G8
  generalize kindName kind=KN at *
  have hkn2:KN.toList.isEmpty=false:=by simpa using hkn
  go_wp2_with fail
  refine(HK.out _).mono ?_
  rintro e w3 ⟨rfl,hb3⟩
  have hc3:=HT2.out _ _ hc2 hb3
  have hd3:=HT1.out _ hc3
  clear hb3
 · subst hnm
   have sH:speaker.toList.isEmpty=false:=by simpa using tQ
   go_wp2_with fail
   refine(HN.out _).mono ?_
   rintro e w4 ⟨rfl,rfl⟩
   go_wp2_with fail
   go_ret
   exact⟨aG (Bo.out _ vM.out rfl),HB.out _ hd3⟩
 · rcases hn with hn|hn<;>rcases tQ with tQ|⟨tQ,rfl⟩
   · have sH:speaker.toList.isEmpty=true:=by simpa using tQ
     go_wp2_with fail
     go_ret
     exact⟨aG (Bo.out _ vM.out rfl),HB.out _ hd3⟩
   · have sH:speaker.toList.isEmpty=false:=by simpa using tQ
     go_wp2_with (go_at_call 78;refine(HN.out _).mono ?_;rintro e w4 ⟨rfl,rfl⟩)
     go_ret
     exact⟨aG (Bo.out _ vM.out rfl),HB.out _ hd3⟩
   · have sH:speaker.toList.isEmpty=true:=by simpa using tQ
     have t0:((rows.length:Int)==0)=false:=by rw [beq_eq_false_iff_ne];omega
     have t1:¬ rows=[]:=by rintro rfl;simp at hn
     go_wp2_with fail
     go_ret
     exact⟨aG (Bo.out _ vM.out rfl),HB.out _ hd3⟩
   · have sH:speaker.toList.isEmpty=false:=by simpa using tQ
     have t0:((rows.length:Int)==0)=false:=by rw [beq_eq_false_iff_ne];omega
     have t1:¬ rows=[]:=by rintro rfl;simp at hn
     go_wp2_with (go_at_call 78;refine(HN.out _).mono ?_;rintro e w4 ⟨rfl,rfl⟩)
     go_ret
     exact⟨aG (Bo.out _ vM.out rfl),HB.out _ hd3⟩
 · have JC:=h_ (MV.out vM.out)
   clear Bo MV vM HS HK E3 HW1 hlr MD hc1 hd1 hc2 hd2 hb0 hb1
   have t0:((rows.length:Int)==0)=false:=by rw [beq_eq_false_iff_ne];omega
   have t1:¬ rows=[]:=by rintro rfl;simp at hn0
   rcases tQ with tQ|⟨tQ,rfl⟩
   · have sH:speaker.toList.isEmpty=true:=by simpa using tQ
     go_wp2_with fail
     clear hkn hkn2 tQ sH t0 t1 HN
     go_loopw [66] (fun i wr=>∃ k:Nat,k≤rows.length∧i=.int .i64 k∧mw ⟨Rn,Rt,Rh,Rl,Rw,Ra,Rb⟩ rows k=G∧Sr (w1.heap.size+1) W1 wr) (fun i _=>rows.length-(intOf i).toNat)
     case atStart=>exact⟨0,by omega,rfl,by rw [←JC.out];rfl,hc3⟩
     case round =>
      obtain⟨k,hk,rfl,hp,hb⟩:=hrel
      have hdd:=HT1.out _ hb
      clear hc3 hd3 JC
      by_cases hlt:k<rows.length
      · obtain⟨b,off,r,rfl,hbl,hx,hc,hok⟩:=(HR.out _ hdd).at_ hlt
        have hfr:=jo.out r (Sl hx)
        have HC:=h_ (fun w1 h1 h2=>nt r w1 h1 h2 hfr)
        rw [se _ rows k r hx] at hp
        obtain⟨qa,qc,rr⟩:=r
        simp only [Row.enc,Row.lies] at HC hok hp
        have d0:=hc 0 _ rfl
        simp only [Sz,SA] at d0
        have hbs:=hb.size
        have lJ:=h_ (fun o=>hok.later ((Ss wr.heap.size wr).alloc (Sy _) o))
        have HP:=h_ hp
        have HA:=h_ (fun(o:Obj)=>(HT2.out _ _ hb ((Ss wr.heap.size wr).alloc (Sy _) o)))
        clear hc hx hfr hok hp
        generalize eO rr=E at *
        cases hE:E != 0
        · have hE0:E=0:=by simpa using hE
          subst hE0
          go_wp2_with (go_at_call 115;refine(HC.out _ (HE.out _ (HT1.out _ (HA.out _))) (lJ.out _)).mono ?_;rintro e w5 ⟨rfl,hb5⟩;have Cy:=HT2.out _ _ (HA.out _) hb5;clear hb5)
          go_roundw
          case rel=>exact⟨k+1,by omega,by go_num,by rw [←HP.out];rfl,Cy⟩
          case measure=>simp [intOf];omega
        · rw [hE] at HP
          go_wp2_with (go_at_call 115;refine(HC.out _ (HE.out _ (HT1.out _ (HA.out _))) (lJ.out _)).mono ?_;rintro e w5 ⟨rfl,hb5⟩;have Cy:=HT2.out _ _ (HA.out _) hb5;clear hb5)
          go_ret
          exact⟨aG (by rw [←HP.out];rfl),HB.out _ (HT1.out _ Cy)⟩
      · obtain rfl:k=rows.length:=by omega
        rw [o4] at hp
        have Ix:=h_ (fun(a:Option Addr) (c:Nat) (w:Sm) (hI:Ints w a (db rows))=>lk ⟨Rn,Rt,Rh,Rl,Rw,Ra,Rb⟩ a c (db rows) w Jx.out hI (by rw [wW.out];omega))
        simp only [hp,wW.out,Reg.enc] at Ix
        clear hp HT1 jo Jx hi0 hi1 hn0 hn1
        have EV:=hdd
        have hbD:Sr (w1.heap.size+1) W1 wr.drew:=hb.drew
        have He:Sr (w.heap.size+1) W0 wr.drew:=hdd.drew
        have hx0:w.heap.size<wr.heap.size:=by have:=EV.size;rw [dI.out] at this;omega
        have hx1:w1.heap.size<wr.heap.size:=by have:=hb.size;have h9:=If.out;omega
        go_wp2_with fail
        go_region_with (first
         | (go_at_call 117;refine(IE.out _ (HE.out _ He) (HR.out _ He)).mono ?_;rintro e w6 ⟨a',c',rfl,hI,hb6⟩;have hc6:=HT2.out _ _ hbD hb6;have hd6:=CQ.out _ hc6;clear hb6)
         | (go_at_call 116;refine(Ix.out _ _ _ hI).mono ?_;rintro e w7 ⟨v,rfl,jr⟩;have KR:=HT2.out _ _ hc6 jr;have hd7:=CQ.out _ KR;clear jr))
        all_goals
         go_wp2_with fail
         go_ret
         exact⟨aG rfl,HB.out _ hd7⟩
   · have sH:speaker.toList.isEmpty=false:=by simpa using tQ
     go_wp2_with (go_at_call 78;refine(HN.out _).mono ?_;rintro e w4 ⟨rfl,rfl⟩)
     clear hkn hkn2 tQ sH t0 t1 HN
     go_loopw [66] (fun i wr=>∃ k:Nat,k≤rows.length∧i=.int .i64 k∧mw ⟨Rn,Rt,Rh,Rl,Rw,Ra,Rb⟩ rows k=G∧Sr (w1.heap.size+1) W1 wr) (fun i _=>rows.length-(intOf i).toNat)
     case atStart=>exact⟨0,by omega,rfl,by rw [←JC.out];rfl,hc3⟩
     case round =>
      obtain⟨k,hk,rfl,hp,hb⟩:=hrel
      have hdd:=HT1.out _ hb
      clear hc3 hd3 JC
      by_cases hlt:k<rows.length
      · obtain⟨b,off,r,rfl,hbl,hx,hc,hok⟩:=(HR.out _ hdd).at_ hlt
        have hfr:=jo.out r (Sl hx)
        have HC:=h_ (fun w1 h1 h2=>nt r w1 h1 h2 hfr)
        rw [se _ rows k r hx] at hp
        obtain⟨qa,qc,rr⟩:=r
        simp only [Row.enc,Row.lies] at HC hok hp
        have d0:=hc 0 _ rfl
        simp only [Sz,SA] at d0
        have hbs:=hb.size
        have lJ:=h_ (fun o=>hok.later ((Ss wr.heap.size wr).alloc (Sy _) o))
        have HP:=h_ hp
        have HA:=h_ (fun(o:Obj)=>(HT2.out _ _ hb ((Ss wr.heap.size wr).alloc (Sy _) o)))
        clear hc hx hfr hok hp
        generalize eO rr=E at *
        cases hE:E != 0
        · have hE0:E=0:=by simpa using hE
          subst hE0
          go_wp2_with (go_at_call 115;refine(HC.out _ (HE.out _ (HT1.out _ (HA.out _))) (lJ.out _)).mono ?_;rintro e w5 ⟨rfl,hb5⟩;have Cy:=HT2.out _ _ (HA.out _) hb5;clear hb5)
          go_roundw
          case rel=>exact⟨k+1,by omega,by go_num,by rw [←HP.out];rfl,Cy⟩
          case measure=>simp [intOf];omega
        · rw [hE] at HP
          go_wp2_with (go_at_call 115;refine(HC.out _ (HE.out _ (HT1.out _ (HA.out _))) (lJ.out _)).mono ?_;rintro e w5 ⟨rfl,hb5⟩;have Cy:=HT2.out _ _ (HA.out _) hb5;clear hb5)
          go_ret
          exact⟨aG (by rw [←HP.out];rfl),HB.out _ (HT1.out _ Cy)⟩
      · obtain rfl:k=rows.length:=by omega
        rw [o4] at hp
        have Ix:=h_ (fun(a:Option Addr) (c:Nat) (w:Sm) (hI:Ints w a (db rows))=>lk ⟨Rn,Rt,Rh,Rl,Rw,Ra,Rb⟩ a c (db rows) w Jx.out hI (by rw [wW.out];omega))
        simp only [hp,wW.out,Reg.enc] at Ix
        clear hp HT1 jo Jx hi0 hi1 hn0 hn1
        have EV:=hdd
        have hbD:Sr (w1.heap.size+1) W1 wr.drew:=hb.drew
        have He:Sr (w.heap.size+1) W0 wr.drew:=hdd.drew
        have hx0:w.heap.size<wr.heap.size:=by have:=EV.size;rw [dI.out] at this;omega
        have hx1:w1.heap.size<wr.heap.size:=by have:=hb.size;have h9:=If.out;omega
        go_wp2_with fail
        go_region_with (first
         | (go_at_call 117;refine(IE.out _ (HE.out _ He) (HR.out _ He)).mono ?_;rintro e w6 ⟨a',c',rfl,hI,hb6⟩;have hc6:=HT2.out _ _ hbD hb6;have hd6:=CQ.out _ hc6;clear hb6)
         | (go_at_call 116;refine(Ix.out _ _ _ hI).mono ?_;rintro e w7 ⟨v,rfl,jr⟩;have KR:=HT2.out _ _ hc6 jr;have hd7:=CQ.out _ KR;clear jr))
        all_goals
         go_wp2_with fail
         go_ret
         exact⟨aG rfl,HB.out _ hd7⟩
end Go.Proofs.YtjebaagkomejaaaGreatDoor
