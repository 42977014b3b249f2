/- The contracts of style.Clone and event.Clone. Changes: their cells, what lies behind them, and the changes that lead from one document to another. -/
import Derived.Deep.DrawnRows
import Derived.Test.YtnlnmbcaongehaaGreatDoorN04
set_option linter.unusedVariables false
set_option linter.unusedSimpArgs false
set_option maxRecDepth 100000
set_option maxHeartbeats 12800000
open Go.Lib renaming hid→h_
open Go renaming World→Su,Value→Sv,Calls→Sw,heap_alloc_last→Sx
open List renaming getElem?_eq_getElem→Sy,getElem?_eq_some_iff→Sz,mem_of_getElem?→SA,getElem_of_mem→SB,set_cons_succ→SC,flatMap_cons→SD,not_mem_nil→SE,cons_append→SF,mem_cons→SG,mem_map→SH
open Option.some renaming injEq→SI,inj→SJ
open Go.RowKit renaming Below→SK
open Go.Value.slice renaming injEq→SL
open Nat renaming le_refl→SM,add_zero→SN,eq_zero_or_pos→SO,le_trans→SQ
open Go.RowKit.Below renaming refl→SR,heap_setCell→SS
open Go.Proofs.Tryz renaming prog→SU,ntmps30→SV,func30→SW,ntmps89→SX,func89→SY
open Go.World renaming size_alloc→SZ,frozen?→S5
namespace Go.Proofs.YtnlnmbcaongehaaGreatDoor
open Go.RowKit
def Row.uses (r:Row)(b:Nat):Prop:=d_ r.at_ r.runs b
theorem Row.frame {r:Row} {w w':Su} (h:r.lies w)(hs:w.heap.size≤w'.heap.size)(hb:∀ b,r.uses b→w'.heap[b]? =w.heap[b]?):r.lies w':=af.frame h hs hb fun _ _ _=>trivial
theorem Row.uses_lt {r:Row} {w:Su} (h:r.lies w) {b:Nat} (hu:r.uses b):b<w.heap.size:=bL h hu
def pN (a:Option Addr)(rows:List Row)(b:Nat):Prop:=d_ a rows b∨∃ r∈rows,r.uses b
theorem yp {w:Su} {a:Option Addr} {rows:List Row} (h:ft w a rows) {r:Row} (hr:r∈rows):r.lies w:=by
 obtain⟨i,hi,rfl⟩:=SB hr
 obtain⟨b,off,x,_,_,hx,_,hl⟩:=h.at_ hi
 obtain rfl:rows[i]=x:=SJ ((Sy hi).symm.trans hx)
 exact hl
theorem ft.frame {a:Option Addr} {rows:List Row} {w w':Su} (h:ft w a rows)(hs:w.heap.size≤w'.heap.size)(hb:∀ b,pN a rows b→w'.heap[b]? =w.heap[b]?):ft w' a rows :=
 af.frame h hs (fun b hu=>hb b (.inl hu)) fun r hr hl=>Row.frame hl hs fun b hu=>hb b (.inr ⟨r,hr,hu⟩)
theorem DM {w:Su} {a:Option Addr} {rows:List Row} (h:ft w a rows) {b:Nat} (hu:pN a rows b):b<w.heap.size:=by
 rcases hu with hu|⟨r,hr,hu⟩
 · exact bL h hu
 · exact Row.uses_lt (yp h hr) hu
def iZ (rows:List Row)(w:Su)(v:Sv)(k:Nat)(wr:Su):Prop :=
 ∃ rows':List Row,rows'.length=rows.length∧rows'.map Row.runs=rows.map Row.runs∧wr.ownsRow w.heap.size 78 1 v rows.length (rows'.flatMap Row.enc)∧(∀ j r,rows'[j]? =some r→r.lies wr∧(∀ b,r.uses b→v.ownBlock≠some b)∧(j<k→∀ b,r.uses b→w.heap.size≤b))∧SK w.heap.size w wr
theorem iZ.start {rows:List Row} {w w1:Su} {a:Option Addr} {v:Sv} (h:ft w a rows)(ho:w1.ownsRow w.heap.size 78 1 v rows.length (rows.flatMap Row.enc))(hb:SK w.heap.size w w1):iZ rows w v 0 w1:=by
 refine⟨rows,rfl,rfl,ho,fun j r hr=>?_,hb⟩
 have hl:=yp h (SA hr)
 refine⟨Row.keeps _ _ _ hb hl,fun b hu hv=>?_,fun hj=>by omega⟩
 have:=(ho.lt _ hv).1
 have:=Row.uses_lt hl hu
 omega
theorem oQ:∀ (xs:List Row)(k:Nat)(y:Row),k<xs.length→(xs.set k y).flatMap Row.enc=(xs.flatMap Row.enc).set k (.slice y.at_ y.runs.length y.cap)
 | [],k,y,h=>by simp at h
 | x::xs,0,y,h=>by simp [Row.enc]
 | x::xs,k+1,y,h=>by
   have:=oQ xs k y (by simpa using h)
   simp only [SC,SD,this,Row.enc,SF,List.nil_append]
theorem qB:∀ (xs:List Row)(k:Nat)(r y:Row),xs[k]? =some r→y.runs=r.runs→(xs.set k y).map Row.runs=xs.map Row.runs
 | [],k,r,y,h,_=>by simp at h
 | x::xs,0,r,y,h,hy=>by
   obtain rfl:x=r:=by simpa using h
   simp [hy]
 | x::xs,k+1,r,y,h,hy=>by
   have:=qB xs k r y (by simpa using h) hy
   simp [this]
theorem iZ.step {rows rows':List Row} {w wr w2:Su} {g cv k:Nat} {r:Row} {a2:Option Addr} {c2:Nat} (hk:rows'[k]? =some r)(h1:rows'.length=rows.length)(h2:rows'.map Row.runs=rows.map Row.runs)
 (h3:wr.ownsRow w.heap.size 78 1 (.slice (some ⟨g,0,none⟩) rows.length cv) rows.length (rows'.flatMap Row.enc)) (h4:∀ j r,rows'[j]? =some r→r.lies wr∧(∀ b,r.uses b→(Sv.slice (some ⟨g,0,none⟩) rows.length cv).ownBlock≠some b)∧(j<k→∀ b,r.uses b→w.heap.size≤b)) (h5:SK w.heap.size w wr)
 (hb:SK wr.heap.size wr w2) (ho:w2.ownsRow wr.heap.size 75 5 (.slice a2 r.runs.length c2) r.runs.length (r.runs.flatMap Run.enc)) :
 iZ rows w (.slice (some ⟨g,0,none⟩) rows.length cv) (k+1) (w2.setCell ⟨g,k,none⟩ (.slice a2 r.runs.length c2)):=by
 have hkl:k<rows'.length:=(Sz.1 hk).1
 have hg:=h3.lt g rfl
 have h3':=(aH h3 hb).stored k (.slice a2 r.runs.length c2)
 refine⟨rows'.set k ⟨a2,c2,r.runs⟩,by simpa using h1,(qB rows' k r ⟨a2,c2,r.runs⟩ hk rfl).trans h2,?_,fun j x hx=>?_,?_⟩
 · rw [oQ rows' k _ hkl]
   exact h3'.1
 · rw [List.getElem?_set] at hx
   by_cases hjk:k=j
   · rw [if_pos hjk,if_pos hkl] at hx
     obtain rfl:=SJ hx
     obtain⟨a3,c3,he,hS⟩:=ay (k:=5) (enc:=Run.enc) (Ok:=Flat) (fun _=>rfl) ho (fun _ _=>trivial)
     simp only [SL] at he
     obtain⟨rfl,_,_⟩:=he
     have hfr:∀ b,Row.uses ⟨a2,c2,r.runs⟩ b→wr.heap.size≤b:=fun b ⟨_,ad,had,hbb⟩=>by
      have had:a2=some ad:=had
      subst had
      rw [←hbb]
      exact(ho.lt ad.block rfl).1
     refine⟨Row.frame hS (by simp) (fun b hu=>?_),fun b hu e=>?_,fun _ b hu=>SQ h5.size (hfr b hu)⟩
     · have:=hfr b hu
       exact SS w2 ⟨g,k,none⟩ _ b (by simp only;omega)
     · have:=hfr b hu
       simp only [Sv.ownBlock,SI] at e
       omega
   · rw [if_neg hjk] at hx
     obtain⟨hl,hap,hfr⟩:=h4 j x hx
     refine⟨Row.frame (Row.keeps _ _ _ hb hl) (by simp) (fun b hu=>?_),hap,fun hj=>hfr (by omega)⟩
     refine SS w2 ⟨g,k,none⟩ _ b (fun e=>hap b hu ?_)
     rw [e];rfl
 · exact(h5.trans (hb.mono h5.size)).setCell hg.1 _
def rM (rows:List Row)(w:Su)(e:Ending)(w':Su):Prop:=∃ a' cap' rows',e=.returned (.slice a' rows'.length cap')∧ft w' a' rows'∧rows'.map Row.runs=rows.map Row.runs∧(∀ b,pN a' rows' b→w.heap.size≤b)∧SK w.heap.size w w'
theorem iZ.done {rows:List Row} {w wr:Su} {a:Option Addr} {c:Nat} (h:iZ rows w (.slice a rows.length c) rows.length wr):rM rows w (.returned (.slice a rows.length c)) wr:=by
 obtain⟨rows',h1,h2,h3,h4,h5⟩:=h
 have h3':=h3
 rw [←h1] at h3
 obtain⟨a',c',he,hS⟩:=ay (k:=1) (enc:=Row.enc) (Ok:=Row.lies) (fun _=>rfl) h3 (fun r hr=>by
  obtain⟨j,hj,rfl⟩:=SB hr
  exact(h4 j _ (Sy hj)).1)
 simp only [SL] at he
 obtain⟨rfl,_,rfl⟩:=he
 refine⟨a,c,rows',by rw [h1],hS,h2,fun b hu=>?_,h5⟩
 rcases hu with⟨_,ad,rfl,rfl⟩|⟨r,hr,hu⟩
 · exact(h3'.lt _ rfl).1
 · obtain⟨j,hj,rfl⟩:=SB hr
   exact(h4 j _ (Sy hj)).2.2 (by omega) b hu
theorem rf (a:Option Addr)(cap:Nat)(rows:List Row)(w:Su)(h:ft w a rows)(hf:∀ r∈rows,r.runs.length≤4000000)(hl:rows.length≤4000000) :
 Sw SU 96 #[.slice a rows.length cap] w (rM rows w):=by
 have HC:=h_ (uF a cap rows w h hl)
 have HS:=h_ (fun(w1:Su) (v:Sv) (ho:w1.ownsRow w.heap.size 78 1 v rows.length (rows.flatMap Row.enc)) (hb:SK w.heap.size w w1)=>iZ.start h ho hb)
 have HD:=h_ (fun(wr:Su) (a:Option Addr) (c:Nat) (h:iZ rows w (.slice a rows.length c) rows.length wr)=>h.done)
 have HF:=h_ (fun(rows':List Row) (e:rows'.map Row.runs=rows.map Row.runs) (r:Row) (hr:r∈rows')=>(show r.runs.length≤4000000 by
  have:r.runs∈rows.map Row.runs:=by rw [←e];exact SH.2 ⟨r,hr,rfl⟩
  obtain⟨r0,h0,he⟩:=SH.1 this
  rw [←he];exact hf r0 h0))
 clear h hf
 generalize rM rows w=Q at *
 go_enter Tryz.func96,Tryz.ntmps96
 go_wp2_with fail
 refine HC.out.mono ?_
 rintro e w1 ⟨v,rfl,hown,hb1⟩
 obtain⟨av,cv,rfl⟩:∃ av cv,v=.slice av rows.length cv:=by
  rcases hown.2 with⟨rfl,h0⟩|⟨g,cap,_,rfl,_⟩
  · exact⟨none,0,by rw [h0]⟩
  · exact⟨_,_,rfl⟩
 have HR:=h_ (HS.out _ _ hown hb1)
 clear hown hb1 HC HS
 go_wp2_with fail
 go_loopw [9] (fun i wr=>∃ k:Nat,k≤rows.length∧i=.int .i64 k∧iZ rows w (.slice av rows.length cv) k wr) (fun i _=>rows.length-(intOf i).toNat)
 case atStart=>exact⟨0,by omega,rfl,HR.out⟩
 case round =>
  clear HR
  obtain⟨k,hk,rfl,hrel⟩:=hrel
  by_cases hlt:k<rows.length
  · obtain⟨rows',h1,h2,h3,h4,h5⟩:=hrel
    obtain⟨g,c',he⟩:=kZ h3 (by omega)
    simp only [SL,true_and] at he
    obtain⟨rfl,rfl⟩:=he
    have hk':rows'[k]? =some rows'[k]:=Sy (by omega)
    generalize rows'[k]=r at hk'
    have hmem:=SA hk'
    have hc0:wr.cell? ⟨g,k,none⟩=some (.slice r.at_ r.runs.length r.cap):=by
     rw [h3.cellAt k (by omega)]
     have:=lP Row.enc 1 (fun _=>rfl) rows' k r 0 _ hk' rfl
     rw [show k*1+0=k by omega] at this
     exact this
    have rP:=h_ (uD (Ok:=Flat) r.at_ r.cap r.runs wr (h4 k r hk').1 (HF.out _ h2 r hmem))
    have HK:=h_ (fun(w2:Su) (hb:SK wr.heap.size wr w2)=>(show w2.cell? ⟨g,k,none⟩=some (.slice r.at_ r.runs.length r.cap)∧w2.frozen? ⟨g,k,none⟩=false from
     ⟨(hb.cell (p:=⟨g,k,none⟩) (h3.lt g rfl).2).trans hc0,(aH h3 hb).frozenAt k⟩))
    have HST:=h_ (fun(w2:Su) (a2:Option Addr) (c2:Nat) (hb:SK wr.heap.size wr w2) (ho:w2.ownsRow wr.heap.size 75 5 (.slice a2 r.runs.length c2) r.runs.length (r.runs.flatMap Run.enc))=>iZ.step hk' h1 h2 h3 h4 h5 hb ho)
    clear h1 h2 h3 h4 h5 hk' hmem
    obtain⟨ra,rc,rr⟩:=r
    simp only at *
    go_wp2_with fail
    refine rP.out.mono ?_
    rintro e w2 ⟨v2,rfl,hown2,hb2⟩
    obtain⟨a2,c2,rfl⟩:∃ av cv,v2=.slice av rr.length cv:=by
     rcases hown2.2 with⟨rfl,h0⟩|⟨g,cap,_,rfl,_⟩
     · exact⟨none,0,by rw [h0]⟩
     · exact⟨_,_,rfl⟩
    obtain⟨k1,k2⟩:=HK.out _ hb2
    have HN:=h_ (HST.out _ _ _ hb2 hown2)
    clear hown2 hb2 rP HK HST hc0
    go_wp2_with fail
    go_roundw
    case rel=>exact⟨k+1,by omega,by go_num,HN.out⟩
    case measure=>simp [intOf];omega
  · obtain rfl:k=rows.length:=by omega
    have HN:=h_ hrel
    clear hrel
    go_wp2_with fail
    exact HD.out _ _ _ HN.out
structure EvC where
 id:Int
 inn:Int
 out:Int
 region:ByteArray
 kind:Int
 speaker:ByteArray
 rows:List (List Run)
def Ev.c (x:Ev):EvC:=⟨x.id,x.inn,x.out,x.region,x.kind,x.speaker,x.rows.map Row.runs⟩
def Ev.uses (x:Ev)(b:Nat):Prop:=pN x.at_ x.rows b
theorem Ev.frame {x:Ev} {w w':Su} (h:x.lies w)(hs:w.heap.size≤w'.heap.size)(hb:∀ b,x.uses b→w'.heap[b]? =w.heap[b]?):x.lies w':=ft.frame h hs hb
theorem Ev.uses_lt {x:Ev} {w:Su} (h:x.lies w) {b:Nat} (hu:x.uses b):b<w.heap.size:=DM h hu
def zZ (c:EvC)(w:Su)(e:Ending)(w':Su):Prop:=∃ y:Ev,e=.returned (.agg y.enc.toArray)∧y.c=c∧y.lies w'∧(∀ b,y.uses b→w.heap.size≤b)∧SK w.heap.size w w'
theorem hJ (x:Ev)(w:Su)(h:x.lies w)(hf:∀ r∈x.rows,r.runs.length≤4000000)(hl:x.rows.length≤4000000) :
 Sw SU 40 #[.agg x.enc.toArray] w (zZ x.c w):=by
 generalize hcs:x.enc.toArray=cs
 have HC:=h_ (fun(o:Obj)=>rf x.at_ x.cap x.rows ((w.alloc (.cells cs 50)).alloc o) (ft.later h (((SR _ _).alloc (SM _) _).alloc (by simp) _)) hf hl)
 have HQ:=h_ (fun(a:Option Addr) (c:Nat) (rows:List Row) (w':Su) (e:rows.map Row.runs=x.rows.map Row.runs) (h:ft w' a rows) (hu:∀ b,pN a rows b→w.heap.size≤b) (hb:SK w.heap.size w w')=>(show zZ x.c w (.returned (.agg #[.int .i64 x.id,.int .i64 x.inn,.int .i64 x.out,.string x.region,.int .u8 x.kind,.string x.speaker,.slice a rows.length c])) w' from
  ⟨⟨x.id,x.inn,x.out,x.region,x.kind,x.speaker,a,c,rows⟩,rfl,by simp only [Ev.c,e],h,hu,hb⟩))
 have HB:=h_ (fun(o o':Obj) (w1:Su) (hb:SK ((w.alloc o).alloc o').heap.size ((w.alloc o).alloc o') w1)=>(show SK w.heap.size w w1 from(((SR _ _).alloc (SM _) _).alloc (by simp) _).trans (hb.mono (by simp;omega))))
 have HK:=h_ (fun(o:Array Sv) (w1:Su) (hb:SK ((w.alloc (.cells cs 50)).alloc (.cells o 50)).heap.size ((w.alloc (.cells cs 50)).alloc (.cells o 50)) w1)=>(show(w1.heap[w.heap.size]? =some (.cells cs 50 (0,0))∧w1.heap[w.heap.size+1]? =some (.cells o 50 (0,0))) by
  refine⟨?_,?_⟩
  · rw [hb.block _ (by simp;omega),SK.heap_alloc _ _ _ (by simp)]
    exact Sx w _
  · rw [hb.block _ (by simp)]
    have:=Sx (w.alloc (.cells cs 50)) (.cells o 50)
    rwa [SZ] at this))
 obtain⟨id,inn,out,reg,kind,sp,a,c,rows⟩:=x
 simp only at *
 generalize zZ _ w=Q at *
 clear h hf
 simp only [Ev.enc] at hcs
 go_enter Tryz.func40,Tryz.ntmps40
 subst hcs
 go_wp2_with fail
 refine(HC.out _).mono ?_
 rintro e w1 ⟨a',c',rows',rfl,hr,hm,hu,hb⟩
 obtain⟨hk1,hk2⟩:=HK.out _ _ hb
 have iz:=h_ (HB.out _ _ _ hb)
 have HR:=h_ hr
 have HM:=h_ hm
 have HU:=h_ hu
 clear hb hr hm hu HC HB HK
 have c1:∀ j,w1.cell? ⟨w.heap.size,j,none⟩=_:=fun j=>cell_of_row _ _ j _ 50 (0,0) hk1
 have c2:∀ j,w1.cell? ⟨w.heap.size+1,j,none⟩=_:=fun j=>cell_of_row _ _ j _ 50 (0,0) hk2
 have z1:∀ j,w1.frozen? ⟨w.heap.size,j,none⟩=false:=fun j=>by simp [S5,hk1]
 have z2:∀ j,w1.frozen? ⟨w.heap.size+1,j,none⟩=false:=fun j=>by simp [S5,hk2]
 clear hk1 hk2
 go_wp2_with fail
 refine bodyPost_ret (v:=.agg #[.int .i64 id,.int .i64 inn,.int .i64 out,.string reg,.int .u8 kind,.string sp,.slice a' rows'.length c']) (by simp [results,Tryz.results40,go_sem,c2]) rfl ?_
 have HF:=h_ (fun(b:Nat) (u u0 u1 u2 u3 u4 u5 u6:Sv) (hb:w.heap.size+2≤b)=>(show((((((((w1.setCell ⟨w.heap.size,6,none⟩ u).setCell ⟨w.heap.size+1,0,none⟩ u0).setCell ⟨w.heap.size+1,1,none⟩ u1).setCell ⟨w.heap.size+1,2,none⟩ u2).setCell ⟨w.heap.size+1,3,none⟩ u3).setCell ⟨w.heap.size+1,4,none⟩ u4).setCell ⟨w.heap.size+1,5,none⟩ u5).setCell ⟨w.heap.size+1,6,none⟩ u6).heap[b]? =w1.heap[b]? by
  repeat rw [SS _ _ _ _ (by simp only;omega)]))
 have HUU:∀ b,pN a' rows' b→w.heap.size+2≤b:=fun b hu=>by
  have:=HU.out b hu
  simp at this
  omega
 refine HQ.out _ _ _ _ HM.out (ft.frame HR.out (by simp) fun b hu=>HF.out b _ _ _ _ _ _ _ _ (HUU b hu)) (fun b hu=>by have:=HUU b hu;omega) ?_
 repeat refine SK.setCell ?_ (by simp only;omega) _
 exact iz.out
structure Chg where
 sec:Int
 id:Int
 name:ByteArray
 added:Bool
 gone:Bool
 oh:Hd
 nh:Hd
 rg:Reg
 nr:Reg
 oe:Ev
 ne:Ev
 oc:Cm
 nc:Cm
def Chg.enc (c:Chg):List Sv:=[.int .u8 c.sec,.int .i64 c.id,.string c.name,.bool c.added,.bool c.gone]++(c.oh.enc++(c.nh.enc++(c.rg.enc++(c.nr.enc++(c.oe.enc++(c.ne.enc++(c.oc.enc++c.nc.enc)))))))
theorem Chg.len (c:Chg):c.enc.length=59:=rfl
def Chg.lies (w:Su)(c:Chg):Prop:=c.oe.lies w∧c.ne.lies w
def Chg.uses (c:Chg)(b:Nat):Prop:=c.oe.uses b∨c.ne.uses b
theorem Chg.deep:Deep Chg.lies Chg.uses :=
 ⟨fun x w w' h hs hb=>⟨Ev.frame h.1 hs fun b hu=>hb b (.inl hu),Ev.frame h.2 hs fun b hu=>hb b (.inr hu)⟩,fun x w b h hu=>hu.elim (Ev.uses_lt h.1) (Ev.uses_lt h.2)⟩
theorem Chg.keeps:Keeps Chg.lies:=fun w w' x hb h=>⟨Ev.keeps _ _ _ hb h.1,Ev.keeps _ _ _ hb h.2⟩
theorem Hd.one:∀ (x:Hd)(v:Sv),v∈x.enc→v.oneCell'=true:=by
 intro x v hv
 simp only [Hd.enc,SG,SE,or_false] at hv
 rcases hv with rfl|rfl|rfl|rfl|rfl<;>rfl
theorem Chg.one:∀ (x:Chg)(v:Sv),v∈x.enc→v.oneCell'=true:=by
 intro x v hv
 simp only [Chg.enc,List.mem_append] at hv
 rcases hv with h|h|h|h|h|h|h|h|h
 · simp only [SG,SE,or_false] at h
   rcases h with rfl|rfl|rfl|rfl|rfl<;>rfl
 · exact Hd.one _ _ h
 · exact Hd.one _ _ h
 · exact Reg.one _ _ h
 · exact Reg.one _ _ h
 · exact Ev.one _ _ h
 · exact Ev.one _ _ h
 · exact Cm.one _ _ h
 · exact Cm.one _ _ h
structure ChgC where
 sec:Int
 id:Int
 name:ByteArray
 added:Bool
 gone:Bool
 oh:Hd
 nh:Hd
 rg:Reg
 nr:Reg
 oe:EvC
 ne:EvC
 oc:Cm
 nc:Cm
def Chg.c (x:Chg):ChgC:=⟨x.sec,x.id,x.name,x.added,x.gone,x.oh,x.nh,x.rg,x.nr,x.oe.c,x.ne.c,x.oc,x.nc⟩
def aZ:Hd:=⟨⟨#[]⟩,⟨#[]⟩,0,false,0⟩
def bC:EvC:=aJ.c
theorem iA (w:Su):aJ.lies w:=.inl rfl
theorem rQ (b:Nat):¬ aJ.uses b:=by
 rintro (⟨h,_⟩|⟨r,hr,_⟩)
 · exact h rfl
 · simp [aJ] at hr
abbrev H7:=iO 54 59 Chg.enc Chg.lies Chg.uses
theorem Tryz.info54:(SU.info? 54).map (fun i=>(i.zero.map Sv.cells |>.map Array.size,i.size,i.bytes))=some (some 59,59,568):=by kernel_rfl
theorem GY:∃ i z,SU.info? 54=some i∧i.zero=some z∧i.size=59∧i.bytes=568∧z.cells.size=59:=by
 have h:=Tryz.info54
 cases hi:SU.info? 54 with
 | none=>rw [hi] at h;simp at h
 | some i =>
   rw [hi] at h
   simp only [Option.map_some,SI,Prod.mk.injEq] at h
   obtain⟨h1,h2,h3⟩:=h
   cases hz:i.zero with
   | none=>rw [hz] at h1;simp at h1
   | some z =>
     rw [hz] at h1
     exact⟨i,z,rfl,hz,h2,h3,by simpa using h1⟩
def mD (a b:Reg):Bool:=a.name.toList==b.name.toList&&a.top==b.top&&a.aK==b.aK&&a.left==b.left&&a.width==b.width&&a.align==b.align&&a.bottom==b.bottom
def cmEq (a b:Cm):Bool:=a.id==b.id&&a.ev==b.ev&&a.frm==b.frm&&a.til==b.til&&a.author.toList==b.author.toList&&a.text.toList==b.text.toList&&a.done==b.done&&a.lost==b.lost
theorem ym (a b:Reg)(w:Su):(binOp .neq 44 (.agg a.enc.toArray) (.agg b.enc.toArray)).run SU w=.ok (.bool (!mD a b)) w:=by
 simp [go_sem,Reg.enc,mD]
 repeat' split
 all_goals simp_all
theorem oP (a b:Cm)(w:Su):(binOp .neq 52 (.agg a.enc.toArray) (.agg b.enc.toArray)).run SU w=.ok (.bool (!cmEq a b)) w:=by
 simp [go_sem,Cm.enc,cmEq]
 repeat' split
 all_goals simp_all
def qy (k:ByteArray)(x:Reg):Bool:=x.name.toList==k.toList
def evIs (k:Int)(x:Ev):Bool:=x.id==k
def cmIs (k:Int)(x:Cm):Bool:=x.id==k
def jn (a b:Hd):List ChgC:=if hdEq a b=true then [] else [⟨1,0,⟨#[]⟩,false,false,a,b,aD,aD,bC,bC,aM,aM⟩]
def bH (xs ys:List Reg)(k:ByteArray):List ChgC :=
 if ((xs.find? (qy k)).isSome != (ys.find? (qy k)).isSome||!mD ((xs.find? (qy k)).getD aD) ((ys.find? (qy k)).getD aD))=true then
  [⟨2,0,k,!(xs.find? (qy k)).isSome,!(ys.find? (qy k)).isSome,aZ,aZ,(xs.find? (qy k)).getD aD,(ys.find? (qy k)).getD aD,bC,bC,aM,aM⟩] else []
def kt (xs ys:List Ev)(k:Int):List ChgC :=
 if ((xs.find? (evIs k)).isSome != (ys.find? (evIs k)).isSome||!evEq ((xs.find? (evIs k)).getD aJ) ((ys.find? (evIs k)).getD aJ))=true then
  [⟨3,k,⟨#[]⟩,!(xs.find? (evIs k)).isSome,!(ys.find? (evIs k)).isSome,aZ,aZ,aD,aD,((xs.find? (evIs k)).getD aJ).c,((ys.find? (evIs k)).getD aJ).c,aM,aM⟩] else []
def ng (xs ys:List Cm)(k:Int):List ChgC :=
 if ((xs.find? (cmIs k)).isSome != (ys.find? (cmIs k)).isSome||!cmEq ((xs.find? (cmIs k)).getD aM) ((ys.find? (cmIs k)).getD aM))=true then
  [⟨4,k,⟨#[]⟩,!(xs.find? (cmIs k)).isSome,!(ys.find? (cmIs k)).isSome,aZ,aZ,aD,aD,bC,bC,(xs.find? (cmIs k)).getD aM,(ys.find? (cmIs k)).getD aM⟩] else []
def C6 (a:Option Addr)(xs:List Ev)(b:Nat):Prop:=d_ a xs b∨∃ x∈xs,x.uses b
theorem nD {w:Su} {a:Option Addr} {xs:List Ev} (h:kJ w a xs) {x:Ev} (hx:x∈xs):x.lies w:=by
 obtain⟨i,hi,rfl⟩:=SB hx
 obtain⟨b,off,y,_,_,hy,_,hl⟩:=h.at_ hi
 obtain rfl:xs[i]=y:=SJ ((Sy hi).symm.trans hy)
 exact hl
theorem kJ.frame {a:Option Addr} {xs:List Ev} {w w':Su} (h:kJ w a xs)(hs:w.heap.size≤w'.heap.size)(hb:∀ b,C6 a xs b→w'.heap[b]? =w.heap[b]?):kJ w' a xs :=
 af.frame h hs (fun b hu=>hb b (.inl hu)) fun x hx hl=>Ev.frame hl hs fun b hu=>hb b (.inr ⟨x,hx,hu⟩)
theorem zB {w:Su} {a:Option Addr} {xs:List Ev} (h:kJ w a xs) {b:Nat} (hu:C6 a xs b):b<w.heap.size:=by
 rcases hu with hu|⟨x,hx,hu⟩
 · exact bL h hu
 · exact Ev.uses_lt (nD h hx) hu
def Doc.uses (d:Doc)(b:Nat):Prop:=d_ d.ra d.rG b∨C6 d.ea d.eV b∨d_ d.ca d.cM b
theorem Doc.frame {d:Doc} {w w':Su} (h:d.lies w)(hs:w.heap.size≤w'.heap.size)(hb:∀ b,d.uses b→w'.heap[b]? =w.heap[b]?):d.lies w' :=
 ⟨af.frame h.1 hs (fun b hu=>hb b (.inl hu)) (fun _ _ _=>trivial),kJ.frame h.2.1 hs fun b hu=>hb b (.inr (.inl hu)),af.frame h.2.2 hs (fun b hu=>hb b (.inr (.inr hu))) (fun _ _ _=>trivial)⟩
theorem Doc.uses_lt {d:Doc} {w:Su} (h:d.lies w) {b:Nat} (hu:d.uses b):b<w.heap.size:=by
 rcases hu with hu|hu|hu
 · exact bL h.1 hu
 · exact zB h.2.1 hu
 · exact bL h.2.2 hu
structure DocC where
 hd:Hd
 rG:List Reg
 eV:List EvC
 cM:List Cm
def Doc.c (d:Doc):DocC:=⟨d.hd,d.rG,d.eV.map Ev.c,d.cM⟩
def xK (c:DocC)(w:Su)(e:Ending)(w':Su):Prop:=∃ d:Doc,e=.returned (.agg d.enc.toArray)∧d.c=c∧d.lies w'∧(∀ b,d.uses b→w.heap.size≤b)∧SK w.heap.size w w'
theorem DE {α:Type} (l1 l2:List α)(i:Nat)(v:α):(l1++l2).set (l1.length+i) v=l1++l2.set i v:=by
 induction l1 with
 | nil=>simp
 | cons x l ih =>
   rw [SF,List.length_cons,show l.length+1+i=(l.length+i)+1 by omega,SC,ih]
   rfl
theorem qL:∀ (xs:List Ev)(k:Nat)(y:Ev),k<xs.length→(xs.set k y).flatMap Ev.enc=(((((((xs.flatMap Ev.enc).set (k*7) (.int .i64 y.id)).set (k*7+1) (.int .i64 y.inn)).set (k*7+2) (.int .i64 y.out)).set (k*7+3) (.string y.region)).set (k*7+4) (.int .u8 y.kind)).set (k*7+5) (.string y.speaker)).set (k*7+6) (.slice y.at_ y.rows.length y.cap)
 | [],k,y,h=>by simp at h
 | x::xs,0,y,h=>by simp [Ev.enc]
 | x::xs,k+1,y,h=>by
   have:=qL xs k y (by simpa using h)
   rw [SC,SD,SD,this]
   have hl:x.enc.length=7:=rfl
   rw [show(k+1)*7=x.enc.length+k*7 by rw [hl];omega]
   simp only [Nat.add_assoc,DE]
theorem GB {w:Su} {base g n cap k:Nat} {zs:List Ev} (h:w.ownsRow base 50 7 (.slice (some ⟨g,0,none⟩) n cap) n (zs.flatMap Ev.enc))(hn:zs.length=n)(hk:k<n)(y:Ev)(w':Su)
 (hw:w'=((((((w.setCell ⟨g,k*7,none⟩ (.int .i64 y.id)).setCell ⟨g,k*7+1,none⟩ (.int .i64 y.inn)).setCell ⟨g,k*7+2,none⟩ (.int .i64 y.out)).setCell ⟨g,k*7+3,none⟩ (.string y.region)).setCell ⟨g,k*7+4,none⟩ (.int .u8 y.kind)).setCell ⟨g,k*7+5,none⟩ (.string y.speaker)).setCell ⟨g,k*7+6,none⟩ (.slice y.at_ y.rows.length y.cap)) :
 w'.ownsRow base 50 7 (.slice (some ⟨g,0,none⟩) n cap) n ((zs.set k y).flatMap Ev.enc)∧w.heap.size=w'.heap.size∧∀ b,b≠g→w'.heap[b]? =w.heap[b]?:=by
 subst hw
 refine⟨?_,by simp,fun b hb=>?_⟩
 · rw [qL zs k y (by omega)]
   exact(((((((h.stored _ _).1.stored _ _).1.stored _ _).1.stored _ _).1.stored _ _).1.stored _ _).1.stored _ _).1
 · repeat rw [SS _ _ _ _ hb]
def ja (prev:Option Cm)(c:Cm):Bool:=match prev with
 | none=>false
 | some p=>decide (c.id≤p.id)
def jg (last:Int)(f:Int→Option Nat)(eV:List Ev)(prev:Option Cm)(c:Cm):Int :=
 if c.id<1∨last<c.id then 2 else if ja prev c=true then 8 else if (f c.id).isSome=true then 7 else if (ct last f eV c != 0)=true then ct last f eV c else
 if jG c.author=false then 5 else if eO c.text=false then 10 else if c.text.toList=[] then 4 else if 400<c.text.size then 9 else 0
def eU (last:Int)(f:Int→Option Nat)(eV:List Ev):Option Cm→List Cm→Int
 | _,[]=>0
 | prev,c::l=>if (jg last f eV prev c != 0)=true then jg last f eV prev c else eU last f eV (some c) l
def kr (last:Int)(f:Int→Option Nat)(eV:List Ev)(cM:List Cm):Int:=if 64<cM.length then 9 else eU last f eV none cM
theorem zI (last:Int)(f:Int→Option Nat)(eV:List Ev)(xs:List Cm)(k:Nat)(c:Cm)(hx:xs[k]? =some c)(prev:Option Cm)(h:jg last f eV prev c=0):eU last f eV prev (xs.drop k)=eU last f eV (bq xs (k+1)) (xs.drop (k+1)):=by
 rw [eT xs k c hx,eU,h,if_neg (by decide),bq,hx]
theorem zH (last:Int)(f:Int→Option Nat)(eV:List Ev)(xs:List Cm)(k:Nat)(c:Cm)(hx:xs[k]? =some c)(prev:Option Cm)(h:(jg last f eV prev c != 0)=true):eU last f eV prev (xs.drop k)=jg last f eV prev c:=by
 rw [eT xs k c hx,eU,if_pos h]
theorem Jv (last:Int)(f:Int→Option Nat)(eV:List Ev)(prev:Option Cm)(c:Cm)(A:Int)(hA:ct last f eV c=A) :
 (jg last f eV prev c=2∧c.id<1)∨(jg last f eV prev c=2∧1≤c.id∧last<c.id)∨(1≤c.id∧c.id≤last ∧
  ((ja prev c=true∧jg last f eV prev c=8)∨(ja prev c=false ∧
   (((f c.id).isSome=true∧jg last f eV prev c=7)∨((f c.id).isSome=false ∧
    (((A != 0)=true∧jg last f eV prev c=A)∨(A=0 ∧
     ((jG c.author=false∧jg last f eV prev c=5)∨(jG c.author=true ∧
      ((eO c.text=false∧jg last f eV prev c=10)∨(eO c.text=true ∧
       ((c.text.toList=[]∧jg last f eV prev c=4)∨(¬ c.text.toList=[] ∧
        ((400<c.text.size∧jg last f eV prev c=9)∨(c.text.size≤400∧jg last f eV prev c=0))))))))))))))):=by
 unfold jg
 rw [hA]
 by_cases h1:c.id<1
 · left;simp [h1]
 right
 by_cases h2:last<c.id
 · left;simp [h2];omega
 right
 refine⟨by omega,by omega,?_⟩
 rw [if_neg (by omega)]
 cases h3:ja prev c
 · right
   refine⟨rfl,?_⟩
   rw [if_neg (by decide)]
   cases h4:(f c.id).isSome
   · right
     refine⟨rfl,?_⟩
     rw [if_neg (by decide)]
     by_cases h5:A=0
     · right
       refine⟨h5,?_⟩
       subst h5
       rw [if_neg (by decide)]
       cases h6:jG c.author
       · left;simp
       right
       refine⟨rfl,?_⟩
       rw [if_neg (by decide)]
       cases h7:eO c.text
       · left;simp
       right
       refine⟨rfl,?_⟩
       rw [if_neg (by decide)]
       by_cases h8:c.text.toList=[]
       · left;rw [if_pos h8];exact⟨h8,rfl⟩
       right
       refine⟨h8,?_⟩
       rw [if_neg h8]
       by_cases h9:400<c.text.size
       · left;rw [if_pos h9];exact⟨h9,rfl⟩
       · right;rw [if_neg h9];exact⟨by omega,rfl⟩
     · left
       rw [if_pos (by simpa using h5)]
       exact⟨by simpa using h5,rfl⟩
   · left;simp
 · left;simp
theorem xo (d:Doc)(b:Nat)(f:Int→Option Nat)(w:Su)(hn:64<d.cM.length) :
 Sw SU 89 #[.agg d.enc.toArray,.map (some b)] w fun e w'=>e=.returned (.int .i64 (kr d.last f d.eV d.cM))∧SK w.heap.size w w':=by
 rw [kr,if_pos hn]
 obtain⟨title,lang,rate,drop,last,ra,rc,rG,ea,ec,eV,ca,cc,cM⟩:=d
 simp only [Doc.enc]
 simp only at hn
 have hn2:decide ((64:Int)<(cM.length:Int))=true:=by simp;omega
 go_enter SY,SX
 go_wp2_with fail
 go_ret
 exact⟨rfl,(SR _ _).alloc (SM _) _⟩
theorem zG (d:Doc)(b n:Nat)(f:Int→Option Nat)(w:Su)(hE:Env w)(hd:d.lies w)(bn:d.fits)(hM:IMap w b n f)(hf:∀ z i,f z=some i→i<d.eV.length)(hn:d.cM.length≤64) :
 Sw SU 89 #[.agg d.enc.toArray,.map (some b)] w fun e w'=>e=.returned (.int .i64 (kr d.last f d.eV d.cM))∧SK w.heap.size w w':=by
 rw [kr,if_neg (by omega)]
 have N2:=h_ (fun(c:Cm) (w1:Su) (h1:Env w1) (h2:kJ w1 d.ea d.eV) (h3:c.fits) (h4:IMap w1 b n f)=>uN d c b n f w1 h1 h2 bn.2.2.2.2.2.2.2.1 bn.2.2.2.2.2.2.2.2.1 h3 h4 hf)
 obtain⟨title,lang,rate,drop,last,ra,rc,rG,ea,ec,eV,ca,cc,cM⟩:=d
 obtain⟨_,hde,wV⟩:=hd
 obtain⟨_,_,_,_,hi5,_,_,_,_,hfc,_⟩:=bn
 simp only at hde wV hfc hn hi5
 simp only [Doc.enc] at N2 ⊢
 generalize hG:eU last f eV none cM=G
 have H0:=h_ (show eU last f eV (bq cM 0) (cM.drop 0)=G by rw [List.drop_zero];exact hG)
 have hn2:decide ((64:Int)<(cM.length:Int))=false:=by simp;omega
 generalize hds:#[Sv.string title,.string lang,.int .u8 rate,.bool drop,.int .i64 last,.slice ra rG.length rc,.slice ea eV.length ec,.slice ca cM.length cc]=ds at N2 ⊢
 have f0:=ag w ds 27 0 (.string title) (by rw [←hds];rfl)
 have f1:=ag w ds 27 1 (.string lang) (by rw [←hds];rfl)
 have f2:=ag w ds 27 2 (.int .u8 rate) (by rw [←hds];rfl)
 have f3:=ag w ds 27 3 (.bool drop) (by rw [←hds];rfl)
 have f4:=ag w ds 27 4 (.int .i64 last) (by rw [←hds];rfl)
 have f5:=ag w ds 27 5 (.slice ra rG.length rc) (by rw [←hds];rfl)
 have f6:=ag w ds 27 6 (.slice ea eV.length ec) (by rw [←hds];rfl)
 have f7:=ag w ds 27 7 (.slice ca cM.length cc) (by rw [←hds];rfl)
 have HB:=h_ (fun(w1:Su) (h:SK (w.heap.size+1) (w.alloc (.cells ds 27)) w1)=>aU h)
 have hb0:SK (w.heap.size+1) (w.alloc (.cells ds 27)) (w.alloc (.cells ds 27)):=SR _ _
 have hsz:(w.alloc (.cells ds 27)).heap.size=w.heap.size+1:=SZ _ _
 generalize hW0:w.alloc (.cells ds 27)=W0 at *
 have HW0:=h_ hW0
 have bu:=h_ hsz
 have JX:=h_ hfc
 have HM:=h_ hM
 have EP:=h_ hde
 have EX:=h_ wV
 clear hW0 hsz hfc hf hG hM hde wV
 go_enter SY,SX
 subst hds
 go_wp2_with fail
 rw [HW0.out]
 go_loopw [17] (fun i wr=>∃ k:Nat,k≤cM.length∧i=.int .i64 k∧eU last f eV (bq cM k) (cM.drop k)=G∧SK (w.heap.size+1) W0 wr) (fun i _=>cM.length-(intOf i).toNat)
 case atStart=>exact⟨0,by omega,rfl,H0.out,hb0⟩
 case round =>
  obtain⟨k,hk,rfl,hp,hb⟩:=hrel
  have hbw:=HB.out _ hb
  by_cases hlt:k<cM.length
  · have hRr:=EX.out.later hbw
    obtain⟨b',off,c,rfl,hbl,hx,hc,_⟩:=hRr.at_ hlt
    have hft:=JX.out c (SA hx)
    have hpv:(k=0∧bq cM k=none)∨(∃ y,1≤k∧bq cM k=some y∧∀ w1,SK wr.heap.size wr w1→w1.cell? ⟨b',off+(k-1)*8,none⟩=some (.int .i64 y.id)):=by
     rcases SO k with rfl|hk0
     · exact .inl ⟨rfl,rfl⟩
     · obtain⟨b'',off',y,hab,_,hy,hcy,_⟩:=hRr.at_ (show k-1<cM.length by omega)
       simp only [SI,Addr.mk.injEq,and_true] at hab
       obtain⟨rfl,rfl⟩:=hab
       refine .inr ⟨y,hk0,?_,fun w1 h=>?_⟩
       · obtain⟨j,rfl⟩:∃ j,k=j+1:=⟨k-1,by omega⟩
         simpa [bq] using hy
       · rw [h.cell (p:=⟨b',off+(k-1)*8,none⟩) hbl]
         exact hcy 0 _ rfl
    have BM:=hb.size
    rw [bu.out] at BM
    have HN:=h_ (zI last f eV cM k c hx (bq cM k))
    have HS:=h_ (zH last f eV cM k c hx (bq cM k))
    have HP:=h_ hp
    have hcs:=Jv last f eV (bq cM k) c _ rfl
    have hgx:=fun j v h=>ag wr c.enc.toArray 52 j v h
    have iz:=h_ (fun w1 (h:SK (wr.heap.size+1) (wr.alloc (.cells c.enc.toArray 52)) w1)=>(hb.alloc BM _).trans (h.mono (by omega)))
    have kI:=h_ (fun w1 (h:SK (wr.heap.size+1) (wr.alloc (.cells c.enc.toArray 52)) w1)=>(((SR wr.heap.size wr).alloc (SM _) _).trans (h.mono (by omega))))
    have hq0:SK (wr.heap.size+1) (wr.alloc (.cells c.enc.toArray 52)) (wr.alloc (.cells c.enc.toArray 52)):=SR _ _
    have Gi:=hb.alloc BM (.cells c.enc.toArray 52)
    have iN:=h_ ((HM.out.below (HB.out _ (iz.out _ hq0)) HM.out.lt).look hft.1)
    have KX:=h_ (fun w1 (h:SK (wr.heap.size+1) (wr.alloc (.cells c.enc.toArray 52)) w1)=>N2.out c w1 (hE.below (HB.out _ (iz.out _ h)) (SM _)) (EP.out.later (HB.out _ (iz.out _ h))) hft (HM.out.below (HB.out _ (iz.out _ h)) HM.out.lt))
    have KP:=h_ (fun w1 (h:SK (wr.heap.size+1) (wr.alloc (.cells c.enc.toArray 52)) w1)=>lH c.text w1 hft.2.2.2.2.2 (hE.below (HB.out _ (iz.out _ h)) (SM _)))
    have Dw:=h_ (fun w1=>nz c.author w1 hft.2.2.2.2.1)
    have hft6:=hft.2.2.2.2.2
    generalize jg last f eV (bq cM k) c=E at *
    generalize ct last f eV c=A at *
    generalize bq cM k=pv at *
    obtain⟨id,ev,frm,til,author,text,done,lost⟩:=c
    have d0:=hc 0 _ rfl;have d1:=hc 1 _ rfl;have d2:=hc 2 _ rfl;have d3:=hc 3 _ rfl;have d4:=hc 4 _ rfl;have d5:=hc 5 _ rfl;have d6:=hc 6 _ rfl;have d7:=hc 7 _ rfl
    have g0:=hgx 0 _ rfl;have g1:=hgx 1 _ rfl;have g2:=hgx 2 _ rfl;have g3:=hgx 3 _ rfl;have g4:=hgx 4 _ rfl;have g5:=hgx 5 _ rfl;have g6:=hgx 6 _ rfl;have g7:=hgx 7 _ rfl
    have hid1:=hft.1
    simp only [SN,Cm.enc] at d0 d1 d2 d3 d4 d5 d6 d7 g0 g1 g2 g3 g4 g5 g6 g7 iz kI hq0 iN KX KP Dw hcs hft6 hid1 Gi
    have hsz1:(wr.alloc (.cells #[.int .i64 id,.int .i64 ev,.int .i64 frm,.int .i64 til,.string author,.string text,.bool done,.bool lost] 52)).heap.size=wr.heap.size+1:=SZ _ _
    have Qi:=iN
    generalize hW1:wr.alloc (.cells #[.int .i64 id,.int .i64 ev,.int .i64 frm,.int .i64 til,.string author,.string text,.bool done,.bool lost] 52)=W1 at g0 g1 g2 g3 g4 g5 g6 g7 iz kI hq0 KX KP hsz1 Qi
    have HW1:=h_ hW1
    have M7:=h_ hsz1
    have hqq:∀ q,SK (wr.heap.size+1) W1 (W1.drewN q):=fun q=>below_drewN hq0 q
    have hWb:=iz.out _ hq0
    have hWq:=fun q=>iz.out _ (hqq q)
    have HT:=h_ (fun(w2 w3:Su) (h:SK (wr.heap.size+1) W1 w2) (h3:SK w2.heap.size w2 w3)=>h.trans (h3.mono (by have:=h.size;rw [M7.out] at this;exact this)))
    have hcell:(pv=none∧decide (0<k)=false)∨(∃ y,1≤k∧pv=some y∧decide (0<k)=true∧(1:Int)≤(k:Int)∧(k:Int)-1<(cM.length:Int)∧IntKind.i64.wrap ((k:Int)-1)=(k:Int)-1∧((k:Int)-1).toNat=k-1∧∀ w1,SK (wr.heap.size+1) W1 w1→w1.cell? ⟨b',off+(k-1)*8,none⟩=some (.int .i64 y.id)):=by
     rcases hpv with⟨h1,h2⟩|⟨y,h1,h2,h3⟩
     · exact .inl ⟨h2,by simp;omega⟩
     · exact .inr ⟨y,h1,h2,by simp;omega,by omega,by omega,IntWalk.i64_in _ (by omega),by omega,fun w1 h=>h3 w1 (kI.out _ h)⟩
    clear hpv hc hgx hW1 hsz1 H0 hRr hp hx N2 hft Qi
    rcases hcs with⟨he,h1⟩|⟨he,h1,h2⟩|⟨h1,h2,⟨h3,he⟩|⟨h3,hcs⟩⟩
    · have iv:=h_ he
      clear he hcell
      go_wp2_with (at_lookup;refine aa _ rfl _ _ _ _ rfl _ _ _ rfl rfl iN.out ?_)
      rw [HW1.out]
      go_ret
      exact⟨az (by rw [←HP.out,HS.out (by rw [iv.out];rfl),iv.out]),HB.out _ (iz.out _ hq0)⟩
    · have iv:=h_ he
      clear he hcell
      go_wp2_with (at_lookup;refine aa _ rfl _ _ _ _ rfl _ _ _ rfl rfl iN.out ?_)
      rw [HW1.out]
      go_ret
      exact⟨az (by rw [←HP.out,HS.out (by rw [iv.out];rfl),iv.out]),HB.out _ (iz.out _ hq0)⟩
    · have iv:=h_ he
      rcases hcell with⟨rfl,hkd⟩|⟨y,hk1,rfl,hkd,hkz,hkl,hwr,hkn,p0⟩
      · simp [ja] at h3
      have BV:decide (id≤y.id)=true:=by simpa [ja] using h3
      generalize y.id=yi at *
      clear he h3
      go_wp2_with (at_lookup;refine aa _ rfl _ _ _ _ rfl _ _ _ rfl rfl iN.out ?_)
      rw [HW1.out]
      go_quiet (fail)
      go_wp2_with fail
      go_ret
      exact⟨az (by rw [←HP.out,HS.out (by rw [iv.out];rfl),iv.out]),HB.out _ (iz.out _ (hqq _))⟩
    have mW:(decide (0<k)=false)∨(∃ yi:Int,(decide (id≤yi)=false)∧1≤k∧decide (0<k)=true∧(1:Int)≤(k:Int)∧(k:Int)-1<(cM.length:Int)∧IntKind.i64.wrap ((k:Int)-1)=(k:Int)-1∧((k:Int)-1).toNat=k-1∧∀ w1,SK (wr.heap.size+1) W1 w1→w1.cell? ⟨b',off+(k-1)*8,none⟩=some (.int .i64 yi)):=by
     rcases hcell with⟨rfl,hkd⟩|⟨y,hk1,rfl,hkd,hkz,hkl,hwr,hkn,p0⟩
     · exact .inl hkd
     · exact .inr ⟨y.id,by simpa [ja] using h3,hk1,hkd,hkz,hkl,hwr,hkn,p0⟩
    clear hcell h3
    rcases hcs with⟨ht,he⟩|⟨ht,hcs⟩
    · have iv:=h_ he
      rw [ht] at iN
      clear he ht
      rcases mW with hkd|⟨yi,BV,hk1,hkd,hkz,hkl,hwr,hkn,p0⟩
      all_goals
       go_wp2_with (at_lookup;refine aa _ rfl _ _ _ _ rfl _ _ _ rfl rfl iN.out ?_)
       rw [HW1.out]
       go_quiet (fail)
       go_wp2_with fail
       go_ret
       exact⟨az (by rw [←HP.out,HS.out (by rw [iv.out];rfl),iv.out]),HB.out _ (hWq _)⟩
    rw [ht] at iN
    clear ht
    rcases hcs with⟨ha,he⟩|⟨rfl,hcs⟩
    · have iv:=h_ he
      have Qp:=h_ ha
      clear he
      rcases mW with hkd|⟨yi,BV,hk1,hkd,hkz,hkl,hwr,hkn,p0⟩
      all_goals
       go_wp2_with (at_lookup;refine aa _ rfl _ _ _ _ rfl _ _ _ rfl rfl iN.out ?_)
       rw [HW1.out]
       go_quiet (fail)
       go_wp2_with fail
       refine(KX.out _ (hqq _)).mono ?_
       rintro e w2 ⟨rfl,hb2⟩
       have hc2:=HT.out _ _ (hqq _) hb2
       have hd2:=iz.out _ hc2
       clear hb2
       go_wp2_with fail
       go_ret
       exact⟨az (by rw [←HP.out,HS.out (by rw [iv.out];exact Qp.out),iv.out]),HB.out _ hd2⟩
    rcases hcs with⟨hnm,he⟩|⟨hnm,hcs⟩
    · have iv:=h_ he
      rw [hnm] at Dw
      clear he hnm
      rcases mW with hkd|⟨yi,BV,hk1,hkd,hkz,hkl,hwr,hkn,p0⟩
      all_goals
       go_wp2_with (at_lookup;refine aa _ rfl _ _ _ _ rfl _ _ _ rfl rfl iN.out ?_)
       rw [HW1.out]
       go_quiet (fail)
       go_wp2_with fail
       refine(KX.out _ (hqq _)).mono ?_
       rintro e w2 ⟨rfl,hb2⟩
       have hc2:=HT.out _ _ (hqq _) hb2
       have hd2:=iz.out _ hc2
       clear hb2
       go_wp2_with fail
       refine(Dw.out _).mono ?_
       rintro e w3 ⟨rfl,rfl⟩
       go_wp2_with fail
       go_ret
       exact⟨az (by rw [←HP.out,HS.out (by rw [iv.out];rfl),iv.out]),HB.out _ hd2⟩
    rw [hnm] at Dw
    clear hnm
    rcases hcs with⟨hv,he⟩|⟨hv,hcs⟩
    · have iv:=h_ he
      rw [hv] at KP
      clear he hv
      rcases mW with hkd|⟨yi,BV,hk1,hkd,hkz,hkl,hwr,hkn,p0⟩
      all_goals
       go_wp2_with (at_lookup;refine aa _ rfl _ _ _ _ rfl _ _ _ rfl rfl iN.out ?_)
       rw [HW1.out]
       go_quiet (fail)
       go_wp2_with fail
       refine(KX.out _ (hqq _)).mono ?_
       rintro e w2 ⟨rfl,hb2⟩
       have hc2:=HT.out _ _ (hqq _) hb2
       have hd2:=iz.out _ hc2
       clear hb2
       go_wp2_with fail
       refine(Dw.out _).mono ?_
       rintro e w3 ⟨rfl,rfl⟩
       go_wp2_with fail
       refine(KP.out _ hc2).mono ?_
       rintro e w4 ⟨rfl,hb4⟩
       have hc4:=HT.out _ _ hc2 hb4
       have hd4:=iz.out _ hc4
       clear hb4
       go_wp2_with fail
       go_ret
       exact⟨az (by rw [←HP.out,HS.out (by rw [iv.out];rfl),iv.out]),HB.out _ hd4⟩
    rw [hv] at KP
    clear hv
    rcases hcs with⟨hz,he⟩|⟨hz,⟨hm,he⟩|⟨hm,he⟩⟩
    · have iv:=h_ he
      have hz2:text.toList.isEmpty=true:=by simpa using hz
      clear he
      rcases mW with hkd|⟨yi,BV,hk1,hkd,hkz,hkl,hwr,hkn,p0⟩
      all_goals
       go_wp2_with (at_lookup;refine aa _ rfl _ _ _ _ rfl _ _ _ rfl rfl iN.out ?_)
       rw [HW1.out]
       go_quiet (fail)
       go_wp2_with fail
       refine(KX.out _ (hqq _)).mono ?_
       rintro e w2 ⟨rfl,hb2⟩
       have hc2:=HT.out _ _ (hqq _) hb2
       have hd2:=iz.out _ hc2
       clear hb2
       go_wp2_with fail
       refine(Dw.out _).mono ?_
       rintro e w3 ⟨rfl,rfl⟩
       go_wp2_with fail
       refine(KP.out _ hc2).mono ?_
       rintro e w4 ⟨rfl,hb4⟩
       have hc4:=HT.out _ _ hc2 hb4
       have hd4:=iz.out _ hc4
       clear hb4
       go_wp2_with fail
       go_ret
       exact⟨az (by rw [←HP.out,HS.out (by rw [iv.out];rfl),iv.out]),HB.out _ hd4⟩
    · have iv:=h_ he
      have hz2:text.toList.isEmpty=false:=by simpa using hz
      clear he
      rcases mW with hkd|⟨yi,BV,hk1,hkd,hkz,hkl,hwr,hkn,p0⟩
      all_goals
       go_wp2_with (at_lookup;refine aa _ rfl _ _ _ _ rfl _ _ _ rfl rfl iN.out ?_)
       rw [HW1.out]
       go_quiet (fail)
       go_wp2_with fail
       refine(KX.out _ (hqq _)).mono ?_
       rintro e w2 ⟨rfl,hb2⟩
       have hc2:=HT.out _ _ (hqq _) hb2
       have hd2:=iz.out _ hc2
       clear hb2
       go_wp2_with fail
       refine(Dw.out _).mono ?_
       rintro e w3 ⟨rfl,rfl⟩
       go_wp2_with fail
       refine(KP.out _ hc2).mono ?_
       rintro e w4 ⟨rfl,hb4⟩
       have hc4:=HT.out _ _ hc2 hb4
       have hd4:=iz.out _ hc4
       clear hb4
       go_wp2_with fail
       go_ret
       exact⟨az (by rw [←HP.out,HS.out (by rw [iv.out];rfl),iv.out]),HB.out _ hd4⟩
    · have iv:=h_ he
      have hz2:text.toList.isEmpty=false:=by simpa using hz
      clear he
      rcases mW with hkd|⟨yi,BV,hk1,hkd,hkz,hkl,hwr,hkn,p0⟩
      all_goals
       go_wp2_with (at_lookup;refine aa _ rfl _ _ _ _ rfl _ _ _ rfl rfl iN.out ?_)
       rw [HW1.out]
       go_quiet (fail)
       go_wp2_with fail
       refine(KX.out _ (hqq _)).mono ?_
       rintro e w2 ⟨rfl,hb2⟩
       have hc2:=HT.out _ _ (hqq _) hb2
       have hd2:=iz.out _ hc2
       clear hb2
       go_wp2_with fail
       refine(Dw.out _).mono ?_
       rintro e w3 ⟨rfl,rfl⟩
       go_wp2_with fail
       refine(KP.out _ hc2).mono ?_
       rintro e w4 ⟨rfl,hb4⟩
       have hc4:=HT.out _ _ hc2 hb4
       have hd4:=iz.out _ hc4
       clear hb4
       go_wp2_with fail
       go_roundw
       case rel=>exact⟨k+1,by omega,by go_num,by rw [←HN.out iv.out];exact HP.out,hd4⟩
       case measure=>simp [intOf];omega
  · obtain rfl:k=cM.length:=by omega
    rw [List.drop_length] at hp
    have HP:=h_ hp
    clear hp H0
    go_wp2_with fail
    go_ret
    exact⟨az (by rw [←HP.out];cases bq cM cM.length<;>rfl),HB.out _ hb⟩
theorem uw (d:Doc)(b n:Nat)(f:Int→Option Nat)(w:Su)(hE:Env w)(hd:d.lies w)(bn:d.fits)(hM:IMap w b n f)(hf:∀ z i,f z=some i→i<d.eV.length) :
 Sw SU 89 #[.agg d.enc.toArray,.map (some b)] w fun e w'=>e=.returned (.int .i64 (kr d.last f d.eV d.cM))∧SK w.heap.size w w':=by
 by_cases hn:64<d.cM.length
 · exact xo d b f w hn
 · exact zG d b n f w hE hd bn hM hf (by omega)
def bE (eV:List Ev):Nat→Int→Option Nat
 | 0=>fun _=>none
 | k+1=>fun y=>match eV[k]? with
   | none=>bE eV k y
   | some x=>if y=x.id then some k else bE eV k y
theorem DH (eV:List Ev)(k:Nat)(x:Ev)(h:eV[k]? =some x):(fun y=>if y=x.id then some k else bE eV k y)=bE eV (k+1):=by
 funext y
 simp only [bE,h]
theorem sg (eV:List Ev):∀ k z i,bE eV k z=some i→i<eV.length
 | 0,z,i,h=>by simp [bE] at h
 | k+1,z,i,h=>by
   simp only [bE] at h
   split at h
   · exact sg eV k z i h
   · rename_i x hx
     split at h
     · obtain rfl:k=i:=by simpa using h
       exact(Sz.1 hx).1
     · exact sg eV k z i h
def kW (prev:Option Ev)(x:Ev):Bool:=match prev with
 | none=>false
 | some p=>!tW p x
def je (rG:List Reg)(last:Int)(f:Int→Option Nat)(prev:Option Ev)(x:Ev):Int :=
 if (pk x rG != 0)=true then pk x rG else if last<x.id then 2 else if kW prev x=true then 8 else if (f x.id).isSome=true then 7 else 0
def sU (rG:List Reg)(last:Int)(eV:List Ev)(k:Nat):Nat→Int
 | 0=>0
 | n+1=>match eV[k]? with
   | none=>0
   | some x=>if (je rG last (bE eV k) (bq eV k) x != 0)=true then je rG last (bE eV k) (bq eV k) x else sU rG last eV (k+1) n
def gV (rG:List Reg)(last:Int)(eV:List Ev)(cM:List Cm)(k:Nat):Int :=
 if (sU rG last eV k (eV.length-k) != 0)=true then sU rG last eV k (eV.length-k) else kr last (bE eV eV.length) eV cM
def aL (d:Doc):Int:=if (lN d.title d.lang d.rate d.drop d.last != 0)=true then lN d.title d.lang d.rate d.drop d.last else
 if (kh d.rG != 0)=true then kh d.rG else if 400<d.eV.length then 9 else gV d.rG d.last d.eV d.cM 0
theorem yD (rG:List Reg)(last:Int)(eV:List Ev)(cM:List Cm)(k:Nat)(x:Ev)(h:eV[k]? =some x)(h0:je rG last (bE eV k) (bq eV k) x=0):gV rG last eV cM k=gV rG last eV cM (k+1):=by
 have hk:k<eV.length:=(Sz.1 h).1
 unfold gV
 rw [show eV.length-k=(eV.length-(k+1))+1 by omega,sU,h]
 simp only [h0]
 rfl
theorem yC (rG:List Reg)(last:Int)(eV:List Ev)(cM:List Cm)(k:Nat)(x:Ev)(h:eV[k]? =some x)(E:Int)(h0:je rG last (bE eV k) (bq eV k) x=E)(hE:(E != 0)=true):gV rG last eV cM k=E:=by
 have hk:k<eV.length:=(Sz.1 h).1
 unfold gV
 rw [show eV.length-k=(eV.length-(k+1))+1 by omega,sU,h]
 simp only [h0,if_pos hE]
theorem Bm (rG:List Reg)(last:Int)(eV:List Ev)(cM:List Cm):gV rG last eV cM eV.length=kr last (bE eV eV.length) eV cM:=by
 unfold gV
 rw [Nat.sub_self]
 rfl
theorem qN (rG:List Reg)(last:Int)(f:Int→Option Nat)(prev:Option Ev)(x:Ev)(A:Int)(hA:pk x rG=A) :
 ((A != 0)=true∧je rG last f prev x=A)∨(A=0∧((last<x.id∧je rG last f prev x=2)∨(x.id≤last∧((kW prev x=true∧je rG last f prev x=8)∨(kW prev x=false ∧
  (((f x.id).isSome=true∧je rG last f prev x=7)∨((f x.id).isSome=false∧je rG last f prev x=0))))))):=by
 unfold je
 rw [hA]
 by_cases h0:A=0
 · subst h0
   right
   refine⟨rfl,?_⟩
   rw [if_neg (by decide)]
   by_cases h1:last<x.id
   · left;rw [if_pos h1];exact⟨h1,rfl⟩
   · right
     refine⟨by omega,?_⟩
     rw [if_neg h1]
     cases h2:kW prev x<;>cases h3:(f x.id).isSome<;>simp
 · left
   have h0':(A != 0)=true:=by simpa using h0
   rw [if_pos h0']
   exact⟨h0',rfl⟩
theorem uV {ops:Array Oper} {rest:List Oper} {o:Oper} {a:Act} {Q:Exit→Act→Su→Prop} (w:Su)(hg:o.guard=none)(m x v:Operand)(hop:o.op=Op.mapUpdate 154 m x v)
 (b n:Nat) (f:Int→Option Nat) (hM:IMap w b n f) (hm:a.eval m=.map (some b)) (z:Int) (hz:i64 z) (hx:a.eval x=.int .i64 z) (val:Nat) (hv:a.eval v=.int .i64 val) (hi:i64 val) (hn:n<maxLen)
 (hK:∀ w',IMap w' b (n+1) (fun y=>if y=z then some val else f y)→w.grownBy w' (some b)→wpList SU ops Q rest (a.put o.dst undef) w'):wpList SU ops Q (o::rest) a w:=by
 refine wpList_plain hg fun K' hK'=>?_
 obtain⟨w',hrun,r1,r2⟩:=hM.put hz hn val hi
 unfold Oper.wp
 simp [execOp,hop,hm,hx,hv,hrun,Result.andThen]
 exact hK' _ _ (hK w' r1 r2)
theorem IMap.drewN {w:Su} {b n:Nat} {f:Int→Option Nat} (h:IMap w b n f)(q:Nat):IMap (w.drewN q) b n f:=h.below (below_drewN (SR w.heap.size _) q) h.lt
def QY (eV:List Ev)(B:Nat)(W0:Su)(mb k:Nat)(wr:Su):Prop:=IMap wr mb k (bE eV k)∧SK B W0 wr
theorem eM (d:Doc)(w:Su)(hE:Env w)(hd:d.lies w)(bn:d.fits) :
 Sw SU 30 #[.agg d.enc.toArray] w fun e w'=>e=.returned (.int .i64 (aL d))∧SK w.heap.size w w':=by
 have HCM:=h_ (fun(b:Nat) (w1:Su) (h1:Env w1) (h2:d.lies w1) (h4:IMap w1 b d.eV.length (bE d.eV d.eV.length))=>uw d b _ _ w1 h1 h2 bn h4 (sg d.eV d.eV.length))
 have HLIE:=h_ hd
 have Ii:=h_ (fun(w1:Su) (h1:Env w1)=>zm d.title d.lang d.rate d.drop d.last d.ra d.ea d.ca d.rG.length d.eV.length d.cM.length d.rc d.ec d.cc w1 h1 bn.1 bn.2.1 bn.2.2.1 bn.2.2.2.1)
 have xU:=h_ (fun(w1:Su) (h1:Regs w1 d.ra d.rG)=>D3 d.ra d.rc d.rG w1 h1 bn.2.2.2.2.2.1)
 have QE:=h_ (fun(x:Ev) (w1:Su) (h1:Env w1) (h2:x.lies w1) (h3:x.fits) (h4:Regs w1 d.ra d.rG)=>pq x d.ra d.rc d.rG w1 h1 h2 h3 h4 bn.2.2.2.2.2.1 bn.2.2.2.2.2.2.1)
 obtain⟨_,_,_,_,hi5,hfr,hlr,hfe,hle,_,_⟩:=bn
 generalize hG:aL d=G
 unfold aL at hG
 obtain⟨title,lang,rate,drop,last,ra,rc,rG,ea,ec,eV,ca,cc,cM⟩:=d
 obtain⟨hdr,hde,_⟩:=hd
 simp only at hde hdr hi5 hfr hlr hfe hle hG
 simp only [Doc.enc] at HCM Ii xU QE ⊢
 have QD:=h_ (Bm rG last eV cM)
 generalize hHE:lN title lang rate drop last=HE at *
 generalize hLE:kh rG=LE at *
 generalize hds:#[Sv.string title,.string lang,.int .u8 rate,.bool drop,.int .i64 last,.slice ra rG.length rc,.slice ea eV.length ec,.slice ca cM.length cc]=ds at HCM Ii ⊢
 have f0:=ag w ds 27 0 (.string title) (by rw [←hds];rfl)
 have f1:=ag w ds 27 1 (.string lang) (by rw [←hds];rfl)
 have f2:=ag w ds 27 2 (.int .u8 rate) (by rw [←hds];rfl)
 have f3:=ag w ds 27 3 (.bool drop) (by rw [←hds];rfl)
 have f4:=ag w ds 27 4 (.int .i64 last) (by rw [←hds];rfl)
 have f5:=ag w ds 27 5 (.slice ra rG.length rc) (by rw [←hds];rfl)
 have f6:=ag w ds 27 6 (.slice ea eV.length ec) (by rw [←hds];rfl)
 have f7:=ag w ds 27 7 (.slice ca cM.length cc) (by rw [←hds];rfl)
 have HB:=h_ (fun(w1:Su) (h:SK (w.heap.size+1) (w.alloc (.cells ds 27)) w1)=>aU h)
 have hb0:SK (w.heap.size+1) (w.alloc (.cells ds 27)) (w.alloc (.cells ds 27)):=SR _ _
 have hsz:(w.alloc (.cells ds 27)).heap.size=w.heap.size+1:=SZ _ _
 generalize hW0:w.alloc (.cells ds 27)=W0 at *
 have HW0:=h_ hW0
 have bu:=h_ hsz
 have HT0:=h_ (fun(w2 w3:Su) (h:SK (w.heap.size+1) W0 w2) (h3:SK w2.heap.size w2 w3)=>h.trans (h3.mono (by have:=h.size;rw [hsz] at this;exact this)))
 have Hn:=h_ hfe
 have EP:=h_ hde
 have HDR:=h_ hdr
 have HG:=h_ hG
 have hmm:=@run_makeMap SU
 clear hW0 hsz hfe hG hde hdr hHE hLE hfr
 rcases(show(HE != 0)=true∨(HE=0∧((LE != 0)=true∨(LE=0∧(400<eV.length∨eV.length≤400)))) by
  by_cases h1:HE=0<;>by_cases h2:LE=0<;>simp [h1,h2]<;>omega) with h1|⟨rfl,h2|⟨rfl,h3⟩⟩
 · have HV:=h_ (show HE=G by rw [←HG.out,if_pos h1])
   have H1:=h_ h1
   clear HG h1
   have h1:=H1.out
   go_enter SW,SV
   subst hds
   go_wp2_with fail
   rw [HW0.out]
   refine(Ii.out _ (hE.below (HB.out _ hb0) (SM _))).mono ?_
   rintro e w1 ⟨rfl,hb1⟩
   have hc1:=HT0.out _ _ hb0 hb1
   go_wp2_with fail
   go_ret
   exact⟨az HV.out,HB.out _ hc1⟩
 · have HV:=h_ (show LE=G by rw [←HG.out,if_neg (by decide),if_pos h2])
   clear HG
   go_enter SW,SV
   subst hds
   go_wp2_with fail
   rw [HW0.out]
   refine(Ii.out _ (hE.below (HB.out _ hb0) (SM _))).mono ?_
   rintro e w1 ⟨rfl,hb1⟩
   have hc1:=HT0.out _ _ hb0 hb1
   clear hb1
   go_wp2_with fail
   refine(xU.out _ (HDR.out.later (HB.out _ hc1))).mono ?_
   rintro e w2 ⟨rfl,hb2⟩
   have hc2:=HT0.out _ _ hc1 hb2
   clear hb2
   go_wp2_with fail
   go_ret
   exact⟨az HV.out,HB.out _ hc2⟩
 · rcases h3 with h3|h3
   all_goals
    go_enter SW,SV
    subst hds
    go_wp2_with fail
    rw [HW0.out]
    refine(Ii.out _ (hE.below (HB.out _ hb0) (SM _))).mono ?_
    rintro e w1 ⟨rfl,hb1⟩
    have hc1:=HT0.out _ _ hb0 hb1
    clear hb1
    go_wp2_with fail
    refine(xU.out _ (HDR.out.later (HB.out _ hc1))).mono ?_
    rintro e w2 ⟨rfl,hb2⟩
    have hc2:=HT0.out _ _ hc1 hb2
    clear hb2
   · have HV:=h_ (show 9=G by rw [←HG.out,if_neg (by decide),if_neg (by decide),if_pos h3])
     have BV:decide ((400:Int)<(eV.length:Int))=true:=by simp;omega
     go_wp2_with fail
     go_ret
     exact⟨az HV.out,HB.out _ hc2⟩
   · have BV:decide ((400:Int)<(eV.length:Int))=false:=by simp;omega
     have HV:=h_ (show gV rG last eV cM 0=G by rw [←HG.out,if_neg (by decide),if_neg (by decide),if_neg (by omega)])
     have hz2:=hc2.size
     rw [bu.out] at hz2
     have Ru:SK (w.heap.size+1) W0 (w2.alloc (.map #[] 0)):=hc2.alloc hz2 _
     have hm0:=h_ (IMap.made w2)
     clear HG Ii xU
     go_wp2_with fail
     generalize w2.heap.size=mb at *
     go_loopw [30] (fun i wr=>∃ k:Nat,k≤eV.length∧i=.int .i64 k∧gV rG last eV cM k=G∧QY eV (w.heap.size+1) W0 mb k wr) (fun i _=>eV.length-(intOf i).toNat)
     case atStart=>exact⟨0,by omega,rfl,HV.out,hm0.out,Ru⟩
     case round =>
      obtain⟨k,hk,rfl,hp,hM,hb⟩:=hrel
      have hbw:=HB.out _ hb
      clear Ru hm0 HV hc1 hc2 hmm
      by_cases hlt:k<eV.length
      · obtain⟨b,off,x,rfl,hbl,hx,hc,hok⟩:=(EP.out.later hbw).at_ hlt
        have hft:=Hn.out x (SA hx)
        have hRr:=EP.out.later hbw
        have hpv:(k=0∧bq eV k=none)∨(∃ y:Ev,1≤k∧bq eV k=some y∧∀ j v,y.enc[j]? =some v→∀ w1,SK wr.heap.size wr w1→w1.cell? ⟨b,off+(k-1)*7+j,none⟩=some v):=by
         rcases SO k with rfl|hk0
         · exact .inl ⟨rfl,rfl⟩
         · obtain⟨b'',off',y,hab,_,hy,hcy,_⟩:=hRr.at_ (show k-1<eV.length by omega)
           simp only [SI,Addr.mk.injEq,and_true] at hab
           obtain⟨rfl,rfl⟩:=hab
           refine .inr ⟨y,hk0,?_,fun j v hv w1 h=>?_⟩
           · obtain⟨j,rfl⟩:∃ j,k=j+1:=⟨k-1,by omega⟩
             simpa [bq] using hy
           · rw [h.cell (p:=⟨b,off+(k-1)*7+j,none⟩) hbl]
             exact hcy j v hv
        have BM:=hb.size
        rw [bu.out] at BM
        have HN:=h_ (yD rG last eV cM k x hx)
        have HS:=h_ (yC rG last eV cM k x hx)
        have P8:=h_ (DH eV k x hx)
        have HP:=h_ hp
        have hcs:=qN rG last (bE eV k) (bq eV k) x _ rfl
        have hgx:=fun j v h=>ag wr x.enc.toArray 50 j v h
        have iz:=h_ (fun w1 (h:SK (wr.heap.size+1) (wr.alloc (.cells x.enc.toArray 50)) w1)=>(hb.alloc BM _).trans (h.mono (by omega)))
        have kI:=h_ (fun w1 (h:SK (wr.heap.size+1) (wr.alloc (.cells x.enc.toArray 50)) w1)=>(((SR wr.heap.size wr).alloc (SM _) _).trans (h.mono (by omega))))
        have hq0:SK (wr.heap.size+1) (wr.alloc (.cells x.enc.toArray 50)) (wr.alloc (.cells x.enc.toArray 50)):=SR _ _
        have Gi:=hb.alloc BM (.cells x.enc.toArray 50)
        have tt:=h_ (fun w1 (h:SK (wr.heap.size+1) (wr.alloc (.cells x.enc.toArray 50)) w1)=>hM.below (kI.out _ h) hM.lt)
        have iN:=h_ (fun w1 (h:SK (wr.heap.size+1) (wr.alloc (.cells x.enc.toArray 50)) w1)=>(tt.out w1 h).look hft.1)
        have Af:=h_ (fun w1 (h:SK (wr.heap.size+1) (wr.alloc (.cells x.enc.toArray 50)) w1)=>QE.out x w1 (hE.below (HB.out _ (iz.out _ h)) (SM _)) (Ev.keeps _ _ _ (kI.out _ h) hok) hft (HDR.out.later (HB.out _ (iz.out _ h))))
        have Nq:=h_ (fun(y:Ev) w1=>D5 y x w1)
        have Ig:=h_ hft.1
        have hmlt:=hM.lt
        have hLT:∀ y,kW (some y) x=!tW y x:=fun y=>rfl
        have hLN:kW none x=false:=rfl
        generalize bq eV k=pv at *
        generalize hEE0:je rG last (bE eV k) pv x=E at *
        generalize pk x rG=A at *
        generalize MK:kW pv x=LT at *
        obtain⟨xid,xin,xout,xreg,xkind,xsp,xa,xc,xrows⟩:=x
        have d0:=hc 0 _ rfl;have d1:=hc 1 _ rfl;have d2:=hc 2 _ rfl;have d3:=hc 3 _ rfl;have d4:=hc 4 _ rfl;have d5:=hc 5 _ rfl;have d6:=hc 6 _ rfl
        have g0:=hgx 0 _ rfl;have g1:=hgx 1 _ rfl;have g2:=hgx 2 _ rfl;have g3:=hgx 3 _ rfl;have g4:=hgx 4 _ rfl;have g5:=hgx 5 _ rfl;have g6:=hgx 6 _ rfl
        simp only [SN,Ev.enc] at d0 d1 d2 d3 d4 d5 d6 g0 g1 g2 g3 g4 g5 g6 iz kI hq0 iN Af hcs Nq Ig Gi tt P8
        have hsz1:(wr.alloc (.cells #[.int .i64 xid,.int .i64 xin,.int .i64 xout,.string xreg,.int .u8 xkind,.string xsp,.slice xa xrows.length xc] 50)).heap.size=wr.heap.size+1:=SZ _ _
        generalize hW1:wr.alloc (.cells #[.int .i64 xid,.int .i64 xin,.int .i64 xout,.string xreg,.int .u8 xkind,.string xsp,.slice xa xrows.length xc] 50)=W1 at g0 g1 g2 g3 g4 g5 g6 iz kI hq0 iN Af hsz1 tt
        have HW1:=h_ hW1
        have M7:=h_ hsz1
        have hWb:=iz.out _ hq0
        have HT:=h_ (fun(w2 w3:Su) (h:SK (wr.heap.size+1) W1 w2) (h3:SK w2.heap.size w2 w3)=>h.trans (h3.mono (by have:=h.size;rw [M7.out] at this;exact this)))
        have mW:(LT=false∧decide (0<k)=false)∨(∃ y:Ev,LT=(!tW y ⟨xid,xin,xout,xreg,xkind,xsp,xa,xc,xrows⟩)∧1≤k∧decide (0<k)=true∧(1:Int)≤(k:Int)∧(k:Int)-1<(eV.length:Int)∧IntKind.i64.wrap ((k:Int)-1)=(k:Int)-1∧((k:Int)-1).toNat=k-1∧∀ j v,y.enc[j]? =some v→∀ w1,SK (wr.heap.size+1) W1 w1→w1.cell? ⟨b,off+(k-1)*7+j,none⟩=some v):=by
         rcases hpv with⟨h1,rfl⟩|⟨y,h1,rfl,h3⟩
         · exact .inl ⟨MK.symm.trans hLN,by simp;omega⟩
         · exact .inr ⟨y,MK.symm.trans (hLT y),h1,by simp;omega,by omega,by omega,IntWalk.i64_in _ (by omega),by omega,fun j v hv w1 h=>h3 j v hv w1 (kI.out _ h)⟩
        clear hEE0
        clear hpv hc hgx hW1 hsz1 hRr hp hx hft hok hLT hLN MK QD HCM hM
        rcases hcs with⟨hA,he⟩|⟨rfl,hcs⟩
        · have iv:=h_ he
          clear he mW
          have HAA:=h_ hA
          go_wp2_with fail
          rw [HW1.out]
          refine(Af.out _ hq0).mono ?_
          rintro e w3 ⟨rfl,hb3⟩
          have hc3:=HT.out _ _ hq0 hb3
          have hd3:=iz.out _ hc3
          have hr3:=kI.out _ hc3
          clear hb3
          go_wp2_with fail
          go_ret
          exact⟨az (by rw [←HP.out,HS.out _ iv.out HAA.out]),HB.out _ hd3⟩
        rcases hcs with⟨h1,he⟩|⟨h1,hcs⟩
        · have iv:=h_ he
          clear he mW
          go_wp2_with fail
          rw [HW1.out]
          refine(Af.out _ hq0).mono ?_
          rintro e w3 ⟨rfl,hb3⟩
          have hc3:=HT.out _ _ hq0 hb3
          have hd3:=iz.out _ hc3
          have hr3:=kI.out _ hc3
          clear hb3
          go_wp2_with (at_lookup;refine aa _ rfl _ _ _ _ rfl _ _ _ rfl rfl (iN.out _ hc3) ?_)
          go_ret
          exact⟨az (by rw [←HP.out,HS.out _ iv.out rfl]),HB.out _ hd3⟩
        rcases mW with⟨rfl,hkd⟩|⟨y,lG,hk1,hkd,hkz,hkl,hwr,hkn,hpy⟩
        · rcases hcs with⟨h2,he⟩|⟨_,⟨ht,he⟩|⟨ht,he⟩⟩
          · cases h2
          · have iv:=h_ he
            rw [ht] at iN
            clear he ht
            go_wp2_with fail
            rw [HW1.out]
            refine(Af.out _ hq0).mono ?_
            rintro e w3 ⟨rfl,hb3⟩
            have hc3:=HT.out _ _ hq0 hb3
            have hd3:=iz.out _ hc3
            have hr3:=kI.out _ hc3
            clear hb3
            go_wp2_with (at_lookup;refine aa _ rfl _ _ _ _ rfl _ _ _ rfl rfl (iN.out _ hc3) ?_)
            go_quiet (fail)
            go_wp2_with fail
            go_ret
            exact⟨az (by rw [←HP.out,HS.out _ iv.out rfl]),HB.out _ (below_drewN hd3 _)⟩
          · have iv:=h_ he
            rw [ht] at iN
            clear he ht
            go_wp2_with fail
            rw [HW1.out]
            refine(Af.out _ hq0).mono ?_
            rintro e w3 ⟨rfl,hb3⟩
            have hc3:=HT.out _ _ hq0 hb3
            have hd3:=iz.out _ hc3
            have hr3:=kI.out _ hc3
            clear hb3
            go_wp2_with (at_lookup;refine aa _ rfl _ _ _ _ rfl _ _ _ rfl rfl (iN.out _ hc3) ?_)
            have Np:=h_ (fun q=>(tt.out _ hc3).drewN q)
            go_quiet (fail)
            go_wp2_with (at_mapUpdate;refine uV _ rfl _ _ _ rfl mb k _ (Np.out _) rfl xid Ig.out rfl k rfl (by constructor<;>omega) (by unfold maxLen;omega) ?_;intro w5 KE hg5)
            have KD:=KE
            rw [P8.out] at KD
            have hb6:=(below_drewN hd3 _).grown hg5 (by have:=hd3.size;rw [bu.out] at this;simp;omega) (fun j hj=>by simp at hj;omega)
            clear KE hg5
            go_wp2_with fail
            go_roundw
            case rel=>exact⟨k+1,by omega,by go_num,by rw [←HN.out iv.out];exact HP.out,KD,hb6⟩
            case measure=>simp [intOf];omega
        · have tH:=h_ hpy
          have Ac:=h_ (fun w1=>Nq.out y w1)
          obtain⟨yid,yin,yout,yreg,ykind,ysp,ya,yc,yrows⟩:=y
          simp only [Ev.enc] at tH Ac
          clear hpy Nq
          generalize tW ⟨yid,yin,yout,yreg,ykind,ysp,ya,yc,yrows⟩ ⟨xid,xin,xout,xreg,xkind,xsp,xa,xc,xrows⟩=LS at *
          subst lG
          rcases hcs with⟨h2,he⟩|⟨h2,⟨ht,he⟩|⟨ht,he⟩⟩
          · have iv:=h_ he
            obtain rfl:LS=false:=by simpa using h2
            clear he h2
            go_wp2_with fail
            rw [HW1.out]
            refine(Af.out _ hq0).mono ?_
            rintro e w3 ⟨rfl,hb3⟩
            have hc3:=HT.out _ _ hq0 hb3
            have hd3:=iz.out _ hc3
            have hr3:=kI.out _ hc3
            clear hb3
            go_wp2_with (at_lookup;refine aa _ rfl _ _ _ _ rfl _ _ _ rfl rfl (iN.out _ hc3) ?_)
            have Gf:SK (wr.heap.size+1) W1 w3.drew:=hc3.drew
            have O5:SK (w.heap.size+1) W0 w3.drew:=hd3.drew
            have p0:=tH.out 0 _ rfl;have p1:=tH.out 1 _ rfl;have p2:=tH.out 2 _ rfl;have p3:=tH.out 3 _ rfl;have p4:=tH.out 4 _ rfl;have p5:=tH.out 5 _ rfl;have p6:=tH.out 6 _ rfl
            simp only [SN] at p0
            go_region_with (go_at_call 88;refine(Ac.out _).mono ?_;rintro e w4 ⟨rfl,hb4⟩;have hc4:=HT.out _ _ Gf hb4;have hd4:=iz.out _ hc4;clear hb4)
            all_goals
             go_wp2_with fail
             go_ret
             exact⟨az (by rw [←HP.out,HS.out _ iv.out rfl]),HB.out _ hd4⟩
          · have iv:=h_ he
            obtain rfl:LS=true:=by simpa using h2
            rw [ht] at iN
            clear he h2 ht
            go_wp2_with fail
            rw [HW1.out]
            refine(Af.out _ hq0).mono ?_
            rintro e w3 ⟨rfl,hb3⟩
            have hc3:=HT.out _ _ hq0 hb3
            have hd3:=iz.out _ hc3
            have hr3:=kI.out _ hc3
            clear hb3
            go_wp2_with (at_lookup;refine aa _ rfl _ _ _ _ rfl _ _ _ rfl rfl (iN.out _ hc3) ?_)
            have Gf:SK (wr.heap.size+1) W1 w3.drew:=hc3.drew
            have O5:SK (w.heap.size+1) W0 w3.drew:=hd3.drew
            have p0:=tH.out 0 _ rfl;have p1:=tH.out 1 _ rfl;have p2:=tH.out 2 _ rfl;have p3:=tH.out 3 _ rfl;have p4:=tH.out 4 _ rfl;have p5:=tH.out 5 _ rfl;have p6:=tH.out 6 _ rfl
            simp only [SN] at p0
            go_region_with (go_at_call 88;refine(Ac.out _).mono ?_;rintro e w4 ⟨rfl,hb4⟩;have hc4:=HT.out _ _ Gf hb4;have hd4:=iz.out _ hc4;clear hb4)
            all_goals
             go_wp2_with fail
             go_ret
             exact⟨az (by rw [←HP.out,HS.out _ iv.out rfl]),HB.out _ hd4⟩
          · have iv:=h_ he
            obtain rfl:LS=true:=by simpa using h2
            rw [ht] at iN
            clear he h2 ht
            go_wp2_with fail
            rw [HW1.out]
            refine(Af.out _ hq0).mono ?_
            rintro e w3 ⟨rfl,hb3⟩
            have hc3:=HT.out _ _ hq0 hb3
            have hd3:=iz.out _ hc3
            have hr3:=kI.out _ hc3
            clear hb3
            go_wp2_with (at_lookup;refine aa _ rfl _ _ _ _ rfl _ _ _ rfl rfl (iN.out _ hc3) ?_)
            have Gf:SK (wr.heap.size+1) W1 w3.drew:=hc3.drew
            have O5:SK (w.heap.size+1) W0 w3.drew:=hd3.drew
            have p0:=tH.out 0 _ rfl;have p1:=tH.out 1 _ rfl;have p2:=tH.out 2 _ rfl;have p3:=tH.out 3 _ rfl;have p4:=tH.out 4 _ rfl;have p5:=tH.out 5 _ rfl;have p6:=tH.out 6 _ rfl
            simp only [SN] at p0
            go_region_with (go_at_call 88;refine(Ac.out _).mono ?_;rintro e w4 ⟨rfl,hb4⟩;have hc4:=HT.out _ _ Gf hb4;have hd4:=iz.out _ hc4;clear hb4)
            all_goals
             go_wp2_with (at_mapUpdate;refine uV _ rfl _ _ _ rfl mb k _ (tt.out _ hc4) rfl xid Ig.out rfl k rfl (by constructor<;>omega) (by unfold maxLen;omega) ?_;intro w5 KE hg5)
             have KD:=KE
             rw [P8.out] at KD
             have hb6:=hd4.grown hg5 (by have:=hd4.size;rw [bu.out] at this;omega) (fun j hj=>by simp at hj;omega)
             clear KE hg5
             go_wp2_with fail
             go_roundw
             case rel=>exact⟨k+1,by omega,by go_num,by rw [←HN.out iv.out];exact HP.out,KD,hb6⟩
             case measure=>simp [intOf];omega
      · obtain rfl:k=eV.length:=by omega
        rw [QD.out] at hp
        have HC:=HCM.out mb wr (hE.below hbw (SM _)) (Doc.later HLIE.out hbw) hM
        rw [hp] at HC
        have mH:=h_ HC
        clear hp HC HCM
        go_wp2_with fail
        refine mH.out.mono ?_
        rintro e w5 ⟨rfl,hb5⟩
        have xN:=HT0.out _ _ hb hb5
        go_wp2_with fail
        go_ret
        exact⟨rfl,HB.out _ xN⟩
end Go.Proofs.YtnlnmbcaongehaaGreatDoor
namespace Go.Proofs.YtnlnmbcaongehaaGreatDoor
open Go.RowKit
attribute [local go_sem ↓] Go.wp_at_zero Go.wp_at_succ
def zL (a b:Doc)(ks:List ByteArray)(es cs:List Int):List ChgC:=jn a.hd b.hd++(ks.flatMap (bH a.rG b.rG)++(es.flatMap (kt a.eV b.eV)++cs.flatMap (ng a.cM b.cM)))
def pQ (a b:Doc):List ByteArray:=(Lib.compact (fk ((a.rG++b.rG).map (fun x:Reg=>x.name.data.toList)))).map (fun l=>⟨l.toArray⟩)
def GF (a b:Doc):List Int:=Lib.compact (aR ((a.eV++b.eV).map (fun x:Ev=>x.id)))
def GU (a b:Doc):List Int:=Lib.compact (aR ((a.cM++b.cM).map (fun x:Cm=>x.id)))
def chgs (a b:Doc):List ChgC:=zL a b (pQ a b) (GF a b) (GU a b)
def fT (a b:Doc)(w:Su)(e:Ending)(w':Su):Prop :=
 if aL a≠0 then e=.returned (.tuple #[.slice none 0 0,.int .i64 (aL a)])∧SK w.heap.size w w'
 else if aL b≠0 then e=.returned (.tuple #[.slice none 0 0,.int .i64 (aL b)])∧SK w.heap.size w w'
 else ∃ v xs,e=.returned (.tuple #[v,.int .i64 0])∧H7 w.heap.size w v xs w'∧xs.map Chg.c=chgs a b
end Go.Proofs.YtnlnmbcaongehaaGreatDoor
namespace Go.Proofs.YtnlnmbcaongehaaGreatDoor
open Go.RowKit
theorem wi (eV:List Ev):∀ k y j x,j<k→eV[j]? =some x→x.id=y→(bE eV k y).isSome=true
 | 0,y,j,x,h,_,_=>by omega
 | k+1,y,j,x,h,hx,hy=>by
   simp only [bE]
   by_cases hj:j=k
   · subst hj
     rw [hx]
     simp [hy]
   · split
     · exact wi eV k y j x (by omega) hx hy
     · split
       · rfl
       · exact wi eV k y j x (by omega) hx hy
def Dis (eV:List Ev)(k:Nat):Prop:=∀ j x,j<k→eV[j]? =some x→(bE eV j x.id).isSome=false
theorem Dis.step {eV:List Ev} {k:Nat} {x:Ev} (h:Dis eV k)(hx:eV[k]? =some x)(hs:(bE eV k x.id).isSome=false):Dis eV (k+1):=by
 intro j y hj hy
 by_cases hk:j=k
 · subst hk
   obtain rfl:x=y:=SJ (hx.symm.trans hy)
   exact hs
 · exact h j y (by omega) hy
theorem Ints.cells {w:Su} {b off:Nat} {zs:List Int} (h:Ints w (some ⟨b,off,none⟩) zs):∀ (j:Nat)(u:Sv),(zs.map (Sv.int .i64))[j]? =some u→w.cell? ⟨b,off+j,none⟩=some u:=by
 intro j u hu
 rw [List.getElem?_map] at hu
 obtain⟨z,hz,rfl⟩:=Option.map_eq_some_iff.1 hu
 rcases h with rfl|⟨b',off',he,_,hcc⟩
 · simp at hz
 · simp only [SI,Addr.mk.injEq,and_true] at he
   obtain⟨rfl,rfl⟩:=he
   have:=(hcc j z hz).1 0 _ rfl
   rw [show off+j*1+0=off+j by omega] at this
   exact this
def Co (w:Su)(v:Sv)(zs:List Int):Prop:=(v=.slice none 0 0∧zs=[])∨∃ b off cap,v=.slice (some ⟨b,off,none⟩) zs.length cap∧b<w.heap.size∧zs.length≤cap∧cap≤9223372036854775807∧Ints w (some ⟨b,off,none⟩) zs
theorem Co.later {w w':Su} {v:Sv} {zs:List Int} (h:Co w v zs)(hb:SK w.heap.size w w'):Co w' v zs:=by
 rcases h with h|⟨b,off,cap,h1,h2,h3,h5,h4⟩
 · exact .inl h
 · exact .inr ⟨b,off,cap,h1,Nat.lt_of_lt_of_le h2 hb.size,h3,h5,h4.later hb⟩
theorem Co.of_owns {w:Su} {base:Nat} {v:Sv} {zs:List Int} (h:w.ownsRow base 2 1 v zs.length (zs.map (Sv.int .i64))):Co w v zs:=by
 have h':=h
 rcases h.2 with⟨rfl,h0⟩|⟨g,cap,cur,rfl,hb,hg,hc,hm,_⟩
 · exact .inl ⟨rfl,List.eq_nil_of_length_eq_zero h0⟩
 · obtain⟨a,c,he,hI⟩:=Ints.of_owns h'
   simp only [SL] at he
   obtain⟨rfl,_,rfl⟩:=he
   exact .inr ⟨g,0,cap,rfl,(Array.getElem?_eq_some_iff.1 hg).1,hc,by simp only [maxLen] at hm;omega,hI⟩
def Hb (B:Nat)(w:Su)(v:Sv)(zs:List Int):Prop:=Co w v zs∧∀ b,v.ownBlock=some b→B≤b
theorem Hb.later {B:Nat} {w w':Su} {v:Sv} {zs:List Int} (h:Hb B w v zs)(hb:SK w.heap.size w w'):Hb B w' v zs:=⟨h.1.later hb,h.2⟩
theorem Hb.of_owns {w:Su} {B base:Nat} {v:Sv} {zs:List Int} (hB:B≤base)(h:w.ownsRow base 2 1 v zs.length (zs.map (Sv.int .i64))):Hb B w v zs:=⟨Co.of_owns h,fun b hb=>SQ hB (h.lt b hb).1⟩
end Go.Proofs.YtnlnmbcaongehaaGreatDoor
