/- event.Plain: the text of an event; document.runes: the characters of a text. Copies of rows and events, with what they own. -/
import Derived.Test.YtjebaagkomejaaaGreatDoorH12
import Derived.Test.YtjebaagkomejaaaGreatDoorH13
set_option linter.unusedVariables false
set_option linter.unusedSimpArgs false
set_option maxRecDepth 100000
set_option maxHeartbeats 12800000
open Go.Lib renaming hid→h_
open Go renaming World→Sh,heap_alloc_last→Si,Value→Sj,cell_of_row→Sk,Calls→Sl
open Go.RowKit renaming Below→Sm
open List renaming getElem?_eq_getElem→Sn,mem_of_getElem?→Sp,getElem_of_mem→Sq,mem_map→Sr,length_map→Ss,getElem?_eq_some_iff→St,set_append_right→Su,flatMap_cons→Sv,length_cons→Sw
open Nat renaming le_refl→Sx,mul_le_mul_right→Sy,le_trans→Sz,succ_mul→SA
open Go.Value renaming string→SB,int→SC,slice→SD
open Go.RowKit.Below renaming refl→SF
open Go.World renaming size_alloc→SG,frozen?→SH
namespace Go.Proofs.YtjebaagkomejaaaGreatDoor
open Go.RowKit
theorem kg (x:Ev)(w:Sh)(hx:x.lies w)(hf:x.fits):Sl Tryz.prog 130 #[.agg x.enc.toArray] w fun e w'=>e=.returned (.string (eo (some x.c)))∧Sm w.heap.size w w':=by
 generalize hQ:(fun(e:Ending) (w':Sh)=>e=.returned (.string (eo (some x.c)))∧Sm w.heap.size w w')=Q
 have hrf:=hf.2.2.2.2.2.2.2.1
 have hl:=hf.2.2.2.2.2.2.2.2
 have HRW:=h_ (fun(w1:Sh) (hb:Sm w.heap.size w w1)=>bN.later hx hb)
 have HT:=rJ (x.rows.map Row.runs)
 rw [show(x.rows.map Row.runs).map plain=x.rows.map fun r=>plain r.runs from by rw [List.map_map];rfl] at HT
 have lN:=h_ (show(Lib.join ((x.rows.map fun r=>plain r.runs).map (·.data.toList)) [10]).length≤140737488355328 from by
  have h1:=iU (n:=4000000) (x.rows.map Row.runs) (fun r hr=>by
   obtain⟨q,hq,rfl⟩:=Sr.1 hr
   exact(hrf q hq).2.2)
  rw [←HT,Ss] at h1
  have h2:=Sy 4000001 hl
  exact Sz h1 (Sz h2 (by decide)))
 have HQ:=h_ (fun(w':Sh) (hb:Sm w.heap.size w w')=>(show Q (.returned (.string ⟨(Lib.join ((x.rows.map fun r=>plain r.runs).map (·.data.toList)) (⟨#[10]⟩:ByteArray).data.toList).toArray⟩)) w' from hQ▸⟨by
  show _=Ending.returned (.string ⟨(dm (x.rows.map Row.runs)).toArray⟩)
  rw [←HT],hb⟩))
 have IY:=h_ hrf
 clear hQ hrf HT hx hf
 obtain⟨id,inn,out,reg,kind,sp,xa,xc,xr⟩:=x
 simp only at HRW lN HQ IY hl
 obtain⟨j0,hj,hy0,hy1,hy2⟩:=info_parts Tryz.info9
 have JI:=h_ hj;have J0:=h_ hy0;have J1:=h_ hy1;have J2:=h_ hy2
 have HST:=h_ (fun(W w1 w2:Sh) (k:Nat) (v v':Sj) (r:Row) (cs:Array Sj) (hr:xr[k]? =some r)=>kB.step (K:=9) (enc:=SB) (key:=fun r:Row=>plain r.runs) (zs:=xr) (W:=W) (w1:=w1) (w2:=w2) (k:=k) (v:=v) (v':=v') (x:=r) (cs:=cs) hr)
 have ym:Hid (∀ (W wr:Sh) (k:Nat) (v:Sj),kB 9 SB (fun r:Row=>plain r.runs) xr W k v wr→wr.ownsRow W.heap.size 9 1 v k (((xr.take k).map fun r:Row=>plain r.runs).map SB)∧Sm W.heap.size W wr):=h_ (fun _ _ _ _ h=>h)
 have Bv:Hid (∀ W:Sh,kB 9 SB (fun r:Row=>plain r.runs) xr W 0 (.slice none 0 0) W):=h_ (fun W=>⟨Sh.ownsRow_nil _ _ _ _,SF _ _⟩)
 have f_:=h_ (fun(W wr:Sh) (v:Sj) (h:kB 9 SB (fun r:Row=>plain r.runs) xr W xr.length v wr)=>B_ W.heap.size v (xr.map fun r=>plain r.runs) ⟨#[10]⟩ wr h.all (by rw [Ss];exact hl) lN.out)
 generalize kB 9 SB (fun r:Row=>plain r.runs) xr=R at *
 obtain⟨cells,hcells⟩:∃ cells:Nat→List Sj,cells=fun k=>(((xr.take k).map fun r:Row=>plain r.runs).map SB):=⟨_,rfl⟩
 simp only [show ∀ k,(((xr.take k).map fun r:Row=>plain r.runs).map SB)=cells k from fun k=>by rw [hcells]] at ym HST
 generalize (⟨(Lib.join ((xr.map fun r=>plain r.runs).map (·.data.toList)) (⟨#[10]⟩:ByteArray).data.toList).toArray⟩:ByteArray)=S at *
 clear hj hy0 hy1 hy2 hcells lN
 simp only [Ev.enc]
 have hk1:=Si w (.cells (Ev.enc ⟨id,inn,out,reg,kind,sp,xa,xc,xr⟩).toArray 72)
 have HB1:=h_ (show Sm w.heap.size w (w.alloc (.cells (Ev.enc ⟨id,inn,out,reg,kind,sp,xa,xc,xr⟩).toArray 72)) from(SF _ _).alloc (Sx _) _)
 simp only [Ev.enc] at hk1 HB1
 go_enter Tryz.func130,Tryz.ntmps130
 go_wp2_with fail
 generalize hW:w.alloc (.cells #[.int .i64 id,.int .i64 inn,.int .i64 out,.string reg,.int .u8 kind,.string sp,.slice xa xr.length xc] 72)=W at *
 have hs1:=HB1.out.size
 clear hW hk1
 go_loopw [3,9] (fun v i wr=>∃ k:Nat,k≤xr.length∧i=.int .i64 k∧R W k v wr) (fun _ i _=>xr.length-(intOf i).toNat)
 case atStart=>exact⟨0,by omega,rfl,Bv.out _⟩
 case round =>
  obtain⟨k,hk,rfl,hrel⟩:=hrel
  have EA:=ym.out _ _ _ _ hrel
  have Lv:=h_ (HB1.out.trans (EA.2.mono hs1))
  by_cases hlt:k<xr.length
  · obtain⟨b,off,r,rfl,hbl,hrx,hc,hrl⟩:=(HRW.out _ Lv.out).at_ hlt
    have hbs:=EA.2.size
    have LH:=h_ (fun o=>mF r (wr.alloc o) (Row.keeps _ _ _ ((SF _ _).alloc (Sx _) o) hrl) (IY.out r (Sp hrx)))
    have oH:=h_ (fun(o:Obj) (w2:Sh) (h1:Sm (wr.alloc o).heap.size (wr.alloc o) w2)=>(show Sm wr.heap.size wr w2 from((SF _ _).alloc (Sx _) _).trans (h1.mono (by simp))))
    have HO:=h_ (fun(w2:Sh) (hb:Sm wr.heap.size wr w2)=>aJ EA.1 hb)
    have jV:=h_ (fun(w2:Sh) (hb:Sm wr.heap.size wr w2)=>(show Sm W.heap.size W w2 from EA.2.trans (hb.mono EA.2.size)))
    have HS2:=h_ (fun(w2 w3:Sh) (v':Sj) (cs:Array Sj)=>HST.out W w2 w3 k u3 v' r cs hrx)
    have d0:=hc 0 _ rfl
    obtain⟨ra,rc,rr⟩:=r
    simp only [Row.enc,Nat.add_zero,Nat.mul_one] at LH d0 HS2
    clear hc hrx hrel EA hrl
    generalize plain rr=S1 at *
    go_wp2_with fail
    refine(LH.out _).mono ?_
    rintro e w2 ⟨rfl,hb2⟩
    have hb3:=oH.out _ _ hb2
    have hs2:=hb3.size
    have tj:=h_ (HO.out _ hb3)
    have HB3:=h_ (jV.out _ hb3)
    clear hb2 hb3 HO LH oH d0
    go_wp2_with (at_builtin;refine aY _ _ rfl (.tmp 13) (.tmp 16) 173 rfl W.heap.size 9 j0 _ 1 16 Tryz.underlying173 JI.out J0.out J1.out J2.out rfl (by decide) _ _ _ rfl tj.out _ rfl rfl rfl ?h1 ?h63 ?hb ?hbase ?_)
    case h1=>first|rfl|(intro u hu;simp at hu;subst hu;rfl)
    case h63=>unfold maxLen;omega
    case hb=>omega
    case hbase=>omega
    intro v' w3 hown' hgrow
    have RR:=h_ (HS2.out w2 w3 v' _ HB3.out tj.out rfl hown' hgrow)
    clear hown' hgrow
    go_wp2_with fail
    go_roundw
    case rel=>exact⟨k+1,by omega,by go_num,RR.out⟩
    case measure=>simp [intOf];omega
  · obtain rfl:k=xr.length:=by omega
    have tB:=h_ (f_.out _ _ _ hrel)
    have wi:=h_ (fun(w':Sh) (h:Sm wr.heap.size wr w')=>Lv.out.trans (h.mono Lv.out.size))
    clear hrel EA
    go_wp2_with fail
    refine tB.out.mono ?_
    rintro e w2 ⟨rfl,hb2⟩
    have HB2:=h_ (wi.out _ hb2)
    clear hb2
    go_wp2_with fail
    exact HQ.out _ HB2.out
def nE (rows:List Row)(w:Sh)(e:Ending)(w':Sh):Prop:=∃ a' cap' rows',e=.returned (.slice a' rows'.length cap')∧bN w' a' rows'∧rows'.map Row.runs=rows.map Row.runs∧(∀ b,dh a' rows' b→w.heap.size≤b)∧w'.ownsRow w.heap.size 75 1 (.slice a' rows'.length cap') rows'.length (rows'.flatMap Row.enc)∧(∀ r∈rows',∀ b,r.uses b→(SD a' rows'.length cap').ownBlock≠some b)∧Sm w.heap.size w w'
theorem cK.done2 {rows:List Row} {w wr:Sh} {a:Option Addr} {c:Nat} (h:cK rows w (.slice a rows.length c) rows.length wr):nE rows w (.returned (.slice a rows.length c)) wr:=by
 obtain⟨rows',h1,h2,h3,h4,h5⟩:=h
 have h3':=h3
 rw [←h1] at h3
 obtain⟨a',c',he,hS⟩:=aA (k:=1) (enc:=Row.enc) (Ok:=Row.lies) (fun _=>rfl) h3 (fun r hr=>by
  obtain⟨j,hj,rfl⟩:=Sq hr
  exact(h4 j _ (Sn hj)).1)
 simp only [SD.injEq] at he
 obtain⟨rfl,_,rfl⟩:=he
 refine⟨a,c,rows',by rw [h1],hS,h2,fun b hu=>?_,h3,fun r hr b hu=>?_,h5⟩
 rcases hu with⟨_,ad,rfl,rfl⟩|⟨r,hr,hu⟩
 · exact(h3'.lt _ rfl).1
 · obtain⟨j,hj,rfl⟩:=Sq hr
   exact(h4 j _ (Sn hj)).2.2 (by omega) b hu
 · obtain⟨j,hj,rfl⟩:=Sq hr
   rw [h1]
   exact(h4 j _ (Sn hj)).2.1 b hu
theorem gQ (a:Option Addr)(cap:Nat)(rows:List Row)(w:Sh)(h:bN w a rows)(hf:∀ r∈rows,r.runs.length≤4000000)(hl:rows.length≤4000000) :
 Sl Tryz.prog 121 #[.slice a rows.length cap] w (nE rows w):=by
 have HC:=h_ (jD a cap rows w h hl)
 have HS:=h_ (fun(w1:Sh) (v:Sj) (ho:w1.ownsRow w.heap.size 75 1 v rows.length (rows.flatMap Row.enc)) (hb:Sm w.heap.size w w1)=>cK.start h ho hb)
 have HD:=h_ (fun(wr:Sh) (a:Option Addr) (c:Nat) (h:cK rows w (.slice a rows.length c) rows.length wr)=>h.done2)
 have HF:=h_ (fun(rows':List Row) (e:rows'.map Row.runs=rows.map Row.runs) (r:Row) (hr:r∈rows')=>(show r.runs.length≤4000000 by
  have:r.runs∈rows.map Row.runs:=by rw [←e];exact Sr.2 ⟨r,hr,rfl⟩
  obtain⟨r0,h0,he⟩:=Sr.1 this
  rw [←he];exact hf r0 h0))
 clear h hf
 generalize nE rows w=Q at *
 go_enter Tryz.func121,Tryz.ntmps121
 go_wp2_with fail
 refine HC.out.mono ?_
 rintro e w1 ⟨v,rfl,hown,hb1⟩
 obtain⟨av,cv,rfl⟩:∃ av cv,v=.slice av rows.length cv:=by
  rcases hown.2 with⟨rfl,h0⟩|⟨g,cap,_,rfl,_⟩
  · exact⟨none,0,by rw [h0]⟩
  · exact⟨_,_,rfl⟩
 have HR:=h_ (HS.out _ _ hown hb1)
 clear hown hb1 HC HS
 go_wp2_with fail
 go_loopw [9] (fun i wr=>∃ k:Nat,k≤rows.length∧i=.int .i64 k∧cK rows w (.slice av rows.length cv) k wr) (fun i _=>rows.length-(intOf i).toNat)
 case atStart=>exact⟨0,by omega,rfl,HR.out⟩
 case round =>
  clear HR
  obtain⟨k,hk,rfl,hrel⟩:=hrel
  by_cases hlt:k<rows.length
  · obtain⟨rows',h1,h2,h3,h4,h5⟩:=hrel
    obtain⟨g,c',he⟩:=dw h3 (by omega)
    simp only [SD.injEq,true_and] at he
    obtain⟨rfl,rfl⟩:=he
    have hk':rows'[k]? =some rows'[k]:=Sn (by omega)
    generalize rows'[k]=r at hk'
    have hmem:=Sp hk'
    have hc0:wr.cell? ⟨g,k,none⟩=some (.slice r.at_ r.runs.length r.cap):=by
     rw [h3.cellAt k (by omega)]
     have:=cD Row.enc 1 (fun _=>rfl) rows' k r 0 _ hk' rfl
     rw [show k*1+0=k by omega] at this
     exact this
    have lQ:=h_ (jC (Ok:=Flat) r.at_ r.cap r.runs wr (h4 k r hk').1 (HF.out _ h2 r hmem))
    have HK:=h_ (fun(w2:Sh) (hb:Sm wr.heap.size wr w2)=>(show w2.cell? ⟨g,k,none⟩=some (.slice r.at_ r.runs.length r.cap)∧w2.frozen? ⟨g,k,none⟩=false from
     ⟨(hb.cell (p:=⟨g,k,none⟩) (h3.lt g rfl).2).trans hc0,(aJ h3 hb).frozenAt k⟩))
    have HST:=h_ (fun(w2:Sh) (a2:Option Addr) (c2:Nat) (hb:Sm wr.heap.size wr w2) (ho:w2.ownsRow wr.heap.size 77 5 (.slice a2 r.runs.length c2) r.runs.length (r.runs.flatMap Run.enc))=>cK.step hk' h1 h2 h3 h4 h5 hb ho)
    clear h1 h2 h3 h4 h5 hk' hmem
    obtain⟨ra,rc,rr⟩:=r
    simp only at *
    go_wp2_with fail
    refine lQ.out.mono ?_
    rintro e w2 ⟨v2,rfl,hown2,hb2⟩
    obtain⟨a2,c2,rfl⟩:∃ av cv,v2=.slice av rr.length cv:=by
     rcases hown2.2 with⟨rfl,h0⟩|⟨g,cap,_,rfl,_⟩
     · exact⟨none,0,by rw [h0]⟩
     · exact⟨_,_,rfl⟩
    obtain⟨k1,k2⟩:=HK.out _ hb2
    have HN:=h_ (HST.out _ _ _ hb2 hown2)
    clear hown2 hb2 lQ HK HST hc0
    go_wp2_with fail
    go_roundw
    case rel=>exact⟨k+1,by omega,by go_num,HN.out⟩
    case measure=>simp [intOf];omega
  · obtain rfl:k=rows.length:=by omega
    have HN:=h_ hrel
    clear hrel
    go_wp2_with fail
    exact HD.out _ _ _ HN.out
def vt (c:EvC)(w:Sh)(e:Ending)(w':Sh):Prop:=∃ y:Ev,e=.returned (.agg y.enc.toArray)∧y.c=c∧y.lies w'∧(∀ b,y.uses b→w.heap.size≤b)∧w'.ownsRow w.heap.size 75 1 (.slice y.at_ y.rows.length y.cap) y.rows.length (y.rows.flatMap Row.enc)∧(∀ r∈y.rows,∀ b,r.uses b→(SD y.at_ y.rows.length y.cap).ownBlock≠some b)∧Sm w.heap.size w w'
theorem gL (x:Ev)(w:Sh)(h:x.lies w)(hf:∀ r∈x.rows,r.runs.length≤4000000)(hl:x.rows.length≤4000000) :
 Sl Tryz.prog 71 #[.agg x.enc.toArray] w (vt x.c w):=by
 generalize hcs:x.enc.toArray=cs
 have HC:=h_ (fun(o:Obj)=>gQ x.at_ x.cap x.rows ((w.alloc (.cells cs 72)).alloc o) (bN.later h (((SF _ _).alloc (Sx _) _).alloc (by simp) _)) hf hl)
 have HQ:=h_ (fun(a:Option Addr) (c:Nat) (rows:List Row) (w':Sh) (e:rows.map Row.runs=x.rows.map Row.runs) (h:bN w' a rows) (hu:∀ b,dh a rows b→w.heap.size≤b) (ho:w'.ownsRow w.heap.size 75 1 (.slice a rows.length c) rows.length (rows.flatMap Row.enc)) (hap:∀ r∈rows,∀ b,r.uses b→(SD a rows.length c).ownBlock≠some b) (hb:Sm w.heap.size w w')=>(show vt x.c w (.returned (.agg #[.int .i64 x.id,.int .i64 x.inn,.int .i64 x.out,.string x.region,.int .u8 x.kind,.string x.speaker,.slice a rows.length c])) w' from
  ⟨⟨x.id,x.inn,x.out,x.region,x.kind,x.speaker,a,c,rows⟩,rfl,by simp only [Ev.c,e],h,hu,ho,hap,hb⟩))
 have HB:=h_ (fun(o o':Obj) (w1:Sh) (hb:Sm ((w.alloc o).alloc o').heap.size ((w.alloc o).alloc o') w1)=>(show Sm w.heap.size w w1 from(((SF _ _).alloc (Sx _) _).alloc (by simp) _).trans (hb.mono (by simp;omega))))
 have HK:=h_ (fun(o:Array Sj) (w1:Sh) (hb:Sm ((w.alloc (.cells cs 72)).alloc (.cells o 72)).heap.size ((w.alloc (.cells cs 72)).alloc (.cells o 72)) w1)=>(show(w1.heap[w.heap.size]? =some (.cells cs 72 (0,0))∧w1.heap[w.heap.size+1]? =some (.cells o 72 (0,0))) by
  refine⟨?_,?_⟩
  · rw [hb.block _ (by simp;omega),Sm.heap_alloc _ _ _ (by simp)]
    exact Si w _
  · rw [hb.block _ (by simp)]
    have:=Si (w.alloc (.cells cs 72)) (.cells o 72)
    rwa [SG] at this))
 obtain⟨id,inn,out,reg,kind,sp,a,c,rows⟩:=x
 simp only at *
 generalize vt _ w=Q at *
 clear h hf
 simp only [Ev.enc] at hcs
 go_enter Tryz.func71,Tryz.ntmps71
 subst hcs
 go_wp2_with fail
 refine(HC.out _).mono ?_
 rintro e w1 ⟨a',c',rows',rfl,hr,hm,hu,ho,hap,hb⟩
 obtain⟨hk1,hk2⟩:=HK.out _ _ hb
 have bA:=h_ (HB.out _ _ _ hb)
 have HR:=h_ hr
 have HM:=h_ hm
 have HU:=h_ hu
 have HO:=h_ (dK ho (B':=w.heap.size+2) (by simp))
 have lZ:=h_ hap
 clear hb hr hm hu HC HB HK ho hap
 have c1:∀ j,w1.cell? ⟨w.heap.size,j,none⟩=_:=fun j=>Sk _ _ j _ 72 (0,0) hk1
 have c2:∀ j,w1.cell? ⟨w.heap.size+1,j,none⟩=_:=fun j=>Sk _ _ j _ 72 (0,0) hk2
 have z1:∀ j,w1.frozen? ⟨w.heap.size,j,none⟩=false:=fun j=>by simp [SH,hk1]
 have z2:∀ j,w1.frozen? ⟨w.heap.size+1,j,none⟩=false:=fun j=>by simp [SH,hk2]
 clear hk1 hk2
 go_wp2_with fail
 refine bodyPost_ret (v:=.agg #[.int .i64 id,.int .i64 inn,.int .i64 out,.string reg,.int .u8 kind,.string sp,.slice a' rows'.length c']) (by simp [results,Tryz.results71,go_sem,c2]) rfl ?_
 have HF:=h_ (fun(b:Nat) (u u0 u1 u2 u3 u4 u5 u6:Sj) (hb:w.heap.size+2≤b)=>(show((((((((w1.setCell ⟨w.heap.size,6,none⟩ u).setCell ⟨w.heap.size+1,0,none⟩ u0).setCell ⟨w.heap.size+1,1,none⟩ u1).setCell ⟨w.heap.size+1,2,none⟩ u2).setCell ⟨w.heap.size+1,3,none⟩ u3).setCell ⟨w.heap.size+1,4,none⟩ u4).setCell ⟨w.heap.size+1,5,none⟩ u5).setCell ⟨w.heap.size+1,6,none⟩ u6).heap[b]? =w1.heap[b]? by
  repeat rw [Sm.heap_setCell _ _ _ _ (by simp only;omega)]))
 have Il:∀ b,dh a' rows' b→w.heap.size+2≤b:=fun b hu=>by
  have:=HU.out b hu
  simp at this
  omega
 refine HQ.out _ _ _ _ HM.out (bN.frame HR.out (by simp) fun b hu=>HF.out b _ _ _ _ _ _ _ _ (Il b hu)) (fun b hu=>by have:=Il b hu;omega) (dK (aB HO.out fun b q=>HF.out b _ _ _ _ _ _ _ _ (HO.out.lt b q).1) (by omega)) lZ.out ?_
 repeat refine Sm.setCell ?_ (by simp only;omega) _
 exact bA.out
theorem uW (x:Cm)(g:Nat)(id:Int)(w:Sh)(hg:w.cell? ⟨g,0,none⟩=some (.int .i64 id))(hl:g<w.heap.size) :
 Sl Tryz.prog 132 #[.agg x.enc.toArray,.pointer (some ⟨g,0,none⟩)] w fun e w'=>e=.returned (.bool (x.id==id))∧Sm w.heap.size w w':=by
 obtain⟨id',ev,frm,til,au,tx,dn,lo⟩:=x
 simp only [Cm.enc]
 have hg2:∀ o,(w.alloc o).cell? ⟨g,0,none⟩=some (.int .i64 id):=fun o=>(Sh.cell?_alloc_lt _ _ _ (by simpa using hl)).trans hg
 go_enter Tryz.func132,Tryz.ntmps132
 go_wp2_with fail
 go_ret
 exact⟨rfl,(SF _ _).alloc (Sx _) _⟩
theorem vi (a:Option Addr)(cap:Nat)(v:Sj)(w:Sh):Sl Tryz.prog 131 #[.slice a 0 cap,v] w fun e w'=>e=.returned (.bool false)∧w=w':=by
 have HI:=h_ (mS a cap v w)
 go_enter Tryz.func131,Tryz.ntmps131
 go_wp2_with fail
 refine HI.out.mono ?_
 rintro e w' ⟨rfl,rfl⟩
 go_wp2_with fail
 go_ret
 exact⟨rfl,rfl⟩
theorem xV (xs:List Cm)(id:Int):(cR xs id).isSome=xs.any (isCm id):=by
 unfold cR
 induction xs with
 | nil=>rfl
 | cons x l ih =>
   have e:cmAt id x=isCm id x:=rfl
   rw [List.find?_cons,List.any_cons,e]
   cases isCm id x with
   | true=>rfl
   | false=>simpa using ih
theorem td (a:Option Addr)(cap:Nat)(xs:List Cm)(g:Nat)(id:Int)(w:Sh)(hr:ah 8 Cm.enc Flat w a xs)(hl:xs.length≤4000000)(hg:w.cell? ⟨g,0,none⟩=some (.int .i64 id))(hgl:g<w.heap.size) :
 Sl Tryz.prog 131 #[.slice a xs.length cap,.func (.func 132) #[] #[.pointer (some ⟨g,0,none⟩)]] w fun e w'=>e=.returned (.bool (cR xs id).isSome)∧Sm w.heap.size w w':=by
 rcases hr with rfl|⟨b,off,rfl,hb,hc⟩
 · exact(vi a cap _ w).mono fun e w' ⟨he,hw⟩=>⟨he,hw▸SF _ _⟩
 · have h:=Tryz.slices_ContainsFunc_f131 8 (fun w=>by kernel_rfl) (fun w=>by kernel_rfl) Cm.enc (fun _=>rfl) (isCm id) 132 #[.pointer (some ⟨g,0,none⟩)] (fun args w=>by kernel_rfl) b off xs.length cap xs w
    (fun W x hW=>(uW x g id W ((hW.cell (p:=⟨g,0,none⟩) hgl).trans hg) (Nat.lt_of_lt_of_le hgl hW.size)).mono fun e w' ⟨he,hw⟩=>⟨he,hW.trans (hw.mono hW.size)⟩)
    (Sx _) (by omega) hb (fun j hj i v hv=>(hc j _ (jN xs j hj)).1 i v hv)
   rw [List.take_length] at h
   rw [xV]
   exact h
def ju (d:DocC)(id:Int):Bool:=(aU d.eV id).isSome||(cR d.cM id).isSome
theorem tE (d:Doc)(id:Int)(w:Sh)(hd:d.lies w)(hf:d.fits):Sl Tryz.prog 84 #[.agg d.enc.toArray,.int .i64 id] w fun e w'=>e=.returned (.bool (ju d.c id))∧Sm w.heap.size w w':=by
 have ew:=h_ (fun(w1:Sh) (h:Sm w.heap.size w w1)=>cU d id w1 (Doc.later hd h).2.1 hf.2.2.2.2.2.2.2.2.1)
 have DI:=h_ (fun(w1:Sh) (h:Sm w.heap.size w w1) (hg:w1.cell? ⟨w.heap.size+1,0,none⟩=some (.int .i64 id)) (hl:w.heap.size+1<w1.heap.size)=>td d.ca d.cc d.cM (w.heap.size+1) id w1 (Doc.later hd h).2.2 hf.2.2.2.2.2.2.2.2.2.2 hg hl)
 have hb2:Sm w.heap.size w ((w.alloc (.cells d.enc.toArray 27)).alloc (.cells #[.int .i64 id] 2)):=((SF _ _).alloc (Sx _) _).alloc (by simp) _
 have hg0:((w.alloc (.cells d.enc.toArray 27)).alloc (.cells #[.int .i64 id] 2)).heap[w.heap.size]? =some (.cells d.enc.toArray 27 (0,0)):=(heap_alloc_old _ _ (by simp)).trans (Si _ _)
 have hg1:((w.alloc (.cells d.enc.toArray 27)).alloc (.cells #[.int .i64 id] 2)).heap[w.heap.size+1]? =some (.cells #[.int .i64 id] 2 (0,0)):=by
  have:=Si (w.alloc (.cells d.enc.toArray 27)) (.cells #[.int .i64 id] 2)
  rw [SG] at this
  exact this
 have G0:=h_ hg0
 have G1:=h_ hg1
 have c1:((w.alloc (.cells d.enc.toArray 27)).alloc (.cells #[.int .i64 id] 2)).cell? ⟨w.heap.size+1,0,none⟩=some (.int .i64 id):=Sk _ _ 0 _ 2 (0,0) hg1
 have hr0:=ai hg0
 have kF:=h_ (gj d id)
 have hcs:d.c.cM=d.cM:=rfl
 generalize hT:ju d.c id=T
 unfold ju at hT
 rw [hcs] at hT
 have HT:=h_ hT
 clear hd hf hT hcs hg0 hg1
 go_enter Tryz.func84,Tryz.ntmps84
 go_wp2_with (refine aj 27 (.tmp 2) rfl w.heap.size 0 rfl d.enc _ hr0 Tryz.underlying27 rfl ag (by rfl) ?_)
 refine(ew.out _ hb2).mono ?_
 rintro e w1 ⟨rfl,hb3⟩
 have aK:=hb2.trans (hb3.mono hb2.size)
 have r1:=(hb3.block w.heap.size (by simp;try omega)).trans G0.out
 have g1:=(hb3.block (w.heap.size+1) (by simp;try omega)).trans G1.out
 have hs1:w.heap.size+2≤w1.heap.size:=by have:=hb3.size;simp at this;omega
 clear hb3 hb2 G0 G1 hr0 c1 ew
 rcases kF.out with⟨hp,hn⟩|⟨j,x,hp,hx,hn⟩
 · have ht:=HT.out
   rw [hn] at ht
   rw [hp]
   have c7:w1.cell? ⟨w.heap.size,7,none⟩=some (.slice d.ca d.cM.length d.cc):=Sk _ _ 7 _ 27 (0,0) r1
   have HC:=h_ (DI.out w1 aK (Sk _ _ 0 _ 2 (0,0) g1) (by omega))
   have Ls:=h_ ht
   clear DI r1 g1 ht kF HT
   go_wp2_with fail
   refine HC.out.mono ?_
   rintro e w2 ⟨rfl,hb4⟩
   have HB:=h_ (aK.trans (hb4.mono aK.size))
   clear hb4 c7 HC
   go_wp2_with fail
   go_ret
   exact⟨by rw [←Ls.out];rfl,HB.out⟩
 · have ht:=HT.out
   rw [hn] at ht
   have Ls:=h_ ht
   rw [hp]
   have hj:(0:Int)≤(j:Int):=by omega
   clear DI r1 g1 ht kF HT
   go_wp2_with fail
   go_ret
   exact⟨by rw [←Ls.out];rfl,aK⟩
theorem sf:∀ (l:List Int)(acc:Int),0≤acc→(∀ z∈l,z≤4000000)→mL l acc≤acc+4000000*l.length
 | [],acc,h,_=>by simp [mL]
 | n::l,acc,h,hz=>by
   unfold mL
   split
   · simp only [Sw];omega
   · have:=sf l (acc+n) (by omega) fun z hq=>hz z (List.mem_cons_of_mem _ hq)
     have h2:=hz n List.mem_cons_self
     simp only [Sw]
     omega
theorem CD {x:Ev} (h:x.fits):gK x.rows≤100000000000000:=by
 have h1:=mK x.rows h.2.2.2.2.2.2.2.1
 have h2:=sf (da x.rows) (max ((x.rows.length:Int)-1) 0) (by omega) h1
 have h3:(da x.rows).length=x.rows.length:=by simp [da]
 have h4:x.rows.length≤4000000:=h.2.2.2.2.2.2.2.2
 unfold gK
 rw [h3] at h2
 omega
theorem vV {d:Doc} (h0:a_ d=0)(hf:d.fits):∀ c∈d.cM,c.fits∧(c.lost=false→(-1000000000000000000≤c.frm∧c.frm≤1000000000000000000)∧(-1000000000000000000≤c.til∧c.til≤1000000000000000000)):=by
 intro c hc
 refine⟨hf.2.2.2.2.2.2.2.2.2.1 c hc,fun hl=>?_⟩
 have hp:=(kl h0).2.2.2.2
 unfold ia at hp
 split at hp
 · cases hp
 · have:=lG _ _ _ _ _ hp c hc
   unfold ct at this
   split at this
   · cases this
   · rw [hl,if_neg (by decide)] at this
     split at this
     · cases this
     · rename_i i hi
       split at this
       · cases this
       · rename_i hn
         have hb:gK ((d.eV[i]?.map Ev.rows).getD [])≤100000000000000:=by
          cases hq:d.eV[i]? with
          | none=>exact(by decide:gK []≤100000000000000)
          | some x=>exact CD (hf.2.2.2.2.2.2.2.1 x (Sp hq))
         omega
theorem jO {x:Ev} (h:x.fits):(eo (some x.c)).size≤20000000000000:=by
 have h1:=iU (n:=4000000) (x.rows.map Row.runs) (fun r hr=>by
  obtain⟨q,hq,rfl⟩:=Sr.1 hr
  exact(h.2.2.2.2.2.2.2.1 q hq).2.2)
 rw [Ss] at h1
 have h2:=Sy 4000001 h.2.2.2.2.2.2.2.2
 have h3:(eo (some x.c)).size=(dm (x.rows.map Row.runs)).length:=by
  show(dm (x.rows.map Row.runs)).toArray.size=_
  simp
 rw [h3]
 exact Sz h1 (Sz h2 (by decide))
def layL:List Sj→Nat→List Sj→List Sj
 | xs,_,[]=>xs
 | xs,o,v::r=>layL (xs.set o v) (o+1) r
theorem oZ (a:List Sj):∀ (vs r:List Sj)(o:Nat),layL (a++r) (a.length+o) vs=a++layL r o vs
 | [],_,_=>rfl
 | v::l,r,o=>by
   rw [layL,layL,Su _ _ (by omega),Nat.add_sub_cancel_left,Nat.add_assoc]
   exact oZ a l _ _
theorem sg:∀ (vs a p r:List Sj),a.length=vs.length→layL (p++(a++r)) p.length vs=p++(vs++r)
 | [],a,p,r,h=>by
   obtain rfl:=List.eq_nil_of_length_eq_zero h
   rfl
 | v::l,[],p,r,h=>by simp at h
 | v::l,x::a,p,r,h=>by
   have ih:=sg l a (p++[v]) r (by simpa using h)
   rw [layL,Su _ _ (Sx _),Nat.sub_self]
   simp only [List.cons_append,List.set_cons_zero]
   simpa using ih
theorem sG {α:Type} {K:Nat} {enc:α→List Sj} (hk:∀ x,(enc x).length=K)(y:α):∀ (zs:List α)(k:Nat),k<zs.length→layL (zs.flatMap enc) (k*K) (enc y)=(zs.set k y).flatMap enc
 | [],k,h=>by simp at h
 | z::l,0,_=>by
   have:=sg (enc y) (enc z) [] (l.flatMap enc) (by rw [hk,hk])
   simpa using this
 | z::l,k+1,h=>by
   have ih:=sG hk y l k (by simpa using h)
   rw [List.set_cons_succ,Sv,Sv,←ih,←oZ,hk,SA,Nat.add_comm]
theorem rX {T K B g cap n:Nat}:∀ (vs xs:List Sj)(o:Nat)(w:Sh),w.ownsRow B T K (.slice (some ⟨g,0,none⟩) n cap) n xs→(w.setCells g o vs).ownsRow B T K (.slice (some ⟨g,0,none⟩) n cap) n (layL xs o vs)
 | [],_,_,_,h=>h
 | v::l,xs,o,w,h=>rX l _ _ _ (h.stored o v).1
theorem uf {α:Type} {K T B g cap n k:Nat} {enc:α→List Sj} (hk:∀ x,(enc x).length=K) {w:Sh} {zs:List α} (y:α)(h:w.ownsRow B T K (.slice (some ⟨g,0,none⟩) n cap) n (zs.flatMap enc))(hx:k<zs.length) :
 (w.setCells g (k*K) (enc y)).ownsRow B T K (.slice (some ⟨g,0,none⟩) n cap) n ((zs.set k y).flatMap enc):=by
 rw [←sG hk y zs k hx]
 exact rX _ _ _ _ h
theorem j8 {may:Nat→Prop} {a:Sh} {g:Nat} (hm:may g):∀ (vs:List Sj)(o:Nat)(w:Sh),Kept may a w→Kept may a (w.setCells g o vs)
 | [],_,_,h=>h
 | v::l,o,w,h=>j8 hm l _ _ (h.setCell (p:=⟨g,o,none⟩) (.inr hm) v)
theorem mi {α:Type} {K T B g cap n k:Nat} {enc:α→List Sj} (hk:∀ x,(enc x).length=K) {w:Sh} {zs:List α} (h:w.ownsRow B T K (.slice (some ⟨g,0,none⟩) n cap) n (zs.flatMap enc))(hn:zs.length=n)(hx:k<n):w.there g (k*K) K:=fun j hj=>by
 have h1:k*K+j<n*K:=by
  have:=Sy K hx
  rw [SA] at this
  omega
 refine⟨?_,h.frozenAt _⟩
 rw [h.cellAt _ h1,Sn (by rw [←hn] at h1;have:=bE enc K hk zs;omega)]
 rfl
theorem lV (c:Cm)(s1 s2:ByteArray)(w:Sh)(hlo:c.lost=true):Sl Tryz.prog 129 #[.agg c.enc.toArray,.string s1,.string s2] w fun e w'=>e=.returned (.agg c.enc.toArray)∧Sm w.heap.size w w':=by
 obtain⟨id,ev,frm,til,au,tx,dn,lo⟩:=c
 simp only at hlo
 subst hlo
 simp only [Cm.enc]
 go_enter Tryz.func129,Tryz.ntmps129
 go_wp2_with fail
 have er:∀ j,((w.alloc (.cells #[SC .i64 id,.int .i64 ev,.int .i64 frm,.int .i64 til,.string au,.string tx,.bool dn,.bool true] 102)).alloc (.cells #[SC .i64 id,.int .i64 ev,.int .i64 frm,.int .i64 til,.string au,.string tx,.bool dn,.bool true] 102)).cell? ⟨w.heap.size+1,j,none⟩=_:=fun j=>Sk _ _ j _ 102 (0,0) (by
  have:=Si (w.alloc (.cells #[SC .i64 id,.int .i64 ev,.int .i64 frm,.int .i64 til,.string au,.string tx,.bool dn,.bool true] 102)) (.cells #[SC .i64 id,.int .i64 ev,.int .i64 frm,.int .i64 til,.string au,.string tx,.bool dn,.bool true] 102)
  rw [SG] at this
  exact this)
 refine bodyPost_ret (v:=.agg #[SC .i64 id,.int .i64 ev,.int .i64 frm,.int .i64 til,.string au,.string tx,.bool dn,.bool true]) (by simp [results,Tryz.results129,go_sem,er]) rfl ?_
 exact⟨rfl,((SF _ _).alloc (Sx _) _).alloc (by simp) _⟩
def kL (o e:EvC)(c:Cm):Cm:=if c.ev=e.id then gp c (eo (some o)) (eo (some e)) else c
theorem nr {α:Type} (y:α):∀ (l:List α)(k:Nat),k<l.length→(bI l k++[y]).Perm (l.set k y)
 | [],k,h=>by simp at h
 | a::l,0,_=>by
   show(l++[y]).Perm (y::l)
   exact List.perm_append_singleton y l
 | a::l,k+1,h=>by
   have ih:=nr y l k (by simpa using h)
   exact List.Perm.cons a ih
theorem zw {d:DocC} (h:cErr d=0) {i:Nat} {o e:EvC} (ho:d.eV[i]? =some o)(hi:o.id=e.id):(d.eV.set i e).Pairwise fun x y=>x.id≠y.id:=by
 have h1:=wJ (iF h).ids e.id (some e) (fun y hy=>by rw [←Option.some.inj hy])
 have h2:=nf (iF h).ids i o ho
 rw [hi] at h2
 rw [h2] at h1
 have hp:=nr e d.eV i (St.1 ho).1
 exact(hp.pairwise_iff (fun {a b} (q:a.id≠b.id)=>q.symm)).1 h1
theorem D4 {d:DocC} (h:cErr d=0) {i:Nat} {o e:EvC} (ho:d.eV[i]? =some o)(hi:o.id=e.id):oO d.eV e.id (some e)=de (d.eV.set i e):=by
 have h2:=nf (iF h).ids i o ho
 rw [hi] at h2
 have hp:=nr e d.eV i (St.1 ho).1
 unfold oO
 rw [h2]
 exact ke ((iD _).trans hp) (kf _) (zw h ho hi)
theorem Gb {d:DocC} (h:cErr d=0) {i:Nat} {o e:EvC} (ho:d.eV[i]? =some o)(hf:aU d.eV e.id=some o)(he:bT d.rG e=0) :
 putC d e=(0,{ d with eV:=de (d.eV.set i e),cM:=d.cM.map (kL o e) }):=by
 have hi:o.id=e.id:=by
  have:=List.find?_some hf
  simpa [evAt] using this
 unfold putC
 rw [if_neg (fun q=>q h),hf]
 show(if bT d.rG e≠0 then _ else _)=_
 rw [if_neg (fun q=>q he),D4 h ho hi]
 rfl
theorem BQ {d:DocC} (h:cErr d=0) {e:EvC} (hf:aU d.eV e.id=none):putC d e=(6,aV):=by
 unfold putC
 rw [if_neg (fun q=>q h),hf]
theorem D5 {d:DocC} (h:cErr d=0) {o e:EvC} (hf:aU d.eV e.id=some o)(he:bT d.rG e≠0):putC d e=(bT d.rG e,aV):=by
 unfold putC
 rw [if_neg (fun q=>q h),hf]
 show(if bT d.rG e≠0 then _ else _)=_
 rw [if_pos he]
end Go.Proofs.YtjebaagkomejaaaGreatDoor
