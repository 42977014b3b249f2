/- document.Remove: a document without an event. edit.changed: a document with an event changed. history: Doc, Depth, Saved, Save, New. -/
import Derived.Test.YtjebaagkomejaaaGreatDoorH24
import Derived.Test.YtjebaagkomejaaaGreatDoorH28
import Derived.Test.YtjebaagkomejaaaGreatDoorH27
set_option linter.unusedVariables false
set_option linter.unusedSimpArgs false
set_option maxRecDepth 100000
set_option maxHeartbeats 12800000
open Go.Lib renaming hid→h_
open List renaming setIfInBounds_toArray→YA,getElem_cons_zero→YB,getElem_cons_succ→YC,getElem_toArray→YD,set_cons_zero→YE,set_cons_succ→YF
open Array renaming toArray_toList→YG
open Go renaming wpList_store_row→Sh,World→Si,setRow_heap→Sj,below_setRow→Sk,cell_of_row→Sl,bodyPost_ret→Sm,Calls→Sn,heap_alloc_last→Sp
open Go.RowKit renaming Below→Sq
open Nat renaming le_refl→Sr
open List renaming mem_cons→Ss,getElem?_eq_some_iff→St
open Go.Value.slice renaming injEq→Su
namespace Go.Proofs.YtjebaagkomejaaaGreatDoor
open Go.RowKit
theorem ln (d:Doc)(id:Int)(w:Si)(hE:Env w)(hd:d.lies w)(hf:d.fits):Sn Tryz.prog 32 #[.agg d.enc.toArray,.int .i64 id] w (aS (bx d.c id) w):=by
 have iK:=h_ (fun(w1:Si) (h:Sq w.heap.size w w1)=>bR d w1 (hE.below h (Sr _)) (Doc.later hd h) hf)
 have ew:=h_ (fun(w1:Si) (h:Sq w.heap.size w w1)=>cU d id w1 (Doc.later hd h).2.1 hf.2.2.2.2.2.2.2.2.1)
 have dq:=h_ (fun(w1:Si) (h:Sq w.heap.size w w1)=>br d w1 (Doc.later hd h) hf)
 have bh:=h_ (fun(q:Int) (hq:bx d.c id=(q,aV)) (w':Si) (h:Sq w.heap.size w w')=>(show aS (bx d.c id) w (.returned (.tuple #[.agg zeD,.int .i64 q])) w' from hq▸aS.zero q h))
 have bF:=h_ (fun(h:a_ d≠0)=>(show bx d.c id=(a_ d,aV) from by unfold bx;rw [if_pos (fun q=>h ((bw d).trans q)),←bw]))
 have kD:=h_ (fun(h:a_ d=0) (h2:aU d.c.eV id=none)=>(show bx d.c id=(6,aV) from by unfold bx;rw [if_neg (fun q=>q ((bw d).symm.trans h)),h2];rfl))
 have jU:=h_ (fun(d':Doc) (k:Nat) (x:Ev) (h0:a_ d=0) (hc:d'.c=d.c) (hx:d.eV[k]? =some x) (hf:aU d.c.eV id=some x.c)=>BL (d:=d) (d':=d') (id:=id) (k:=k) (x:=x) h0 hc hx hf)
 have kF:=h_ (gj d id)
 have cP:=h_ (fun(d':Doc) (h:d'.c=d.c)=>bp h hf)
 have cQ:=h_ (oT w d.enc.toArray zeD)
 have hb2:∀ o1 o2:Obj,Sq w.heap.size w ((w.alloc o1).alloc o2):=fun o1 o2=>((Sq.refl _ _).alloc (Sr _) _).alloc (by simp) _
 have hsz2:∀ o1 o2:Obj,((w.alloc o1).alloc o2).heap.size=w.heap.size+2:=fun o1 o2=>by simp
 have jt:=h_ (rfl:bx d.c id=bx d.c id)
 generalize hR:bx d.c id=R at bh bF kD jU jt ⊢
 have OY:=h_ (rfl:aS R w=aS R w)
 generalize hQ:aS R w=Q at bh ⊢
 clear hd hf hE OY jt
 go_enter Tryz.func32,Tryz.ntmps32
 have hr0:=ai cQ.out.1
 go_wp2_with (refine aj 27 (.tmp 2) rfl w.heap.size 0 rfl d.enc _ hr0 Tryz.underlying27 rfl ag (by rfl) ?_)
 refine(iK.out _ (hb2 _ _)).mono ?_
 rintro e w1 ⟨rfl,hb1⟩
 rw [hsz2] at hb1
 have aK:Sq w.heap.size w w1:=(hb2 _ _).trans (hb1.mono (by omega))
 have r1:=(hb1.block w.heap.size (by omega)).trans cQ.out.1
 have z1:=(hb1.block (w.heap.size+1) (by omega)).trans cQ.out.2
 have hs1:w.heap.size+2≤w1.heap.size:=by have:=hb1.size;rw [hsz2] at this;exact this
 clear hb1 hr0 iK cQ hb2 hsz2
 have hr1:=ai r1
 have R1:=h_ r1
 have Z1:=h_ z1
 clear r1 z1
 by_cases h0:a_ d=0
 · rw [h0]
   clear bF
   go_wp2_with (refine aj 27 (.tmp 2) rfl w.heap.size 0 rfl d.enc _ hr1 Tryz.underlying27 rfl ag (by rfl) ?_)
   refine(ew.out w1 aK).mono ?_
   rintro e w2 ⟨rfl,hb2⟩
   have hbw2:Sq w.heap.size w w2:=aK.trans (hb2.mono aK.size)
   have r2:=(hb2.block w.heap.size (by omega)).trans R1.out
   have z2:=(hb2.block (w.heap.size+1) (by omega)).trans Z1.out
   have hs2:w.heap.size+2≤w2.heap.size:=by have:=hb2.size;omega
   clear hb2 hr1 R1 Z1 ew aK hs1
   have hr2:=ai r2
   have R2:=h_ r2
   have Z2:=h_ z2
   clear r2 z2
   rcases kF.out with⟨hp,hn⟩|⟨k,x,hp,hx,hx2⟩
   · rw [hp]
     have HE:=h_ (bh.out 6 (kD.out h0 hn) (w2.setRow (w.heap.size+1) zeD) (Sk hbw2 (by omega) _))
     have z3:=Sj w2 (w.heap.size+1) _ zeD 27 (0,0) Z2.out
     clear kD jU kF cP dq bh hr2 hp hn h0
     go_wp2_with (refine Sh rfl 27 (.tmp 4) (.tmp 21) rfl (w.heap.size+1) zeD rfl rfl 27 _ Z2.out ag rfl aO ?_)
     generalize w2.setRow (w.heap.size+1) zeD=w9 at *
     exact aL Tryz.results32 rfl rfl z3 rfl HE.out
   · rw [hp]
     have hk0:(0:Int)≤(k:Int):=by omega
     have hkd:k<d.eV.length:=(St.1 hx).1
     have nR:=h_ (fun(d':Doc) (hc:d'.c=d.c)=>jU.out d' k x h0 hc hx hx2)
     clear kD jU kF bh hp hx hx2 h0
     go_wp2_with (refine aj 27 (.tmp 2) rfl w.heap.size 0 rfl d.enc _ hr2 Tryz.underlying27 rfl ag (by rfl) ?_)
     refine(dq.out w2 hbw2).mono ?_
     rintro e w4 ⟨d',rfl,hc',hl',hu',hb4,hap,hoe,hoc⟩
     have eu:=cP.out d' hc'
     have hlen:d'.eV.length=d.eV.length:=by
      have:d'.eV.map Ev.c=d.eV.map Ev.c:=congrArg DocC.eV hc'
      exact j7 this
     have IA:=h_ (nR.out d' hc')
     have bP:Sq w.heap.size w w4:=hbw2.trans (hb4.mono hbw2.size)
     have r4:=(hb4.block w.heap.size (by omega)).trans R2.out
     have z4:=(hb4.block (w.heap.size+1) (by omega)).trans Z2.out
     have hs4:w2.heap.size≤w4.heap.size:=hb4.size
     clear hr2 R2 Z2 dq hbw2 nR cP hb4 hc'
     go_upto_region 8 with(refine Sh rfl 27 (.tmp 2) (.tmp 23) rfl w.heap.size d'.enc.toArray rfl rfl 27 _ r4 ag rfl aO ?_)
     have hk5:Kept (fun b=>b=w.heap.size) w4 (w4.setRow w.heap.size d'.enc.toArray):=bj w4 w.heap.size d'.enc.toArray
     have r5:=Sj w4 w.heap.size _ d'.enc.toArray 27 (0,0) r4
     generalize w4.setRow w.heap.size d'.enc.toArray=w5 at *
     have hs5:=hk5.size
     have hl5:d'.lies w5:=Doc.frame hl' hs5 fun b hb=>hk5.block b (Doc.uses_lt hl' hb) (by have:=hu' b hb;omega)
     have oe5:=aB hoe fun b q=>hk5.block b (hoe.lt b q).2 (by have:=(hoe.lt b q).1;omega)
     have oc5:=aB hoc fun b q=>hk5.block b (hoc.lt b q).2 (by have:=(hoc.lt b q).1;omega)
     have z5:=(hk5.block (w.heap.size+1) (by omega) (by omega)).trans z4
     have hb5:Sq w.heap.size w w5:=bP.trans (hk5.below (by omega) fun k hk e=>by omega)
     have xE:k<d'.eV.length:=by omega
     have hle:d'.eV.length≤4000000:=eu.2.2.2.2.2.2.2.2.1
     have hlc:d'.cM.length≤4000000:=eu.2.2.2.2.2.2.2.2.2.2
     obtain⟨eb,cap,he⟩:=dw oe5 (by omega)
     have he1:d'.ea=some ⟨eb,0,none⟩∧d'.ec=cap:=by simp only [Su] at he;exact⟨he.1,he.2.2⟩
     rw [he] at oe5
     have JG:=oe5.lt eb rfl
     have hcap:d'.eV.length≤cap:=by
      rcases oe5.2 with⟨h0,_⟩|⟨g',cap',cur,h0,_,_,hnc,_⟩
      · simp at h0
      · simp only [Su] at h0
        obtain⟨_,_,rfl⟩:=h0
        exact hnc
     have tm:=h_ (uS w2.heap.size eb cap k d'.eV w5 oe5 xE hle)
     have c6:w5.cell? ⟨w.heap.size,6,none⟩=some (.slice (some ⟨eb,0,none⟩) d'.eV.length cap):=by
      rw [←he];exact Sl _ _ 6 _ 27 (0,0) r5
     have f6:∀ w':Si,Kept (fun b=>b=eb) w5 w'→(∀ j,w'.frozen? ⟨w.heap.size,j,none⟩=false)∧w'.heap[w.heap.size]? =some (.cells d'.enc.toArray 27 (0,0)):=fun w' h=>by
      have hb:=(h.block w.heap.size (by omega) (by omega)).trans r5
      exact⟨fun j=>by simp [Si.frozen?,hb],hb⟩
     have fZ:=h_ (F9 d' k eb cap he1 xE)
     have f_:=h_ (F8 (id:=id) (k:=k) (eb:=eb) (cap:=cap) hl5 hu' hap he1 xE)
     have Bb:=h_ IA.out
     have OC5:=h_ oc5
     have HU:=h_ hu'
     have lZ:=h_ hap
     have LP:=h_ eu.2.2.2.2.2.2.2.2.2.1
     have iL:=h_ hb5
     have Z5:=h_ z5
     have Ce:w.heap.size+2≤w5.heap.size:=by omega
     have vQ:(d'.eV.length:Int)≤4000000:=by omega
     clear bP r4 z4 hk5 hl5 oe5 oc5 z5 hb5 hoe hoc hap eu hl' hu' hs4 hs5 IA hlen hkd r5 he
     go_wp2_with fail
     refine tm.out.mono ?_
     rintro e w6 ⟨rfl,xL,_,ts⟩
     have ⟨fz6,b6⟩:=f6 w6 ts
     have c6':∀ j,w6.cell? ⟨w.heap.size,j,none⟩=_:=fun j=>Sl _ _ j _ 27 (0,0) b6
     have Dt:=h_ xL
     have jr:=h_ ts
     have B6:=h_ b6
     clear tm f6 c6 xL ts b6
     go_upto_region 9 with fail
     have b7:=heap_setCell_same w6 w.heap.size 6 _ 27 (.slice (some ⟨eb,0,none⟩) (d'.eV.length-1) cap) B6.out
     rw [fZ.out] at b7
     have iA:Kept (fun b=>b=w.heap.size) w6 (w6.setCell ⟨w.heap.size,6,none⟩ (.slice (some ⟨eb,0,none⟩) (d'.eV.length-1) cap)):=bH (Kept.refl _ _) 6 _
     generalize w6.setCell ⟨w.heap.size,6,none⟩ (.slice (some ⟨eb,0,none⟩) (d'.eV.length-1) cap)=w7 at *
     clear c6' fz6 fZ B6
     have hs6:=jr.out.size
     have hs7:=iA.size
     have hnc:∀ b,bt d'.ca d'.cM b→b≠eb∧b≠w.heap.size:=fun b q=>by
      obtain⟨t,_,t2,_,t4⟩:=lZ.out
      have h4:=t4 b q
      refine⟨fun e=>?_,by have:=HU.out b (.inr (.inr q));omega⟩
      have:=t2 eb ⟨fun e=>by rw [e] at xE;simp at xE,⟨eb,0,none⟩,he1.1,rfl⟩
      rw [e] at h4;omega
     have oc7:d'.cM≠[]→w7.ownsRow w2.heap.size 102 8 (.slice d'.ca d'.cM.length d'.cc) d'.cM.length (d'.cM.flatMap Cm.enc):=fun hc0=>by
      refine aB OC5.out fun b q=>?_
      have hu2:bt d'.ca d'.cM b:=⟨hc0,by
       cases ob:d'.ca with
       | none=>rw [ob] at q;simp [Value.ownBlock] at q
       | some ad=>rw [ob] at q;exact⟨ad,rfl,by simpa [Value.ownBlock] using q⟩⟩
      have hlt:=(OC5.out.lt b q).2
      exact(iA.block b (by omega) (hnc b hu2).2).trans (jr.out.block b hlt (hnc b hu2).1)
     have z7:=(iA.block (w.heap.size+1) (by omega) (by omega)).trans ((jr.out.block (w.heap.size+1) (by omega) (by omega)).trans Z5.out)
     have iP:Sq w.heap.size w w7:=(iL.out.trans (jr.out.below (by omega) fun b hb e=>by omega)).trans (iA.below (by omega) fun b hb e=>by omega)
     have tk:=h_ (fun b (hb:b<w.heap.size+2)=>(show ¬ bt d'.ca d'.cM b from fun q=>by have:=HU.out b (.inr (.inr q));omega))
     have HR1:=h_ (And.intro (dN.start (dR id) d'.cM) (And.intro oc7 (Kept.refl (fun b=>bt d'.ca d'.cM b) w7)))
     have B7:=h_ b7
     have Z7:=h_ z7
     have FM:=h_ iP
     have DD:=h_ (fun w8 w9=>f_.out w6 w7 w8 w9 Dt.out jr.out w.heap.size (by omega) iA)
     have c7:w7.cell? ⟨w.heap.size,7,none⟩=some (.slice d'.ca d'.cM.length d'.cc):=Sl _ _ 7 _ 27 (0,0) b7
     have Np:w.heap.size+2≤w7.heap.size:=by omega
     clear hnc oc7 b7 z7 iP iA f_ Dt jr OC5 iL Z5 lZ hs6 hs7 Ce vQ xE hle JG hcap
     go_wp2_with fail
     go_loopw [34] (fun i wr=>∃ (k:Nat) (zs:List Cm),k≤d'.cM.length∧i=.int .i64 k∧dN (dR id) d'.cM zs k∧(d'.cM≠[]→wr.ownsRow w2.heap.size 102 8 (.slice d'.ca d'.cM.length d'.cc) d'.cM.length (zs.flatMap Cm.enc))∧Kept (fun b=>bt d'.ca d'.cM b) w7 wr) (fun i _=>d'.cM.length-(intOf i).toNat)
     case atStart=>exact⟨0,d'.cM,by omega,rfl,HR1.out.1,HR1.out.2.1,HR1.out.2.2⟩
     case round =>
      clear HR1 c7
      obtain⟨j,zs,hj,rfl,hup,how,hkp⟩:=hrel
      have hs:=hkp.size
      have b8:=(hkp.block w.heap.size (by omega) (tk.out _ (by omega))).trans B7.out
      have c8:wr.cell? ⟨w.heap.size,7,none⟩=some (.slice d'.ca d'.cM.length d'.cc):=Sl _ _ 7 _ 27 (0,0) b8
      by_cases hlt:j<d'.cM.length
      · have hx:d'.cM[j]? =some d'.cM[j]:=List.getElem?_eq_getElem hlt
        generalize d'.cM[j]=y at hx
        replace how:=how (fun h=>by rw [h] at hlt;simp at hlt)
        obtain⟨cb,cp,he⟩:=dw how (by omega)
        have he2:d'.ca=some ⟨cb,0,none⟩:=by simp only [Su] at he;exact he.1
        have qf:=hup.at_ hx
        rw [he] at how c8
        have hlz:zs.length=d'.cM.length:=hup.1
        have hcs:∀ q v,y.enc[q]? =some v→q<8→wr.cell? ⟨cb,j*8+q,none⟩=some v:=fun q v hv hq8=>by
         rw [how.cellAt (j*8+q) (by omega)]
         exact cD Cm.enc 8 (fun _=>rfl) zs j y q _ qf hv
        have hcell:wr.cell? ⟨cb,j*8+1,none⟩=some (.int .i64 y.ev):=hcs 1 _ rfl (by decide)
        have hcell2:wr.cell? ⟨cb,j*8+2,none⟩=some (.int .i64 y.frm):=hcs 2 _ rfl (by decide)
        have K5:wr.cell? ⟨cb,j*8+3,none⟩=some (.int .i64 y.til):=hcs 3 _ rfl (by decide)
        have K4:wr.cell? ⟨cb,j*8+7,none⟩=some (.bool y.lost):=hcs 7 _ rfl (by decide)
        clear hcs
        have hcp:d'.cM.length≤cp:=by
         rcases how.2 with⟨h0,_⟩|⟨g',cap',cur,h0,_,_,hnc,_⟩
         · simp at h0
         · simp only [Su] at h0
           obtain⟨_,_,rfl⟩:=h0
           exact hnc
        have fz:=fun j=>how.frozenAt (j:=j)
        have HN:=h_ (fun(hq:y.ev=id)=>DV (id:=id) hup how hkp hx he2 hq)
        have HS:=h_ (fun(hq:¬ y.ev=id)=>dN.skip hup hx (uk hq))
        have HOW:=h_ how
        have tA:=h_ hkp
        rw [←he] at HN HOW
        clear b8 qf how hup hkp hx he he2
        by_cases hq:y.ev=id
        · have HE:=h_ (HN.out hq)
          have hq2:(y.ev==id)=true:=by simpa using hq
          clear HN HS HOW tA hq
          go_wp2_with fail
          go_roundw
          case rel=>exact⟨j+1,_,by omega,by go_num,HE.out.1,fun _=>HE.out.2.1,HE.out.2.2⟩
          case measure=>simp [intOf];omega
        · have HE:=h_ (HS.out hq)
          have hq2:(y.ev==id)=false:=by simpa using hq
          clear HN HS hq
          go_wp2_with fail
          go_roundw
          case rel=>exact⟨j+1,_,by omega,by go_num,HE.out,fun _=>HOW.out,tA.out⟩
          case measure=>simp [intOf];omega
      · obtain rfl:j=d'.cM.length:=by omega
        obtain rfl:=hup.all
        have nN:=ai b8
        have z8:=(hkp.block (w.heap.size+1) (by omega) (tk.out _ (by omega))).trans Z7.out
        generalize hD:({ d' with eV:=bI d'.eV k }:Doc)=D2 at *
        have r9:=Sj wr (w.heap.size+1) _ D2.enc.toArray 27 (0,0) z8
        have fh:Kept (fun b=>b=w.heap.size+1) wr (wr.setRow (w.heap.size+1) D2.enc.toArray):=bj _ _ _
        have kZ:=h_ (DD.out wr (wr.setRow (w.heap.size+1) D2.enc.toArray) hkp (fun hc=>⟨_,how hc⟩) (w.heap.size+1) (by omega) fh)
        have pz:=h_ (show Sq w.heap.size w (wr.setRow (w.heap.size+1) D2.enc.toArray) from(FM.out.trans (hkp.below (by omega) fun b hb=>tk.out b (by omega))).trans (fh.below (by omega) fun b hb e=>by omega))
        clear DD FM hkp how fh B7 Z7 tk LP c8 HU
        go_wp2_with (first|(refine aj 27 (.tmp 2) rfl w.heap.size 0 rfl D2.enc _ nN Tryz.underlying27 rfl ag (by rfl) ?_)|(refine Sh rfl 27 (.tmp 4) (.tmp 57) rfl (w.heap.size+1) D2.enc.toArray rfl rfl 27 _ z8 ag rfl aO ?_))
        generalize wr.setRow (w.heap.size+1) D2.enc.toArray=w9 at *
        have yq:=h_ (show Q (.returned (.tuple #[.agg D2.enc.toArray,.int .i64 0])) w9 from by
         rw [←hQ,Bb.out]
         subst hD
         exact⟨({ d' with eV:=bI d'.eV k,cM:=d'.cM.map (dR id) }:Doc),by simp [Doc.enc],rfl,kZ.out.1,fun b hb=>Nat.le_trans (by omega) (kZ.out.2 b hb),pz.out⟩)
        clear kZ pz Bb hD
        exact aL Tryz.results32 rfl rfl r9 rfl yq.out
 · have HE:=h_ (bh.out (a_ d) (bF.out h0) (w1.setRow (w.heap.size+1) zeD) (Sk aK (by omega) _))
   have hne:(a_ d != 0)=true:=by simpa using h0
   have z2:=Sj w1 (w.heap.size+1) _ zeD 27 (0,0) Z1.out
   generalize a_ d=DE at *
   clear bF kD jU kF cP ew dq bh hr1
   go_wp2_with (refine Sh rfl 27 (.tmp 4) (.tmp 14) rfl (w.heap.size+1) zeD rfl rfl 27 _ Z1.out ag rfl aO ?_)
   generalize w1.setRow (w.heap.size+1) zeD=w9 at *
   exact aL Tryz.results32 rfl rfl z2 rfl HE.out
theorem kq (N:Nat)(caps:Array Value)(f:EvC→Int × EvC)(d:Doc)(id:Int)(w:Si)(hE:Env w)(hd:d.lies w)(hf:d.fits)(hfn:fF N caps f w)(hcf:∀ (args:Array Value)(w1:Si),(callFunc N args).run Tryz.prog w1=.ok (.enter N args) w1) :
 Sn Tryz.prog 29 #[.agg d.enc.toArray,.int .i64 id,.func (.func N) #[] caps] w (aS (aF d.c id f) w):=by
 have ew:=h_ (fun(w1:Si) (h:Sq w.heap.size w w1)=>cU d id w1 (Doc.later hd h).2.1 hf.2.2.2.2.2.2.2.2.1)
 have dq:=h_ (fun(o:Ev) (w1:Si) (hl:o.lies w1) (hfo:o.fits)=>gL o w1 hl (fun r hr=>(hfo.2.2.2.2.2.2.2.1 r hr).2.1) hfo.2.2.2.2.2.2.2.2)
 have tz:=h_ (fun(y:Ev) (w1:Si) (h:Sq w.heap.size w w1) (hy:y.lies w1) (fy:y.fits)=>mC d y w1 (hE.below h (Sr _)) (Doc.later hd h) hf hy fy)
 have aZ:=h_ (And.intro hd (And.intro hf hfn))
 have kF:=h_ (gj d id)
 have bh:=h_ (fun(q:Int) (hq:aF d.c id f=(q,aV)) (w':Si) (h:Sq w.heap.size w w')=>(show aS (aF d.c id f) w (.returned (.tuple #[.agg zeD,.int .i64 q])) w' from by rw [hq];exact aS.zero q h))
 have C5:=h_ (fun(h:aU d.c.eV id=none)=>(show aF d.c id f=(6,aV) from by unfold aF;rw [h]))
 have pn:=h_ (fun(o:Ev) (h:aU d.c.eV id=some o.c)=>(show aF d.c id f=if (f o.c).1≠0 then ((f o.c).1,aV) else putC d.c (f o.c).2 from by unfold aF;rw [h]))
 have bF:=h_ (fun(r:Int × DocC) (hr:aF d.c id f=r) (B:Nat) (D:Doc) (w':Si) (h:D.c=r.2∧D.lies w'∧(∀ b,D.uses b→w.heap.size≤b)∧Sq w.heap.size w w')=>(show aS (aF d.c id f) w (.returned (.tuple #[.agg D.enc.toArray,.int .i64 r.1])) w' from⟨D,by rw [hr],by rw [hr];exact h.1,h.2.1,h.2.2.1,h.2.2.2⟩))
 have cQ:=h_ (oT w d.enc.toArray zeD)
 have hb2:∀ o1 o2:Obj,Sq w.heap.size w ((w.alloc o1).alloc o2):=fun o1 o2=>((Sq.refl _ _).alloc (Sr _) _).alloc (by simp) _
 have hsz2:∀ o1 o2:Obj,w.heap.size+2≤((w.alloc o1).alloc o2).heap.size:=fun o1 o2=>by simp
 generalize hQ:aS (aF d.c id f) w=Q at *
 clear hd hf hE hfn
 go_enter Tryz.func29,Tryz.ntmps29
 go_upto_region 1 with fail
 have h0:=cQ.out.1
 have h1:=cQ.out.2
 have hbw:=hb2 (.cells d.enc.toArray 27) (.cells zeD 27)
 have hsz:=hsz2 (.cells d.enc.toArray 27) (.cells zeD 27)
 clear cQ hb2 hsz2
 generalize (w.alloc (.cells d.enc.toArray 27)).alloc (.cells zeD 27)=W0 at *
 have hr0:=ai h0
 have I0:=h_ (ew.out W0 hbw)
 go_wp2_with (refine aj 27 (.tmp 3) rfl w.heap.size 0 rfl d.enc _ hr0 Tryz.underlying27 rfl ag (by rfl) ?_)
 refine I0.out.mono ?_
 rintro e w1 ⟨rfl,hb1⟩
 have hs1:=hb1.size
 have aK:=hbw.trans (hb1.mono (by omega))
 have r1:=(hb1.block w.heap.size (by omega)).trans h0
 have z1:=(hb1.block (w.heap.size+1) (by omega)).trans h1
 have R1:=h_ r1
 have Z1:=h_ z1
 have jS:=h_ aK
 clear ew I0 hb1 hbw h0 h1 hr0 r1 z1
 rcases kF.out with⟨hp,hn⟩|⟨i,o,hp,hi,hn⟩
 · have wy:=h_ (C5.out hn)
   generalize posOf (iB id) d.eV=FI at *
   subst hp
   clear kF C5 pn dq tz aZ bF hn
   have HE:=h_ (bh.out (6) wy.out (w1.setRow (w.heap.size+1) zeD) (Sk jS.out (by omega) _))
   have z9:=Sj w1 (w.heap.size+1) _ zeD 27 (0,0) Z1.out
   clear bh R1 aK wy
   go_wp2_with (refine Sh rfl 27 (.tmp 6) (.tmp 16) rfl (w.heap.size+1) zeD rfl rfl 27 _ Z1.out ag rfl aO ?_)
   generalize w1.setRow (w.heap.size+1) zeD=w9 at *
   exact aL Tryz.results29 rfl rfl z9 rfl HE.out
 · have HS:=h_ (pn.out o hn)
   generalize posOf (iB id) d.eV=FI at *
   subst hp
   have hi0:(0:Int)≤(i:Int):=by omega
   have hil:i<d.eV.length:=(St.1 hi).1
   have hld:=Doc.later aZ.out.1 aK
   obtain⟨b0,off,o',ha,hb0,hx2,hcx,hol⟩:=ah.at_ hld.2.1 hil
   rw [hi] at hx2
   obtain rfl:=Option.some.inj hx2
   have c6:w1.cell? ⟨w.heap.size,6,none⟩=some (.slice (some ⟨b0,off,none⟩) d.eV.length d.ec):=by rw [←ha];exact Sl _ _ 6 _ 27 (0,0) R1.out
   have hro:w1.rangeAt b0 (off+i*7) o.enc:=fun q v hv=>hcx q v hv
   have hle:d.eV.length≤4000000:=aZ.out.2.1.2.2.2.2.2.2.2.2.1
   have hfo:o.fits:=aZ.out.2.1.2.2.2.2.2.2.2.1 o (List.mem_of_getElem? hi)
   have HC:=h_ (dq.out o w1 hol hfo)
   have M6:=h_ hfo
   clear kF C5 pn dq hn hld hcx hol hfo ha hx2 aK
   go_wp2_with (refine aj 72 (.tmp 20) rfl b0 (off+i*7) rfl o.enc _ hro Tryz.underlying72 rfl aX (by rfl) ?_)
   refine HC.out.mono ?_
   rintro e w2 ⟨y,rfl,fP,hyl,hyu,qT,hyp,hb2⟩
   have hs2:=hb2.size
   have r2:=(hb2.block w.heap.size (by omega)).trans R1.out
   have z2:=(hb2.block (w.heap.size+1) (by omega)).trans Z1.out
   have hbw2:=jS.out.trans (hb2.mono (by omega))
   have hal:=Sp w2 (.cells zeE 72)
   clear HC hb2 R1 Z1 jS hro c6
   go_upto_region 5 with(refine Sh rfl 72 (.tmp 9) (.tmp 22) rfl (w2.heap.size) (y.enc.toArray) rfl rfl 72 _ hal aX rfl (mH _) ?_)
   have pW:=Sj (w2.alloc (.cells zeE 72)) w2.heap.size _ y.enc.toArray 72 (0,0) hal
   have hbW:Sq w2.heap.size w2 ((w2.alloc (.cells zeE 72)).setRow w2.heap.size y.enc.toArray):=Sk ((Sq.refl _ _).alloc (Sr _) _) (Sr _) _
   have Ch:w2.heap.size+1≤((w2.alloc (.cells zeE 72)).setRow w2.heap.size y.enc.toArray).heap.size:=by rw [size_setRow];simp
   generalize (w2.alloc (.cells zeE 72)).setRow w2.heap.size y.enc.toArray=W at *
   obtain⟨g,hg⟩:∃ g,g=w2.heap.size:=⟨_,rfl⟩
   rw [←hg] at pW Ch ⊢
   have hgg:w1.heap.size≤g:=by omega
   have tq:y.fits:=(Ev.fits_c y).1 (by rw [fP];exact(Ev.fits_c o).2 M6.out)
   have M7:=h_ (aZ.out.2.2 g w1.heap.size y W (hbw2.trans (hbW.mono (by omega))) (by omega) hgg (Ev.keeps _ _ _ hbW hyl) (fun k h=>⟨hyu k h,by have:=Ev.uses_lt hyl h;omega⟩) (tq.2.2.2.2.2.2.2.1) tq pW (aJ qT hbW) hyp)
   have rW:=(hbW.block w.heap.size (by omega)).trans r2
   have zW:=(hbW.block (w.heap.size+1) (by omega)).trans z2
   have bA:=h_ (hbw2.trans (hbW.mono (by omega)))
   rw [←fP] at HS
   clear hyl hyu qT hyp fP hal hbW hbw2 r2 z2 pW hg M6 tq
   go_wp2_with fail
   refine M7.out.mono ?_
   rintro e w3 ⟨y2,rfl,hok,hb3⟩
   have hs3:=hb3.size
   have r3:=(hb3.block w.heap.size (by omega)).trans rW
   have z3:=(hb3.block (w.heap.size+1) (by omega)).trans zW
   have cN:=bA.out.trans (hb3.mono (show w.heap.size≤w1.heap.size by omega))
   have lM:=h_ hok
   clear M7 hb3 rW zW bA hok
   generalize f y.c=fy at *
   obtain⟨q,c2⟩:=fy
   simp only at HS lM
   by_cases hq:q=0
   · subst hq
     obtain⟨hc2,hl2,hf2,hg2⟩:=lM.out rfl
     have HS2:=h_ (HS.out.trans (if_neg (by intro h;exact h rfl)))
     have hr3:=ai r3
     have hrg:=ai hg2
     have HP:=h_ (tz.out y2 w3 cN hl2 hf2)
     have L0:=h_ cN
     rw [hc2] at HP
     generalize putC d.c c2=pq at *
     obtain⟨pe,pc⟩:=pq
     clear tz aZ bh lM HS r3 hl2 hf2 hg2 cN hc2 hcf
     go_wp2_with (first|(refine aj 27 (.tmp 3) rfl w.heap.size 0 rfl d.enc _ hr3 Tryz.underlying27 rfl ag (by rfl) ?_)|(refine aj 72 (.tmp 9) rfl g 0 rfl y2.enc _ hrg Tryz.underlying72 rfl aX (by rfl) ?_))
     refine HP.out.mono ?_
     rintro e w4 ⟨D,rfl,bo,hDl,bM,hb4⟩
     have hs4:=hb4.size
     have z4:=(hb4.block (w.heap.size+1) (by omega)).trans z3
     have bP:=L0.out.trans (hb4.mono (by omega))
     simp only at bo
     have r9:=Sj w4 (w.heap.size+1) _ D.enc.toArray 27 (0,0) z4
     have HF:=h_ (bF.out (pe,pc) HS2.out 0 D (w4.setRow (w.heap.size+1) D.enc.toArray) ⟨bo,Doc.frame hDl (by rw [size_setRow];exact Sr _) (fun b hb=>aM _ _ _ _ (by have:=bM b hb;omega)),fun b hb=>by have:=bM b hb;omega,Sk bP (by omega) _⟩)
     clear HP bo hDl bM hb4 bP HS2 bF hr3 hrg z3
     go_wp2_with (refine Sh rfl 27 (.tmp 6) (.tmp 32) rfl (w.heap.size+1) (D.enc.toArray) rfl rfl 27 _ z4 ag rfl aO ?_)
     generalize w4.setRow (w.heap.size+1) D.enc.toArray=w9 at *
     clear z4
     go_wp2_with fail
     exact aL Tryz.results29 rfl rfl r9 rfl HF.out
   · have hne:(q != 0)=true:=by simpa using hq
     have HS2:=h_ (HS.out.trans (if_pos hq))
     have HE:=h_ (bh.out (q) HS2.out (w3.setRow (w.heap.size+1) zeD) (Sk cN (by omega) _))
     have z9:=Sj w3 (w.heap.size+1) _ zeD 27 (0,0) z3
     clear bh HS HS2 lM tz aZ bF cN hq hcf
     go_wp2_with (refine Sh rfl 27 (.tmp 6) (.tmp 27) rfl (w.heap.size+1) zeD rfl rfl 27 _ z3 ag rfl aO ?_)
     generalize w3.setRow (w.heap.size+1) zeD=w9 at *
     exact aL Tryz.results29 rfl rfl z9 rfl HE.out
def pC (c:DocC)(w:Si)(e:Ending)(w':Si):Prop:=∃ D:Doc,e=.returned (.agg D.enc.toArray)∧D.c=c∧D.lies w'∧D.fits∧(∀ k,D.uses k→w.heap.size≤k)∧Sq w.heap.size w w'
theorem iy (w:Si)(o:Obj):(w.alloc o).heap[w.heap.size]? =some o∧Sq w.heap.size w (w.alloc o)∧w.heap.size+1≤(w.alloc o).heap.size:=⟨Sp _ _,(Sq.refl _ _).alloc (Sr _) _,by simp⟩
theorem iz (b:Nat)(h:Hs)(w:Si)(H:HsAt b h w):Sn Tryz.prog 9 #[.pointer (some ⟨b,0,none⟩)] w (pC h.doc.c w):=by
 have hdo:=H.docs h.doc (by simp [Hs.docs])
 have hbl:=dW H.at_
 have HB:=h_ (iy w (.cells zeD 27))
 have HAT:=h_ H.at_
 have dq:=h_ (fun(w1:Si) (hb:Sq w.heap.size w w1)=>br h.doc w1 (Doc.later hdo.1 hb) hdo.2.1)
 have pr:=h_ (fun(D:Doc) (e:D.c=h.doc.c)=>bp e hdo.2.1)
 have HQ:=h_ (fun(D:Doc) (w':Si) (h1:D.c=h.doc.c) (h2:D.lies w') (h3:∀ k,D.uses k→w.heap.size≤k) (h4:Sq w.heap.size w w')=>(show pC h.doc.c w (.returned (.agg D.enc.toArray)) w' from⟨D,rfl,h1,h2,pr.out D h1,h3,h4⟩))
 generalize pC h.doc.c w=Q at *
 clear H hdo pr
 go_enter Tryz.func9,Tryz.ntmps9
 go_upto_region 1 with fail
 have z0:=HB.out.1
 have hb0:=HB.out.2.1
 have hs0:=HB.out.2.2
 clear HB
 generalize w.alloc (.cells zeD 27)=W0 at *
 have r0:=(hb0.block b hbl).trans HAT.out
 have hr0:=(aT r0).1
 have HC:=h_ (dq.out W0 hb0)
 have Z0:=h_ z0
 have HB0:=h_ hb0
 clear dq HAT r0 z0 hb0
 go_wp2_with (refine aj 27 (.tmp 8) rfl b 0 rfl h.doc.enc _ hr0 Tryz.underlying27 rfl ag (by rfl) ?_)
 refine HC.out.mono ?_
 rintro e w1 ⟨D,rfl,bo,hDl,bM,hb1,_,_,_⟩
 have hs1:=hb1.size
 have z1:=(hb1.block w.heap.size (by omega)).trans Z0.out
 have aK:=HB0.out.trans (hb1.mono (by omega))
 have r9:=Sj w1 w.heap.size _ D.enc.toArray 27 (0,0) z1
 have HF:=h_ (HQ.out D (w1.setRow w.heap.size D.enc.toArray) bo (Doc.frame hDl (by rw [size_setRow];exact Sr _) (fun b hb=>aM _ _ _ _ (by have:=bM b hb;omega))) (fun b hb=>by have:=bM b hb;omega) (Sk aK (Sr _) _))
 clear HC hr0 Z0 HB0 bo hDl bM hb1 aK HQ
 go_wp2_with (refine Sh rfl 27 (.tmp 2) (.tmp 10) rfl (w.heap.size) (D.enc.toArray) rfl rfl 27 _ z1 ag rfl aO ?_)
 generalize w1.setRow w.heap.size D.enc.toArray=w9 at *
 obtain⟨dt,dl,dr,dd,dla,dra,drc,dregs,dea,dec,devs,dca,dcc,dcms⟩:=D
 simp only [Doc.enc] at r9 HF
 have fin4:∀ j,w9.cell? ⟨w.heap.size,j,none⟩=_:=fun j=>Sl _ _ j _ 27 (0,0) r9
 refine Sm (v:=.agg #[.string dt,.string dl,.int .u8 dr,.bool dd,.int .i64 dla,.slice dra dregs.length drc,.slice dea devs.length dec,.slice dca dcms.length dcc]) (by simp [results,Tryz.results9,go_sem,fin4]) rfl ?_
 exact HF.out
theorem Bq (w:Si):Sn Tryz.prog 9 #[.pointer none] w (pC aV w):=by
 have HB:=h_ (iy w (.cells zeD 27))
 have HQ:=h_ (fun(w':Si) (h4:Sq w.heap.size w w')=>(show pC aV w (.returned (.agg zeD)) w' from⟨zDoc,rfl,rfl,jX w',(yP 4000000).doc (Sr _),fun b=>jW b _,h4⟩))
 generalize pC aV w=Q at *
 go_enter Tryz.func9,Tryz.ntmps9
 go_upto_region 1 with fail
 have z0:=HB.out.1
 have hb0:=HB.out.2.1
 clear HB
 generalize w.alloc (.cells zeD 27)=W0 at *
 have r9:=Sj W0 w.heap.size _ zeD 27 (0,0) z0
 have HF:=h_ (HQ.out (W0.setRow w.heap.size zeD) (Sk hb0 (Sr _) _))
 clear HQ hb0
 go_wp2_with (refine Sh rfl 27 (.tmp 2) (.tmp 5) rfl (w.heap.size) zeD rfl rfl 27 _ z0 ag rfl aO ?_)
 generalize W0.setRow w.heap.size zeD=w9 at *
 have fin4:∀ j,w9.cell? ⟨w.heap.size,j,none⟩=_:=fun j=>Sl _ _ j _ 27 (0,0) r9
 refine Sm (v:=.agg zeD) (by simp [results,Tryz.results9,go_sem,fin4]) rfl ?_
 exact HF.out
theorem fA (b:Nat)(h:Hs)(w:Si)(H:HsAt b h w):Sn Tryz.prog 10 #[.pointer (some ⟨b,0,none⟩)] w fun e w'=>e=.returned (.tuple #[.int .i64 h.undo.length,.int .i64 h.redo.length])∧Sq w.heap.size w w':=by
 have hbl:=dW H.at_
 have HV:=h_ (fun(w':Si) (hb:Sq w.heap.size w w')=>(show w'.cell? ⟨b,16,none⟩=some (.slice h.ua h.undo.length h.uc)∧w'.cell? ⟨b,17,none⟩=some (.slice h.ra h.redo.length h.rc) from(aT ((hb.block b hbl).trans H.at_)).2.2))
 clear H
 obtain⟨xF,NC,ua,uc,hun,ra,rc,hre⟩:=h
 simp only at HV ⊢
 generalize hun.length=un at *
 generalize hre.length=rn at *
 have hd0:Sq w.heap.size w w.drew:=(Sq.refl _ _).drew
 go_enter Tryz.func10,Tryz.ntmps10
 go_upto_region 3 with fail
 refine wp_region_held_drew (S:=fun w'=>Sq w.heap.size w w') (by kernel_rfl) hd0 (fun _=>?_)
 generalize w.drew=v0 at *
 refine ab 0 (.pointer (some ⟨b,0,none⟩)) hd0 ?_
 refine ab 1 (.pointer (some ⟨b,0,none⟩)) hd0 ?_
 refine ab 2 (.pointer (some ⟨b,16,none⟩)) hd0 ?_
 refine ab 3 (.slice ua un uc) hd0 ?_ (hy:=.inl ⟨by rfl,fun w_ aH=>by have q_:=HV.out w_ aH;obtain⟨q1,q2⟩:=q_;go_simp⟩)
 refine ab 4 (.int .i64 un) hd0 ?_
 refine ab 5 (.pointer (some ⟨b,0,none⟩)) hd0 ?_
 refine ab 6 (.pointer (some ⟨b,0,none⟩)) hd0 ?_
 refine ab 7 (.pointer (some ⟨b,17,none⟩)) hd0 ?_
 refine ab 8 (.slice ra rn rc) hd0 ?_ (hy:=.inl ⟨by rfl,fun w_ aH=>by have q_:=HV.out w_ aH;obtain⟨q1,q2⟩:=q_;go_simp⟩)
 refine ab 9 (.int .i64 rn) hd0 ?_
 refine ab 10 (.int .i64 un) hd0 ?_
 refine ab 11 (.int .i64 rn) hd0 ?_
 refine wpAnyH_done (by kernel_rfl) ?_ _
 go_wp2_with fail
 refine Sm (v:=.tuple #[.int .i64 un,.int .i64 rn]) (by simp [results,Tryz.results10,go_sem]) rfl ?_
 exact⟨rfl,hd0⟩
theorem yE (w:Si):Sn Tryz.prog 10 #[.pointer none] w fun e w'=>e=.returned (.tuple #[.int .i64 0,.int .i64 0])∧w'=w:=by
 go_enter Tryz.func10,Tryz.ntmps10
 go_wp2_with fail
 refine Sm (v:=.tuple #[.int .i64 0,.int .i64 0]) (by simp [results,Tryz.results10,go_sem]) rfl ?_
 exact⟨rfl,rfl⟩
theorem Dl (b:Nat)(h:Hs)(w:Si)(H:HsAt b h w):Sn Tryz.prog 22 #[.pointer (some ⟨b,0,none⟩)] w fun e w'=>e=.returned (.int .i64 0)∧fp (BF h.c) b h w w':=by
 have hdo:=H.docs h.doc (by simp [Hs.docs])
 have hbl:=dW H.at_
 have r0:=H.at_
 have hr0:=(aT r0).1
 have HC:=h_ (br h.doc w hdo.1 hdo.2.1)
 have pr:=h_ (fun(D:Doc) (e:D.c=h.doc.c)=>bp e hdo.2.1)
 have HH:=h_ H
 have HQ:=h_ (fun(w':Si) (hp:fp (BF h.c) b h w w')=>(show(fun(e:Ending) (w':Si)=>e=.returned (.int .i64 0)∧fp (BF h.c) b h w w') (.returned (.int .i64 0)) w' from⟨rfl,hp⟩))
 generalize (fun(e:Ending) (w':Si)=>e=.returned (.int .i64 0)∧fp (BF h.c) b h w w')=Q at *
 clear H hdo r0
 go_enter Tryz.func22,Tryz.ntmps22
 go_wp2_with (refine aj 27 (.tmp 8) rfl b 0 rfl h.doc.enc _ hr0 Tryz.underlying27 rfl ag (by rfl) ?_)
 refine HC.out.mono ?_
 rintro e w1 ⟨D,rfl,bo,hDl,bM,hb1,_,_,_⟩
 have hs1:=hb1.size
 have r1:=(hb1.block b hbl).trans HH.out.at_
 have hth:=j_ (o:=8) r1 (by omega)
 have hone:=km D
 have r2:=Eu r1 D
 have hk:Kept (h.own b) w (w1.setCells b 8 D.enc):=eL (.inl rfl) _ _ (Kept.of_below hb1)
 have hk2:Kept (fun k=>k=b) w1 (w1.setCells b 8 D.enc):=eL (S:=fun k=>k=b) rfl _ _ (Kept.refl _ _)
 have HP:=h_ (HQ.out (w1.setCells b 8 D.enc) ⟨{ h with saved:=D },HH.out.next hk r2 (aB HH.out.undo fun k e=>(hk2.block k (by have:=(HH.out.undo.lt k e).2;omega) (HH.out.ub k e).1).trans (hb1.block k (HH.out.undo.lt k e).2)) (aB HH.out.redo fun k e=>(hk2.block k (by have:=(HH.out.redo.lt k e).2;omega) (fun e2=>HH.out.rb (e2▸e))).trans (hb1.block k (HH.out.redo.lt k e).2)) HH.out.ub HH.out.rb (fun k hk=>.inl hk) (fun d hd=>by
  rcases Ss.1 hd with h1|h1
  · exact .inl (by simp [Hs.docs,h1])
  · rcases Ss.1 h1 with h2|h2
    · refine .inr ⟨by rw [h2];exact Doc.frame hDl hk2.size fun k hu=>hk2.block k (Doc.uses_lt hDl hu) (by have:=bM k hu;omega),by rw [h2];exact pr.out D bo,fun k hu ho=>?_⟩
      rw [h2] at hu
      have:=bM k hu
      have:=HH.out.lt (k:=k) ho
      omega
    · exact .inl (by simp only [Hs.docs,Ss];exact .inr (.inr h2))),by show(⟨_,D.c,_,_⟩:HsC)=_;rw [bo];rfl,⟨fun k hk=>.inl hk,fun d hd=>by
  rcases Ss.1 hd with h1|h1
  · exact .inl (by simp [Hs.docs,h1])
  · rcases Ss.1 h1 with h2|h2
    · exact .inr (by rw [h2];exact bM)
    · exact .inl (by simp only [Hs.docs,Ss];exact .inr (.inr h2))⟩,hk⟩)
 clear HC pr HQ HH bo hDl bM hb1 hk hk2 hr0 r2
 go_wp2_with (refine wpList_store_mid rfl 27 (.tmp 12) (.tmp 10) rfl b 8 D.enc.toArray rfl rfl hth ag hone ?_)
 exact HP.out
theorem Ae (w:Si):Sn Tryz.prog 22 #[.pointer none] w fun e w'=>e=.returned (.int .i64 1)∧w'=w:=by
 go_enter Tryz.func22,Tryz.ntmps22
 go_wp2_with fail
 go_ret
 exact⟨rfl,rfl⟩
end Go.Proofs.YtjebaagkomejaaaGreatDoor
