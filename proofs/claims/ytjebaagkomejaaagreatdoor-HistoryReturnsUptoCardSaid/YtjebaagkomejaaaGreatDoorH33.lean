/- comment.Remove: a document without a comment. edit.join: a document with two events joined. edit.Apply: an event changed by one of its functions. edit.restyled: characters of a row of an event in another style, given its change. -/
import Derived.Test.YtjebaagkomejaaaGreatDoorH31
import Derived.Test.YtjebaagkomejaaaGreatDoorH25
set_option linter.unusedVariables false
set_option linter.unusedSimpArgs false
set_option maxRecDepth 100000
set_option maxHeartbeats 12800000
open Go.Lib renaming hid→h_
open List renaming setIfInBounds_toArray→YA,getElem_cons_zero→YB,getElem_cons_succ→YC,getElem_toArray→YD,set_cons_zero→YE,set_cons_succ→YF
open Array renaming toArray_toList→YG
open Go renaming wpList_store_row→Sh,setRow_heap→Si,below_setRow→Sj,cell_of_row→Sk,World→Sl,yieldsIf_load_mid→Sm,heap_alloc_last→Sn,wp_region_held_drew→Sp
open Go.RowKit renaming Below→Sq
open Nat renaming le_refl→Sr
open Go.RowKit.Below renaming refl→Ss
open And renaming intro→St
open List renaming getElem?_eq_some_iff→Su,mem_of_getElem?→Sv
namespace Go.Proofs.YtjebaagkomejaaaGreatDoor
open Go.RowKit
theorem ou (d:Doc)(id:Int)(w:Sl)(hE:Env w)(hd:d.lies w)(hf:d.fits):Calls Tryz.prog 44 #[.agg d.enc.toArray,.int .i64 id] w (aS (bY d.c id) w):=by
 have ew:=h_ (fun(w1:Sl) (h:Sq w.heap.size w w1)=>lI d id w1 (hE.below h (Sr _)) (Doc.later hd h) hf)
 have dq:=h_ (fun(w1:Sl) (h:Sq w.heap.size w w1)=>br d w1 (Doc.later hd h) hf)
 have bh:=h_ (fun(q:Int) (hq:bY d.c id=(q,aV)) (w':Sl) (h:Sq w.heap.size w w')=>(show aS (bY d.c id) w (.returned (.tuple #[.agg zeD,.int .i64 q])) w' from hq▸aS.zero q h))
 have cP:=h_ (fun(d':Doc) (h:d'.c=d.c)=>bp h hf)
 have cQ:=h_ (oT w d.enc.toArray zeD)
 have hb2:∀ o1 o2:Obj,Sq w.heap.size w ((w.alloc o1).alloc o2):=fun o1 o2=>((Ss _ _).alloc (Sr _) _).alloc (by simp) _
 have hsz2:∀ o1 o2:Obj,((w.alloc o1).alloc o2).heap.size=w.heap.size+2:=fun o1 o2=>by simp
 have aZ:=h_ (St hd hf)
 have bF:=h_ (fun(h:bJ d.c id≠0)=>sU h)
 have kD:=h_ (fun(h:bJ d.c id=0)=>vX h)
 have jU:=h_ (fun(j:Nat) (x:Cm) (h0:cErr d.c=0) (hx:d.cM[j]? =some x) (h:cR d.cM id=some x)=>(show bY d.c id=_ from uV h0 hx h))
 generalize hR:bY d.c id=R at *
 generalize hQ:aS R w=Q at bh ⊢
 clear hd hf hE aZ
 generalize bJ d.c id=FE at *
 generalize gA d.c id=FI at *
 go_enter Tryz.func44,Tryz.ntmps44
 have hr0:=ai cQ.out.1
 go_wp2_with (refine aj 27 (.tmp 2) rfl w.heap.size 0 rfl d.enc _ hr0 Tryz.underlying27 rfl ag (by rfl) ?_)
 refine(ew.out _ (hb2 _ _)).mono ?_
 rintro e w2 ⟨rfl,hb1⟩
 rw [hsz2] at hb1
 have hbw2:Sq w.heap.size w w2:=(hb2 _ _).trans (hb1.mono (by omega))
 have r2:=(hb1.block w.heap.size (by omega)).trans cQ.out.1
 have z2:=(hb1.block (w.heap.size+1) (by omega)).trans cQ.out.2
 have hs2:w.heap.size+2≤w2.heap.size:=by have:=hb1.size;rw [hsz2] at this;exact this
 clear hb1 hr0 ew cQ hb2 hsz2
 have hr2:=ai r2
 have R2:=h_ r2
 have Z2:=h_ z2
 clear r2 z2
 by_cases h0:FE=0
 · subst h0
   obtain⟨hc0,j,x,rfl,hx,hfx⟩:=kD.out rfl
   have hx1:d.cM[j]? =some x:=hx
   have hjd:j<d.cM.length:=(Su.1 hx1).1
   have nR:=h_ (jU.out j x hc0 hx1 hfx)
   have hj0:(0:Int)≤(j:Int):=by omega
   clear bF kD jU hx hfx hc0 hx1 bh
   go_wp2_with (refine aj 27 (.tmp 2) rfl w.heap.size 0 rfl d.enc _ hr2 Tryz.underlying27 rfl ag (by rfl) ?_)
   refine(dq.out w2 hbw2).mono ?_
   rintro e w4 ⟨d',rfl,hc',hl',hu',hb4,hap,hoe,hoc⟩
   have eu:=cP.out d' hc'
   have bP:Sq w.heap.size w w4:=hbw2.trans (hb4.mono hbw2.size)
   have r4:=(hb4.block w.heap.size (by omega)).trans R2.out
   have z4:=(hb4.block (w.heap.size+1) (by omega)).trans Z2.out
   have hs4:w2.heap.size≤w4.heap.size:=hb4.size
   clear hr2 R2 Z2 dq hbw2 cP hb4
   go_upto_region 5 with(refine Sh rfl 27 (.tmp 2) (.tmp 19) rfl (w.heap.size) (d'.enc.toArray) rfl rfl 27 _ r4 ag rfl aO ?_)
   have hk5:Kept (fun b=>b=w.heap.size) w4 (w4.setRow w.heap.size d'.enc.toArray):=bj w4 w.heap.size d'.enc.toArray
   have r5:=Si w4 w.heap.size _ d'.enc.toArray 27 (0,0) r4
   generalize w4.setRow w.heap.size d'.enc.toArray=w5 at *
   have hs5:=hk5.size
   have hl5:d'.lies w5:=Doc.frame hl' hs5 fun b hb=>hk5.block b (Doc.uses_lt hl' hb) (by have:=hu' b hb;omega)
   have oe5:=aB hoe fun b q=>hk5.block b (hoe.lt b q).2 (by have:=(hoe.lt b q).1;omega)
   have oc5:=aB hoc fun b q=>hk5.block b (hoc.lt b q).2 (by have:=(hoc.lt b q).1;omega)
   have z5:=(hk5.block (w.heap.size+1) (by omega) (by omega)).trans z4
   have hb5:Sq w.heap.size w w5:=bP.trans (hk5.below (by omega) fun k hk e=>by omega)
   clear hl' r4 z4 hk5 hoe hoc bP
   have hcm:d'.cM=d.cM:=congrArg DocC.cM hc'
   have uH:j<d'.cM.length:=by rw [hcm];exact hjd
   have hlc:d'.cM.length≤4000000:=eu.2.2.2.2.2.2.2.2.2.2
   have hne:d'.cM≠[]:=fun e=>by rw [e] at uH;simp at uH
   obtain⟨cb,cap,he⟩:=dw oc5 (by omega)
   have he1:d'.ca=some ⟨cb,0,none⟩∧d'.cc=cap:=by simp only [Value.slice.injEq] at he;exact⟨he.1,he.2.2⟩
   rw [he] at oc5
   have hcb:=oc5.lt cb rfl
   have hcap:d'.cM.length≤cap:=by
    rcases oc5.2 with⟨h0,_⟩|⟨g',cap',cur,h0,_,_,hnc,_⟩
    · simp at h0
    · simp only [Value.slice.injEq] at h0
      obtain⟨_,_,rfl⟩:=h0
      exact hnc
   have tm:=h_ (uT w2.heap.size cb cap j d'.cM w5 oc5 uH hlc)
   have c7:w5.cell? ⟨w.heap.size,7,none⟩=some (.slice (some ⟨cb,0,none⟩) d'.cM.length cap):=by
    rw [←he];exact Sk _ _ 7 _ 27 (0,0) r5
   have f6:∀ w':Sl,Kept (fun b=>b=cb) w5 w'→(∀ j,w'.frozen? ⟨w.heap.size,j,none⟩=false)∧w'.heap[w.heap.size]? =some (.cells d'.enc.toArray 27 (0,0)):=fun w' h=>by
    have hb:=(h.block w.heap.size (by omega) (by omega)).trans r5
    exact⟨fun j=>by simp [Sl.frozen?,hb],hb⟩
   obtain⟨D2,hD2⟩:∃ D2:Doc,D2={ d' with cc:=cap,cM:=bI d'.cM j }:=⟨_,rfl⟩
   have fZ:=h_ (show d'.enc.toArray.setIfInBounds 7 (.slice (some ⟨cb,0,none⟩) (d'.cM.length-1) cap)=D2.enc.toArray from by
    rw [hD2];simp [Doc.enc,he1.1,jl _ _ uH])
   have lQ:=h_ (show D2.c={ d.c with cM:=bI d.cM j } from by
    rw [hD2,←hc',←hcm];rfl)
   have f_:=h_ (fun(w6 w9:Sl) hS k6 k9=>(show D2.lies w9∧∀ b,D2.uses b→w2.heap.size≤b from hD2▸Dq (cap:=cap) hl5 hu' hap he1.1 hne (w6:=w6) (w9:=w9) (ys:=bI d'.cM j) hS k6 k9))
   have iL:=h_ hb5
   have Z5:=h_ z5
   have Ce:w.heap.size+2≤w5.heap.size:=by omega
   have KR:(d'.cM.length:Int)≤4000000:=by omega
   clear hl5 oe5 oc5 z5 hb5 hap eu hu' hs4 hs5 r5 he hD2 hc' hcm hjd
   go_wp2_with fail
   refine tm.out.mono ?_
   rintro e w6 ⟨rfl,xL,_,ts⟩
   have ⟨fz6,b6⟩:=f6 w6 ts
   have c6':∀ j,w6.cell? ⟨w.heap.size,j,none⟩=_:=fun j=>Sk _ _ j _ 27 (0,0) b6
   have Dt:=h_ xL
   have jr:=h_ ts
   have B6:=h_ b6
   clear tm f6 c7 xL ts b6
   go_upto_region 6 with fail
   have b7:=heap_setCell_same w6 w.heap.size 7 _ 27 (.slice (some ⟨cb,0,none⟩) (d'.cM.length-1) cap) B6.out
   rw [fZ.out] at b7
   have iA:Kept (fun b=>b=w.heap.size) w6 (w6.setCell ⟨w.heap.size,7,none⟩ (.slice (some ⟨cb,0,none⟩) (d'.cM.length-1) cap)):=bH (Kept.refl _ _) 7 _
   generalize w6.setCell ⟨w.heap.size,7,none⟩ (.slice (some ⟨cb,0,none⟩) (d'.cM.length-1) cap)=w7 at *
   clear c6' fz6 fZ B6
   have hs6:=jr.out.size
   have hs7:=iA.size
   have nN:=ai b7
   have z8:=(iA.block (w.heap.size+1) (by omega) (by omega)).trans ((jr.out.block (w.heap.size+1) (by omega) (by omega)).trans Z5.out)
   have r9:=Si w7 (w.heap.size+1) _ D2.enc.toArray 27 (0,0) z8
   have fh:Kept (fun b=>b=w.heap.size+1) w7 (w7.setRow (w.heap.size+1) D2.enc.toArray):=bj _ _ _
   have kZ:=h_ (f_.out w6 (w7.setRow (w.heap.size+1) D2.enc.toArray) Dt.out jr.out ((iA.mono fun i _ e=>by omega).trans fh fun i _ e=>by omega))
   have pz:=h_ (show Sq w.heap.size w (w7.setRow (w.heap.size+1) D2.enc.toArray) from((iL.out.trans (jr.out.below (by omega) fun b hb e=>by omega)).trans (iA.below (by omega) fun b hb e=>by omega)).trans (fh.below (by omega) fun b hb e=>by omega))
   clear f_ Dt jr iL Z5 iA fh hs6 hs7 b7
   go_wp2_with (first|(refine aj 27 (.tmp 2) rfl w.heap.size 0 rfl D2.enc _ nN Tryz.underlying27 rfl ag (by rfl) ?_)|(refine Sh rfl 27 (.tmp 4) (.tmp 27) rfl (w.heap.size+1) (D2.enc.toArray) rfl rfl 27 _ z8 ag rfl aO ?_))
   generalize w7.setRow (w.heap.size+1) D2.enc.toArray=w9 at *
   have yq:=h_ (show Q (.returned (.tuple #[.agg D2.enc.toArray,.int .i64 0])) w9 from by
    rw [←hQ,nR.out]
    exact⟨D2,rfl,lQ.out,kZ.out.1,fun b hb=>Nat.le_trans (by omega) (kZ.out.2 b hb),pz.out⟩)
   clear kZ pz nR lQ
   exact aL Tryz.results44 rfl rfl r9 rfl yq.out
 · have hne:(FE != 0)=true:=by simpa using h0
   have HE:=h_ (bh.out (FE) (bF.out h0) (w2.setRow (w.heap.size+1) zeD) (Sj hbw2 (by omega) _))
   have z9:=Si w2 (w.heap.size+1) _ zeD 27 (0,0) Z2.out
   clear bF kD jU cP dq bh hr2
   go_wp2_with (refine Sh rfl 27 (.tmp 4) (.tmp 16) rfl (w.heap.size+1) zeD rfl rfl 27 _ Z2.out ag rfl aO ?_)
   generalize w2.setRow (w.heap.size+1) zeD=w9 at *
   exact aL Tryz.results44 rfl rfl z9 rfl HE.out
theorem uo (d:Doc)(x:Ed)(w:Sl)(hE:Env w)(hd:d.lies w)(hf:d.fits):Calls Tryz.prog 40 #[.agg d.enc.toArray,.agg x.enc.toArray] w (aS (gZ d.c x.c) w):=by
 have ew:=h_ (fun(k:Int) (w1:Sl) (h:Sq w.heap.size w w1)=>cU d k w1 (Doc.later hd h).2.1 hf.2.2.2.2.2.2.2.2.1)
 have aZ:=h_ (St hE (St hd hf))
 have Fw:=h_ (gj d x.id)
 have Fv:=h_ (gj d x.other)
 have bh:=h_ (fun(q:Int) (hq:gZ d.c x.c=(q,aV)) (w':Sl) (h:Sq w.heap.size w w')=>(show aS (gZ d.c x.c) w (.returned (.tuple #[.agg zeD,.int .i64 q])) w' from by rw [hq];exact aS.zero q h))
 have C6:=h_ (fun(h:aU d.c.eV x.id=none)=>(show gZ d.c x.c=(6,aV) from by
  have h':aU d.c.eV x.c.id=none:=h
  unfold gZ;rw [h']))
 have yL:=h_ (fun(h:aU d.c.eV x.other=none)=>(show gZ d.c x.c=(6,aV) from by
  have h':aU d.c.eV x.c.other=none:=h
  unfold gZ;rw [h'];cases aU d.c.eV x.c.id<;>rfl))
 have pn:=h_ (fun(a b:EvC) (h:aU d.c.eV x.id=some a) (h2:aU d.c.eV x.other=some b)=>(show gZ d.c x.c=if x.id=x.other then (1,aV) else if bS a b≠0 then (bS a b,aV)
  else if (bx d.c x.other).1≠0 then ((bx d.c x.other).1,aV) else putC (bx d.c x.other).2 (nZ a b) from by
  have h':aU d.c.eV x.c.id=some a:=h
  have h2':aU d.c.eV x.c.other=some b:=h2
  unfold gZ;rw [h',h2'];rfl))
 have bF:=h_ (fun(r:Int × DocC) (hr:gZ d.c x.c=r) (D:Doc) (w':Sl) (h:D.c=r.2∧D.lies w'∧(∀ b,D.uses b→w.heap.size≤b)∧Sq w.heap.size w w')=>(show aS (gZ d.c x.c) w (.returned (.tuple #[.agg D.enc.toArray,.int .i64 r.1])) w' from⟨D,by rw [hr],by rw [hr];exact h.1,h.2.1,h.2.2.1,h.2.2.2⟩))
 have jV:=h_ (box3 w d.enc.toArray x.enc.toArray zeD 27 40 27)
 have hb3:∀ o1 o2 o3:Obj,Sq w.heap.size w (((w.alloc o1).alloc o2).alloc o3):=fun o1 o2 o3=>(((Ss _ _).alloc (Sr _) _).alloc (by simp) _).alloc (by simp;try omega) _
 have db:∀ o1 o2 o3:Obj,w.heap.size+3≤(((w.alloc o1).alloc o2).alloc o3).heap.size:=fun o1 o2 o3=>by simp
 generalize hQ:aS (gZ d.c x.c) w=Q at *
 clear hd hf hE
 go_enter Tryz.func40,Tryz.ntmps40
 go_upto_region 1 with fail
 have h0:=jV.out.1
 have h1:=jV.out.2.1
 have h2:=jV.out.2.2
 have hbw:=hb3 (.cells d.enc.toArray 27) (.cells x.enc.toArray 40) (.cells zeD 27)
 have hsz:=db (.cells d.enc.toArray 27) (.cells x.enc.toArray 40) (.cells zeD 27)
 clear jV hb3 db
 generalize ((w.alloc (.cells d.enc.toArray 27)).alloc (.cells x.enc.toArray 40)).alloc (.cells zeD 27)=W0 at *
 have H0:=h_ h0
 have H1:=h_ h1
 have H2:=h_ h2
 have bA:=h_ hbw
 clear h0 h1 h2 hbw
 have jq:=h_ (St Fw.out Fv.out)
 generalize Le:posOf (iB x.id) d.eV=FI at *
 generalize Ld:posOf (iB x.other) d.eV=FJ at *
 go_cut [6,7] from 10 to 17 (fun a b wx=>a=.int .i64 FI∧b=.int .i64 FJ∧Sq W0.heap.size W0 wx)
 case first =>
  have hd0:Sq W0.heap.size W0 W0.drew:=(Ss _ _).drew
  have jo:=h_ (fun(w':Sl) (h:Sq W0.heap.size W0 w')=>(show w'.rangeAt (w.heap.size) 0 d.enc∧w'.cell? ⟨w.heap.size+1,1,none⟩=some (.int .i64 x.id)∧w'.cell? ⟨w.heap.size+1,2,none⟩=some (.int .i64 x.other) from
   ⟨ai ((h.block _ (by omega)).trans H0.out),Sk _ _ 1 _ 40 (0,0) ((h.block _ (by omega)).trans H1.out),Sk _ _ 2 _ 40 (0,0) ((h.block _ (by omega)).trans H1.out)⟩))
  have tB:=h_ (fun(w':Sl) (h:Sq W0.heap.size W0 w')=>Le▸ew.out x.id w' (bA.out.trans (h.mono (by omega))))
  have Da:=h_ (fun(w':Sl) (h:Sq W0.heap.size W0 w')=>Ld▸ew.out x.other w' (bA.out.trans (h.mono (by omega))))
  clear ew aZ Fw Fv bh C6 yL pn H0 H1 H2 bA jq hQ Le Ld
  refine Sp (S:=fun w'=>Sq W0.heap.size W0 w') (by kernel_rfl) hd0 (fun _=>?_)
  generalize W0.drew=v0 at *
  refine ab 0 (.agg d.enc.toArray) hd0 ?_ (hy:=Sm (by rfl) 27 (.tmp 2) rfl (w.heap.size) 0 rfl d.enc _ (fun w_ h_=>(jo.out w_ h_).1) Tryz.underlying27 rfl ag)
  refine ab 1 (.pointer (some ⟨w.heap.size+1,1,none⟩)) hd0 ?_
  refine ab 2 (.int .i64 x.id) hd0 ?_ (hy:=.inl ⟨by rfl,fun w_ aH=>by have q_:=(jo.out w_ aH).2.1;go_simp⟩)
  refine ab 4 (.agg d.enc.toArray) hd0 ?_ (hy:=Sm (by rfl) 27 (.tmp 2) rfl (w.heap.size) 0 rfl d.enc _ (fun w_ h_=>(jo.out w_ h_).1) Tryz.underlying27 rfl ag)
  refine ab 5 (.pointer (some ⟨w.heap.size+1,2,none⟩)) hd0 ?_
  refine ab 6 (.int .i64 x.other) hd0 ?_ (hy:=.inl ⟨by rfl,fun w_ aH=>by have q_:=(jo.out w_ aH).2.2;go_simp⟩)
  refine aq 3 (fun K hK=>?_)
  go_simp
  refine(tB.out _ hd0).mono ?_
  rintro e_ v1 ⟨rfl,ar⟩
  have hv1:Sq W0.heap.size W0 v1:=ak hd0 ar
  clear ar
  go_wp2_with fail
  refine goOn hK hv1 ?_
  clear hK
  refine aq 7 (fun K hK=>?_)
  go_simp
  refine(Da.out _ hv1).mono ?_
  rintro e_ v2 ⟨rfl,ar⟩
  have hv2:Sq W0.heap.size W0 v2:=ak hv1 ar
  clear ar
  go_wp2_with fail
  refine goOn hK hv2 ?_
  clear hK
  refine ab 8 (.int .i64 FI) hv2 ?_
  refine ab 9 (.int .i64 FJ) hv2 ?_
  refine wpAnyH_done (by kernel_rfl) ?_ _
  go_wp2_with fail
  go_meet
  exact⟨rfl,rfl,hv2⟩
 case rest =>
  obtain⟨rfl,rfl,hbc⟩:=hcut
  obtain⟨w1,hw1⟩:∃ x,x=wc:=⟨_,rfl⟩
  subst hw1
  have hs1:=hbc.size
  have z0:=(hbc.block (w.heap.size) (by omega)).trans H0.out
  have z1:=(hbc.block (w.heap.size+1) (by omega)).trans H1.out
  have z2:=(hbc.block (w.heap.size+1+1) (by omega)).trans H2.out
  have aK:=bA.out.trans (hbc.mono (by omega))
  clear hbc H0 H1 H2 bA ew Le Ld Fw Fv
  rcases jq.out.1 with⟨hp,hn⟩|⟨i,a,hp,hi,hn⟩
  · subst hp
    have wy:=h_ (C6.out hn)
    clear jq C6 yL pn aZ hn
    have HE:=h_ (bh.out (6) wy.out (w1.setRow (w.heap.size+1+1) zeD) (Sj aK (by omega) _))
    have z9:=Si w1 (w.heap.size+1+1) _ zeD 27 (0,0) z2
    clear bh wy aK z0 z1
    go_wp2_with (refine Sh rfl 27 (.tmp 4) (.tmp 25) rfl (w.heap.size+1+1) zeD rfl rfl 27 _ z2 ag rfl aO ?_)
    generalize w1.setRow (w.heap.size+1+1) zeD=w9 at *
    exact aL Tryz.results40 rfl rfl z9 rfl HE.out
  · rcases jq.out.2 with⟨hp2,hn2⟩|⟨j,b,hp2,hj,hn2⟩
    · subst hp2
      subst hp
      have hi0:(0:Int)≤(i:Int):=by omega
      have wy:=h_ (yL.out hn2)
      clear jq C6 yL pn aZ hn hn2 hi
      have HE:=h_ (bh.out (6) wy.out (w1.setRow (w.heap.size+1+1) zeD) (Sj aK (by omega) _))
      have z9:=Si w1 (w.heap.size+1+1) _ zeD 27 (0,0) z2
      clear bh wy aK z0 z1
      go_wp2_with (refine Sh rfl 27 (.tmp 4) (.tmp 25) rfl (w.heap.size+1+1) zeD rfl rfl 27 _ z2 ag rfl aO ?_)
      generalize w1.setRow (w.heap.size+1+1) zeD=w9 at *
      exact aL Tryz.results40 rfl rfl z9 rfl HE.out
    · subst hp2
      subst hp
      have hi0:(0:Int)≤(i:Int):=by omega
      have hj0:(0:Int)≤(j:Int):=by omega
      have HS:=h_ (pn.out a.c b.c hn hn2)
      have cid:w1.cell? ⟨w.heap.size+1,1,none⟩=some (.int .i64 x.id):=Sk _ _ 1 _ 40 (0,0) z1
      have cot:w1.cell? ⟨w.heap.size+1,2,none⟩=some (.int .i64 x.other):=Sk _ _ 2 _ 40 (0,0) z1
      clear jq C6 yL pn hn hn2
      by_cases heq:x.id=x.other
      · have heq':(x.id==x.other)=true:=by simpa using heq
        have pt:=h_ (HS.out.trans (if_pos heq))
        clear HS heq aZ hi hj
        have HE:=h_ (bh.out (1) pt.out (w1.setRow (w.heap.size+1+1) zeD) (Sj aK (by omega) _))
        have z9:=Si w1 (w.heap.size+1+1) _ zeD 27 (0,0) z2
        clear bh pt aK z0 z1
        go_wp2_with (refine Sh rfl 27 (.tmp 4) (.tmp 32) rfl (w.heap.size+1+1) zeD rfl rfl 27 _ z2 ag rfl aO ?_)
        generalize w1.setRow (w.heap.size+1+1) zeD=w9 at *
        exact aL Tryz.results40 rfl rfl z9 rfl HE.out
      · have heq':(x.id==x.other)=false:=by simpa using heq
        have HS2:=h_ (HS.out.trans (if_neg heq))
        clear HS heq
        go_upto_region 6 with fail
        have hld:=Doc.later aZ.out.2.1 aK
        have hil:i<d.eV.length:=(Su.1 hi).1
        have hjl:j<d.eV.length:=(Su.1 hj).1
        have hle:d.eV.length≤4000000:=aZ.out.2.2.2.2.2.2.2.2.2.2.1
        have hfa:a.fits:=aZ.out.2.2.2.2.2.2.2.2.2.1 a (Sv hi)
        have kQ:b.fits:=aZ.out.2.2.2.2.2.2.2.2.2.1 b (Sv hj)
        obtain⟨b0,off,a',qW,hb0,hxa,ob,hal⟩:=ah.at_ hld.2.1 hil
        rw [hi] at hxa
        obtain rfl:=Option.some.inj hxa
        obtain⟨b0',off',b',ET,N_,hxb,hcb,hbl⟩:=ah.at_ hld.2.1 hjl
        rw [hj] at hxb
        obtain rfl:=Option.some.inj hxb
        rw [qW] at ET
        simp only [Option.some.injEq,Addr.mk.injEq,and_true] at ET
        obtain⟨rfl,rfl⟩:=ET
        have tv:=h_ (fun(w':Sl) (h:Sq w1.heap.size w1 w')=>(show w'.cell? ⟨w.heap.size,6,none⟩=some (.slice (some ⟨b0,off,none⟩) d.eV.length d.ec)∧w'.rangeAt b0 (off+i*7) a.enc∧w'.rangeAt b0 (off+j*7) b.enc from
         ⟨by rw [←qW];exact Sk _ _ 6 _ 27 (0,0) ((h.block w.heap.size (by omega)).trans z0),fun q v hv=>(h.cell (p:=⟨b0,off+i*7+q,none⟩) hb0).trans (ob q v hv),fun q v hv=>(h.cell (p:=⟨b0,off+j*7+q,none⟩) hb0).trans (hcb q v hv)⟩))
        have LI:=h_ (fun(w':Sl) (h:Sq w1.heap.size w1 w')=>xo a b w' (Ev.keeps _ _ _ h hal) (Ev.keeps _ _ _ h hbl) hfa kQ)
        have nJ:=h_ (St hfa kQ)
        have Z0:=h_ z0
        have Z1:=h_ z1
        have Z2:=h_ z2
        have jS:=h_ aK
        clear hld qW ob hcb hal hbl hfa kQ hi hj z0 z1 z2 aK cid cot
        go_upto_region 6 with fail
        go_cut [8,9] from 33 to 46 (fun p q wx=>∃ (g:Nat) (y:Ev),p=.pointer (some ⟨g,0,none⟩)∧q=.int .i64 (bS a.c b.c)∧(bS a.c b.c=0→y.c=nZ a.c b.c)∧y.lies wx∧(∀ k,y.uses k→w1.heap.size≤k)∧wx.heap[g]? =some (.cells y.enc.toArray 72 (0,0))∧w1.heap.size≤g∧Sq w1.heap.size w1 wx)
        case first =>
         have hd0:Sq w1.heap.size w1 w1.drew:=(Ss _ _).drew
         clear aZ bh HS2 nJ Z0 Z1 Z2 jS hQ
         refine Sp (S:=fun w'=>Sq w1.heap.size w1 w') (by kernel_rfl) hd0 (fun _=>?_)
         generalize w1.drew=v0 at *
         refine ab 0 (.pointer (some ⟨w.heap.size,6,none⟩)) hd0 ?_
         refine ab 1 (.slice (some ⟨b0,off,none⟩) d.eV.length d.ec) hd0 ?_ (hy:=.inl ⟨by rfl,fun w_ aH=>by have q_:=(tv.out w_ aH).1;go_simp⟩)
         refine ab 2 (.int .i64 i) hd0 ?_
         refine ab 3 (.pointer (some ⟨b0,off+i*7,none⟩)) hd0 ?_
         refine ab 4 (.agg a.enc.toArray) hd0 ?_ (hy:=Sm (by rfl) 72 (.tmp 37) rfl b0 (off+i*7) rfl a.enc _ (fun w_ h_=>(tv.out w_ h_).2.1) Tryz.underlying72 rfl aX)
         refine ab 5 (.pointer (some ⟨w.heap.size,6,none⟩)) hd0 ?_
         refine ab 6 (.slice (some ⟨b0,off,none⟩) d.eV.length d.ec) hd0 ?_ (hy:=.inl ⟨by rfl,fun w_ aH=>by have q_:=(tv.out w_ aH).1;go_simp⟩)
         refine ab 7 (.int .i64 j) hd0 ?_
         refine ab 8 (.pointer (some ⟨b0,off+j*7,none⟩)) hd0 ?_
         refine ab 9 (.agg b.enc.toArray) hd0 ?_ (hy:=Sm (by rfl) 72 (.tmp 42) rfl b0 (off+j*7) rfl b.enc _ (fun w_ h_=>(tv.out w_ h_).2.2) Tryz.underlying72 rfl aX)
         refine dH 10 14 (fun K hK=>?_) (fun K hK=>?_)
         focus
          go_simp
          refine(LI.out _ hd0).mono ?_
          rintro e_ v1 ⟨y,rfl,fP,hyl,hyu,ar⟩
          have hv1:Sq w1.heap.size w1 v1:=ak hd0 ar
          have hs1:=ar.size
          have L6:∀ k,y.uses k→k<v1.heap.size:=fun k h=>Ev.uses_lt hyl h
          clear ar
          go_wp2_with fail
          refine goOn hK hv1 ?_
          clear hK
          refine ab 11 (.tuple #[.agg y.enc.toArray,.int .i64 (bS a.c b.c)]) hv1 ?_
          refine ab 12 (.agg y.enc.toArray) hv1 ?_
          refine ab 13 (.int .i64 (bS a.c b.c)) hv1 ?_
          refine aq 14 (fun K hK=>?_)
          go_simp
          have zg:=Sn v1 (.cells zeE 72)
          have ar:Sq v1.heap.size v1 (v1.alloc (.cells zeE 72)):=(Ss _ _).alloc (Sr _) _
          have lg:v1.heap.size<(v1.alloc (.cells zeE 72)).heap.size:=by simp
          generalize v1.alloc (.cells zeE 72)=v2 at *
          obtain⟨g,hg⟩:∃ g,g=v1.heap.size:=⟨_,rfl⟩
          rw [←hg] at zg lg ⊢
          have qg:v1.heap.size≤g∧g≤v1.heap.size:=by omega
          clear hg
          have hv2:Sq w1.heap.size w1 v2:=ak hv1 ar
          have hs2:=ar.size
          replace hyl:=Ev.keeps _ _ _ ar hyl
          clear ar
          refine goOn hK hv2 ?_
          clear hK
         rotate_left
         focus
          go_simp
          have zg:=Sn v0 (.cells zeE 72)
          have ar:Sq v0.heap.size v0 (v0.alloc (.cells zeE 72)):=(Ss _ _).alloc (Sr _) _
          have lg:v0.heap.size<(v0.alloc (.cells zeE 72)).heap.size:=by simp
          generalize v0.alloc (.cells zeE 72)=v1 at *
          obtain⟨g,hg⟩:∃ g,g=v0.heap.size:=⟨_,rfl⟩
          rw [←hg] at zg lg ⊢
          have qg:v0.heap.size≤g∧g≤v0.heap.size:=by omega
          clear hg
          have hv1:Sq w1.heap.size w1 v1:=ak hd0 ar
          have hs1:=ar.size
          clear ar
          refine goOn hK hv1 ?_
          clear hK
          refine aq 10 (fun K hK=>?_)
          go_simp
          refine(LI.out _ hv1).mono ?_
          rintro e_ v2 ⟨y,rfl,fP,hyl,hyu,ar⟩
          have hv2:Sq w1.heap.size w1 v2:=ak hv1 ar
          have hs2:=ar.size
          have L6:∀ k,y.uses k→k<v2.heap.size:=fun k h=>Ev.uses_lt hyl h
          replace zg:=(ar.block g (by omega)).trans zg
          clear ar
          go_wp2_with fail
          refine goOn hK hv2 ?_
          clear hK
          refine ab 11 (.tuple #[.agg y.enc.toArray,.int .i64 (bS a.c b.c)]) hv2 ?_
          refine ab 12 (.agg y.enc.toArray) hv2 ?_
          refine ab 13 (.int .i64 (bS a.c b.c)) hv2 ?_
         all_goals
          refine aq 15 (fun K hK=>?_)
          rw [if_pos (by rfl)]
          refine wp_store_row 72 (.tmp 8) (.tmp 45) rfl g y.enc.toArray rfl rfl 72 _ zg aX rfl (mH _) ?_
          have hst:Sq w1.heap.size w1 (v2.setRow g y.enc.toArray):=Sj hv2 (by have:=hd0.size;omega) _
          refine goOn hK hst ?_
          clear hK
          refine ab 16 (.int .i64 (bS a.c b.c)) hst ?_
          refine wpAnyH_done (by kernel_rfl) ?_ _
          have Hh:=hd0.size
          go_wp2_with fail
          go_meet
          exact⟨g,y,rfl,rfl,fP,Ev.frame hyl (by rw [size_setRow];exact Sr _) (fun k h=>aM _ _ _ _ (by have:=L6 k h;have:=hyu k h;omega)),(fun k h=>by have:=hyu k h;omega),Si v2 g _ y.enc.toArray 72 (0,0) zg,by omega,hst⟩
        case rest =>
         obtain⟨g,y,rfl,rfl,fP,hyl,hyu,hyg,hgw,hbc⟩:=hcut
         obtain⟨w2,hw2⟩:∃ x,x=wc:=⟨_,rfl⟩
         subst hw2
         have hs2:=hbc.size
         have y0:=(hbc.block w.heap.size (by omega)).trans Z0.out
         have y1:=(hbc.block (w.heap.size+1) (by omega)).trans Z1.out
         have y2:=(hbc.block (w.heap.size+1+1) (by omega)).trans Z2.out
         have hbw2:=jS.out.trans (hbc.mono (by omega))
         have Fl:=h_ fP
         have LJ:=h_ (fun(h:bS a.c b.c=0) (hc:y.c=nZ a.c b.c)=>si nJ.out.1 nJ.out.2 h hc)
         clear hbc Z0 Z1 Z2 jS tv LI fP
         generalize bS a.c b.c=JE at *
         by_cases nO:JE=0
         · subst nO
           have fP:=Fl.out (by first|rfl|trivial)
           have FT:=h_ (LJ.out (by first|rfl|trivial) fP)
           have nQ:=h_ (HS2.out.trans (if_neg (by intro h;exact h rfl)))
           rw [←fP] at nQ
           have MP:=h_ (ln d x.other w2 (aZ.out.1.below hbw2 (Sr _)) (Doc.later aZ.out.2.1 hbw2) aZ.out.2.2)
           have FH:=h_ (fun(D:Doc) (h:D.c=(bx d.c x.other).2) (h0:(bx d.c x.other).1=0)=>zp aZ.out.2.2 h h0)
           have r0:=ai y0
           have cot:w2.cell? ⟨w.heap.size+1,2,none⟩=some (.int .i64 x.other):=Sk _ _ 2 _ 40 (0,0) y1
           have yM:=h_ aZ.out.1
           have JL:=h_ (St hyl hyg)
           have Bn:=h_ hbw2
           have Y0:=h_ y0
           have Y2:=h_ y2
           generalize bx d.c x.other=rm at *
           obtain⟨re,rc⟩:=rm
           clear Fl LJ HS2 aZ nJ fP hyl hyg hbw2 y0 y1 y2
           go_wp2_with (refine aj 27 (.tmp 2) rfl w.heap.size 0 rfl d.enc _ r0 Tryz.underlying27 rfl ag (by rfl) ?_)
           refine MP.out.mono ?_
           rintro e w3 ⟨D,rfl,bo,hDl,bM,hb3⟩
           simp only at bo
           have hs3:=hb3.size
           have q0:=(hb3.block w.heap.size (by omega)).trans Y0.out
           have q2:=(hb3.block (w.heap.size+1+1) (by omega)).trans Y2.out
           have qg:=(hb3.block g (aR JL.out.2)).trans JL.out.2
           have hyl:=Ev.keeps _ _ _ hb3 JL.out.1
           have cN:=Bn.out.trans (hb3.mono (by omega))
           clear MP hb3 Y0 Y2 r0 cot Bn
           go_upto_region 10 with(refine Sh rfl 27 (.tmp 2) (.tmp 56) rfl w.heap.size (D.enc.toArray) rfl rfl 27 _ q0 ag rfl aO ?_)
           have r0:=Si w3 w.heap.size _ D.enc.toArray 27 (0,0) q0
           have z2:=(aM w3 w.heap.size (w.heap.size+1+1) D.enc.toArray (by omega)).trans q2
           have zg:=(aM w3 w.heap.size g D.enc.toArray (by omega)).trans qg
           have bP:Sq w.heap.size w (w3.setRow w.heap.size D.enc.toArray):=Sj cN (Sr _) _
           have uK:D.lies (w3.setRow w.heap.size D.enc.toArray):=Doc.frame hDl (by rw [size_setRow];exact Sr _) (fun k h=>aM _ _ _ _ (by have:=bM k h;omega))
           have Eg:y.lies (w3.setRow w.heap.size D.enc.toArray):=Ev.frame hyl (by rw [size_setRow];exact Sr _) (fun k h=>aM _ _ _ _ (by have:=hyu k h;omega))
           have hs4:w3.heap.size≤(w3.setRow w.heap.size D.enc.toArray).heap.size:=by rw [size_setRow];exact Sr _
           generalize w3.setRow w.heap.size D.enc.toArray=w4 at *
           clear hDl hyl qg q0 q2 cN JL
           by_cases hre:re=0
           · subst hre
             have Iu:=h_ (nQ.out.trans (if_neg (by intro h;exact h rfl)))
             have AA:=FH.out D bo (by first|rfl|trivial)
             have HP:=h_ (mC D y w4 (yM.out.below bP (Sr _)) uK AA Eg FT.out)
             rw [bo] at HP
             have rD:=ai r0
             have rg:=ai zg
             have Z2:=h_ z2
             have DG:=h_ bP
             have Hq:=h_ (fun(r:Int × DocC) (hr:gZ d.c x.c=r) (E:Doc) (w':Sl) (h:E.c=r.2∧E.lies w'∧(∀ b,E.uses b→w.heap.size≤b)∧Sq w.heap.size w w')=>bF.out r hr E w' h)
             clear nQ FH yM FT AA bo uK Eg bP r0 zg z2 bh bF
             generalize putC rc y.c=pq at *
             obtain⟨pe,pc⟩:=pq
             go_wp2_with (first|(refine aj 27 (.tmp 2) rfl w.heap.size 0 rfl D.enc _ rD Tryz.underlying27 rfl ag (by rfl) ?_)|(refine aj 72 (.tmp 8) rfl g 0 rfl y.enc _ rg Tryz.underlying72 rfl aX (by rfl) ?_))
             refine HP.out.mono ?_
             rintro e w5 ⟨E,rfl,Lg,hEl,Lf,hb5⟩
             simp only at Lg
             have hs5:=hb5.size
             have z5:=(hb5.block (w.heap.size+1+1) (by omega)).trans Z2.out
             have bz:=DG.out.trans (hb5.mono (by omega))
             have r9:=Si w5 (w.heap.size+1+1) _ E.enc.toArray 27 (0,0) z5
             have HF:=h_ (Hq.out (pe,pc) Iu.out E (w5.setRow (w.heap.size+1+1) E.enc.toArray) ⟨Lg,Doc.frame hEl (by rw [size_setRow];exact Sr _) (fun k h=>aM _ _ _ _ (by have:=Lf k h;omega)),fun k h=>by have:=Lf k h;omega,Sj bz (by omega) _⟩)
             clear HP Lg hEl Lf hb5 bz Iu Hq rD rg Z2 DG
             go_wp2_with (refine Sh rfl 27 (.tmp 4) (.tmp 65) rfl (w.heap.size+1+1) (E.enc.toArray) rfl rfl 27 _ z5 ag rfl aO ?_)
             generalize w5.setRow (w.heap.size+1+1) E.enc.toArray=w9 at *
             clear z5
             go_wp2_with fail
             exact aL Tryz.results40 rfl rfl r9 rfl HF.out
           · have KD:(re != 0)=true:=by simpa using hre
             have Iv:=h_ (nQ.out.trans (if_pos hre))
             have HE:=h_ (bh.out (re) Iv.out (w4.setRow (w.heap.size+1+1) zeD) (Sj bP (by omega) _))
             have z9:=Si w4 (w.heap.size+1+1) _ zeD 27 (0,0) z2
             clear bh bF nQ Iv FH yM FT bo uK Eg bP r0 zg hre
             go_wp2_with (refine Sh rfl 27 (.tmp 4) (.tmp 60) rfl (w.heap.size+1+1) zeD rfl rfl 27 _ z2 ag rfl aO ?_)
             generalize w4.setRow (w.heap.size+1+1) zeD=w9 at *
             exact aL Tryz.results40 rfl rfl z9 rfl HE.out
         · have N0:(JE != 0)=true:=by simpa using nO
           have nQ:=h_ (HS2.out.trans (if_pos nO))
           have HE:=h_ (bh.out (JE) nQ.out (w2.setRow (w.heap.size+1+1) zeD) (Sj hbw2 (by omega) _))
           have z9:=Si w2 (w.heap.size+1+1) _ zeD 27 (0,0) y2
           clear bh HS2 nQ Fl LJ aZ nJ hyl hyg hbw2 y0 y1 nO
           go_wp2_with (refine Sh rfl 27 (.tmp 4) (.tmp 49) rfl (w.heap.size+1+1) zeD rfl rfl 27 _ y2 ag rfl aO ?_)
           generalize w2.setRow (w.heap.size+1+1) zeD=w9 at *
           exact aL Tryz.results40 rfl rfl z9 rfl HE.out
theorem E_ (args:Array Value)(w:Sl):(callFunc 30 args).run Tryz.prog w=.ok (.enter 30 args) w:=by
 have hn:(Tryz.f30.name=="runtime.NumGoroutine")=false:=by kernel_rfl
 have hb:Tryz.f30.body.isNone=false:=by kernel_rfl
 have hn':¬ Tryz.f30.name="runtime.NumGoroutine" :=fun h=>by rw [h] at hn;simp at hn
 have hb':¬ Tryz.f30.body=none:=fun h=>by rw [h] at hb;simp at hb
 simp [go_sem,callFunc,Tryz.func30,hn',hb']
theorem CM (w:Sl)(o1 o2:Obj):((w.alloc o1).alloc o2).heap[w.heap.size]? =some o1∧((w.alloc o1).alloc o2).heap[w.heap.size+1]? =some o2:=by
 refine⟨(heap_alloc_old _ _ (by simp)).trans (Sn _ _),?_⟩
 have:=Sn (w.alloc o1) o2
 rw [Sl.size_alloc] at this
 exact this
theorem ff (M:Nat)(caps:Array Value)(f:EvC→Int × EvC)(gd gx:Nat)(x:Ed)(d:Doc)(w:Sl)(hE:Env w)(hd:d.lies w)(hf:d.fits)(hbd:w.heap[gd]? =some (.cells d.enc.toArray 27 (0,0)))(hbx:w.heap[gx]? =some (.cells x.enc.toArray 40 (0,0)))
 (hfn:∀ w1,Sq w.heap.size w w1→w1.heap[w.heap.size]? =some (.cells #[.func (.func M) #[] caps] 83 (0,0))→fF 30 #[.pointer (some ⟨w.heap.size,0,none⟩)] f w1) :
 Calls Tryz.prog 28 #[.func (.func M) #[] caps,.pointer (some ⟨gd,0,none⟩),.pointer (some ⟨gx,0,none⟩)] w (aS (aF d.c x.id f) w):=by
 have tC:=h_ (fun(w1:Sl) (h:Sq w.heap.size w w1) (hb:w1.heap[w.heap.size]? =some (.cells #[.func (.func M) #[] caps] 83 (0,0)))=>kq 30 #[.pointer (some ⟨w.heap.size,0,none⟩)] f d x.id w1 (hE.below h (Sr _)) (Doc.later hd h) hf (hfn w1 h hb) E_)
 have bF:=h_ (fun(r:Int × DocC) (hr:aF d.c x.id f=r) (D:Doc) (w':Sl) (h:D.c=r.2∧D.lies w'∧(∀ b,D.uses b→w.heap.size≤b)∧Sq w.heap.size w w')=>(show aS (aF d.c x.id f) w (.returned (.tuple #[.agg D.enc.toArray,.int .i64 r.1])) w' from⟨D,by rw [hr],by rw [hr];exact h.1,h.2.1,h.2.2.1,h.2.2.2⟩))
 have ld:=aR hbd
 have lx:=aR hbx
 have fE:=h_ hbd
 have cQ:=h_ hbx
 have hb2:∀ o1 o2:Obj,Sq w.heap.size w ((w.alloc o1).alloc o2):=fun o1 o2=>((Ss _ _).alloc (Sr _) _).alloc (by simp) _
 have hsz2:∀ o1 o2:Obj,w.heap.size+2≤((w.alloc o1).alloc o2).heap.size:=fun o1 o2=>by simp
 have jV:=h_ (CM w (.cells #[.func (.func M) #[] caps] 83) (.cells zeD 27))
 have KC:=tC
 generalize aS (aF d.c x.id f) w=Q at *
 generalize aF d.c x.id f=R at *
 clear hd hf hE hfn hbd hbx
 go_enter Tryz.func28,Tryz.ntmps28
 go_upto_region 1 with fail
 have h0:=jV.out.1
 have h1:=jV.out.2
 have hbw:=hb2 (.cells #[.func (.func M) #[] caps] 83) (.cells zeD 27)
 have hsz:=hsz2 (.cells #[.func (.func M) #[] caps] 83) (.cells zeD 27)
 clear jV hb2 hsz2
 generalize (w.alloc (.cells #[.func (.func M) #[] caps] 83)).alloc (.cells zeD 27)=W0 at *
 have hrd:=ai ((hbw.block gd ld).trans fE.out)
 have cx:W0.cell? ⟨gx,1,none⟩=some (.int .i64 x.id):=Sk _ _ 1 _ 40 (0,0) ((hbw.block gx lx).trans cQ.out)
 have HC:=h_ (tC.out W0 hbw h0)
 have Z1:=h_ h1
 have bA:=h_ hbw
 clear tC fE cQ hbw h0 h1 KC
 go_wp2_with (refine aj 27 (.tmp 1) rfl gd 0 rfl d.enc _ hrd Tryz.underlying27 rfl ag (by rfl) ?_)
 refine HC.out.mono ?_
 rintro e w4 ⟨D,rfl,bo,hDl,bM,hb4⟩
 have hs4:=hb4.size
 have z4:=(hb4.block (w.heap.size+1) (by omega)).trans Z1.out
 have bP:=bA.out.trans (hb4.mono (by omega))
 obtain⟨pe,pc⟩:=R
 simp only at bo
 have r9:=Si w4 (w.heap.size+1) _ D.enc.toArray 27 (0,0) z4
 have HF:=h_ (bF.out (pe,pc) (by first|rfl|trivial) D (w4.setRow (w.heap.size+1) D.enc.toArray) ⟨bo,Doc.frame hDl (by rw [size_setRow];exact Sr _) (fun b hb=>aM _ _ _ _ (by have:=bM b hb;omega)),fun b hb=>by have:=bM b hb;omega,Sj bP (by omega) _⟩)
 clear HC bo hDl bM hb4 bP bF hrd cx Z1 bA
 go_wp2_with (refine Sh rfl 27 (.tmp 4) (.tmp 11) rfl (w.heap.size+1) (D.enc.toArray) rfl rfl 27 _ z4 ag rfl aO ?_)
 generalize w4.setRow (w.heap.size+1) D.enc.toArray=w9 at *
 clear z4
 go_wp2_with fail
 exact aL Tryz.results28 rfl rfl r9 rfl HF.out
theorem E9 (args:Array Value)(w:Sl):(callFunc 87 args).run Tryz.prog w=.ok (.enter 87 args) w:=by
 have hn:(Tryz.f87.name=="runtime.NumGoroutine")=false:=by kernel_rfl
 have hb:Tryz.f87.body.isNone=false:=by kernel_rfl
 have hn':¬ Tryz.f87.name="runtime.NumGoroutine" :=fun h=>by rw [h] at hn;simp at hn
 have hb':¬ Tryz.f87.body=none:=fun h=>by rw [h] at hb;simp at hb
 simp [go_sem,callFunc,Tryz.func87,hn',hb']
theorem nX (f:EvC→Int × EvC)(x:Ed)(d:Doc)(w:Sl)(hE:Env w)(hd:d.lies w)(hf:d.fits)
 (hfn:∀ w1,Sq w.heap.size w w1→w1.heap[w.heap.size+1]? =some (.cells x.enc.toArray 40 (0,0))→fF 87 #[.pointer (some ⟨w.heap.size+1,0,none⟩)] f w1) :
 Calls Tryz.prog 38 #[.agg d.enc.toArray,.agg x.enc.toArray] w (aS (aF d.c x.id f) w):=by
 have tC:=h_ (fun(w1:Sl) (h:Sq w.heap.size w w1) (hb:w1.heap[w.heap.size+1]? =some (.cells x.enc.toArray 40 (0,0)))=>kq 87 #[.pointer (some ⟨w.heap.size+1,0,none⟩)] f d x.id w1 (hE.below h (Sr _)) (Doc.later hd h) hf (hfn w1 h hb) E9)
 have bF:=h_ (fun(r:Int × DocC) (hr:aF d.c x.id f=r) (D:Doc) (w':Sl) (h:D.c=r.2∧D.lies w'∧(∀ b,D.uses b→w.heap.size≤b)∧Sq w.heap.size w w')=>(show aS (aF d.c x.id f) w (.returned (.tuple #[.agg D.enc.toArray,.int .i64 r.1])) w' from⟨D,by rw [hr],by rw [hr];exact h.1,h.2.1,h.2.2.1,h.2.2.2⟩))
 have hb3:∀ o1 o2 o3:Obj,Sq w.heap.size w (((w.alloc o1).alloc o2).alloc o3):=fun o1 o2 o3=>(((Ss _ _).alloc (Sr _) _).alloc (by simp) _).alloc (by simp;try omega) _
 have db:∀ o1 o2 o3:Obj,w.heap.size+3≤(((w.alloc o1).alloc o2).alloc o3).heap.size:=fun o1 o2 o3=>by simp
 have jV:=h_ (box3 w d.enc.toArray x.enc.toArray zeD 27 40 27)
 generalize aS (aF d.c x.id f) w=Q at *
 generalize aF d.c x.id f=R at *
 clear hd hf hE hfn
 go_enter Tryz.func38,Tryz.ntmps38
 go_upto_region 1 with fail
 have h0:=jV.out.1
 have h1:=jV.out.2.1
 have h2:=jV.out.2.2
 have hbw:=hb3 (.cells d.enc.toArray 27) (.cells x.enc.toArray 40) (.cells zeD 27)
 have hsz:=db (.cells d.enc.toArray 27) (.cells x.enc.toArray 40) (.cells zeD 27)
 clear jV hb3 db
 generalize ((w.alloc (.cells d.enc.toArray 27)).alloc (.cells x.enc.toArray 40)).alloc (.cells zeD 27)=W0 at *
 have hrd:=ai h0
 have cx:W0.cell? ⟨w.heap.size+1,1,none⟩=some (.int .i64 x.id):=Sk _ _ 1 _ 40 (0,0) h1
 have HC:=h_ (tC.out W0 hbw h1)
 have Z1:=h_ h2
 have bA:=h_ hbw
 clear tC hbw h0 h1 h2
 go_wp2_with (refine aj 27 (.tmp 2) rfl w.heap.size 0 rfl d.enc _ hrd Tryz.underlying27 rfl ag (by rfl) ?_)
 refine HC.out.mono ?_
 rintro e w4 ⟨D,rfl,bo,hDl,bM,hb4⟩
 have hs4:=hb4.size
 have z4:=(hb4.block (w.heap.size+1+1) (by omega)).trans Z1.out
 have bP:=bA.out.trans (hb4.mono (by omega))
 obtain⟨pe,pc⟩:=R
 simp only at bo
 have r9:=Si w4 (w.heap.size+1+1) _ D.enc.toArray 27 (0,0) z4
 have HF:=h_ (bF.out (pe,pc) (by first|rfl|trivial) D (w4.setRow (w.heap.size+1+1) D.enc.toArray) ⟨bo,Doc.frame hDl (by rw [size_setRow];exact Sr _) (fun b hb=>aM _ _ _ _ (by have:=bM b hb;omega)),fun b hb=>by have:=bM b hb;omega,Sj bP (by omega) _⟩)
 clear HC bo hDl bM hb4 bP bF hrd cx Z1 bA
 go_wp2_with (refine Sh rfl 27 (.tmp 4) (.tmp 11) rfl (w.heap.size+1+1) (D.enc.toArray) rfl rfl 27 _ z4 ag rfl aO ?_)
 generalize w4.setRow (w.heap.size+1+1) D.enc.toArray=w9 at *
 clear z4
 go_wp2_with fail
 exact aL Tryz.results38 rfl rfl r9 rfl HF.out
end Go.Proofs.YtjebaagkomejaaaGreatDoor
