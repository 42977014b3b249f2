/- comment.Remove: a document without a comment. edit.Apply: an event changed by one of its functions. edit.restyled: characters of a row of an event in another style, given its change. edit.restyled: its change of the event. -/
import Derived.Test.YtjebaagkomejaaaGreatDoorK34
import Derived.Test.YtjebaagkomejaaaGreatDoorK24
import Derived.Test.YtjebaagkomejaaaGreatDoorK29
set_option linter.unusedVariables false
set_option linter.unusedSimpArgs false
set_option maxRecDepth 100000
set_option maxHeartbeats 12800000
open Go.Lib renaming hid→h_
open List renaming setIfInBounds_toArray→YA,getElem_cons_zero→YB,getElem_cons_succ→YC,getElem_toArray→YD,set_cons_zero→YE,set_cons_succ→YF
open Array renaming toArray_toList→YG
open Go renaming cell_of_row→Sj,World→Sk,wp_region_held_drew→Sl,wpList_store_row→Sm,wpAnyH_done→Sn,setRow_heap→Sp,below_setRow→Sq,heap_alloc_last→Sr
open Go.RowKit renaming Below→Ss
open Nat renaming le_refl→St
open Go.RowKit.Below renaming refl→Su
open Go.Value.slice renaming injEq→Sv
open List renaming eq_nil_of_length_eq_zero→Sw
namespace Go.Proofs.YtjebaagkomejaaaGreatDoor
open Go.RowKit
theorem oC (d:Doc)(id:Int)(w:Sk)(hE:Env w)(hd:d.lies w)(hf:d.fits):Calls Tryz.prog 44 #[.agg d.enc.toArray,.int .i64 id] w (aS (bX d.c id) w):=by
 have eP:=h_ (fun(w1:Sk) (h:Ss w.heap.size w w1)=>lG d id w1 (hE.below h (St _)) (Doc.later hd h) hf)
 have dA:=h_ (fun(w1:Sk) (h:Ss w.heap.size w w1)=>bJ d w1 (Doc.later hd h) hf)
 have bh:=h_ (fun(q:Int) (hq:bX d.c id=(q,aU)) (w':Sk) (h:Ss w.heap.size w w')=>(show aS (bX d.c id) w (.returned (.tuple #[.agg zeD,.int .i64 q])) w' from hq▸aS.zero q h))
 have cT:=h_ (fun(d':Doc) (h:d'.c=d.c)=>bn h hf)
 have dp:=h_ (o_ w d.enc.toArray zeD)
 have hb2:∀ o1 o2:Obj,Ss w.heap.size w ((w.alloc o1).alloc o2):=fun o1 o2=>((Su _ _).alloc (St _) _).alloc (by simp) _
 have hsz2:∀ o1 o2:Obj,((w.alloc o1).alloc o2).heap.size=w.heap.size+2:=fun o1 o2=>by simp
 have aY:=h_ (And.intro hd hf)
 have bD:=h_ (fun(h:bK d.c id≠0)=>ts h)
 have jF:=h_ (fun(h:bK d.c id=0)=>wI h)
 have jW:=h_ (fun(j:Nat) (x:Cm) (h0:cErr d.c=0) (hx:d.cM[j]? =some x) (h:cU d.cM id=some x)=>(show bX d.c id=_ from vw h0 hx h))
 generalize hR:bX d.c id=R at *
 generalize hQ:aS R w=Q at bh ⊢
 clear hd hf hE aY
 generalize bK d.c id=FE at *
 generalize gl d.c id=FI at *
 go_enter Tryz.func44,Tryz.ntmps44
 have hr0:=ai dp.out.1
 go_wp2_with (refine aj 27 (.tmp 2) rfl w.heap.size 0 rfl d.enc _ hr0 Tryz.underlying27 rfl ag (by rfl) ?_)
 refine(eP.out _ (hb2 _ _)).mono ?_
 rintro e w2 ⟨rfl,hb1⟩
 rw [hsz2] at hb1
 have hbw2:Ss w.heap.size w w2:=(hb2 _ _).trans (hb1.mono (by omega))
 have r2:=(hb1.block w.heap.size (by omega)).trans dp.out.1
 have z2:=(hb1.block (w.heap.size+1) (by omega)).trans dp.out.2
 have hs2:w.heap.size+2≤w2.heap.size:=by have:=hb1.size;rw [hsz2] at this;exact this
 clear hb1 hr0 eP dp hb2 hsz2
 have hr2:=ai r2
 have R2:=h_ r2
 have Z2:=h_ z2
 clear r2 z2
 by_cases h0:FE=0
 · subst h0
   obtain⟨hc0,j,x,rfl,hx,hfx⟩:=jF.out rfl
   have hx1:d.cM[j]? =some x:=hx
   have hjd:j<d.cM.length:=(List.getElem?_eq_some_iff.1 hx1).1
   have nZ:=h_ (jW.out j x hc0 hx1 hfx)
   have hj0:(0:Int)≤(j:Int):=by omega
   clear bD jF jW hx hfx hc0 hx1 bh
   go_wp2_with (refine aj 27 (.tmp 2) rfl w.heap.size 0 rfl d.enc _ hr2 Tryz.underlying27 rfl ag (by rfl) ?_)
   refine(dA.out w2 hbw2).mono ?_
   rintro e w4 ⟨d',rfl,hc',hl',hu',hb4,hap,hoe,hoc⟩
   have eo:=cT.out d' hc'
   have bQ:Ss w.heap.size w w4:=hbw2.trans (hb4.mono hbw2.size)
   have r4:=(hb4.block w.heap.size (by omega)).trans R2.out
   have z4:=(hb4.block (w.heap.size+1) (by omega)).trans Z2.out
   have hs4:w2.heap.size≤w4.heap.size:=hb4.size
   clear hr2 R2 Z2 dA hbw2 cT hb4
   go_upto_region 5 with(refine Sm rfl 27 (.tmp 2) (.tmp 19) rfl (w.heap.size) (d'.enc.toArray) rfl rfl 27 _ r4 ag rfl aO ?_)
   have hk5:Kept (fun b=>b=w.heap.size) w4 (w4.setRow w.heap.size d'.enc.toArray):=bj w4 w.heap.size d'.enc.toArray
   have r5:=Sp w4 w.heap.size _ d'.enc.toArray 27 (0,0) r4
   generalize w4.setRow w.heap.size d'.enc.toArray=w5 at *
   have hs5:=hk5.size
   have hl5:d'.lies w5:=Doc.frame hl' hs5 fun b hb=>hk5.block b (Doc.uses_lt hl' hb) (by have:=hu' b hb;omega)
   have oe5:=aB hoe fun b q=>hk5.block b (hoe.lt b q).2 (by have:=(hoe.lt b q).1;omega)
   have oc5:=aB hoc fun b q=>hk5.block b (hoc.lt b q).2 (by have:=(hoc.lt b q).1;omega)
   have z5:=(hk5.block (w.heap.size+1) (by omega) (by omega)).trans z4
   have hb5:Ss w.heap.size w w5:=bQ.trans (hk5.below (by omega) fun k hk e=>by omega)
   clear hl' r4 z4 hk5 hoe hoc bQ
   have hcm:d'.cM=d.cM:=congrArg DocC.cM hc'
   have vg:j<d'.cM.length:=by rw [hcm];exact hjd
   have hlc:d'.cM.length≤4000000:=eo.2.2.2.2.2.2.2.2.2.2
   have hne:d'.cM≠[]:=fun e=>by rw [e] at vg;simp at vg
   obtain⟨cb,cap,he⟩:=dD oc5 (by omega)
   have he1:d'.ca=some ⟨cb,0,none⟩∧d'.cc=cap:=by simp only [Sv] at he;exact⟨he.1,he.2.2⟩
   rw [he] at oc5
   have hcb:=oc5.lt cb rfl
   have hcap:d'.cM.length≤cap:=by
    rcases oc5.2 with⟨h0,_⟩|⟨g',cap',cur,h0,_,_,hnc,_⟩
    · simp at h0
    · simp only [Sv] at h0
      obtain⟨_,_,rfl⟩:=h0
      exact hnc
   have tN:=h_ (vu w2.heap.size cb cap j d'.cM w5 oc5 vg hlc)
   have c7:w5.cell? ⟨w.heap.size,7,none⟩=some (.slice (some ⟨cb,0,none⟩) d'.cM.length cap):=by
    rw [←he];exact Sj _ _ 7 _ 27 (0,0) r5
   have f6:∀ w':Sk,Kept (fun b=>b=cb) w5 w'→(∀ j,w'.frozen? ⟨w.heap.size,j,none⟩=false)∧w'.heap[w.heap.size]? =some (.cells d'.enc.toArray 27 (0,0)):=fun w' h=>by
    have hb:=(h.block w.heap.size (by omega) (by omega)).trans r5
    exact⟨fun j=>by simp [Sk.frozen?,hb],hb⟩
   obtain⟨D2,hD2⟩:∃ D2:Doc,D2={ d' with cc:=cap,cM:=bI d'.cM j }:=⟨_,rfl⟩
   have fP:=h_ (show d'.enc.toArray.setIfInBounds 7 (.slice (some ⟨cb,0,none⟩) (d'.cM.length-1) cap)=D2.enc.toArray from by
    rw [hD2];simp [Doc.enc,he1.1,jj _ _ vg])
   have lN:=h_ (show D2.c={ d.c with cM:=bI d.cM j } from by
    rw [hD2,←hc',←hcm];rfl)
   have fR:=h_ (fun(w6 w9:Sk) hS k6 k9=>(show D2.lies w9∧∀ b,D2.uses b→w2.heap.size≤b from hD2▸Dm (cap:=cap) hl5 hu' hap he1.1 hne (w6:=w6) (w9:=w9) (ys:=bI d'.cM j) hS k6 k9))
   have iG:=h_ hb5
   have Z5:=h_ z5
   have Ch:w.heap.size+2≤w5.heap.size:=by omega
   have KB:(d'.cM.length:Int)≤4000000:=by omega
   clear hl5 oe5 oc5 z5 hb5 hap eo hu' hs4 hs5 r5 he hD2 hc' hcm hjd
   go_wp2_with fail
   refine tN.out.mono ?_
   rintro e w6 ⟨rfl,yj,_,sN⟩
   have ⟨fz6,b6⟩:=f6 w6 sN
   have c6':∀ j,w6.cell? ⟨w.heap.size,j,none⟩=_:=fun j=>Sj _ _ j _ 27 (0,0) b6
   have Dq:=h_ yj
   have jn:=h_ sN
   have B6:=h_ b6
   clear tN f6 c7 yj sN b6
   go_upto_region 6 with fail
   have b7:=heap_setCell_same w6 w.heap.size 7 _ 27 (.slice (some ⟨cb,0,none⟩) (d'.cM.length-1) cap) B6.out
   rw [fP.out] at b7
   have ir:Kept (fun b=>b=w.heap.size) w6 (w6.setCell ⟨w.heap.size,7,none⟩ (.slice (some ⟨cb,0,none⟩) (d'.cM.length-1) cap)):=bG (Kept.refl _ _) 7 _
   generalize w6.setCell ⟨w.heap.size,7,none⟩ (.slice (some ⟨cb,0,none⟩) (d'.cM.length-1) cap)=w7 at *
   clear c6' fz6 fP B6
   have hs6:=jn.out.size
   have hs7:=ir.size
   have nV:=ai b7
   have z8:=(ir.block (w.heap.size+1) (by omega) (by omega)).trans ((jn.out.block (w.heap.size+1) (by omega) (by omega)).trans Z5.out)
   have r9:=Sp w7 (w.heap.size+1) _ D2.enc.toArray 27 (0,0) z8
   have eX:Kept (fun b=>b=w.heap.size+1) w7 (w7.setRow (w.heap.size+1) D2.enc.toArray):=bj _ _ _
   have kW:=h_ (fR.out w6 (w7.setRow (w.heap.size+1) D2.enc.toArray) Dq.out jn.out ((ir.mono fun i _ e=>by omega).trans eX fun i _ e=>by omega))
   have kX:=h_ (show Ss w.heap.size w (w7.setRow (w.heap.size+1) D2.enc.toArray) from((iG.out.trans (jn.out.below (by omega) fun b hb e=>by omega)).trans (ir.below (by omega) fun b hb e=>by omega)).trans (eX.below (by omega) fun b hb e=>by omega))
   clear fR Dq jn iG Z5 ir eX hs6 hs7 b7
   go_wp2_with (first|(refine aj 27 (.tmp 2) rfl w.heap.size 0 rfl D2.enc _ nV Tryz.underlying27 rfl ag (by rfl) ?_)|(refine Sm rfl 27 (.tmp 4) (.tmp 27) rfl (w.heap.size+1) (D2.enc.toArray) rfl rfl 27 _ z8 ag rfl aO ?_))
   generalize w7.setRow (w.heap.size+1) D2.enc.toArray=w9 at *
   have yQ:=h_ (show Q (.returned (.tuple #[.agg D2.enc.toArray,.int .i64 0])) w9 from by
    rw [←hQ,nZ.out]
    exact⟨D2,rfl,lN.out,kW.out.1,fun b hb=>Nat.le_trans (by omega) (kW.out.2 b hb),kX.out⟩)
   clear kW kX nZ lN
   exact aL Tryz.results44 rfl rfl r9 rfl yQ.out
 · have hne:(FE != 0)=true:=by simpa using h0
   have HE:=h_ (bh.out (FE) (bD.out h0) (w2.setRow (w.heap.size+1) zeD) (Sq hbw2 (by omega) _))
   have z9:=Sp w2 (w.heap.size+1) _ zeD 27 (0,0) Z2.out
   clear bD jF jW cT dA bh hr2
   go_wp2_with (refine Sm rfl 27 (.tmp 4) (.tmp 16) rfl (w.heap.size+1) zeD rfl rfl 27 _ Z2.out ag rfl aO ?_)
   generalize w2.setRow (w.heap.size+1) zeD=w9 at *
   exact aL Tryz.results44 rfl rfl z9 rfl HE.out
theorem Fc (args:Array Value)(w:Sk):(callFunc 30 args).run Tryz.prog w=.ok (.enter 30 args) w:=by
 have hn:(Tryz.f30.name=="runtime.NumGoroutine")=false:=by kernel_rfl
 have hb:Tryz.f30.body.isNone=false:=by kernel_rfl
 have hn':¬ Tryz.f30.name="runtime.NumGoroutine" :=fun h=>by rw [h] at hn;simp at hn
 have hb':¬ Tryz.f30.body=none:=fun h=>by rw [h] at hb;simp at hb
 simp [go_sem,callFunc,Tryz.func30,hn',hb']
theorem wK (w:Sk)(o1 o2:Obj):((w.alloc o1).alloc o2).heap[w.heap.size]? =some o1∧((w.alloc o1).alloc o2).heap[w.heap.size+1]? =some o2:=by
 refine⟨(heap_alloc_old _ _ (by simp)).trans (Sr _ _),?_⟩
 have:=Sr (w.alloc o1) o2
 rw [Sk.size_alloc] at this
 exact this
theorem eU (M:Nat)(caps:Array Value)(f:EvC→Int × EvC)(gd gx:Nat)(x:Ed)(d:Doc)(w:Sk)(hE:Env w)(hd:d.lies w)(hf:d.fits)(hbd:w.heap[gd]? =some (.cells d.enc.toArray 27 (0,0)))(hbx:w.heap[gx]? =some (.cells x.enc.toArray 40 (0,0)))
 (hfn:∀ w1,Ss w.heap.size w w1→w1.heap[w.heap.size]? =some (.cells #[.func (.func M) #[] caps] 83 (0,0))→fC 30 #[.pointer (some ⟨w.heap.size,0,none⟩)] f w1) :
 Calls Tryz.prog 28 #[.func (.func M) #[] caps,.pointer (some ⟨gd,0,none⟩),.pointer (some ⟨gx,0,none⟩)] w (aS (aF d.c x.id f) w):=by
 have tY:=h_ (fun(w1:Sk) (h:Ss w.heap.size w w1) (hb:w1.heap[w.heap.size]? =some (.cells #[.func (.func M) #[] caps] 83 (0,0)))=>ko 30 #[.pointer (some ⟨w.heap.size,0,none⟩)] f d x.id w1 (hE.below h (St _)) (Doc.later hd h) hf (hfn w1 h hb) Fc)
 have bD:=h_ (fun(r:Int × DocC) (hr:aF d.c x.id f=r) (D:Doc) (w':Sk) (h:D.c=r.2∧D.lies w'∧(∀ b,D.uses b→w.heap.size≤b)∧Ss w.heap.size w w')=>(show aS (aF d.c x.id f) w (.returned (.tuple #[.agg D.enc.toArray,.int .i64 r.1])) w' from⟨D,by rw [hr],by rw [hr];exact h.1,h.2.1,h.2.2.1,h.2.2.2⟩))
 have ld:=aR hbd
 have lx:=aR hbx
 have fB:=h_ hbd
 have dp:=h_ hbx
 have hb2:∀ o1 o2:Obj,Ss w.heap.size w ((w.alloc o1).alloc o2):=fun o1 o2=>((Su _ _).alloc (St _) _).alloc (by simp) _
 have hsz2:∀ o1 o2:Obj,w.heap.size+2≤((w.alloc o1).alloc o2).heap.size:=fun o1 o2=>by simp
 have jX:=h_ (wK w (.cells #[.func (.func M) #[] caps] 83) (.cells zeD 27))
 have Km:=tY
 generalize aS (aF d.c x.id f) w=Q at *
 generalize aF d.c x.id f=R at *
 clear hd hf hE hfn hbd hbx
 go_enter Tryz.func28,Tryz.ntmps28
 go_upto_region 1 with fail
 have h0:=jX.out.1
 have h1:=jX.out.2
 have hbw:=hb2 (.cells #[.func (.func M) #[] caps] 83) (.cells zeD 27)
 have hsz:=hsz2 (.cells #[.func (.func M) #[] caps] 83) (.cells zeD 27)
 clear jX hb2 hsz2
 generalize (w.alloc (.cells #[.func (.func M) #[] caps] 83)).alloc (.cells zeD 27)=W0 at *
 have hrd:=ai ((hbw.block gd ld).trans fB.out)
 have cx:W0.cell? ⟨gx,1,none⟩=some (.int .i64 x.id):=Sj _ _ 1 _ 40 (0,0) ((hbw.block gx lx).trans dp.out)
 have HC:=h_ (tY.out W0 hbw h0)
 have Z1:=h_ h1
 have bE:=h_ hbw
 clear tY fB dp hbw h0 h1 Km
 go_wp2_with (refine aj 27 (.tmp 1) rfl gd 0 rfl d.enc _ hrd Tryz.underlying27 rfl ag (by rfl) ?_)
 refine HC.out.mono ?_
 rintro e w4 ⟨D,rfl,bq,hDl,bP,hb4⟩
 have hs4:=hb4.size
 have z4:=(hb4.block (w.heap.size+1) (by omega)).trans Z1.out
 have bQ:=bE.out.trans (hb4.mono (by omega))
 obtain⟨pe,pc⟩:=R
 simp only at bq
 have r9:=Sp w4 (w.heap.size+1) _ D.enc.toArray 27 (0,0) z4
 have HF:=h_ (bD.out (pe,pc) (by first|rfl|trivial) D (w4.setRow (w.heap.size+1) D.enc.toArray) ⟨bq,Doc.frame hDl (by rw [size_setRow];exact St _) (fun b hb=>aK _ _ _ _ (by have:=bP b hb;omega)),fun b hb=>by have:=bP b hb;omega,Sq bQ (by omega) _⟩)
 clear HC bq hDl bP hb4 bQ bD hrd cx Z1 bE
 go_wp2_with (refine Sm rfl 27 (.tmp 4) (.tmp 11) rfl (w.heap.size+1) (D.enc.toArray) rfl rfl 27 _ z4 ag rfl aO ?_)
 generalize w4.setRow (w.heap.size+1) D.enc.toArray=w9 at *
 clear z4
 go_wp2_with fail
 exact aL Tryz.results28 rfl rfl r9 rfl HF.out
theorem Fb (args:Array Value)(w:Sk):(callFunc 87 args).run Tryz.prog w=.ok (.enter 87 args) w:=by
 have hn:(Tryz.f87.name=="runtime.NumGoroutine")=false:=by kernel_rfl
 have hb:Tryz.f87.body.isNone=false:=by kernel_rfl
 have hn':¬ Tryz.f87.name="runtime.NumGoroutine" :=fun h=>by rw [h] at hn;simp at hn
 have hb':¬ Tryz.f87.body=none:=fun h=>by rw [h] at hb;simp at hb
 simp [go_sem,callFunc,Tryz.func87,hn',hb']
theorem od (f:EvC→Int × EvC)(x:Ed)(d:Doc)(w:Sk)(hE:Env w)(hd:d.lies w)(hf:d.fits)
 (hfn:∀ w1,Ss w.heap.size w w1→w1.heap[w.heap.size+1]? =some (.cells x.enc.toArray 40 (0,0))→fC 87 #[.pointer (some ⟨w.heap.size+1,0,none⟩)] f w1) :
 Calls Tryz.prog 38 #[.agg d.enc.toArray,.agg x.enc.toArray] w (aS (aF d.c x.id f) w):=by
 have tY:=h_ (fun(w1:Sk) (h:Ss w.heap.size w w1) (hb:w1.heap[w.heap.size+1]? =some (.cells x.enc.toArray 40 (0,0)))=>ko 87 #[.pointer (some ⟨w.heap.size+1,0,none⟩)] f d x.id w1 (hE.below h (St _)) (Doc.later hd h) hf (hfn w1 h hb) Fb)
 have bD:=h_ (fun(r:Int × DocC) (hr:aF d.c x.id f=r) (D:Doc) (w':Sk) (h:D.c=r.2∧D.lies w'∧(∀ b,D.uses b→w.heap.size≤b)∧Ss w.heap.size w w')=>(show aS (aF d.c x.id f) w (.returned (.tuple #[.agg D.enc.toArray,.int .i64 r.1])) w' from⟨D,by rw [hr],by rw [hr];exact h.1,h.2.1,h.2.2.1,h.2.2.2⟩))
 have hb3:∀ o1 o2 o3:Obj,Ss w.heap.size w (((w.alloc o1).alloc o2).alloc o3):=fun o1 o2 o3=>(((Su _ _).alloc (St _) _).alloc (by simp) _).alloc (by simp;try omega) _
 have dv:∀ o1 o2 o3:Obj,w.heap.size+3≤(((w.alloc o1).alloc o2).alloc o3).heap.size:=fun o1 o2 o3=>by simp
 have jX:=h_ (box3 w d.enc.toArray x.enc.toArray zeD 27 40 27)
 generalize aS (aF d.c x.id f) w=Q at *
 generalize aF d.c x.id f=R at *
 clear hd hf hE hfn
 go_enter Tryz.func38,Tryz.ntmps38
 go_upto_region 1 with fail
 have h0:=jX.out.1
 have h1:=jX.out.2.1
 have h2:=jX.out.2.2
 have hbw:=hb3 (.cells d.enc.toArray 27) (.cells x.enc.toArray 40) (.cells zeD 27)
 have hsz:=dv (.cells d.enc.toArray 27) (.cells x.enc.toArray 40) (.cells zeD 27)
 clear jX hb3 dv
 generalize ((w.alloc (.cells d.enc.toArray 27)).alloc (.cells x.enc.toArray 40)).alloc (.cells zeD 27)=W0 at *
 have hrd:=ai h0
 have cx:W0.cell? ⟨w.heap.size+1,1,none⟩=some (.int .i64 x.id):=Sj _ _ 1 _ 40 (0,0) h1
 have HC:=h_ (tY.out W0 hbw h1)
 have Z1:=h_ h2
 have bE:=h_ hbw
 clear tY hbw h0 h1 h2
 go_wp2_with (refine aj 27 (.tmp 2) rfl w.heap.size 0 rfl d.enc _ hrd Tryz.underlying27 rfl ag (by rfl) ?_)
 refine HC.out.mono ?_
 rintro e w4 ⟨D,rfl,bq,hDl,bP,hb4⟩
 have hs4:=hb4.size
 have z4:=(hb4.block (w.heap.size+1+1) (by omega)).trans Z1.out
 have bQ:=bE.out.trans (hb4.mono (by omega))
 obtain⟨pe,pc⟩:=R
 simp only at bq
 have r9:=Sp w4 (w.heap.size+1+1) _ D.enc.toArray 27 (0,0) z4
 have HF:=h_ (bD.out (pe,pc) (by first|rfl|trivial) D (w4.setRow (w.heap.size+1+1) D.enc.toArray) ⟨bq,Doc.frame hDl (by rw [size_setRow];exact St _) (fun b hb=>aK _ _ _ _ (by have:=bP b hb;omega)),fun b hb=>by have:=bP b hb;omega,Sq bQ (by omega) _⟩)
 clear HC bq hDl bP hb4 bQ bD hrd cx Z1 bE
 go_wp2_with (refine Sm rfl 27 (.tmp 4) (.tmp 11) rfl (w.heap.size+1+1) (D.enc.toArray) rfl rfl 27 _ z4 ag rfl aO ?_)
 generalize w4.setRow (w.heap.size+1+1) D.enc.toArray=w9 at *
 clear z4
 go_wp2_with fail
 exact aL Tryz.results38 rfl rfl r9 rfl HF.out
theorem Gn (gx:Nat)(x:Ed)(w:Sk)(hE:Env w)(hbx:w.heap[gx]? =some (.cells x.enc.toArray 40 (0,0)))(hx:x.fits)(h0:0≤x.row):fC 87 #[.pointer (some ⟨gx,0,none⟩)] (restyle x.c) w:=by
 intro g B y w1 hb hB hBg hyl hyu rE hf hg rF hyp
 have hs:=hb.size
 have lx:=aR hbx
 have lg:=aR hg
 have hx1:=(hb.block gx lx).trans hbx
 have hE1:Env w1:=hE.below hb (St _)
 obtain⟨i,hi⟩:=Int.eq_ofNat_of_zero_le h0
 have hBw:B≤w1.heap.size:=by omega
 have hE2:=h_ (fun(h:restyle x.c y.c=(2,y.c)) (w':Sk) (h':Ss w1.heap.size w1 w')=>(show cS (restyle x.c) B g y w1 (.returned (.int .i64 2)) w' from⟨y,by rw [h],fun h2=>(by rw [h] at h2;cases h2),h'.mono hBw⟩))
 have hrl:y.c.rows[x.c.row.toNat]? =(y.rows[i]?).map Row.runs:=by
  show(y.rows.map Row.runs)[x.row.toNat]? =_
  rw [hi,List.getElem?_map];rfl
 have Jk:y.rows.length≤4000000:=hf.2.2.2.2.2.2.2.2
 have hbN:∀ b,y.at_=some b→y.rows≠[]→∃ rb,b=⟨rb,0,none⟩:=by
  intro b hb' hne
  rcases rF.2 with⟨h1,h2⟩|⟨rb,cap,cur,h1,h2⟩
  · exact absurd (Sw h2) hne
  · simp only [Sv] at h1
    rw [hb'] at h1
    exact⟨rb,Option.some.inj h1.1⟩
 by_cases h1:i<y.rows.length
 · obtain⟨rb,off,r,hat,hrb,hr,hrc,ve⟩:=ah.at_ hyl h1
   have hne:y.rows≠[]:=fun e=>by rw [e] at h1;simp at h1
   obtain⟨rb',GO⟩:=hbN _ hat hne
   simp only [Addr.mk.injEq,and_true] at GO
   obtain⟨Kq,hoff⟩:=GO
   subst Kq
   subst hoff
   have xX:y.uses rb:=.inl ⟨hne,⟨rb,0,none⟩,hat,rfl⟩
   have hrl2:y.c.rows[x.c.row.toNat]? =some r.runs:=by rw [hrl,hr];rfl
   have hrf:=rE r (List.mem_of_getElem? hr)
   have HR:=h_ (show restyle x.c y.c=(if x.frm<0∨x.til≤x.frm∨rowLen r.runs<x.til then (2,y.c) else (0,{ y.c with rows:=y.c.rows.set i (gw r.runs x.frm x.til x.color x.it x.un) })) from by
    unfold restyle
    rw [hrl2]
    show(if x.frm<0∨x.til≤x.frm∨rowLen r.runs<x.til then (2,y.c) else (0,{ y.c with rows:=y.c.rows.set x.row.toNat _ }))=_
    rw [hi];rfl)
   have lK:=h_ (fun(w':Sk) (h:Ss w1.heap.size w1 w')=>eQ r w' (hE1.below h (St _)) (Row.keeps _ _ _ h ve) hrf)
   have IB:=h_ (fun(w':Sk) (h:Ss w1.heap.size w1 w')=>xL r x.frm x.til x.color x.it x.un w' (hE1.below h (St _)) (Row.keeps _ _ _ h ve) hrf)
   have fQ:=h_ (fun(q:Row) (w2 w3:Sk) (h1:restyle x.c y.c=(0,{ y.c with rows:=y.c.rows.set i (gw r.runs x.frm x.til x.color x.it x.un) })) (h2:Ss w1.heap.size w1 w2) (hq:q.runs=gw r.runs x.frm x.til x.color x.it x.un) (hqo:w3.ownsRow w2.heap.size 77 5 (.slice q.at_ q.runs.length q.cap) q.runs.length (q.runs.flatMap Run.enc)) (h3:Ss w2.heap.size w2 w3) =>
    zZ (by rw [h1,hq]) hr hat hyl rE hf (sw x.frm x.til x.color x.it x.un hx.2.2.2.1 hrf hq) hBg lg hBw hyu hg rF (fun z hz b hu e=>hyp z hz b hu (by rw [hat,e];rfl)) h2 hqo h3)
   have hgr:rb≠g:=(hyu rb xX).2
   have rH:rb≠gx:=by have:=(hyu rb xX).1;omega
   have Kp:rb<w1.heap.size:=hrb
   have pF:=h_ (fun(w2 w':Sk) (h2:Ss w1.heap.size w1 w2) (h:Kept (fun b=>b=rb) w2 w')=>(show w'.cell? ⟨gx,6,none⟩=some (.int .i64 x.row)∧w'.cell? ⟨gx,7,none⟩=some (.int .i64 x.frm)∧w'.cell? ⟨gx,8,none⟩=some (.int .i64 x.til)∧w'.cell? ⟨gx,10,none⟩=some (.int .u8 x.color)∧w'.cell? ⟨gx,11,none⟩=some (.bool x.it)∧w'.cell? ⟨gx,12,none⟩=some (.bool x.un)∧w'.cell? ⟨g,6,none⟩=some (.slice (some ⟨rb,0,none⟩) y.rows.length y.cap) from by
    have hbx:=(h.block gx (by have:=h2.size;omega) (fun e=>rH e.symm)).trans ((h2.block gx (by omega)).trans hx1)
    have hbg:=(h.block g (by have:=h2.size;omega) (fun e=>hgr e.symm)).trans ((h2.block g lg).trans hg)
    refine⟨Sj _ _ 6 _ 40 (0,0) hbx,Sj _ _ 7 _ 40 (0,0) hbx,Sj _ _ 8 _ 40 (0,0) hbx,Sj _ _ 10 _ 40 (0,0) hbx,Sj _ _ 11 _ 40 (0,0) hbx,Sj _ _ 12 _ 40 (0,0) hbx,?_⟩
    rw [←hat];exact Sj _ _ 6 _ 72 (0,0) hbg))
   have wR:=h_ (fun(w2 w':Sk) (h2:Ss w1.heap.size w1 w2) (h:Ss w2.heap.size w2 w')=>(show w'.cell? ⟨rb,i,none⟩=some (.slice r.at_ r.runs.length r.cap) from by
    have q0:=hrc 0 _ rfl
    rw [show 0+i*1+0=i by omega] at q0
    exact(h.cell (p:=⟨rb,i,none⟩) (Nat.lt_of_lt_of_le hrb h2.size)).trans ((h2.cell (p:=⟨rb,i,none⟩) hrb).trans q0)))
   have Lv:=h_ (fun(w':Sk) (h:Ss w1.heap.size w1 w') (o:Nat)=>(show w'.frozen? ⟨rb,o,none⟩=false from by
    rcases rF.2 with⟨k1,k2⟩|⟨rb',cap,cur,k1,k2,k3,k4⟩
    · exact absurd (Sw k2) hne
    · simp only [Sv,hat,Option.some.injEq,Addr.mk.injEq,and_true] at k1
      obtain⟨rfl,_⟩:=k1
      simp [Sk.frozen?,(h.block rb Kp).trans k3]))
   have hd1:Ss w1.heap.size w1 w1.drew:=(Su _ _).drew
   have HE2:=hE2
   clear hE2 hrl hrl2 hbN hyl hyu rE hf hg rF hyp hb hbx hx hE hE1 hx1 hat hrc ve xX hrf hrb hr
   obtain⟨ra,rc,rs⟩:=r
   obtain⟨yid,yinn,yout,yreg,yk,ysp,yat,ycap,yrows⟩:=y
   obtain⟨op,id,other,inn,out,frame,row,frm,til,kind,color,it,un,name,text,⟨rn,rt,rh,rl,rwd,rga,rgb⟩,xat,xcap,xrows⟩:=x
   simp only at *
   subst hi
   generalize rowLen rs=RL at *
   generalize yrows.length=n at *
   generalize cS _ B g _ w1=Q at *
   show Calls Tryz.prog 87 #[.pointer (some ⟨g,0,none⟩),.pointer (some ⟨gx,0,none⟩)] w1 Q
   have hn0:(0:Int)≤(i:Int):=by omega
   by_cases c1:frm<0
   · have HE:=h_ (fun w_ h_=>HE2.out (HR.out.trans (if_pos (.inl c1))) w_ h_)
     have HV:=h_ (fun(w':Sk) (h:Ss w1.heap.size w1 w')=>pF.out w1 w' (Su _ _) (Kept.of_below h))
     clear HE2 HR lK IB fQ wR pF Lv
     go_enter Tryz.func87,Tryz.ntmps87
     go_upto_region 1 with fail
     refine Sl (S:=fun w'=>Ss w1.heap.size w1 w') (by kernel_rfl) hd1 (fun _=>?_)
     have hd0:=hd1
     generalize w1.drew=v0 at *
     refine ab 0 (.pointer (some ⟨gx,6,none⟩)) hd0 ?_
     refine ab 1 (.int .i64 i) hd0 ?_ (hy:=.inl ⟨by rfl,fun w_ aH=>by have q_:=HV.out w_ aH;obtain⟨q1,q2,q3,q4,q5,q6,q7⟩:=q_;go_simp⟩)
     refine ab 2 (.pointer (some ⟨g,0,none⟩)) hd0 ?_
     refine ab 3 (.pointer (some ⟨g,0,none⟩)) hd0 ?_
     refine ab 4 (.pointer (some ⟨g,6,none⟩)) hd0 ?_
     refine ab 5 (.slice (some ⟨rb,0,none⟩) n ycap) hd0 ?_ (hy:=.inl ⟨by rfl,fun w_ aH=>by have q_:=HV.out w_ aH;obtain⟨q1,q2,q3,q4,q5,q6,q7⟩:=q_;go_simp⟩)
     refine ab 6 (.int .i64 n) hd0 ?_
     refine ab 7 (.bool false) hd0 ?_
     refine ab 8 (.bool false) hd0 ?_
     refine ab 9 (.pointer (some ⟨gx,7,none⟩)) hd0 ?_
     refine ab 10 (.int .i64 frm) hd0 ?_ (hy:=.inl ⟨by rfl,fun w_ aH=>by have q_:=HV.out w_ aH;obtain⟨q1,q2,q3,q4,q5,q6,q7⟩:=q_;go_simp⟩)
     refine ab 11 (.bool true) hd0 ?_
     refine ab 12 (.bool true) hd0 ?_
     refine ab 13 (.bool true) hd0 ?_
     refine ax 14 hd0 ?_
     refine ax 15 hd0 ?_
     refine ax 16 hd0 ?_
     refine ax 17 hd0 ?_
     refine ax 18 hd0 ?_
     refine ab 19 (.bool true) hd0 ?_
     refine ab 20 (.bool true) hd0 ?_
     refine ax 21 hd0 ?_
     refine ax 22 hd0 ?_
     refine ax 23 hd0 ?_
     refine ax 24 hd0 ?_
     refine ax 25 hd0 ?_
     refine ax 26 hd0 ?_
     refine ax 27 hd0 ?_
     refine ax 28 hd0 ?_
     refine ax 29 hd0 ?_
     refine ax 30 hd0 ?_
     refine ax 31 hd0 ?_
     refine ax 32 hd0 ?_
     refine ab 33 (.bool true) hd0 ?_
     refine Sn (by kernel_rfl) ?_ _
     go_wp2_with fail
     exact HE.out _ hd0
   · by_cases c2:til≤frm
     · have HE:=h_ (fun w_ h_=>HE2.out (HR.out.trans (if_pos (.inr (.inl c2)))) w_ h_)
       have HV:=h_ (fun(w':Sk) (h:Ss w1.heap.size w1 w')=>pF.out w1 w' (Su _ _) (Kept.of_below h))
       clear HE2 HR lK IB fQ wR pF Lv
       go_enter Tryz.func87,Tryz.ntmps87
       go_upto_region 1 with fail
       refine Sl (S:=fun w'=>Ss w1.heap.size w1 w') (by kernel_rfl) hd1 (fun _=>?_)
       have hd0:=hd1
       generalize w1.drew=v0 at *
       refine ab 0 (.pointer (some ⟨gx,6,none⟩)) hd0 ?_
       refine ab 1 (.int .i64 i) hd0 ?_ (hy:=.inl ⟨by rfl,fun w_ aH=>by have q_:=HV.out w_ aH;obtain⟨q1,q2,q3,q4,q5,q6,q7⟩:=q_;go_simp⟩)
       refine ab 2 (.pointer (some ⟨g,0,none⟩)) hd0 ?_
       refine ab 3 (.pointer (some ⟨g,0,none⟩)) hd0 ?_
       refine ab 4 (.pointer (some ⟨g,6,none⟩)) hd0 ?_
       refine ab 5 (.slice (some ⟨rb,0,none⟩) n ycap) hd0 ?_ (hy:=.inl ⟨by rfl,fun w_ aH=>by have q_:=HV.out w_ aH;obtain⟨q1,q2,q3,q4,q5,q6,q7⟩:=q_;go_simp⟩)
       refine ab 6 (.int .i64 n) hd0 ?_
       refine ab 7 (.bool false) hd0 ?_
       refine ab 8 (.bool false) hd0 ?_
       refine ab 9 (.pointer (some ⟨gx,7,none⟩)) hd0 ?_
       refine ab 10 (.int .i64 frm) hd0 ?_ (hy:=.inl ⟨by rfl,fun w_ aH=>by have q_:=HV.out w_ aH;obtain⟨q1,q2,q3,q4,q5,q6,q7⟩:=q_;go_simp⟩)
       refine ab 11 (.bool false) hd0 ?_
       refine ab 12 (.bool false) hd0 ?_
       refine ab 13 (.bool false) hd0 ?_
       refine ab 14 (.pointer (some ⟨gx,7,none⟩)) hd0 ?_
       refine ab 15 (.int .i64 frm) hd0 ?_ (hy:=.inl ⟨by rfl,fun w_ aH=>by have q_:=HV.out w_ aH;obtain⟨q1,q2,q3,q4,q5,q6,q7⟩:=q_;go_simp⟩)
       refine ab 16 (.pointer (some ⟨gx,8,none⟩)) hd0 ?_
       refine ab 17 (.int .i64 til) hd0 ?_ (hy:=.inl ⟨by rfl,fun w_ aH=>by have q_:=HV.out w_ aH;obtain⟨q1,q2,q3,q4,q5,q6,q7⟩:=q_;go_simp⟩)
       refine ab 18 (.bool true) hd0 ?_
       refine ab 19 (.bool true) hd0 ?_
       refine ab 20 (.bool true) hd0 ?_
       refine ax 21 hd0 ?_
       refine ax 22 hd0 ?_
       refine ax 23 hd0 ?_
       refine ax 24 hd0 ?_
       refine ax 25 hd0 ?_
       refine ax 26 hd0 ?_
       refine ax 27 hd0 ?_
       refine ax 28 hd0 ?_
       refine ax 29 hd0 ?_
       refine ax 30 hd0 ?_
       refine ax 31 hd0 ?_
       refine ax 32 hd0 ?_
       refine ab 33 (.bool true) hd0 ?_
       refine Sn (by kernel_rfl) ?_ _
       go_wp2_with fail
       exact HE.out _ hd0
     · have HV:=h_ (fun(w':Sk) (h:Ss w1.heap.size w1 w')=>pF.out w1 w' (Su _ _) (Kept.of_below h))
       have Js:=h_ (fun(w':Sk) (h:Ss w1.heap.size w1 w')=>wR.out w1 w' (Su _ _) h)
       go_enter Tryz.func87,Tryz.ntmps87
       go_upto_region 1 with fail
       refine Sl (S:=fun w'=>Ss w1.heap.size w1 w') (by kernel_rfl) hd1 (fun _=>?_)
       have hd0:=hd1
       generalize w1.drew=v0 at *
       refine ab 0 (.pointer (some ⟨gx,6,none⟩)) hd0 ?_
       refine ab 1 (.int .i64 i) hd0 ?_ (hy:=.inl ⟨by rfl,fun w_ aH=>by have q_:=HV.out w_ aH;obtain⟨q1,q2,q3,q4,q5,q6,q7⟩:=q_;go_simp⟩)
       refine ab 2 (.pointer (some ⟨g,0,none⟩)) hd0 ?_
       refine ab 3 (.pointer (some ⟨g,0,none⟩)) hd0 ?_
       refine ab 4 (.pointer (some ⟨g,6,none⟩)) hd0 ?_
       refine ab 5 (.slice (some ⟨rb,0,none⟩) n ycap) hd0 ?_ (hy:=.inl ⟨by rfl,fun w_ aH=>by have q_:=HV.out w_ aH;obtain⟨q1,q2,q3,q4,q5,q6,q7⟩:=q_;go_simp⟩)
       refine ab 6 (.int .i64 n) hd0 ?_
       refine ab 7 (.bool false) hd0 ?_
       refine ab 8 (.bool false) hd0 ?_
       refine ab 9 (.pointer (some ⟨gx,7,none⟩)) hd0 ?_
       refine ab 10 (.int .i64 frm) hd0 ?_ (hy:=.inl ⟨by rfl,fun w_ aH=>by have q_:=HV.out w_ aH;obtain⟨q1,q2,q3,q4,q5,q6,q7⟩:=q_;go_simp⟩)
       refine ab 11 (.bool false) hd0 ?_
       refine ab 12 (.bool false) hd0 ?_
       refine ab 13 (.bool false) hd0 ?_
       refine ab 14 (.pointer (some ⟨gx,7,none⟩)) hd0 ?_
       refine ab 15 (.int .i64 frm) hd0 ?_ (hy:=.inl ⟨by rfl,fun w_ aH=>by have q_:=HV.out w_ aH;obtain⟨q1,q2,q3,q4,q5,q6,q7⟩:=q_;go_simp⟩)
       refine ab 16 (.pointer (some ⟨gx,8,none⟩)) hd0 ?_
       refine ab 17 (.int .i64 til) hd0 ?_ (hy:=.inl ⟨by rfl,fun w_ aH=>by have q_:=HV.out w_ aH;obtain⟨q1,q2,q3,q4,q5,q6,q7⟩:=q_;go_simp⟩)
       refine ab 18 (.bool false) hd0 ?_
       refine ab 19 (.bool false) hd0 ?_
       refine ab 20 (.bool false) hd0 ?_
       refine ab 21 (.pointer (some ⟨gx,8,none⟩)) hd0 ?_
       refine ab 22 (.int .i64 til) hd0 ?_ (hy:=.inl ⟨by rfl,fun w_ aH=>by have q_:=HV.out w_ aH;obtain⟨q1,q2,q3,q4,q5,q6,q7⟩:=q_;go_simp⟩)
       refine ab 23 (.pointer (some ⟨g,0,none⟩)) hd0 ?_
       refine ab 24 (.pointer (some ⟨g,0,none⟩)) hd0 ?_
       refine ab 25 (.pointer (some ⟨g,6,none⟩)) hd0 ?_
       refine ab 26 (.slice (some ⟨rb,0,none⟩) n ycap) hd0 ?_ (hy:=.inl ⟨by rfl,fun w_ aH=>by have q_:=HV.out w_ aH;obtain⟨q1,q2,q3,q4,q5,q6,q7⟩:=q_;go_simp⟩)
       refine ab 27 (.pointer (some ⟨gx,6,none⟩)) hd0 ?_
       refine ab 28 (.int .i64 i) hd0 ?_ (hy:=.inl ⟨by rfl,fun w_ aH=>by have q_:=HV.out w_ aH;obtain⟨q1,q2,q3,q4,q5,q6,q7⟩:=q_;go_simp⟩)
       refine ab 29 (.pointer (some ⟨rb,i,none⟩)) hd0 ?_
       refine ab 30 (.agg #[.slice ra rs.length rc]) hd0 ?_ (hy:=.inl ⟨by rfl,fun w_ aH=>by have q_:=Js.out w_ aH;go_simp⟩)
       refine aq 31 (fun K hK=>?_)
       go_simp
       refine(lK.out _ hd0).mono ?_
       rintro e_ w2 ⟨rfl,ar⟩
       have hv1:Ss w1.heap.size w1 w2:=ak hd0 ar
       clear ar
       go_wp2_with fail
       refine goOn hK hv1 ?_
       clear hK
       refine ab 32 (.bool (decide (RL<til))) hv1 ?_
       refine ab 33 (.bool (decide (RL<til))) hv1 ?_
       refine Sn (by kernel_rfl) ?_ _
       have hs2:=hv1.size
       by_cases c3:RL<til
       · have HE:=h_ (fun w_ h_=>HE2.out (HR.out.trans (if_pos (.inr (.inr c3)))) w_ h_)
         clear HE2 HR lK IB fQ pF wR
         go_wp2_with fail
         exact HE.out _ hv1
       · have HQ:=h_ (fun(q:Row) (w3:Sk)=>fQ.out q w2 w3 (HR.out.trans (if_neg (by rintro (k|k|k)<;>omega))) hv1)
         have Ln:=h_ (fun(w':Sk) (h:Ss w2.heap.size w2 w')=>IB.out w' (hv1.trans (h.mono (by omega))))
         have HV:=h_ (fun(w':Sk) (h:Kept (fun b=>b=rb) w2 w')=>pF.out w2 w' hv1 h)
         have Js:=h_ (fun(w':Sk) (h:Ss w2.heap.size w2 w')=>wR.out w2 w' hv1 h)
         clear HE2 HR lK IB fQ pF wR hd0
         go_upto_region 3 with fail
         have hv0:=hv1
         clear hv1
         have hd0:Ss w2.heap.size w2 w2.drew:=(Su _ _).drew
         refine Sl (S:=fun w'=>Kept (fun b=>b=rb) w2 w') (by kernel_rfl) (Kept.of_below hd0) (fun _=>?_)
         generalize w2.drew=v0 at *
         refine ab 0 (.pointer (some ⟨g,0,none⟩)) (Kept.of_below hd0) ?_
         refine ab 1 (.pointer (some ⟨g,0,none⟩)) (Kept.of_below hd0) ?_
         refine ab 2 (.pointer (some ⟨g,6,none⟩)) (Kept.of_below hd0) ?_
         refine ab 3 (.slice (some ⟨rb,0,none⟩) n ycap) (Kept.of_below hd0) ?_ (hy:=.inl ⟨by rfl,fun w_ aH=>by have q_:=HV.out w_ aH;obtain⟨q1,q2,q3,q4,q5,q6,q7⟩:=q_;go_simp⟩)
         refine ab 4 (.pointer (some ⟨gx,6,none⟩)) (Kept.of_below hd0) ?_
         refine ab 5 (.int .i64 i) (Kept.of_below hd0) ?_ (hy:=.inl ⟨by rfl,fun w_ aH=>by have q_:=HV.out w_ aH;obtain⟨q1,q2,q3,q4,q5,q6,q7⟩:=q_;go_simp⟩)
         refine ab 6 (.pointer (some ⟨g,0,none⟩)) (Kept.of_below hd0) ?_
         refine ab 7 (.pointer (some ⟨g,0,none⟩)) (Kept.of_below hd0) ?_
         refine ab 8 (.pointer (some ⟨g,6,none⟩)) (Kept.of_below hd0) ?_
         refine ab 9 (.slice (some ⟨rb,0,none⟩) n ycap) (Kept.of_below hd0) ?_ (hy:=.inl ⟨by rfl,fun w_ aH=>by have q_:=HV.out w_ aH;obtain⟨q1,q2,q3,q4,q5,q6,q7⟩:=q_;go_simp⟩)
         refine ab 10 (.pointer (some ⟨gx,6,none⟩)) (Kept.of_below hd0) ?_
         refine ab 11 (.int .i64 i) (Kept.of_below hd0) ?_ (hy:=.inl ⟨by rfl,fun w_ aH=>by have q_:=HV.out w_ aH;obtain⟨q1,q2,q3,q4,q5,q6,q7⟩:=q_;go_simp⟩)
         refine ab 12 (.pointer (some ⟨rb,i,none⟩)) (Kept.of_below hd0) ?_
         refine ab 14 (.pointer (some ⟨gx,7,none⟩)) (Kept.of_below hd0) ?_
         refine ab 15 (.int .i64 frm) (Kept.of_below hd0) ?_ (hy:=.inl ⟨by rfl,fun w_ aH=>by have q_:=HV.out w_ aH;obtain⟨q1,q2,q3,q4,q5,q6,q7⟩:=q_;go_simp⟩)
         refine ab 16 (.pointer (some ⟨gx,8,none⟩)) (Kept.of_below hd0) ?_
         refine ab 17 (.int .i64 til) (Kept.of_below hd0) ?_ (hy:=.inl ⟨by rfl,fun w_ aH=>by have q_:=HV.out w_ aH;obtain⟨q1,q2,q3,q4,q5,q6,q7⟩:=q_;go_simp⟩)
         refine ab 18 (.pointer (some ⟨gx,10,none⟩)) (Kept.of_below hd0) ?_
         refine ab 19 (.agg #[.int .u8 color,.bool it,.bool un]) (Kept.of_below hd0) ?_ (hy:=.inl ⟨by rfl,fun w_ aH=>by have q_:=HV.out w_ aH;obtain⟨q1,q2,q3,q4,q5,q6,q7⟩:=q_;go_simp⟩)
         refine aq 13 (fun K hK=>?_)
         have q8:=Js.out v0 hd0
         go_simp
         refine goOn hK (Kept.of_below hd0) ?_
         clear hK
         refine aq 20 (fun K hK=>?_)
         go_simp
         refine(Ln.out _ hd0).mono ?_
         rintro e_ w3 ⟨⟨qa,qc,qs⟩,rfl,Kt,hqo,ar⟩
         simp only at Kt hqo
         have hv1:Ss w2.heap.size w2 w3:=ak hd0 ar
         have hs3:=hv1.size
         have GP:=kT hqo hd0.size
         clear ar hqo
         have q8:=Js.out w3 hv1
         have f8:w3.frozen? ⟨rb,i,none⟩=false:=Lv.out w3 (hv0.trans (hv1.mono (by omega))) _
         have MG:=h_ Kt
         clear Kt
         simp only [Row.enc]
         go_wp2_with fail
         refine goOn hK (Kept.of_below hv1) ?_
         clear hK
         refine ab 21 (.pointer (some ⟨rb,i,none⟩)) (Kept.of_below hv1) ?_
         refine aq 22 (fun K hK=>?_)
         go_simp
         have hst:Kept (fun b=>b=rb) w2 (w3.setCell ⟨rb,i,none⟩ (.slice qa qs.length qc)):=(Kept.of_below (S:=fun b=>b=rb) hv1).setCell (p:=⟨rb,i,none⟩) (.inr rfl) _
         refine goOn hK hst ?_
         clear hK
         refine Sn (by kernel_rfl) ?_ _
         have HF:=h_ (HQ.out ⟨qa,qc,qs⟩ w3 MG.out GP hv1)
         clear hst HQ MG GP
         generalize w3.setCell ⟨rb,i,none⟩ (.slice qa qs.length qc)=w9 at *
         go_wp2_with fail
         exact HF.out
 · have HE:=h_ (hE2.out (by
    unfold restyle
    rw [hrl,List.getElem?_eq_none (by omega)]
    rfl))
   have hc6:w1.cell? ⟨g,6,none⟩=some (.slice y.at_ y.rows.length y.cap):=Sj _ _ 6 _ 72 (0,0) hg
   have HV:=h_ (fun(w':Sk) (h:Ss w1.heap.size w1 w')=>(show w'.cell? ⟨gx,6,none⟩=some (.int .i64 x.row)∧w'.cell? ⟨g,6,none⟩=some (.slice y.at_ y.rows.length y.cap) from
    ⟨Sj _ _ 6 _ 40 (0,0) ((h.block gx (by omega)).trans hx1),Sj _ _ 6 _ 72 (0,0) ((h.block g lg).trans hg)⟩))
   have hd0:Ss w1.heap.size w1 w1.drew:=(Su _ _).drew
   clear hE2 hrl hbN hyl hyu rE hf hg rF hyp hb hbx hx hE hE1 hx1 hc6
   rw [hi] at HV
   generalize y.rows.length=n at *
   have h1':n≤i:=by omega
   clear h1
   generalize cS (restyle x.c) B g y w1=Q at *
   show Calls Tryz.prog 87 #[.pointer (some ⟨g,0,none⟩),.pointer (some ⟨gx,0,none⟩)] w1 Q
   go_enter Tryz.func87,Tryz.ntmps87
   go_upto_region 1 with fail
   refine Sl (S:=fun w'=>Ss w1.heap.size w1 w') (by kernel_rfl) hd0 (fun _=>?_)
   generalize w1.drew=v0 at *
   refine ab 0 (.pointer (some ⟨gx,6,none⟩)) hd0 ?_
   refine ab 1 (.int .i64 i) hd0 ?_ (hy:=.inl ⟨by rfl,fun w_ aH=>by have q_:=HV.out w_ aH;obtain⟨q1,q7⟩:=q_;go_simp⟩)
   refine ab 2 (.pointer (some ⟨g,0,none⟩)) hd0 ?_
   refine ab 3 (.pointer (some ⟨g,0,none⟩)) hd0 ?_
   refine ab 4 (.pointer (some ⟨g,6,none⟩)) hd0 ?_
   refine ab 5 (.slice y.at_ n y.cap) hd0 ?_ (hy:=.inl ⟨by rfl,fun w_ aH=>by have q_:=HV.out w_ aH;obtain⟨q1,q7⟩:=q_;go_simp⟩)
   refine ab 6 (.int .i64 n) hd0 ?_
   refine ab 7 (.bool true) hd0 ?_
   refine ab 8 (.bool true) hd0 ?_
   refine ax 9 hd0 ?_
   refine ax 10 hd0 ?_
   refine ax 11 hd0 ?_
   refine ab 12 (.bool true) hd0 ?_
   refine ab 13 (.bool true) hd0 ?_
   refine ax 14 hd0 ?_
   refine ax 15 hd0 ?_
   refine ax 16 hd0 ?_
   refine ax 17 hd0 ?_
   refine ax 18 hd0 ?_
   refine ab 19 (.bool true) hd0 ?_
   refine ab 20 (.bool true) hd0 ?_
   refine ax 21 hd0 ?_
   refine ax 22 hd0 ?_
   refine ax 23 hd0 ?_
   refine ax 24 hd0 ?_
   refine ax 25 hd0 ?_
   refine ax 26 hd0 ?_
   refine ax 27 hd0 ?_
   refine ax 28 hd0 ?_
   refine ax 29 hd0 ?_
   refine ax 30 hd0 ?_
   refine ax 31 hd0 ?_
   refine ax 32 hd0 ?_
   refine ab 33 (.bool true) hd0 ?_
   refine Sn (by kernel_rfl) ?_ _
   go_wp2_with fail
   exact HE.out _ hd0
end Go.Proofs.YtjebaagkomejaaaGreatDoor
