/- edit.split: a document with an event split. -/
import Derived.Test.YtjebaagkomejaaaGreatDoorK20
import Derived.Test.YtjebaagkomejaaaGreatDoorK24
import Derived.Test.YtjebaagkomejaaaGreatDoorK26
set_option linter.unusedVariables false
set_option linter.unusedSimpArgs false
set_option maxRecDepth 100000
set_option maxHeartbeats 12800000
open Go.Lib renaming hid→h_
open List renaming setIfInBounds_toArray→YA,getElem_cons_zero→YB,getElem_cons_succ→YC,getElem_toArray→YD,set_cons_zero→YE,set_cons_succ→YF
open Array renaming toArray_toList→YG
open Go renaming wpList_store_row→Sj,below_setRow→Sk,setRow_heap→Sl,cell_of_row→Sm,World→Sn
open Go.RowKit renaming Below→Sp
open And renaming intro→Sq
open Nat renaming le_refl→Sr
namespace Go.Proofs.YtjebaagkomejaaaGreatDoor
open Go.RowKit
theorem rR (d:Doc)(x:Ed)(w:Sn)(hE:Env w)(hd:d.lies w)(hf:d.fits)(hx:x.fits):Calls Tryz.prog 39 #[.agg d.enc.toArray,.agg x.enc.toArray] w (aS (et d.c x.c) w):=by
 have eP:=h_ (fun(k:Int) (w1:Sn) (h:Sp w.heap.size w w1)=>cW d k w1 (Doc.later hd h).2.1 hf.2.2.2.2.2.2.2.2.1)
 have aY:=h_ (Sq hE (Sq hd (Sq hf hx)))
 have kC:=h_ (fU d x.id)
 have i64d:i64 d.last:=hf.2.2.2.2.1
 unfold i64 at i64d
 have bh:=h_ (fun(q:Int) (hq:et d.c x.c=(q,aU)) (w':Sn) (h:Sp w.heap.size w w')=>(show aS (et d.c x.c) w (.returned (.tuple #[.agg zeD,.int .i64 q])) w' from by rw [hq];exact aS.zero q h))
 have C4:=h_ (fun(h:aT d.c.eV x.id=none)=>(show et d.c x.c=(6,aU) from by
  have h':aT d.c.eV x.c.id=none:=h
  unfold et;rw [h']))
 have pG:=h_ (fun(a:EvC) (h:aT d.c.eV x.id=some a)=>(show et d.c x.c=if 1099511627776≤d.last then (9,aU) else if bg a x.frame x.row (d.last+1)≠0 then (bg a x.frame x.row (d.last+1),aU)
  else if (putC d.c (fS a x.frame x.row)).1≠0 then ((putC d.c (fS a x.frame x.row)).1,aU) else insertC (putC d.c (fS a x.frame x.row)).2 (iI a x.frame x.row 0) from by
  have h':aT d.c.eV x.c.id=some a:=h
  unfold et;rw [h'];rfl))
 have bD:=h_ (fun(r:Int × DocC) (hr:et d.c x.c=r) (D:Doc) (w':Sn) (h:D.c=r.2∧D.lies w'∧(∀ b,D.uses b→w.heap.size≤b)∧Sp w.heap.size w w')=>(show aS (et d.c x.c) w (.returned (.tuple #[.agg D.enc.toArray,.int .i64 r.1])) w' from⟨D,by rw [hr],by rw [hr];exact h.1,h.2.1,h.2.2.1,h.2.2.2⟩))
 have jX:=h_ (box3 w d.enc.toArray x.enc.toArray zeD 27 40 27)
 have hb3:∀ o1 o2 o3:Obj,Sp w.heap.size w (((w.alloc o1).alloc o2).alloc o3):=fun o1 o2 o3=>(((Sp.refl _ _).alloc (Sr _) _).alloc (by simp) _).alloc (by simp;try omega) _
 have dv:∀ o1 o2 o3:Obj,w.heap.size+3≤(((w.alloc o1).alloc o2).alloc o3).heap.size:=fun o1 o2 o3=>by simp
 generalize hQ:aS (et d.c x.c) w=Q at *
 clear hd hf hE hx
 go_enter Tryz.func39,Tryz.ntmps39
 go_upto_region 1 with fail
 have h0:=jX.out.1
 have h1:=jX.out.2.1
 have h2:=jX.out.2.2
 have hbw:=hb3 (.cells d.enc.toArray 27) (.cells x.enc.toArray 40) (.cells zeD 27)
 have hsz:=dv (.cells d.enc.toArray 27) (.cells x.enc.toArray 40) (.cells zeD 27)
 clear jX hb3 dv
 generalize ((w.alloc (.cells d.enc.toArray 27)).alloc (.cells x.enc.toArray 40)).alloc (.cells zeD 27)=W0 at *
 have hr0:=ai h0
 have cid:W0.cell? ⟨w.heap.size+1,1,none⟩=some (.int .i64 x.id):=Sm _ _ 1 _ 40 (0,0) h1
 have tW:=h_ (eP.out x.id W0 hbw)
 have H0:=h_ h0
 have H1:=h_ h1
 have H2:=h_ h2
 have bE:=h_ hbw
 clear h0 h1 h2 hbw eP
 go_wp2_with (refine aj 27 (.tmp 2) rfl w.heap.size 0 rfl d.enc _ hr0 Tryz.underlying27 rfl ag (by rfl) ?_)
 refine tW.out.mono ?_
 rintro e w1 ⟨rfl,hb1⟩
 have hs1:=hb1.size
 have z0:=(hb1.block (w.heap.size) (by omega)).trans H0.out
 have z1:=(hb1.block (w.heap.size+1) (by omega)).trans H1.out
 have z2:=(hb1.block (w.heap.size+1+1) (by omega)).trans H2.out
 have aM:=bE.out.trans (hb1.mono (by omega))
 clear hb1 H0 H1 H2 bE tW hr0 cid
 have jm:=h_ kC.out
 generalize posOf (iu x.id) d.eV=FI at *
 rcases jm.out with⟨hp,hn⟩|⟨i,a,hp,hi,hn⟩
 · subst hp
   have wY:=h_ (C4.out hn)
   clear jm kC C4 pG aY hn
   have HE:=h_ (bh.out (6) wY.out (w1.setRow (w.heap.size+1+1) zeD) (Sk aM (by omega) _))
   have z9:=Sl w1 (w.heap.size+1+1) _ zeD 27 (0,0) z2
   clear bh wY aM z0 z1
   go_wp2_with (refine Sj rfl 27 (.tmp 4) (.tmp 16) rfl (w.heap.size+1+1) zeD rfl rfl 27 _ z2 ag rfl aO ?_)
   generalize w1.setRow (w.heap.size+1+1) zeD=w9 at *
   exact aL Tryz.results39 rfl rfl z9 rfl HE.out
 · subst hp
   have hi0:(0:Int)≤(i:Int):=by omega
   have HS:=h_ (pG.out a.c hn)
   have cl:w1.cell? ⟨w.heap.size,4,none⟩=some (.int .i64 d.last):=Sm _ _ 4 _ 27 (0,0) z0
   clear jm kC C4 pG hn
   by_cases hlast:1099511627776≤d.last
   · have C_:=h_ (HS.out.trans (if_pos hlast))
     clear HS aY hi
     have HE:=h_ (bh.out (9) C_.out (w1.setRow (w.heap.size+1+1) zeD) (Sk aM (by omega) _))
     have z9:=Sl w1 (w.heap.size+1+1) _ zeD 27 (0,0) z2
     clear bh C_ aM z0 z1
     go_wp2_with (refine Sj rfl 27 (.tmp 4) (.tmp 20) rfl (w.heap.size+1+1) zeD rfl rfl 27 _ z2 ag rfl aO ?_)
     generalize w1.setRow (w.heap.size+1+1) zeD=w9 at *
     exact aL Tryz.results39 rfl rfl z9 rfl HE.out
   · have KA:d.last<1099511627776:=by omega
     have HS2:=h_ (HS.out.trans (if_neg hlast))
     clear HS hlast
     go_upto_region 6 with fail
     have hld:=Doc.later aY.out.2.1 aM
     have hil:i<d.eV.length:=(List.getElem?_eq_some_iff.1 hi).1
     have hle:d.eV.length≤4000000:=aY.out.2.2.1.2.2.2.2.2.2.2.2.1
     have hfa:a.fits:=aY.out.2.2.1.2.2.2.2.2.2.2.1 a (List.mem_of_getElem? hi)
     obtain⟨b0,off,a',vi,hb0,hxa,oq,hal⟩:=ah.at_ hld.2.1 hil
     rw [hi] at hxa
     obtain rfl:=Option.some.inj hxa
     have tT:=h_ (fun(w':Sn) (h:Sp w1.heap.size w1 w')=>(show w'.cell? ⟨w.heap.size,6,none⟩=some (.slice (some ⟨b0,off,none⟩) d.eV.length d.ec)∧w'.rangeAt b0 (off+i*7) a.enc∧w'.cell? ⟨w.heap.size+1,5,none⟩=some (.int .i64 x.frame)∧w'.cell? ⟨w.heap.size+1,6,none⟩=some (.int .i64 x.row)∧w'.cell? ⟨w.heap.size,4,none⟩=some (.int .i64 d.last) from
      ⟨by rw [←vi];exact Sm _ _ 6 _ 27 (0,0) ((h.block w.heap.size (by omega)).trans z0),fun q v hv=>(h.cell (p:=⟨b0,off+i*7+q,none⟩) hb0).trans (oq q v hv),Sm _ _ 5 _ 40 (0,0) ((h.block (w.heap.size+1) (by omega)).trans z1),Sm _ _ 6 _ 40 (0,0) ((h.block (w.heap.size+1) (by omega)).trans z1),Sm _ _ 4 _ 27 (0,0) ((h.block w.heap.size (by omega)).trans z0)⟩))
     have Bf:=h_ (fun(w':Sn) (h:Sp w1.heap.size w1 w')=>uh a x.frame x.row (d.last+1) w' (Ev.keeps _ _ _ h hal) hfa)
     have nP:=h_ hfa
     have Z0:=h_ z0
     have Z1:=h_ z1
     have Z2:=h_ z2
     have jV:=h_ aM
     have hwl:IntKind.i64.wrap (d.last+1)=d.last+1:=by rw [IntKind.wrap_i64];omega
     clear hld vi oq hal hfa hi z0 z1 z2 aM cl
     go_upto_region 6 with fail
     go_cut [7,8,9] from 21 to 37 (fun p q v wx=>∃ (g1 g2:Nat) (A B:Ev),p=.pointer (some ⟨g1,0,none⟩)∧q=.pointer (some ⟨g2,0,none⟩)∧v=.int .i64 (bg a.c x.frame x.row (d.last+1))∧(bg a.c x.frame x.row (d.last+1)=0→A.c=fS a.c x.frame x.row∧B.c=iI a.c x.frame x.row (d.last+1))∧Ic w1.heap.size g1 g2 A B wx∧Sp w1.heap.size w1 wx)
     case first =>
      have hd0:Sp w1.heap.size w1 w1.drew:=(Sp.refl _ _).drew
      clear aY bh HS2 nP Z0 Z1 Z2 jV hQ
      refine wp_region_held_drew (S:=fun w'=>Sp w1.heap.size w1 w') (by kernel_rfl) hd0 (fun _=>?_)
      generalize w1.drew=v0 at *
      refine ab 0 (.pointer (some ⟨w.heap.size,6,none⟩)) hd0 ?_
      refine ab 1 (.slice (some ⟨b0,off,none⟩) d.eV.length d.ec) hd0 ?_ (hy:=.inl ⟨by rfl,fun w_ aH=>by have q_:=(tT.out w_ aH).1;go_simp⟩)
      refine ab 2 (.int .i64 i) hd0 ?_
      refine ab 3 (.pointer (some ⟨b0,off+i*7,none⟩)) hd0 ?_
      refine ab 4 (.agg a.enc.toArray) hd0 ?_ (hy:=yieldsIf_load_mid (by rfl) 72 (.tmp 25) rfl b0 (off+i*7) rfl a.enc _ (fun w_ h_=>(tT.out w_ h_).2.1) Tryz.underlying72 rfl aV)
      refine ab 5 (.pointer (some ⟨w.heap.size+1,5,none⟩)) hd0 ?_
      refine ab 6 (.int .i64 x.frame) hd0 ?_ (hy:=.inl ⟨by rfl,fun w_ aH=>by have q_:=(tT.out w_ aH).2.2.1;go_simp⟩)
      refine ab 7 (.pointer (some ⟨w.heap.size+1,6,none⟩)) hd0 ?_
      refine ab 8 (.int .i64 x.row) hd0 ?_ (hy:=.inl ⟨by rfl,fun w_ aH=>by have q_:=(tT.out w_ aH).2.2.2.1;go_simp⟩)
      refine ab 9 (.pointer (some ⟨w.heap.size,4,none⟩)) hd0 ?_
      refine ab 10 (.int .i64 d.last) hd0 ?_ (hy:=.inl ⟨by rfl,fun w_ aH=>by have q_:=(tT.out w_ aH).2.2.2.2;go_simp⟩)
      refine ab 11 (.int .i64 (d.last+1)) hd0 ?_
      refine wpAnyH_ready (rs:=[12,17,18]) (by kernel_rfl) (by simp) ?_
      refine AllReadyH.cons rfl (fun K hK=>?_) (AllReadyH.cons rfl (fun K hK=>?_) (AllReadyH.cons rfl (fun K hK=>?_) AllReadyH.nil))
      focus
       go_simp
       refine(Bf.out _ hd0).mono ?_
       rintro e_ v1 ⟨A,B,rfl,hc,cG,hBl,tR,ou,ar⟩
       have hv1:Sp w1.heap.size w1 v1:=ak hd0 ar
       have hs1:=ar.size
       have hAt:∀ k,A.uses k→k<v1.heap.size:=fun k h=>Ev.uses_lt cG h
       have lz:∀ k,B.uses k→k<v1.heap.size:=fun k h=>Ev.uses_lt hBl h
       clear ar
       go_wp2_with fail
       refine goOn hK hv1 ?_
       clear hK
       refine ab 13 (.tuple #[.agg A.enc.toArray,.agg B.enc.toArray,.int .i64 (bg a.c x.frame x.row (d.last+1))]) hv1 ?_
       refine ab 14 (.agg A.enc.toArray) hv1 ?_
       refine ab 15 (.agg B.enc.toArray) hv1 ?_
       refine ab 16 (.int .i64 (bg a.c x.frame x.row (d.last+1))) hv1 ?_
       refine dP 17 18 (fun K hK=>?_) (fun K hK=>?_)
       focus
        go_simp
        obtain⟨v2,g1,ea,eb,z1,ar,l1,q1⟩:=cL v1 (.cells zeE 72)
        rw [ea,eb]
        clear ea eb
        have hv2:Sp w1.heap.size w1 v2:=ak hv1 ar
        have hs2:=ar.size
        replace cG:=Ev.keeps _ _ _ ar cG
        replace hBl:=Ev.keeps _ _ _ ar hBl
        clear ar
        refine goOn hK hv2 ?_
        clear hK
        refine aq 18 (fun K hK=>?_)
        go_simp
        obtain⟨v3,g2,ea,eb,z2,ar,l2,q2⟩:=cL v2 (.cells zeE 72)
        rw [ea,eb]
        clear ea eb
        have hv3:Sp w1.heap.size w1 v3:=ak hv2 ar
        have hs3:=ar.size
        replace z1:=(ar.block g1 (by omega)).trans z1
        replace cG:=Ev.keeps _ _ _ ar cG
        replace hBl:=Ev.keeps _ _ _ ar hBl
        clear ar
        refine goOn hK hv3 ?_
        clear hK
       rotate_left
       focus
        go_simp
        obtain⟨v2,g2,ea,eb,z2,ar,l2,q2⟩:=cL v1 (.cells zeE 72)
        rw [ea,eb]
        clear ea eb
        have hv2:Sp w1.heap.size w1 v2:=ak hv1 ar
        have hs2:=ar.size
        replace cG:=Ev.keeps _ _ _ ar cG
        replace hBl:=Ev.keeps _ _ _ ar hBl
        clear ar
        refine goOn hK hv2 ?_
        clear hK
        refine aq 17 (fun K hK=>?_)
        go_simp
        obtain⟨v3,g1,ea,eb,z1,ar,l1,q1⟩:=cL v2 (.cells zeE 72)
        rw [ea,eb]
        clear ea eb
        have hv3:Sp w1.heap.size w1 v3:=ak hv2 ar
        have hs3:=ar.size
        replace z2:=(ar.block g2 (by omega)).trans z2
        replace cG:=Ev.keeps _ _ _ ar cG
        replace hBl:=Ev.keeps _ _ _ ar hBl
        clear ar
        refine goOn hK hv3 ?_
        clear hK
      rotate_left 2
      focus
       go_simp
       obtain⟨v1,g1,ea,eb,z1,ar,l1,q1⟩:=cL v0 (.cells zeE 72)
       rw [ea,eb]
       clear ea eb
       have hv1:Sp w1.heap.size w1 v1:=ak hd0 ar
       have hs1:=ar.size
       clear ar
       refine goOn hK hv1 ?_
       clear hK
       refine dP 12 18 (fun K hK=>?_) (fun K hK=>?_)
       focus
        go_simp
        refine(Bf.out _ hv1).mono ?_
        rintro e_ v2 ⟨A,B,rfl,hc,cG,hBl,tR,ou,ar⟩
        have hv2:Sp w1.heap.size w1 v2:=ak hv1 ar
        have hs2:=ar.size
        have hAt:∀ k,A.uses k→k<v2.heap.size:=fun k h=>Ev.uses_lt cG h
        have lz:∀ k,B.uses k→k<v2.heap.size:=fun k h=>Ev.uses_lt hBl h
        replace z1:=(ar.block g1 (by omega)).trans z1
        clear ar
        go_wp2_with fail
        refine goOn hK hv2 ?_
        clear hK
        refine ab 13 (.tuple #[.agg A.enc.toArray,.agg B.enc.toArray,.int .i64 (bg a.c x.frame x.row (d.last+1))]) hv2 ?_
        refine ab 14 (.agg A.enc.toArray) hv2 ?_
        refine ab 15 (.agg B.enc.toArray) hv2 ?_
        refine ab 16 (.int .i64 (bg a.c x.frame x.row (d.last+1))) hv2 ?_
        refine aq 18 (fun K hK=>?_)
        go_simp
        obtain⟨v3,g2,ea,eb,z2,ar,l2,q2⟩:=cL v2 (.cells zeE 72)
        rw [ea,eb]
        clear ea eb
        have hv3:Sp w1.heap.size w1 v3:=ak hv2 ar
        have hs3:=ar.size
        replace z1:=(ar.block g1 (by omega)).trans z1
        replace cG:=Ev.keeps _ _ _ ar cG
        replace hBl:=Ev.keeps _ _ _ ar hBl
        clear ar
        refine goOn hK hv3 ?_
        clear hK
       rotate_left
       focus
        go_simp
        obtain⟨v2,g2,ea,eb,z2,ar,l2,q2⟩:=cL v1 (.cells zeE 72)
        rw [ea,eb]
        clear ea eb
        have hv2:Sp w1.heap.size w1 v2:=ak hv1 ar
        have hs2:=ar.size
        replace z1:=(ar.block g1 (by omega)).trans z1
        clear ar
        refine goOn hK hv2 ?_
        clear hK
        refine aq 12 (fun K hK=>?_)
        go_simp
        refine(Bf.out _ hv2).mono ?_
        rintro e_ v3 ⟨A,B,rfl,hc,cG,hBl,tR,ou,ar⟩
        have hv3:Sp w1.heap.size w1 v3:=ak hv2 ar
        have hs3:=ar.size
        have hAt:∀ k,A.uses k→k<v3.heap.size:=fun k h=>Ev.uses_lt cG h
        have lz:∀ k,B.uses k→k<v3.heap.size:=fun k h=>Ev.uses_lt hBl h
        replace z1:=(ar.block g1 (by omega)).trans z1
        replace z2:=(ar.block g2 (by omega)).trans z2
        clear ar
        go_wp2_with fail
        refine goOn hK hv3 ?_
        clear hK
        refine ab 13 (.tuple #[.agg A.enc.toArray,.agg B.enc.toArray,.int .i64 (bg a.c x.frame x.row (d.last+1))]) hv3 ?_
        refine ab 14 (.agg A.enc.toArray) hv3 ?_
        refine ab 15 (.agg B.enc.toArray) hv3 ?_
        refine ab 16 (.int .i64 (bg a.c x.frame x.row (d.last+1))) hv3 ?_
      rotate_left 2
      focus
       go_simp
       obtain⟨v1,g2,ea,eb,z2,ar,l2,q2⟩:=cL v0 (.cells zeE 72)
       rw [ea,eb]
       clear ea eb
       have hv1:Sp w1.heap.size w1 v1:=ak hd0 ar
       have hs1:=ar.size
       clear ar
       refine goOn hK hv1 ?_
       clear hK
       refine dP 12 17 (fun K hK=>?_) (fun K hK=>?_)
       focus
        go_simp
        refine(Bf.out _ hv1).mono ?_
        rintro e_ v2 ⟨A,B,rfl,hc,cG,hBl,tR,ou,ar⟩
        have hv2:Sp w1.heap.size w1 v2:=ak hv1 ar
        have hs2:=ar.size
        have hAt:∀ k,A.uses k→k<v2.heap.size:=fun k h=>Ev.uses_lt cG h
        have lz:∀ k,B.uses k→k<v2.heap.size:=fun k h=>Ev.uses_lt hBl h
        replace z2:=(ar.block g2 (by omega)).trans z2
        clear ar
        go_wp2_with fail
        refine goOn hK hv2 ?_
        clear hK
        refine ab 13 (.tuple #[.agg A.enc.toArray,.agg B.enc.toArray,.int .i64 (bg a.c x.frame x.row (d.last+1))]) hv2 ?_
        refine ab 14 (.agg A.enc.toArray) hv2 ?_
        refine ab 15 (.agg B.enc.toArray) hv2 ?_
        refine ab 16 (.int .i64 (bg a.c x.frame x.row (d.last+1))) hv2 ?_
        refine aq 17 (fun K hK=>?_)
        go_simp
        obtain⟨v3,g1,ea,eb,z1,ar,l1,q1⟩:=cL v2 (.cells zeE 72)
        rw [ea,eb]
        clear ea eb
        have hv3:Sp w1.heap.size w1 v3:=ak hv2 ar
        have hs3:=ar.size
        replace z2:=(ar.block g2 (by omega)).trans z2
        replace cG:=Ev.keeps _ _ _ ar cG
        replace hBl:=Ev.keeps _ _ _ ar hBl
        clear ar
        refine goOn hK hv3 ?_
        clear hK
       rotate_left
       focus
        go_simp
        obtain⟨v2,g1,ea,eb,z1,ar,l1,q1⟩:=cL v1 (.cells zeE 72)
        rw [ea,eb]
        clear ea eb
        have hv2:Sp w1.heap.size w1 v2:=ak hv1 ar
        have hs2:=ar.size
        replace z2:=(ar.block g2 (by omega)).trans z2
        clear ar
        refine goOn hK hv2 ?_
        clear hK
        refine aq 12 (fun K hK=>?_)
        go_simp
        refine(Bf.out _ hv2).mono ?_
        rintro e_ v3 ⟨A,B,rfl,hc,cG,hBl,tR,ou,ar⟩
        have hv3:Sp w1.heap.size w1 v3:=ak hv2 ar
        have hs3:=ar.size
        have hAt:∀ k,A.uses k→k<v3.heap.size:=fun k h=>Ev.uses_lt cG h
        have lz:∀ k,B.uses k→k<v3.heap.size:=fun k h=>Ev.uses_lt hBl h
        replace z2:=(ar.block g2 (by omega)).trans z2
        replace z1:=(ar.block g1 (by omega)).trans z1
        clear ar
        go_wp2_with fail
        refine goOn hK hv3 ?_
        clear hK
        refine ab 13 (.tuple #[.agg A.enc.toArray,.agg B.enc.toArray,.int .i64 (bg a.c x.frame x.row (d.last+1))]) hv3 ?_
        refine ab 14 (.agg A.enc.toArray) hv3 ?_
        refine ab 15 (.agg B.enc.toArray) hv3 ?_
        refine ab 16 (.int .i64 (bg a.c x.frame x.row (d.last+1))) hv3 ?_
      all_goals
       refine aq 19 (fun K hK=>?_)
       rw [if_pos (by rfl)]
       refine wp_store_row 72 (.tmp 7) (.tmp 35) rfl g1 A.enc.toArray rfl rfl 72 _ z1 aV rfl (mL _) ?_
       have fq:Sp w1.heap.size w1 (v3.setRow g1 A.enc.toArray):=Sk hv3 (by have:=hd0.size;omega) _
       refine goOn hK fq ?_
       clear hK
       refine aq 20 (fun K hK=>?_)
       have z9:=(aK v3 g1 g2 A.enc.toArray (by omega)).trans z2
       rw [if_pos (by rfl)]
       refine wp_store_row 72 (.tmp 8) (.tmp 36) rfl g2 B.enc.toArray rfl rfl 72 _ z9 aV rfl (mL _) ?_
       have om:Sp w1.heap.size w1 ((v3.setRow g1 A.enc.toArray).setRow g2 B.enc.toArray):=Sk fq (by have:=hd0.size;omega) _
       refine goOn hK om ?_
       clear hK
       refine ab 21 (.int .i64 (bg a.c x.frame x.row (d.last+1))) om ?_
       refine wpAnyH_done (by kernel_rfl) ?_ _
       have Hg:=hd0.size
       go_wp2_with fail
       go_meet
       exact⟨g1,g2,A,B,rfl,rfl,rfl,hc,xm (v:=v3) cG hBl (fun k h=>by have:=tR k h;have:=hAt k h;refine⟨?_,?_,?_⟩<;>omega) (fun k h=>by have:=ou k h;have:=lz k h;refine⟨?_,?_,?_⟩<;>omega) z1 z2 (by omega) (by omega) (by omega) (.inl rfl),om⟩
     case rest =>
      obtain⟨g1,g2,A,B,rfl,rfl,rfl,hc,hm,hbc⟩:=hcut
      obtain⟨w2,hw2⟩:∃ x,x=wc:=⟨_,rfl⟩
      subst hw2
      have hs2:=hbc.size
      have y0:=(hbc.block w.heap.size (by omega)).trans Z0.out
      have y2:=(hbc.block (w.heap.size+1+1) (by omega)).trans Z2.out
      have hbw2:=jV.out.trans (hbc.mono (by omega))
      have HC:=h_ hc
      have HM:=h_ hm
      clear hbc Z0 Z1 Z2 jV tT Bf hc hm hwl
      generalize bg a.c x.frame x.row (d.last+1)=SE at *
      by_cases hse:SE=0
      · subst hse
        obtain⟨yY,wC⟩:=HC.out (by first|rfl|trivial)
        have nY:=h_ (HS2.out.trans (if_neg (by intro h;exact h rfl)))
        rw [←yY] at nY
        have CD:A.fits:=ug nP.out aY.out.2.2.2.2.1.2.2.2.2.1 yY
        have vO:=h_ wC
        have LI:=h_ (fun(B2:Ev) (h:B2.c=iI a.c x.frame x.row 0)=>uf nP.out aY.out.2.2.2.2.1.2.2.2.2.1 h)
        have HP:=h_ (mF d A w2 (aY.out.1.below hbw2 (Sr _)) (Doc.later aY.out.2.1 hbw2) aY.out.2.2.1 HM.out.al CD)
        have Bs:=h_ (fun(D:Doc) (h:D.c=(putC d.c A.c).2) (h0:(putC d.c A.c).1=0)=>wh aY.out.2.2.1 ((Ev.fits_c A).2 CD) h h0)
        have r0:=ai y0
        have ra:=ai HM.out.z1
        have zj:=h_ aY.out.1
        have Bv:=h_ hbw2
        have Y0:=h_ y0
        have Y2:=h_ y2
        have hn2:=HM.out.n2
        generalize putC d.c A.c=rm at *
        obtain⟨re,rc⟩:=rm
        clear HC HS2 aY nP yY wC CD hbw2 y0 y2
        go_wp2_with (first|(refine aj 27 (.tmp 2) rfl w.heap.size 0 rfl d.enc _ r0 Tryz.underlying27 rfl ag (by rfl) ?_)|(refine aj 72 (.tmp 7) rfl g1 0 rfl A.enc _ ra Tryz.underlying72 rfl aV (by rfl) ?_))
        refine HP.out.mono ?_
        rintro e w3 ⟨D,rfl,bq,hDl,bP,hb3⟩
        simp only at bq
        have hs3:=hb3.size
        have q0:=(hb3.block w.heap.size (by omega)).trans Y0.out
        have q2:=(hb3.block (w.heap.size+1+1) (by omega)).trans Y2.out
        have qg:=(hb3.block g2 (aR HM.out.z2)).trans HM.out.z2
        have hBl:=Ev.keeps _ _ _ hb3 HM.out.bl
        have ou:=HM.out.bu
        have hg2:=aR HM.out.z2
        have cR:=Bv.out.trans (hb3.mono (by omega))
        clear HP hb3 Y0 Y2 r0 ra Bv HM
        go_upto_region 10 with(refine Sj rfl 27 (.tmp 2) (.tmp 46) rfl w.heap.size (D.enc.toArray) rfl rfl 27 _ q0 ag rfl aO ?_)
        have r0:=Sl w3 w.heap.size _ D.enc.toArray 27 (0,0) q0
        have z2:=(aK w3 w.heap.size (w.heap.size+1+1) D.enc.toArray (by omega)).trans q2
        have zg:=(aK w3 w.heap.size g2 D.enc.toArray (by omega)).trans qg
        have bQ:Sp w.heap.size w (w3.setRow w.heap.size D.enc.toArray):=Sk cR (Sr _) _
        have vk:D.lies (w3.setRow w.heap.size D.enc.toArray):=Doc.frame hDl (by rw [size_setRow];exact Sr _) (fun k h=>aK _ _ _ _ (by have:=bP k h;omega))
        have E_:B.lies (w3.setRow w.heap.size D.enc.toArray):=Ev.frame hBl (by rw [size_setRow];exact Sr _) (fun k h=>aK _ _ _ _ (by have:=(ou k h).2.2;omega))
        have hs4:w3.heap.size≤(w3.setRow w.heap.size D.enc.toArray).heap.size:=by rw [size_setRow];exact Sr _
        generalize w3.setRow w.heap.size D.enc.toArray=w4 at *
        clear hDl hBl qg q0 q2 cR
        by_cases hre:re=0
        · subst hre
          have Io:=h_ (nY.out.trans (if_neg (by intro h;exact h rfl)))
          have AK:=Bs.out D bq (by first|rfl|trivial)
          have hR0:=r0
          have c0:w4.cell? ⟨g2,0,none⟩=some (.int .i64 B.id):=Sm _ _ 0 _ 72 (0,0) zg
          have f0:∀ j,w4.frozen? ⟨g2,j,none⟩=false:=fun j=>by simp [Sn.frozen?,zg]
          have ZG:=h_ zg
          have R0:=h_ r0
          have Z2:=h_ z2
          have FO:=h_ bQ
          have zk:=h_ (Sq vk (Sq bP (Sq AK bq)))
          have JJ:=h_ (Sq E_ ou)
          clear zg r0 z2 bQ vk bP AK bq E_ ou Bs nY hR0
          go_upto_region 13 with fail
          clear c0 f0
          obtain⟨B2,hB2⟩:∃ B2:Ev,B2={ B with id:=0 }:=⟨_,rfl⟩
          have rg:=heap_setCell_same w4 g2 0 _ 72 (.int .i64 0) ZG.out
          rw [show B.enc.toArray.setIfInBounds 0 (.int .i64 0)=B2.enc.toArray from by rw [hB2];simp [Ev.enc]] at rg
          have hk5:Kept (fun b=>b=g2) w4 (w4.setCell ⟨g2,0,none⟩ (.int .i64 0)):=bG (Kept.refl _ _) 0 _
          generalize w4.setCell ⟨g2,0,none⟩ (.int .i64 0)=w5 at *
          have hs5:=hk5.size
          have Fa:B2.c=iI a.c x.frame x.row 0:=by
           rw [hB2]
           show({ B.c with id:=0 }:EvC)=_
           rw [vO.out];rfl
          have Hz:B2.lies w5:=by
           rw [hB2]
           exact bx.frame (rows:=B.rows) JJ.out.1 hs5 fun k h=>hk5.block k (gM JJ.out.1 h) (JJ.out.2 k h).2.1
          have H5:=LI.out B2 Fa
          have Ht:Doc.lies w5 D:=Doc.frame zk.out.1 hs5 fun k h=>hk5.block k (Doc.uses_lt zk.out.1 h) (by have:=zk.out.2.1 k h;omega)
          have r5:=(hk5.block w.heap.size (by omega) (by omega)).trans R0.out
          have z5:=(hk5.block (w.heap.size+1+1) (by omega) (by omega)).trans Z2.out
          have bt:Sp w.heap.size w w5:=FO.out.trans (hk5.below (by omega) fun b hb e=>by omega)
          have HI:=h_ (lr D B2 w5 (zj.out.below bt (Sr _)) Ht zk.out.2.2.1 Hz H5)
          have hins:∀ (dd:DocC) (ee:EvC),(insertC dd ee).1=aQ dd ee:=fun dd ee=>by
           rw [qq]
           by_cases h:aQ dd ee≠0
           · rw [if_pos h]
           · rw [if_neg h];exact(Decidable.not_not.1 h).symm
          have nO:=h_ (show et d.c x.c=insertC D.c B2.c from by rw [Io.out,zk.out.2.2.2,Fa])
          have C8:=h_ (hins D.c B2.c)
          have rD:=ai r5
          have rB:=ai rg
          have R5:=h_ r5
          have Z5:=h_ z5
          have iG:=h_ bt
          clear Ht r5 z5 bt hins Hz H5 Fa hB2 rg hk5 Io zk JJ FO Z2 R0 ZG zj LI vO bh
          go_wp2_with (first|(refine aj 27 (.tmp 2) rfl w.heap.size 0 rfl D.enc _ rD Tryz.underlying27 rfl ag (by rfl) ?_)|(refine aj 72 (.tmp 8) rfl g2 0 rfl B2.enc _ rB Tryz.underlying72 rfl aV (by rfl) ?_))
          refine HI.out.mono ?_
          rintro e w6 ⟨D2,rfl,Hy,Hw,CB,hb6⟩
          have hs6:=hb6.size
          have r6:=(hb6.block w.heap.size (by omega)).trans R5.out
          have z6:=(hb6.block (w.heap.size+1+1) (by omega)).trans Z5.out
          have sW:=iG.out.trans (hb6.mono (by omega))
          generalize (if aQ D.c B2.c=0 then (insE D.c B2.c).id else 0)=nid at *
          generalize aQ D.c B2.c=ie at *
          clear HI hb6 R5 Z5 iG rD rB
          go_upto_region 14 with(refine Sj rfl 27 (.tmp 2) (.tmp 57) rfl w.heap.size (D2.enc.toArray) rfl rfl 27 _ r6 ag rfl aO ?_)
          have r7:=Sl w6 w.heap.size _ D2.enc.toArray 27 (0,0) r6
          have z7:=(aK w6 w.heap.size (w.heap.size+1+1) D2.enc.toArray (by omega)).trans z6
          have Hj:Sp w.heap.size w (w6.setRow w.heap.size D2.enc.toArray):=Sk sW (Sr _) _
          have KB:D2.lies (w6.setRow w.heap.size D2.enc.toArray):=Doc.frame Hw (by rw [size_setRow];exact Sr _) (fun k h=>aK _ _ _ _ (by have:=CB k h;omega))
          have hs7:w6.heap.size≤(w6.setRow w.heap.size D2.enc.toArray).heap.size:=by rw [size_setRow];exact Sr _
          generalize w6.setRow w.heap.size D2.enc.toArray=w7 at *
          have r9:=Sl w7 (w.heap.size+1+1) _ D2.enc.toArray 27 (0,0) z7
          have HF:=h_ (bD.out (insertC D.c B2.c) nO.out D2 (w7.setRow (w.heap.size+1+1) D2.enc.toArray) ⟨Hy,Doc.frame KB (by rw [size_setRow];exact Sr _) (fun k h=>aK _ _ _ _ (by have:=CB k h;omega)),fun k h=>by have:=CB k h;omega,Sk Hj (by omega) _⟩)
          rw [C8.out] at HF
          have rD:=ai r7
          clear Hy Hw CB r6 z6 sW Hj KB nO C8 bD r7
          go_wp2_with (first|(refine aj 27 (.tmp 2) rfl w.heap.size 0 rfl D2.enc _ rD Tryz.underlying27 rfl ag (by rfl) ?_)|(refine Sj rfl 27 (.tmp 4) (.tmp 60) rfl (w.heap.size+1+1) (D2.enc.toArray) rfl rfl 27 _ z7 ag rfl aO ?_))
          generalize w7.setRow (w.heap.size+1+1) D2.enc.toArray=w9 at *
          clear z7 rD
          go_wp2_with fail
          exact aL Tryz.results39 rfl rfl r9 rfl HF.out
        · have Kn:(re != 0)=true:=by simpa using hre
          have Ip:=h_ (nY.out.trans (if_pos hre))
          have HE:=h_ (bh.out (re) Ip.out (w4.setRow (w.heap.size+1+1) zeD) (Sk bQ (by omega) _))
          have z9:=Sl w4 (w.heap.size+1+1) _ zeD 27 (0,0) z2
          clear bh nY Ip Bs zj LI vO bq vk E_ bQ r0 zg hre
          go_wp2_with (refine Sj rfl 27 (.tmp 4) (.tmp 50) rfl (w.heap.size+1+1) zeD rfl rfl 27 _ z2 ag rfl aO ?_)
          generalize w4.setRow (w.heap.size+1+1) zeD=w9 at *
          exact aL Tryz.results39 rfl rfl z9 rfl HE.out
      · have NC:(SE != 0)=true:=by simpa using hse
        have nY:=h_ (HS2.out.trans (if_pos hse))
        have HE:=h_ (bh.out (SE) nY.out (w2.setRow (w.heap.size+1+1) zeD) (Sk hbw2 (by omega) _))
        have z9:=Sl w2 (w.heap.size+1+1) _ zeD 27 (0,0) y2
        clear bh HS2 nY HC HM aY nP hbw2 y0 hse
        go_wp2_with (refine Sj rfl 27 (.tmp 4) (.tmp 40) rfl (w.heap.size+1+1) zeD rfl rfl 27 _ y2 ag rfl aO ?_)
        generalize w2.setRow (w.heap.size+1+1) zeD=w9 at *
        exact aL Tryz.results39 rfl rfl z9 rfl HE.out
end Go.Proofs.YtjebaagkomejaaaGreatDoor
