/- edit.Apply: the document after a command. -/
import Derived.Test.YtjebaagkomejaaaGreatDoorK36
import Derived.Test.YtjebaagkomejaaaGreatDoorK35
import Derived.Test.YtjebaagkomejaaaGreatDoorK32
import Derived.Test.YtjebaagkomejaaaGreatDoorK33
import Derived.Test.YtjebaagkomejaaaGreatDoorK30
import Derived.Test.YtjebaagkomejaaaGreatDoorK31
set_option linter.unusedVariables false
set_option linter.unusedSimpArgs false
set_option maxRecDepth 100000
set_option maxHeartbeats 12800000
open Go.Lib renaming hid→h_
open Go renaming wpList_store_row→Sj,setRow_heap→Sk,cell_of_row→Sl,below_setRow→Sm,World→Sn,heap_alloc_last→Sp
open Go.RowKit renaming Below→Sq
open Nat renaming le_refl→Sr
namespace Go.Proofs.YtjebaagkomejaaaGreatDoor
open Go.RowKit
theorem vG (d:Doc)(x:Ed)(w:Sn)(hE:Env w)(hd:d.lies w)(hf:d.fits)(hxl:x.lies w)(tP:x.fits):Calls Tryz.prog 11 #[.agg d.enc.toArray,.agg x.enc.toArray] w (aS (cj d.c x.c) w):=by
 have jb:=h_ (fun(w1:Sn) (h:Sq w.heap.size w w1)=>b_ d w1 (hE.below h (Sr _)) (Doc.later hd h) hf)
 have Ly:=h_ (fun(w1:Sn) (h:Sq w.heap.size w w1)=>qK x w1 (hE.below h (Sr _)) (Ed.later hxl h) tP)
 have C6:=h_ (fun(w1:Sn) (h:Sq w.heap.size w w1)=>(show Env w1∧d.lies w1∧d.fits∧x.lies w1 from⟨hE.below h (Sr _),Doc.later hd h,hf,Ed.later hxl h⟩))
 have cO:=tP
 have bh:=h_ (fun(q:Int) (hq:cj d.c x.c=(q,aU)) (w':Sn) (h:Sq w.heap.size w w')=>(show aS (cj d.c x.c) w (.returned (.tuple #[.agg zeD,.int .i64 q])) w' from by rw [hq];exact aS.zero q h))
 have bD:=h_ (fun(r:Int × DocC) (hr:cj d.c x.c=r) (D:Doc) (w':Sn) (h:D.c=r.2∧D.lies w'∧(∀ b,D.uses b→w.heap.size≤b)∧Sq w.heap.size w w')=>(show aS (cj d.c x.c) w (.returned (.tuple #[.agg D.enc.toArray,.int .i64 r.1])) w' from⟨D,by rw [hr],by rw [hr];exact h.1,h.2.1,h.2.2.1,h.2.2.2⟩))
 have BC:=h_ (qJ d.c x.c)
 have vN:=bA d
 have jX:=h_ (vZ w d.enc.toArray x.enc.toArray zeD)
 have hb3:∀ o1 o2 o3:Obj,Sq w.heap.size w (((w.alloc o1).alloc o2).alloc o3):=fun o1 o2 o3=>(((Sq.refl _ _).alloc (Sr _) _).alloc (by simp) _).alloc (by simp;try omega) _
 have dv:∀ o1 o2 o3:Obj,w.heap.size+3≤(((w.alloc o1).alloc o2).alloc o3).heap.size:=fun o1 o2 o3=>by simp
 generalize hQ:aS (cj d.c x.c) w=Q at *
 clear hd hf hE hxl tP hQ
 rw [vN] at jb
 go_enter Tryz.func11,Tryz.ntmps11
 go_upto_region 1 with fail
 have h0:=jX.out.1
 have h1:=jX.out.2.1
 have h2:=jX.out.2.2
 have hbw:=hb3 (.cells d.enc.toArray 27) (.cells x.enc.toArray 40) (.cells zeD 27)
 have hsz:=dv (.cells d.enc.toArray 27) (.cells x.enc.toArray 40) (.cells zeD 27)
 clear jX hb3 dv
 generalize ((w.alloc (.cells d.enc.toArray 27)).alloc (.cells x.enc.toArray 40)).alloc (.cells zeD 27)=W0 at *
 have hr0:=ai h0
 have H0:=h_ h0
 have H1:=h_ h1
 have H2:=h_ h2
 have bE:=h_ hbw
 clear h0 h1 h2 hbw
 go_wp2_with (refine aj 27 (.tmp 2) rfl w.heap.size 0 rfl d.enc _ hr0 Tryz.underlying27 rfl ag (by rfl) ?_)
 refine(jb.out W0 bE.out).mono ?_
 rintro e w1 ⟨rfl,hb1⟩
 have hs1:=hb1.size
 have aM:=bE.out.trans (hb1.mono (by omega))
 have r1:=(hb1.block w.heap.size (by omega)).trans H0.out
 have x1:=(hb1.block (w.heap.size+1) (by omega)).trans H1.out
 have z1:=(hb1.block (w.heap.size+1+1) (by omega)).trans H2.out
 clear jb hr0 H0 H1 H2 bE hb1
 by_cases hc0:cErr d.c=0
 · rw [hc0]
   have hx1:=ai x1
   have R1:=h_ r1
   have X1:=h_ x1
   have Z1:=h_ z1
   have HB1:=h_ aM
   clear r1 x1 z1 aM
   go_wp2_with (refine aj 40 (.tmp 3) rfl (w.heap.size+1) 0 rfl x.enc _ hx1 Tryz.underlying40 rfl dX (by rfl) ?_)
   refine(Ly.out w1 HB1.out).mono ?_
   rintro e W2 ⟨rfl,hb2⟩
   have hs2:=hb2.size
   have hbw2:=HB1.out.trans (hb2.mono (by omega))
   have r2:=(hb2.block w.heap.size (by omega)).trans R1.out
   have x2:=(hb2.block (w.heap.size+1) (by omega)).trans X1.out
   have z2:=(hb2.block (w.heap.size+1+1) (by omega)).trans Z1.out
   clear Ly hx1 R1 X1 Z1 HB1 hb2
   by_cases he0:gE x.c=0
   · rw [he0]
     have hrg:=BZ he0
     have Iq:=h_ (Gj he0)
     have cE:=h_ (BC.out.trans ((if_neg (fun h=>h hc0)).trans (if_neg (fun h=>h he0))))
     have hr2:=ai r2
     have hx2:=ai x2
     have HD2:=h_ r2
     have X2:=h_ x2
     have Z2:=h_ z2
     have HB2:=h_ hbw2
     have aY:=h_ (C6.out W2 hbw2)
     clear BC he0 r2 x2 z2 hbw2 C6 vN
     have xZ:x.c.op=x.op:=rfl
     rw [xZ] at hrg
     have hrg2:x.op=1∨x.op=2∨x.op=3∨x.op=4∨x.op=5∨x.op=6∨x.op=7∨x.op=8∨x.op=9∨x.op=10∨x.op=11∨x.op=12∨x.op=13∨x.op=14∨x.op=15∨x.op=16∨x.op=17∨x.op=18∨x.op=19:=by omega
     have gX:=h_ (show x.op=8→0≤x.row from fun h=>Iq.out h)
     clear Iq hrg xZ
     rcases hrg2 with hop|hop|hop|hop|hop|hop|hop|hop|hop|hop|hop|hop|hop|hop|hop|hop|hop|hop|hop
     · have bo:=h_ (hZ (n:=1) cE.out hop)
       have cop:=ic X2.out hop
       have c3:W2.cell? ⟨w.heap.size+1,3,none⟩=some (.int .i64 x.inn):=Sl _ _ 3 _ 40 (0,0) X2.out
       have c4:W2.cell? ⟨w.heap.size+1,4,none⟩=some (.int .i64 x.out):=Sl _ _ 4 _ 40 (0,0) X2.out
       have c13:W2.cell? ⟨w.heap.size+1,13,none⟩=some (.string x.name):=Sl _ _ 13 _ 40 (0,0) X2.out
       have c9:W2.cell? ⟨w.heap.size+1,9,none⟩=some (.int .u8 x.kind):=Sl _ _ 9 _ 40 (0,0) X2.out
       have c14:W2.cell? ⟨w.heap.size+1,14,none⟩=some (.string x.text):=Sl _ _ 14 _ 40 (0,0) X2.out
       have c22:W2.cell? ⟨w.heap.size+1,22,none⟩=some (.slice x.at_ x.rows.length x.cap):=Sl _ _ 22 _ 40 (0,0) X2.out
       have hxe:(⟨0,x.inn,x.out,x.name,x.kind,x.text,x.at_,x.cap,x.rows⟩:Ev).fits:=⟨Ak,cO.2.1.2.2.1,cO.2.1.2.2.2.1,cO.2.2.2.2.1,cO.2.2.1.1,cO.2.2.1.2,cO.2.2.2.2.2.1,cO.2.2.2.2.2.2.2.1,cO.2.2.2.2.2.2.2.2⟩
       have HC:=h_ ((lr d (⟨0,x.inn,x.out,x.name,x.kind,x.text,x.at_,x.cap,x.rows⟩:Ev) W2 aY.out.1 aY.out.2.1 aY.out.2.2.1 aY.out.2.2.2 hxe).mono fun e w' h=>(show ∃ (D:Doc) (u:Int),e=.returned (.tuple #[.agg D.enc.toArray,.int .i64 u,.int .i64 (aQ d.c (⟨0,x.inn,x.out,x.name,x.kind,x.text,x.at_,x.cap,x.rows⟩:Ev).c)])∧D.c=(insertC d.c (⟨0,x.inn,x.out,x.name,x.kind,x.text,x.at_,x.cap,x.rows⟩:Ev).c).2∧D.lies w'∧(∀ b,D.uses b→W2.heap.size≤b)∧Sq W2.heap.size W2 w' from by
        obtain⟨D,h1,h2⟩:=h
        exact⟨D,_,h1,h2⟩))
       have dz:=h_ (show cj d.c x.c=insertC d.c (⟨0,x.inn,x.out,x.name,x.kind,x.text,x.at_,x.cap,x.rows⟩:Ev).c from bo.out)
       have IV:=h_ (show(insertC d.c (⟨0,x.inn,x.out,x.name,x.kind,x.text,x.at_,x.cap,x.rows⟩:Ev).c).1=aQ d.c (⟨0,x.inn,x.out,x.name,x.kind,x.text,x.at_,x.cap,x.rows⟩:Ev).c from wv _ _)
       clear cE bo bh aY cO gX hop
       simp only [Ev.enc] at HC
       generalize insertC d.c (⟨0,x.inn,x.out,x.name,x.kind,x.text,x.at_,x.cap,x.rows⟩:Ev).c=R at *
       generalize aQ d.c (⟨0,x.inn,x.out,x.name,x.kind,x.text,x.at_,x.cap,x.rows⟩:Ev).c=EQ at *
       obtain⟨pe,pc⟩:=R
       have hpe:pe=EQ:=IV.out
       subst hpe
       go_wp2_with (refine aj 27 (.tmp 2) rfl w.heap.size 0 rfl d.enc _ hr2 Tryz.underlying27 rfl ag (by rfl) ?_)
       refine HC.out.mono ?_
       rintro e w4 ⟨D,u,rfl,bq,hDl,bP,hb5⟩
       try simp only at bq
       have hs4:=hb5.size
       have z4:=(hb5.block (w.heap.size+1+1) (by omega)).trans Z2.out
       have bQ:=HB2.out.trans (hb5.mono (by omega))
       clear HC hb5 hr2 hx2 cop IV
       have hDlt:∀ b,D.uses b→b<w4.heap.size:=fun b hb=>Doc.uses_lt hDl hb
       have hal:Sq w4.heap.size w4 (w4.alloc (.cells D.enc.toArray 27)):=(Sq.refl _ _).alloc (Sr _) _
       have hv5:=Sp w4 (.cells D.enc.toArray 27)
       obtain⟨D0,hD0⟩:∃ D0:Doc,D0=D:=⟨_,rfl⟩
       rw [←hD0] at bq hDl bP hal hv5
       obtain⟨dt,dl,dr,dd,dla,dra,drc,dregs,dea,dec,devs,dca,dcc,dcms⟩:=D
       have E9:D0.enc.toArray=#[.string dt,.string dl,.int .u8 dr,.bool dd,.int .i64 dla,.slice dra dregs.length drc,.slice dea devs.length dec,.slice dca dcms.length dcc]:=by rw [hD0];rfl
       rw [E9] at hal hv5
       simp only [Doc.enc]
       go_upto_region 11 with fail
       generalize w4.alloc (.cells #[Value.string dt,.string dl,.int .u8 dr,.bool dd,.int .i64 dla,.slice dra dregs.length drc,.slice dea devs.length dec,.slice dca dcms.length dcc] 27)=w5 at *
       have hs5:=hal.size
       have z5:=(hal.block (w.heap.size+1+1) (by omega)).trans z4
       have bt:=bQ.trans (hal.mono (by omega))
       replace hDl:=Doc.later hDl hal
       have EJ:=ai (l:=[.string dt,.string dl,.int .u8 dr,.bool dd,.int .i64 dla,.slice dra dregs.length drc,.slice dea devs.length dec,.slice dca dcms.length dcc]) hv5
       clear z4 bQ hDlt hal hv5
       obtain⟨D,hD⟩:∃ D:Doc,D=D0:=⟨_,rfl⟩
       rw [←hD] at bq hDl bP
       have vj:#[.string dt,.string dl,.int .u8 dr,.bool dd,.int .i64 dla,.slice dra dregs.length drc,.slice dea devs.length dec,.slice dca dcms.length dcc]=D.enc.toArray:=by rw [hD,E9]
       clear E9
       have r9:=Sk w5 (w.heap.size+1+1) _ D.enc.toArray 27 (0,0) z5
       rw [←vj] at r9
       have HF:=h_ (bD.out (pe,pc) dz.out D _ (apF bq hDl (fun b hb=>by have:=bP b hb;omega) bt))
       rw [←vj] at HF
       clear bq hDl bP bt bD dz hD hD0 vj
       go_wp2_with (first|(refine aj 27 (.tmp 9) rfl (w4.heap.size) 0 rfl _ _ EJ Tryz.underlying27 rfl ag (by rfl) ?_)|(refine Sj rfl 27 (.tmp 4) (.tmp 49) rfl (w.heap.size+1+1) _ rfl rfl 27 _ z5 ag rfl aO ?_))
       generalize w5.setRow (w.heap.size+1+1) _=w9 at *
       clear z5
       exact aL Tryz.results11 rfl rfl r9 rfl HF.out
     · have bo:=h_ (hZ (n:=2) cE.out hop)
       have cop:=ic X2.out hop
       have c1:W2.cell? ⟨w.heap.size+1,1,none⟩=some (.int .i64 x.id):=Sl _ _ 1 _ 40 (0,0) X2.out
       have HC:=h_ (lj d x.id W2 aY.out.1 aY.out.2.1 aY.out.2.2.1)
       have dz:=h_ (show cj d.c x.c=br d.c x.id from bo.out)
       clear cE bo bh aY cO gX hop
       generalize br d.c x.id=R at *
       obtain⟨pe,pc⟩:=R
       go_wp2_with (first|(refine aj 27 (.tmp 2) rfl w.heap.size 0 rfl d.enc _ hr2 Tryz.underlying27 rfl ag (by rfl) ?_))
       refine HC.out.mono ?_
       rintro e w5 ⟨D,rfl,bq,hDl,bP,hb5⟩
       simp only at bq
       have hs5:=hb5.size
       have z5:=(hb5.block (w.heap.size+1+1) (by omega)).trans Z2.out
       have bt:=HB2.out.trans (hb5.mono (by omega))
       clear HC hb5 hr2 hx2 cop
       have r9:=Sk w5 (w.heap.size+1+1) _ D.enc.toArray 27 (0,0) z5
       have HF:=h_ (bD.out (pe,pc) dz.out D _ (apF bq hDl (fun b hb=>by have:=bP b hb;omega) bt))
       clear bq hDl bP bt bD dz
       go_wp2_with ((refine Sj rfl 27 (.tmp 4) (.tmp 57) rfl (w.heap.size+1+1) (D.enc.toArray) rfl rfl 27 _ z5 ag rfl aO ?_))
       generalize w5.setRow (w.heap.size+1+1) D.enc.toArray=w9 at *
       clear z5
       exact aL Tryz.results11 rfl rfl r9 rfl HF.out
     · have bo:=h_ (hZ (n:=3) cE.out hop)
       have cop:=ic X2.out hop
       have HC:=h_ (eU 33 #[.pointer (some ⟨w.heap.size+1,0,none⟩)] (fun e=>(0,{ e with inn:=x.inn,out:=x.out })) (w.heap.size) (w.heap.size+1) x d W2 aY.out.1 aY.out.2.1 aY.out.2.2.1 HD2.out X2.out (fun w1 hb1 hbk=>DZ W2.heap.size (w.heap.size+1) x w1 hbk ((hb1.block _ (by omega)).trans X2.out) (Ed.later aY.out.2.2.2 hb1) cO))
       have dz:=h_ (show cj d.c x.c=aF d.c x.id (fun e=>(0,{ e with inn:=x.inn,out:=x.out })) from bo.out)
       clear cE bo bh aY cO gX hop
       generalize aF d.c x.id (fun e=>(0,{ e with inn:=x.inn,out:=x.out }))=R at *
       obtain⟨pe,pc⟩:=R
       go_wp2_with (fail)
       refine HC.out.mono ?_
       rintro e w5 ⟨D,rfl,bq,hDl,bP,hb5⟩
       simp only at bq
       have hs5:=hb5.size
       have z5:=(hb5.block (w.heap.size+1+1) (by omega)).trans Z2.out
       have bt:=HB2.out.trans (hb5.mono (by omega))
       clear HC hb5 hr2 hx2 cop
       have r9:=Sk w5 (w.heap.size+1+1) _ D.enc.toArray 27 (0,0) z5
       have HF:=h_ (bD.out (pe,pc) dz.out D _ (apF bq hDl (fun b hb=>by have:=bP b hb;omega) bt))
       clear bq hDl bP bt bD dz
       go_wp2_with ((refine Sj rfl 27 (.tmp 4) (.tmp 64) rfl (w.heap.size+1+1) (D.enc.toArray) rfl rfl 27 _ z5 ag rfl aO ?_))
       generalize w5.setRow (w.heap.size+1+1) D.enc.toArray=w9 at *
       clear z5
       exact aL Tryz.results11 rfl rfl r9 rfl HF.out
     · have bo:=h_ (hZ (n:=4) cE.out hop)
       have cop:=ic X2.out hop
       have HC:=h_ (eU 34 #[.pointer (some ⟨w.heap.size+1,0,none⟩)] (fun e=>(0,{ e with rows:=x.rows.map Row.runs })) (w.heap.size) (w.heap.size+1) x d W2 aY.out.1 aY.out.2.1 aY.out.2.2.1 HD2.out X2.out (fun w1 hb1 hbk=>DY W2.heap.size (w.heap.size+1) x w1 hbk ((hb1.block _ (by omega)).trans X2.out) (Ed.later aY.out.2.2.2 hb1) cO))
       have dz:=h_ (show cj d.c x.c=aF d.c x.id (fun e=>(0,{ e with rows:=x.rows.map Row.runs })) from bo.out)
       clear cE bo bh aY cO gX hop
       generalize aF d.c x.id (fun e=>(0,{ e with rows:=x.rows.map Row.runs }))=R at *
       obtain⟨pe,pc⟩:=R
       go_wp2_with (fail)
       refine HC.out.mono ?_
       rintro e w5 ⟨D,rfl,bq,hDl,bP,hb5⟩
       simp only at bq
       have hs5:=hb5.size
       have z5:=(hb5.block (w.heap.size+1+1) (by omega)).trans Z2.out
       have bt:=HB2.out.trans (hb5.mono (by omega))
       clear HC hb5 hr2 hx2 cop
       have r9:=Sk w5 (w.heap.size+1+1) _ D.enc.toArray 27 (0,0) z5
       have HF:=h_ (bD.out (pe,pc) dz.out D _ (apF bq hDl (fun b hb=>by have:=bP b hb;omega) bt))
       clear bq hDl bP bt bD dz
       go_wp2_with ((refine Sj rfl 27 (.tmp 4) (.tmp 71) rfl (w.heap.size+1+1) (D.enc.toArray) rfl rfl 27 _ z5 ag rfl aO ?_))
       generalize w5.setRow (w.heap.size+1+1) D.enc.toArray=w9 at *
       clear z5
       exact aL Tryz.results11 rfl rfl r9 rfl HF.out
     · have bo:=h_ (hZ (n:=5) cE.out hop)
       have cop:=ic X2.out hop
       have HC:=h_ (eU 35 #[.pointer (some ⟨w.heap.size+1,0,none⟩)] (fun e=>(0,{ e with region:=x.name })) (w.heap.size) (w.heap.size+1) x d W2 aY.out.1 aY.out.2.1 aY.out.2.2.1 HD2.out X2.out (fun w1 hb1 hbk=>DX W2.heap.size (w.heap.size+1) x w1 hbk ((hb1.block _ (by omega)).trans X2.out) (Ed.later aY.out.2.2.2 hb1) cO))
       have dz:=h_ (show cj d.c x.c=aF d.c x.id (fun e=>(0,{ e with region:=x.name })) from bo.out)
       clear cE bo bh aY cO gX hop
       generalize aF d.c x.id (fun e=>(0,{ e with region:=x.name }))=R at *
       obtain⟨pe,pc⟩:=R
       go_wp2_with (fail)
       refine HC.out.mono ?_
       rintro e w5 ⟨D,rfl,bq,hDl,bP,hb5⟩
       simp only at bq
       have hs5:=hb5.size
       have z5:=(hb5.block (w.heap.size+1+1) (by omega)).trans Z2.out
       have bt:=HB2.out.trans (hb5.mono (by omega))
       clear HC hb5 hr2 hx2 cop
       have r9:=Sk w5 (w.heap.size+1+1) _ D.enc.toArray 27 (0,0) z5
       have HF:=h_ (bD.out (pe,pc) dz.out D _ (apF bq hDl (fun b hb=>by have:=bP b hb;omega) bt))
       clear bq hDl bP bt bD dz
       go_wp2_with ((refine Sj rfl 27 (.tmp 4) (.tmp 78) rfl (w.heap.size+1+1) (D.enc.toArray) rfl rfl 27 _ z5 ag rfl aO ?_))
       generalize w5.setRow (w.heap.size+1+1) D.enc.toArray=w9 at *
       clear z5
       exact aL Tryz.results11 rfl rfl r9 rfl HF.out
     · have bo:=h_ (hZ (n:=6) cE.out hop)
       have cop:=ic X2.out hop
       have HC:=h_ (eU 36 #[.pointer (some ⟨w.heap.size+1,0,none⟩)] (fun e=>(0,{ e with kind:=x.kind })) (w.heap.size) (w.heap.size+1) x d W2 aY.out.1 aY.out.2.1 aY.out.2.2.1 HD2.out X2.out (fun w1 hb1 hbk=>DW W2.heap.size (w.heap.size+1) x w1 hbk ((hb1.block _ (by omega)).trans X2.out) (Ed.later aY.out.2.2.2 hb1) cO))
       have dz:=h_ (show cj d.c x.c=aF d.c x.id (fun e=>(0,{ e with kind:=x.kind })) from bo.out)
       clear cE bo bh aY cO gX hop
       generalize aF d.c x.id (fun e=>(0,{ e with kind:=x.kind }))=R at *
       obtain⟨pe,pc⟩:=R
       go_wp2_with (fail)
       refine HC.out.mono ?_
       rintro e w5 ⟨D,rfl,bq,hDl,bP,hb5⟩
       simp only at bq
       have hs5:=hb5.size
       have z5:=(hb5.block (w.heap.size+1+1) (by omega)).trans Z2.out
       have bt:=HB2.out.trans (hb5.mono (by omega))
       clear HC hb5 hr2 hx2 cop
       have r9:=Sk w5 (w.heap.size+1+1) _ D.enc.toArray 27 (0,0) z5
       have HF:=h_ (bD.out (pe,pc) dz.out D _ (apF bq hDl (fun b hb=>by have:=bP b hb;omega) bt))
       clear bq hDl bP bt bD dz
       go_wp2_with ((refine Sj rfl 27 (.tmp 4) (.tmp 85) rfl (w.heap.size+1+1) (D.enc.toArray) rfl rfl 27 _ z5 ag rfl aO ?_))
       generalize w5.setRow (w.heap.size+1+1) D.enc.toArray=w9 at *
       clear z5
       exact aL Tryz.results11 rfl rfl r9 rfl HF.out
     · have bo:=h_ (hZ (n:=7) cE.out hop)
       have cop:=ic X2.out hop
       have HC:=h_ (eU 37 #[.pointer (some ⟨w.heap.size+1,0,none⟩)] (fun e=>(0,{ e with speaker:=x.name })) (w.heap.size) (w.heap.size+1) x d W2 aY.out.1 aY.out.2.1 aY.out.2.2.1 HD2.out X2.out (fun w1 hb1 hbk=>DV W2.heap.size (w.heap.size+1) x w1 hbk ((hb1.block _ (by omega)).trans X2.out) (Ed.later aY.out.2.2.2 hb1) cO))
       have dz:=h_ (show cj d.c x.c=aF d.c x.id (fun e=>(0,{ e with speaker:=x.name })) from bo.out)
       clear cE bo bh aY cO gX hop
       generalize aF d.c x.id (fun e=>(0,{ e with speaker:=x.name }))=R at *
       obtain⟨pe,pc⟩:=R
       go_wp2_with (fail)
       refine HC.out.mono ?_
       rintro e w5 ⟨D,rfl,bq,hDl,bP,hb5⟩
       simp only at bq
       have hs5:=hb5.size
       have z5:=(hb5.block (w.heap.size+1+1) (by omega)).trans Z2.out
       have bt:=HB2.out.trans (hb5.mono (by omega))
       clear HC hb5 hr2 hx2 cop
       have r9:=Sk w5 (w.heap.size+1+1) _ D.enc.toArray 27 (0,0) z5
       have HF:=h_ (bD.out (pe,pc) dz.out D _ (apF bq hDl (fun b hb=>by have:=bP b hb;omega) bt))
       clear bq hDl bP bt bD dz
       go_wp2_with ((refine Sj rfl 27 (.tmp 4) (.tmp 92) rfl (w.heap.size+1+1) (D.enc.toArray) rfl rfl 27 _ z5 ag rfl aO ?_))
       generalize w5.setRow (w.heap.size+1+1) D.enc.toArray=w9 at *
       clear z5
       exact aL Tryz.results11 rfl rfl r9 rfl HF.out
     · have bo:=h_ (hZ (n:=8) cE.out hop)
       have cop:=ic X2.out hop
       have hrow:0≤x.row:=gX.out hop
       have HC:=h_ (od (restyle x.c) x d W2 aY.out.1 aY.out.2.1 aY.out.2.2.1 (fun w1 hb1 hbk=>Gn (W2.heap.size+1) x w1 (Env.below aY.out.1 hb1 (Sr _)) hbk cO hrow))
       have dz:=h_ (show cj d.c x.c=aF d.c x.id (restyle x.c) from bo.out)
       clear cE bo bh aY cO gX hop
       generalize aF d.c x.id (restyle x.c)=R at *
       obtain⟨pe,pc⟩:=R
       go_wp2_with (first|(refine aj 27 (.tmp 2) rfl w.heap.size 0 rfl d.enc _ hr2 Tryz.underlying27 rfl ag (by rfl) ?_)|(refine aj 40 (.tmp 3) rfl (w.heap.size+1) 0 rfl x.enc _ hx2 Tryz.underlying40 rfl dX (by rfl) ?_))
       refine HC.out.mono ?_
       rintro e w5 ⟨D,rfl,bq,hDl,bP,hb5⟩
       simp only at bq
       have hs5:=hb5.size
       have z5:=(hb5.block (w.heap.size+1+1) (by omega)).trans Z2.out
       have bt:=HB2.out.trans (hb5.mono (by omega))
       clear HC hb5 hr2 hx2 cop
       have r9:=Sk w5 (w.heap.size+1+1) _ D.enc.toArray 27 (0,0) z5
       have HF:=h_ (bD.out (pe,pc) dz.out D _ (apF bq hDl (fun b hb=>by have:=bP b hb;omega) bt))
       clear bq hDl bP bt bD dz
       go_wp2_with ((refine Sj rfl 27 (.tmp 4) (.tmp 99) rfl (w.heap.size+1+1) (D.enc.toArray) rfl rfl 27 _ z5 ag rfl aO ?_))
       generalize w5.setRow (w.heap.size+1+1) D.enc.toArray=w9 at *
       clear z5
       exact aL Tryz.results11 rfl rfl r9 rfl HF.out
     · have bo:=h_ (hZ (n:=9) cE.out hop)
       have cop:=ic X2.out hop
       have HC:=h_ (rR d x W2 aY.out.1 aY.out.2.1 aY.out.2.2.1 cO)
       have dz:=h_ (show cj d.c x.c=et d.c x.c from bo.out)
       clear cE bo bh aY cO gX hop
       generalize et d.c x.c=R at *
       obtain⟨pe,pc⟩:=R
       go_wp2_with (first|(refine aj 27 (.tmp 2) rfl w.heap.size 0 rfl d.enc _ hr2 Tryz.underlying27 rfl ag (by rfl) ?_)|(refine aj 40 (.tmp 3) rfl (w.heap.size+1) 0 rfl x.enc _ hx2 Tryz.underlying40 rfl dX (by rfl) ?_))
       refine HC.out.mono ?_
       rintro e w5 ⟨D,rfl,bq,hDl,bP,hb5⟩
       simp only at bq
       have hs5:=hb5.size
       have z5:=(hb5.block (w.heap.size+1+1) (by omega)).trans Z2.out
       have bt:=HB2.out.trans (hb5.mono (by omega))
       clear HC hb5 hr2 hx2 cop
       have r9:=Sk w5 (w.heap.size+1+1) _ D.enc.toArray 27 (0,0) z5
       have HF:=h_ (bD.out (pe,pc) dz.out D _ (apF bq hDl (fun b hb=>by have:=bP b hb;omega) bt))
       clear bq hDl bP bt bD dz
       go_wp2_with ((refine Sj rfl 27 (.tmp 4) (.tmp 106) rfl (w.heap.size+1+1) (D.enc.toArray) rfl rfl 27 _ z5 ag rfl aO ?_))
       generalize w5.setRow (w.heap.size+1+1) D.enc.toArray=w9 at *
       clear z5
       exact aL Tryz.results11 rfl rfl r9 rfl HF.out
     · have bo:=h_ (hZ (n:=10) cE.out hop)
       have cop:=ic X2.out hop
       have HC:=h_ (uQ d x W2 aY.out.1 aY.out.2.1 aY.out.2.2.1)
       have dz:=h_ (show cj d.c x.c=gR d.c x.c from bo.out)
       clear cE bo bh aY cO gX hop
       generalize gR d.c x.c=R at *
       obtain⟨pe,pc⟩:=R
       go_wp2_with (first|(refine aj 27 (.tmp 2) rfl w.heap.size 0 rfl d.enc _ hr2 Tryz.underlying27 rfl ag (by rfl) ?_)|(refine aj 40 (.tmp 3) rfl (w.heap.size+1) 0 rfl x.enc _ hx2 Tryz.underlying40 rfl dX (by rfl) ?_))
       refine HC.out.mono ?_
       rintro e w5 ⟨D,rfl,bq,hDl,bP,hb5⟩
       simp only at bq
       have hs5:=hb5.size
       have z5:=(hb5.block (w.heap.size+1+1) (by omega)).trans Z2.out
       have bt:=HB2.out.trans (hb5.mono (by omega))
       clear HC hb5 hr2 hx2 cop
       have r9:=Sk w5 (w.heap.size+1+1) _ D.enc.toArray 27 (0,0) z5
       have HF:=h_ (bD.out (pe,pc) dz.out D _ (apF bq hDl (fun b hb=>by have:=bP b hb;omega) bt))
       clear bq hDl bP bt bD dz
       go_wp2_with ((refine Sj rfl 27 (.tmp 4) (.tmp 113) rfl (w.heap.size+1+1) (D.enc.toArray) rfl rfl 27 _ z5 ag rfl aO ?_))
       generalize w5.setRow (w.heap.size+1+1) D.enc.toArray=w9 at *
       clear z5
       exact aL Tryz.results11 rfl rfl r9 rfl HF.out
     · have bo:=h_ (hZ (n:=11) cE.out hop)
       have cop:=ic X2.out hop
       have c5:W2.cell? ⟨w.heap.size+1,5,none⟩=some (.int .i64 x.frame):=Sl _ _ 5 _ 40 (0,0) X2.out
       have c2:W2.cell? ⟨w.heap.size+1,2,none⟩=some (.int .i64 x.other):=Sl _ _ 2 _ 40 (0,0) X2.out
       have HC:=h_ (uq d x.frame x.other W2 aY.out.1 aY.out.2.1 aY.out.2.2.1 cO.2.1.2.1)
       have dz:=h_ (show cj d.c x.c=dY d.c x.frame x.other from bo.out)
       clear cE bo bh aY cO gX hop
       generalize dY d.c x.frame x.other=R at *
       obtain⟨pe,pc⟩:=R
       go_wp2_with (first|(refine aj 27 (.tmp 2) rfl w.heap.size 0 rfl d.enc _ hr2 Tryz.underlying27 rfl ag (by rfl) ?_))
       refine HC.out.mono ?_
       rintro e w5 ⟨D,rfl,bq,hDl,bP,hb5⟩
       simp only at bq
       have hs5:=hb5.size
       have z5:=(hb5.block (w.heap.size+1+1) (by omega)).trans Z2.out
       have bt:=HB2.out.trans (hb5.mono (by omega))
       clear HC hb5 hr2 hx2 cop
       have r9:=Sk w5 (w.heap.size+1+1) _ D.enc.toArray 27 (0,0) z5
       have HF:=h_ (bD.out (pe,pc) dz.out D _ (apF bq hDl (fun b hb=>by have:=bP b hb;omega) bt))
       clear bq hDl bP bt bD dz
       go_wp2_with ((refine Sj rfl 27 (.tmp 4) (.tmp 123) rfl (w.heap.size+1+1) (D.enc.toArray) rfl rfl 27 _ z5 ag rfl aO ?_))
       generalize w5.setRow (w.heap.size+1+1) D.enc.toArray=w9 at *
       clear z5
       exact aL Tryz.results11 rfl rfl r9 rfl HF.out
     · have bo:=h_ (hZ (n:=12) cE.out hop)
       have cop:=ic X2.out hop
       have HC:=h_ (ib d x W2 aY.out.1 aY.out.2.1 aY.out.2.2.1 cO hc0)
       have dz:=h_ (show cj d.c x.c=fo d.c x.c from bo.out)
       clear cE bo bh aY cO gX hop
       generalize fo d.c x.c=R at *
       obtain⟨pe,pc⟩:=R
       go_wp2_with (first|(refine aj 27 (.tmp 2) rfl w.heap.size 0 rfl d.enc _ hr2 Tryz.underlying27 rfl ag (by rfl) ?_)|(refine aj 40 (.tmp 3) rfl (w.heap.size+1) 0 rfl x.enc _ hx2 Tryz.underlying40 rfl dX (by rfl) ?_))
       refine HC.out.mono ?_
       rintro e w5 ⟨D,rfl,bq,hDl,bP,hb5⟩
       simp only at bq
       have hs5:=hb5.size
       have z5:=(hb5.block (w.heap.size+1+1) (by omega)).trans Z2.out
       have bt:=HB2.out.trans (hb5.mono (by omega))
       clear HC hb5 hr2 hx2 cop
       have r9:=Sk w5 (w.heap.size+1+1) _ D.enc.toArray 27 (0,0) z5
       have HF:=h_ (bD.out (pe,pc) dz.out D _ (apF bq hDl (fun b hb=>by have:=bP b hb;omega) bt))
       clear bq hDl bP bt bD dz
       go_wp2_with ((refine Sj rfl 27 (.tmp 4) (.tmp 179) rfl (w.heap.size+1+1) (D.enc.toArray) rfl rfl 27 _ z5 ag rfl aO ?_))
       generalize w5.setRow (w.heap.size+1+1) D.enc.toArray=w9 at *
       clear z5
       exact aL Tryz.results11 rfl rfl r9 rfl HF.out
     · have bo:=h_ (hZ (n:=13) cE.out hop)
       have cop:=ic X2.out hop
       have HC:=h_ (ib d x W2 aY.out.1 aY.out.2.1 aY.out.2.2.1 cO hc0)
       have dz:=h_ (show cj d.c x.c=fo d.c x.c from bo.out)
       clear cE bo bh aY cO gX hop
       generalize fo d.c x.c=R at *
       obtain⟨pe,pc⟩:=R
       go_wp2_with (first|(refine aj 27 (.tmp 2) rfl w.heap.size 0 rfl d.enc _ hr2 Tryz.underlying27 rfl ag (by rfl) ?_)|(refine aj 40 (.tmp 3) rfl (w.heap.size+1) 0 rfl x.enc _ hx2 Tryz.underlying40 rfl dX (by rfl) ?_))
       refine HC.out.mono ?_
       rintro e w5 ⟨D,rfl,bq,hDl,bP,hb5⟩
       simp only at bq
       have hs5:=hb5.size
       have z5:=(hb5.block (w.heap.size+1+1) (by omega)).trans Z2.out
       have bt:=HB2.out.trans (hb5.mono (by omega))
       clear HC hb5 hr2 hx2 cop
       have r9:=Sk w5 (w.heap.size+1+1) _ D.enc.toArray 27 (0,0) z5
       have HF:=h_ (bD.out (pe,pc) dz.out D _ (apF bq hDl (fun b hb=>by have:=bP b hb;omega) bt))
       clear bq hDl bP bt bD dz
       go_wp2_with ((refine Sj rfl 27 (.tmp 4) (.tmp 179) rfl (w.heap.size+1+1) (D.enc.toArray) rfl rfl 27 _ z5 ag rfl aO ?_))
       generalize w5.setRow (w.heap.size+1+1) D.enc.toArray=w9 at *
       clear z5
       exact aL Tryz.results11 rfl rfl r9 rfl HF.out
     · have bo:=h_ (hZ (n:=14) cE.out hop)
       have cop:=ic X2.out hop
       have HC:=h_ (ib d x W2 aY.out.1 aY.out.2.1 aY.out.2.2.1 cO hc0)
       have dz:=h_ (show cj d.c x.c=fo d.c x.c from bo.out)
       clear cE bo bh aY cO gX hop
       generalize fo d.c x.c=R at *
       obtain⟨pe,pc⟩:=R
       go_wp2_with (first|(refine aj 27 (.tmp 2) rfl w.heap.size 0 rfl d.enc _ hr2 Tryz.underlying27 rfl ag (by rfl) ?_)|(refine aj 40 (.tmp 3) rfl (w.heap.size+1) 0 rfl x.enc _ hx2 Tryz.underlying40 rfl dX (by rfl) ?_))
       refine HC.out.mono ?_
       rintro e w5 ⟨D,rfl,bq,hDl,bP,hb5⟩
       simp only at bq
       have hs5:=hb5.size
       have z5:=(hb5.block (w.heap.size+1+1) (by omega)).trans Z2.out
       have bt:=HB2.out.trans (hb5.mono (by omega))
       clear HC hb5 hr2 hx2 cop
       have r9:=Sk w5 (w.heap.size+1+1) _ D.enc.toArray 27 (0,0) z5
       have HF:=h_ (bD.out (pe,pc) dz.out D _ (apF bq hDl (fun b hb=>by have:=bP b hb;omega) bt))
       clear bq hDl bP bt bD dz
       go_wp2_with ((refine Sj rfl 27 (.tmp 4) (.tmp 179) rfl (w.heap.size+1+1) (D.enc.toArray) rfl rfl 27 _ z5 ag rfl aO ?_))
       generalize w5.setRow (w.heap.size+1+1) D.enc.toArray=w9 at *
       clear z5
       exact aL Tryz.results11 rfl rfl r9 rfl HF.out
     · have bo:=h_ (hZ (n:=15) cE.out hop)
       have cop:=ic X2.out hop
       have HC:=h_ (bJ d W2 aY.out.2.1 aY.out.2.2.1)
       have dz:=h_ (show cj d.c x.c=(0,{ d.c with hd:={ d.c.hd with title:=x.text } }) from bo.out)
       clear cE bo bh aY cO gX
       go_wp2_with (refine aj 27 (.tmp 2) rfl w.heap.size 0 rfl d.enc _ hr2 Tryz.underlying27 rfl ag (by rfl) ?_)
       refine HC.out.mono ?_
       rintro e w4 ⟨D,rfl,bq,hDl,bP,hb4,_,_,_⟩
       have hs4:=hb4.size
       have r4:=(hb4.block (w.heap.size) (by omega)).trans HD2.out
       have x4:=(hb4.block (w.heap.size+1) (by omega)).trans X2.out
       have z4:=(hb4.block (w.heap.size+1+1) (by omega)).trans Z2.out
       have bQ:=HB2.out.trans (hb4.mono (by omega))
       clear HC hb4 hr2 hx2 HD2 X2 Z2 HB2
       go_upto_region 35 with(refine Sj rfl 27 (.tmp 2) (.tmp 129) rfl (w.heap.size) (D.enc.toArray) rfl rfl 27 _ r4 ag rfl aO ?_)
       have r5:=Sk w4 w.heap.size _ D.enc.toArray 27 (0,0) r4
       have hk5:Kept (fun b=>b=w.heap.size) w4 (w4.setRow w.heap.size D.enc.toArray):=bj _ _ _
       generalize w4.setRow w.heap.size D.enc.toArray=w6 at *
       have hs6:=hk5.size
       have x6:=(hk5.block (w.heap.size+1) (by omega) (by omega)).trans x4
       have z6:=(hk5.block (w.heap.size+1+1) (by omega) (by omega)).trans z4
       have wy:D.lies w6:=Doc.frame hDl hs6 fun b hb=>hk5.block b (Doc.uses_lt hDl hb) (by have:=bP b hb;omega)
       have sW:Sq w.heap.size w w6:=bQ.trans (hk5.below (by omega) fun k hk e=>by omega)
       have cop6:w6.cell? ⟨w.heap.size+1,0,none⟩=some (.int .u8 15):=(Sl _ _ 0 _ 40 (0,0) x6).trans (by
        show some (Value.int .u8 x.op)=_
        rw [hop])
       have cv6:w6.cell? ⟨w.heap.size+1,14,none⟩=some (.string x.text):=Sl _ _ 14 _ 40 (0,0) x6
       have ct6:∀ j,w6.cell? ⟨w.heap.size,j,none⟩=_:=fun j=>Sl _ _ j _ 27 (0,0) r5
       have f6:∀ j,w6.frozen? ⟨w.heap.size,j,none⟩=false:=fun j=>by simp [Sn.frozen?,r5]
       have R6:=h_ r5
       have Z6:=h_ z6
       obtain⟨D2,hD2⟩:∃ D2:Doc,D2={ D with title:=x.text }:=⟨_,rfl⟩
       have fP:=h_ (show D.enc.toArray.setIfInBounds 0 (.string x.text)=D2.enc.toArray from by rw [hD2];rfl)
       have lN:=h_ (show D2.c={ d.c with hd:={ d.c.hd with title:=x.text } } from by rw [hD2,←bq];rfl)
       have HL2:=h_ (show D2.lies w6∧∀ b,D2.uses b→W2.heap.size≤b from by rw [hD2];exact⟨wy,bP⟩)
       have Db:=h_ sW
       clear r4 x4 z4 bQ hk5 x6 z6 wy sW r5 hD2 hDl bP bq
       go_upto_region 38 with fail
       have b7:=heap_setCell_same w6 w.heap.size 0 _ 27 (.string x.text) R6.out
       rw [fP.out] at b7
       have ir:Kept (fun b=>b=w.heap.size) w6 (w6.setCell ⟨w.heap.size,0,none⟩ (.string x.text)):=bG (Kept.refl _ _) 0 _
       generalize w6.setCell ⟨w.heap.size,0,none⟩ (.string x.text)=w5 at *
       have hs7:=ir.size
       have z5:=(ir.block (w.heap.size+1+1) (by omega) (by omega)).trans Z6.out
       have EJ:=ai b7
       have bt:Sq w.heap.size w w5:=Db.out.trans (ir.below (by omega) fun k hk e=>by omega)
       have hDl:D2.lies w5:=Doc.frame HL2.out.1 hs7 fun b hb=>ir.block b (Doc.uses_lt HL2.out.1 hb) (by have:=HL2.out.2 b hb;omega)
       have bP:=HL2.out.2
       have bq:=lN.out
       obtain⟨pe,hpe⟩:∃ p:Int,p=0:=⟨_,rfl⟩
       obtain⟨pc,hpc⟩:∃ p:DocC,p={ d.c with hd:={ d.c.hd with title:=x.text } }:=⟨_,rfl⟩
       rw [←hpc] at bq
       rw [←hpc,←hpe] at dz
       clear ct6 f6 cop6 cv6 R6 Z6 Db fP lN HL2 ir b7 hpc cop
       have r9:=Sk w5 (w.heap.size+1+1) _ D2.enc.toArray 27 (0,0) z5
       have HF:=h_ (bD.out (pe,pc) dz.out D2 (w5.setRow (w.heap.size+1+1) D2.enc.toArray) ⟨bq,Doc.frame hDl (by rw [size_setRow];exact Sr _) (fun b hb=>aK _ _ _ _ (by have:=bP b hb;omega)),fun b hb=>by have:=bP b hb;omega,Sm bt (by omega) _⟩)
       clear bq hDl bP bt bD dz
       go_wp2_with (first|(refine aj 27 (.tmp 2) rfl w.heap.size 0 rfl D2.enc _ EJ Tryz.underlying27 rfl ag (by rfl) ?_)|(refine Sj rfl 27 (.tmp 4) (.tmp 139) rfl (w.heap.size+1+1) (D2.enc.toArray) rfl rfl 27 _ z5 ag rfl aO ?_))
       generalize w5.setRow (w.heap.size+1+1) D2.enc.toArray=w9 at *
       clear z5
       subst hpe
       exact aL Tryz.results11 rfl rfl r9 rfl HF.out
     · have bo:=h_ (hZ (n:=16) cE.out hop)
       have cop:=ic X2.out hop
       have HC:=h_ (bJ d W2 aY.out.2.1 aY.out.2.2.1)
       have dz:=h_ (show cj d.c x.c=(0,{ d.c with hd:={ d.c.hd with lA:=x.name } }) from bo.out)
       clear cE bo bh aY cO gX
       go_wp2_with (refine aj 27 (.tmp 2) rfl w.heap.size 0 rfl d.enc _ hr2 Tryz.underlying27 rfl ag (by rfl) ?_)
       refine HC.out.mono ?_
       rintro e w4 ⟨D,rfl,bq,hDl,bP,hb4,_,_,_⟩
       have hs4:=hb4.size
       have r4:=(hb4.block (w.heap.size) (by omega)).trans HD2.out
       have x4:=(hb4.block (w.heap.size+1) (by omega)).trans X2.out
       have z4:=(hb4.block (w.heap.size+1+1) (by omega)).trans Z2.out
       have bQ:=HB2.out.trans (hb4.mono (by omega))
       clear HC hb4 hr2 hx2 HD2 X2 Z2 HB2
       go_upto_region 35 with(refine Sj rfl 27 (.tmp 2) (.tmp 129) rfl (w.heap.size) (D.enc.toArray) rfl rfl 27 _ r4 ag rfl aO ?_)
       have r5:=Sk w4 w.heap.size _ D.enc.toArray 27 (0,0) r4
       have hk5:Kept (fun b=>b=w.heap.size) w4 (w4.setRow w.heap.size D.enc.toArray):=bj _ _ _
       generalize w4.setRow w.heap.size D.enc.toArray=w6 at *
       have hs6:=hk5.size
       have x6:=(hk5.block (w.heap.size+1) (by omega) (by omega)).trans x4
       have z6:=(hk5.block (w.heap.size+1+1) (by omega) (by omega)).trans z4
       have wy:D.lies w6:=Doc.frame hDl hs6 fun b hb=>hk5.block b (Doc.uses_lt hDl hb) (by have:=bP b hb;omega)
       have sW:Sq w.heap.size w w6:=bQ.trans (hk5.below (by omega) fun k hk e=>by omega)
       have cop6:w6.cell? ⟨w.heap.size+1,0,none⟩=some (.int .u8 16):=(Sl _ _ 0 _ 40 (0,0) x6).trans (by
        show some (Value.int .u8 x.op)=_
        rw [hop])
       have cv6:w6.cell? ⟨w.heap.size+1,13,none⟩=some (.string x.name):=Sl _ _ 13 _ 40 (0,0) x6
       have ct6:∀ j,w6.cell? ⟨w.heap.size,j,none⟩=_:=fun j=>Sl _ _ j _ 27 (0,0) r5
       have f6:∀ j,w6.frozen? ⟨w.heap.size,j,none⟩=false:=fun j=>by simp [Sn.frozen?,r5]
       have R6:=h_ r5
       have Z6:=h_ z6
       obtain⟨D2,hD2⟩:∃ D2:Doc,D2={ D with lA:=x.name }:=⟨_,rfl⟩
       have fP:=h_ (show D.enc.toArray.setIfInBounds 1 (.string x.name)=D2.enc.toArray from by rw [hD2];rfl)
       have lN:=h_ (show D2.c={ d.c with hd:={ d.c.hd with lA:=x.name } } from by rw [hD2,←bq];rfl)
       have HL2:=h_ (show D2.lies w6∧∀ b,D2.uses b→W2.heap.size≤b from by rw [hD2];exact⟨wy,bP⟩)
       have Db:=h_ sW
       clear r4 x4 z4 bQ hk5 x6 z6 wy sW r5 hD2 hDl bP bq
       go_upto_region 38 with fail
       have b7:=heap_setCell_same w6 w.heap.size 1 _ 27 (.string x.name) R6.out
       rw [fP.out] at b7
       have ir:Kept (fun b=>b=w.heap.size) w6 (w6.setCell ⟨w.heap.size,1,none⟩ (.string x.name)):=bG (Kept.refl _ _) 1 _
       generalize w6.setCell ⟨w.heap.size,1,none⟩ (.string x.name)=w5 at *
       have hs7:=ir.size
       have z5:=(ir.block (w.heap.size+1+1) (by omega) (by omega)).trans Z6.out
       have EJ:=ai b7
       have bt:Sq w.heap.size w w5:=Db.out.trans (ir.below (by omega) fun k hk e=>by omega)
       have hDl:D2.lies w5:=Doc.frame HL2.out.1 hs7 fun b hb=>ir.block b (Doc.uses_lt HL2.out.1 hb) (by have:=HL2.out.2 b hb;omega)
       have bP:=HL2.out.2
       have bq:=lN.out
       obtain⟨pe,hpe⟩:∃ p:Int,p=0:=⟨_,rfl⟩
       obtain⟨pc,hpc⟩:∃ p:DocC,p={ d.c with hd:={ d.c.hd with lA:=x.name } }:=⟨_,rfl⟩
       rw [←hpc] at bq
       rw [←hpc,←hpe] at dz
       clear ct6 f6 cop6 cv6 R6 Z6 Db fP lN HL2 ir b7 hpc cop
       have r9:=Sk w5 (w.heap.size+1+1) _ D2.enc.toArray 27 (0,0) z5
       have HF:=h_ (bD.out (pe,pc) dz.out D2 (w5.setRow (w.heap.size+1+1) D2.enc.toArray) ⟨bq,Doc.frame hDl (by rw [size_setRow];exact Sr _) (fun b hb=>aK _ _ _ _ (by have:=bP b hb;omega)),fun b hb=>by have:=bP b hb;omega,Sm bt (by omega) _⟩)
       clear bq hDl bP bt bD dz
       go_wp2_with (first|(refine aj 27 (.tmp 2) rfl w.heap.size 0 rfl D2.enc _ EJ Tryz.underlying27 rfl ag (by rfl) ?_)|(refine Sj rfl 27 (.tmp 4) (.tmp 139) rfl (w.heap.size+1+1) (D2.enc.toArray) rfl rfl 27 _ z5 ag rfl aO ?_))
       generalize w5.setRow (w.heap.size+1+1) D2.enc.toArray=w9 at *
       clear z5
       subst hpe
       exact aL Tryz.results11 rfl rfl r9 rfl HF.out
     · have bo:=h_ (hZ (n:=17) cE.out hop)
       have cop:=ic X2.out hop
       have c1:W2.cell? ⟨w.heap.size+1,1,none⟩=some (.int .i64 x.id):=Sl _ _ 1 _ 40 (0,0) X2.out
       have c7:W2.cell? ⟨w.heap.size+1,7,none⟩=some (.int .i64 x.frm):=Sl _ _ 7 _ 40 (0,0) X2.out
       have c8:W2.cell? ⟨w.heap.size+1,8,none⟩=some (.int .i64 x.til):=Sl _ _ 8 _ 40 (0,0) X2.out
       have c13:W2.cell? ⟨w.heap.size+1,13,none⟩=some (.string x.name):=Sl _ _ 13 _ 40 (0,0) X2.out
       have c14:W2.cell? ⟨w.heap.size+1,14,none⟩=some (.string x.text):=Sl _ _ 14 _ 40 (0,0) X2.out
       have HC:=h_ ((vz d x.id x.frm x.til x.name x.text W2 aY.out.1 aY.out.2.1 aY.out.2.2.1 cO.2.2.2.2.1 cO.2.2.2.2.2.1).mono fun e w' h=>(show ∃ (D:Doc) (u:Int),e=.returned (.tuple #[.agg D.enc.toArray,.int .i64 u,.int .i64 (bN d.c x.id x.frm x.til x.name x.text)])∧D.c=(fL d.c x.id x.frm x.til x.name x.text).2∧D.lies w'∧(∀ b,D.uses b→W2.heap.size≤b)∧Sq W2.heap.size W2 w' from by
        obtain⟨D,h1,h2⟩:=h
        exact⟨D,_,h1,h2⟩))
       have dz:=h_ (show cj d.c x.c=fL d.c x.id x.frm x.til x.name x.text from bo.out)
       have IV:=h_ (show(fL d.c x.id x.frm x.til x.name x.text).1=bN d.c x.id x.frm x.til x.name x.text from yG _ _ _ _ _ _)
       clear cE bo bh aY cO gX hop
       generalize fL d.c x.id x.frm x.til x.name x.text=R at *
       generalize bN d.c x.id x.frm x.til x.name x.text=EQ at *
       obtain⟨pe,pc⟩:=R
       have hpe:pe=EQ:=IV.out
       subst hpe
       go_wp2_with (refine aj 27 (.tmp 2) rfl w.heap.size 0 rfl d.enc _ hr2 Tryz.underlying27 rfl ag (by rfl) ?_)
       refine HC.out.mono ?_
       rintro e w4 ⟨D,u,rfl,bq,hDl,bP,hb5⟩
       try simp only at bq
       have hs4:=hb5.size
       have z4:=(hb5.block (w.heap.size+1+1) (by omega)).trans Z2.out
       have bQ:=HB2.out.trans (hb5.mono (by omega))
       clear HC hb5 hr2 hx2 cop IV
       have hDlt:∀ b,D.uses b→b<w4.heap.size:=fun b hb=>Doc.uses_lt hDl hb
       have hal:Sq w4.heap.size w4 (w4.alloc (.cells D.enc.toArray 27)):=(Sq.refl _ _).alloc (Sr _) _
       have hv5:=Sp w4 (.cells D.enc.toArray 27)
       obtain⟨D0,hD0⟩:∃ D0:Doc,D0=D:=⟨_,rfl⟩
       rw [←hD0] at bq hDl bP hal hv5
       obtain⟨dt,dl,dr,dd,dla,dra,drc,dregs,dea,dec,devs,dca,dcc,dcms⟩:=D
       have E9:D0.enc.toArray=#[.string dt,.string dl,.int .u8 dr,.bool dd,.int .i64 dla,.slice dra dregs.length drc,.slice dea devs.length dec,.slice dca dcms.length dcc]:=by rw [hD0];rfl
       rw [E9] at hal hv5
       simp only [Doc.enc]
       go_upto_region 41 with fail
       generalize w4.alloc (.cells #[Value.string dt,.string dl,.int .u8 dr,.bool dd,.int .i64 dla,.slice dra dregs.length drc,.slice dea devs.length dec,.slice dca dcms.length dcc] 27)=w5 at *
       have hs5:=hal.size
       have z5:=(hal.block (w.heap.size+1+1) (by omega)).trans z4
       have bt:=bQ.trans (hal.mono (by omega))
       replace hDl:=Doc.later hDl hal
       have EJ:=ai (l:=[.string dt,.string dl,.int .u8 dr,.bool dd,.int .i64 dla,.slice dra dregs.length drc,.slice dea devs.length dec,.slice dca dcms.length dcc]) hv5
       clear z4 bQ hDlt hal hv5
       obtain⟨D,hD⟩:∃ D:Doc,D=D0:=⟨_,rfl⟩
       rw [←hD] at bq hDl bP
       have vj:#[.string dt,.string dl,.int .u8 dr,.bool dd,.int .i64 dla,.slice dra dregs.length drc,.slice dea devs.length dec,.slice dca dcms.length dcc]=D.enc.toArray:=by rw [hD,E9]
       clear E9
       have r9:=Sk w5 (w.heap.size+1+1) _ D.enc.toArray 27 (0,0) z5
       rw [←vj] at r9
       have HF:=h_ (bD.out (pe,pc) dz.out D _ (apF bq hDl (fun b hb=>by have:=bP b hb;omega) bt))
       rw [←vj] at HF
       clear bq hDl bP bt bD dz hD hD0 vj
       go_wp2_with (first|(refine aj 27 (.tmp 12) rfl (w4.heap.size) 0 rfl _ _ EJ Tryz.underlying27 rfl ag (by rfl) ?_)|(refine Sj rfl 27 (.tmp 4) (.tmp 158) rfl (w.heap.size+1+1) _ rfl rfl 27 _ z5 ag rfl aO ?_))
       generalize w5.setRow (w.heap.size+1+1) _=w9 at *
       clear z5
       exact aL Tryz.results11 rfl rfl r9 rfl HF.out
     · have bo:=h_ (hZ (n:=18) cE.out hop)
       have cop:=ic X2.out hop
       have c1:W2.cell? ⟨w.heap.size+1,1,none⟩=some (.int .i64 x.id):=Sl _ _ 1 _ 40 (0,0) X2.out
       have HC:=h_ (qP d x.id W2 aY.out.1 aY.out.2.1 aY.out.2.2.1)
       have dz:=h_ (show cj d.c x.c=bZ d.c x.id from bo.out)
       clear cE bo bh aY cO gX hop
       generalize bZ d.c x.id=R at *
       obtain⟨pe,pc⟩:=R
       go_wp2_with (first|(refine aj 27 (.tmp 2) rfl w.heap.size 0 rfl d.enc _ hr2 Tryz.underlying27 rfl ag (by rfl) ?_))
       refine HC.out.mono ?_
       rintro e w5 ⟨D,rfl,bq,hDl,bP,hb5⟩
       simp only at bq
       have hs5:=hb5.size
       have z5:=(hb5.block (w.heap.size+1+1) (by omega)).trans Z2.out
       have bt:=HB2.out.trans (hb5.mono (by omega))
       clear HC hb5 hr2 hx2 cop
       have r9:=Sk w5 (w.heap.size+1+1) _ D.enc.toArray 27 (0,0) z5
       have HF:=h_ (bD.out (pe,pc) dz.out D _ (apF bq hDl (fun b hb=>by have:=bP b hb;omega) bt))
       clear bq hDl bP bt bD dz
       go_wp2_with ((refine Sj rfl 27 (.tmp 4) (.tmp 166) rfl (w.heap.size+1+1) (D.enc.toArray) rfl rfl 27 _ z5 ag rfl aO ?_))
       generalize w5.setRow (w.heap.size+1+1) D.enc.toArray=w9 at *
       clear z5
       exact aL Tryz.results11 rfl rfl r9 rfl HF.out
     · have bo:=h_ (hZ (n:=19) cE.out hop)
       have cop:=ic X2.out hop
       have c1:W2.cell? ⟨w.heap.size+1,1,none⟩=some (.int .i64 x.id):=Sl _ _ 1 _ 40 (0,0) X2.out
       have HC:=h_ (oC d x.id W2 aY.out.1 aY.out.2.1 aY.out.2.2.1)
       have dz:=h_ (show cj d.c x.c=bX d.c x.id from bo.out)
       clear cE bo bh aY cO gX hop
       generalize bX d.c x.id=R at *
       obtain⟨pe,pc⟩:=R
       go_wp2_with (first|(refine aj 27 (.tmp 2) rfl w.heap.size 0 rfl d.enc _ hr2 Tryz.underlying27 rfl ag (by rfl) ?_))
       refine HC.out.mono ?_
       rintro e w5 ⟨D,rfl,bq,hDl,bP,hb5⟩
       simp only at bq
       have hs5:=hb5.size
       have z5:=(hb5.block (w.heap.size+1+1) (by omega)).trans Z2.out
       have bt:=HB2.out.trans (hb5.mono (by omega))
       clear HC hb5 hr2 hx2 cop
       have r9:=Sk w5 (w.heap.size+1+1) _ D.enc.toArray 27 (0,0) z5
       have HF:=h_ (bD.out (pe,pc) dz.out D _ (apF bq hDl (fun b hb=>by have:=bP b hb;omega) bt))
       clear bq hDl bP bt bD dz
       go_wp2_with ((refine Sj rfl 27 (.tmp 4) (.tmp 174) rfl (w.heap.size+1+1) (D.enc.toArray) rfl rfl 27 _ z5 ag rfl aO ?_))
       generalize w5.setRow (w.heap.size+1+1) D.enc.toArray=w9 at *
       clear z5
       exact aL Tryz.results11 rfl rfl r9 rfl HF.out
   · have hne:(gE x.c != 0)=true:=by simpa using he0
     have nQ:=h_ (BC.out.trans ((if_neg (fun h=>h hc0)).trans (if_pos he0)))
     generalize gE x.c=EE at *
     have HE:=h_ (bh.out (EE) nQ.out (W2.setRow (w.heap.size+1+1) zeD) (Sm hbw2 (by omega) _))
     have z9:=Sk W2 (w.heap.size+1+1) _ zeD 27 (0,0) z2
     clear bh bD BC nQ C6 cO r2 x2 vN
     go_wp2_with (refine Sj rfl 27 (.tmp 4) (.tmp 25) rfl (w.heap.size+1+1) zeD rfl rfl 27 _ z2 ag rfl aO ?_)
     generalize W2.setRow (w.heap.size+1+1) zeD=w9 at *
     exact aL Tryz.results11 rfl rfl z9 rfl HE.out
 · have hne:(cErr d.c != 0)=true:=by simpa using hc0
   have nQ:=h_ (BC.out.trans (if_pos hc0))
   generalize cErr d.c=CE at *
   have HE:=h_ (bh.out (CE) nQ.out (w1.setRow (w.heap.size+1+1) zeD) (Sm aM (by omega) _))
   have z9:=Sk w1 (w.heap.size+1+1) _ zeD 27 (0,0) z1
   clear bh bD BC nQ C6 cO r1 x1 Ly vN
   go_wp2_with (refine Sj rfl 27 (.tmp 4) (.tmp 19) rfl (w.heap.size+1+1) zeD rfl rfl 27 _ z1 ag rfl aO ?_)
   generalize w1.setRow (w.heap.size+1+1) zeD=w9 at *
   exact aL Tryz.results11 rfl rfl z9 rfl HE.out
end Go.Proofs.YtjebaagkomejaaaGreatDoor
