/- edit.Apply: the document after a command. history: Do and Replace. captionerlaw16: add and awake. -/
import Derived.Test.YtjebaagkomejaaaGreatDoorH34
import Derived.Test.YtjebaagkomejaaaGreatDoorH35
import Derived.Test.YtjebaagkomejaaaGreatDoorH33
import Derived.Test.YtjebaagkomejaaaGreatDoorH32
import Derived.Test.YtjebaagkomejaaaGreatDoorH21
import Derived.Test.YtjebaagkomejaaaGreatDoorH36
import Derived.Test.YtjebaagkomejaaaGreatDoorH38
set_option linter.unusedVariables false
set_option linter.unusedSimpArgs false
set_option maxRecDepth 100000
set_option maxHeartbeats 12800000
open Go.Lib renaming hid→h_
open List renaming setIfInBounds_toArray→YA,getElem_cons_zero→YB,getElem_cons_succ→YC,getElem_toArray→YD,set_cons_zero→YE,set_cons_succ→YF
open Array renaming toArray_toList→YG
open Go renaming wpList_store_row→Sh,setRow_heap→Si,cell_of_row→Sj,World→Sk,heap_alloc_last→Sl,below_setRow→Sm,Ending→Sn,yieldsIf_load_mid→Sp
open Go.RowKit renaming Below→Sq
open Nat renaming le_refl→Sr,le_trans→Ss
open Go.RowKit.Below renaming refl→St
open Go.Value renaming string→Su,slice→Sv,int→Sw
namespace Go.Proofs.YtjebaagkomejaaaGreatDoor
open Go.RowKit
theorem nA (d:Doc)(x:Ed)(w:Sk)(hE:Env w)(hd:d.lies w)(hf:d.fits)(hxl:x.lies w)(xy:x.fits):Calls Tryz.prog 11 #[.agg d.enc.toArray,.agg x.enc.toArray] w (aS (bU d.c x.c) w):=by
 have iK:=h_ (fun(w1:Sk) (h:Sq w.heap.size w w1)=>bR d w1 (hE.below h (Sr _)) (Doc.later hd h) hf)
 have LU:=h_ (fun(w1:Sk) (h:Sq w.heap.size w w1)=>qv x w1 (hE.below h (Sr _)) (Ed.later hxl h) xy)
 have C8:=h_ (fun(w1:Sk) (h:Sq w.heap.size w w1)=>(show Env w1∧d.lies w1∧d.fits∧x.lies w1 from⟨hE.below h (Sr _),Doc.later hd h,hf,Ed.later hxl h⟩))
 have cH:=xy
 have bh:=h_ (fun(q:Int) (hq:bU d.c x.c=(q,aV)) (w':Sk) (h:Sq w.heap.size w w')=>(show aS (bU d.c x.c) w (.returned (.tuple #[.agg zeD,.int .i64 q])) w' from by rw [hq];exact aS.zero q h))
 have bF:=h_ (fun(r:Int × DocC) (hr:bU d.c x.c=r) (D:Doc) (w':Sk) (h:D.c=r.2∧D.lies w'∧(∀ b,D.uses b→w.heap.size≤b)∧Sq w.heap.size w w')=>(show aS (bU d.c x.c) w (.returned (.tuple #[.agg D.enc.toArray,.int .i64 r.1])) w' from⟨D,by rw [hr],by rw [hr];exact h.1,h.2.1,h.2.2.1,h.2.2.2⟩))
 have Bz:=h_ (qu d.c x.c)
 have vo:=bw d
 have jV:=h_ (vz w d.enc.toArray x.enc.toArray zeD)
 have hb3:∀ o1 o2 o3:Obj,Sq w.heap.size w (((w.alloc o1).alloc o2).alloc o3):=fun o1 o2 o3=>(((St _ _).alloc (Sr _) _).alloc (by simp) _).alloc (by simp;try omega) _
 have db:∀ o1 o2 o3:Obj,w.heap.size+3≤(((w.alloc o1).alloc o2).alloc o3).heap.size:=fun o1 o2 o3=>by simp
 generalize hQ:aS (bU d.c x.c) w=Q at *
 clear hd hf hE hxl xy hQ
 rw [vo] at iK
 go_enter Tryz.func11,Tryz.ntmps11
 go_upto_region 1 with fail
 have h0:=jV.out.1
 have h1:=jV.out.2.1
 have h2:=jV.out.2.2
 have hbw:=hb3 (.cells d.enc.toArray 27) (.cells x.enc.toArray 40) (.cells zeD 27)
 have hsz:=db (.cells d.enc.toArray 27) (.cells x.enc.toArray 40) (.cells zeD 27)
 clear jV hb3 db
 generalize ((w.alloc (.cells d.enc.toArray 27)).alloc (.cells x.enc.toArray 40)).alloc (.cells zeD 27)=W0 at *
 have hr0:=ai h0
 have H0:=h_ h0
 have H1:=h_ h1
 have H2:=h_ h2
 have bA:=h_ hbw
 clear h0 h1 h2 hbw
 go_wp2_with (refine aj 27 (.tmp 2) rfl w.heap.size 0 rfl d.enc _ hr0 Tryz.underlying27 rfl ag (by rfl) ?_)
 refine(iK.out W0 bA.out).mono ?_
 rintro e w1 ⟨rfl,hb1⟩
 have hs1:=hb1.size
 have aK:=bA.out.trans (hb1.mono (by omega))
 have r1:=(hb1.block w.heap.size (by omega)).trans H0.out
 have x1:=(hb1.block (w.heap.size+1) (by omega)).trans H1.out
 have z1:=(hb1.block (w.heap.size+1+1) (by omega)).trans H2.out
 clear iK hr0 H0 H1 H2 bA hb1
 by_cases hc0:cErr d.c=0
 · rw [hc0]
   have hx1:=ai x1
   have R1:=h_ r1
   have X1:=h_ x1
   have Z1:=h_ z1
   have HB1:=h_ aK
   clear r1 x1 z1 aK
   go_wp2_with (refine aj 40 (.tmp 3) rfl (w.heap.size+1) 0 rfl x.enc _ hx1 Tryz.underlying40 rfl cS (by rfl) ?_)
   refine(LU.out w1 HB1.out).mono ?_
   rintro e W2 ⟨rfl,hb2⟩
   have hs2:=hb2.size
   have hbw2:=HB1.out.trans (hb2.mono (by omega))
   have r2:=(hb2.block w.heap.size (by omega)).trans R1.out
   have x2:=(hb2.block (w.heap.size+1) (by omega)).trans X1.out
   have z2:=(hb2.block (w.heap.size+1+1) (by omega)).trans Z1.out
   clear LU hx1 R1 X1 Z1 HB1 hb2
   by_cases he0:gM x.c=0
   · rw [he0]
     have hrg:=BV he0
     have Iw:=h_ (Gd he0)
     have cj:=h_ (Bz.out.trans ((if_neg (fun h=>h hc0)).trans (if_neg (fun h=>h he0))))
     have hr2:=ai r2
     have hx2:=ai x2
     have HD2:=h_ r2
     have X2:=h_ x2
     have Z2:=h_ z2
     have HB2:=h_ hbw2
     have aZ:=h_ (C8.out W2 hbw2)
     clear Bz he0 r2 x2 z2 hbw2 C8 vo
     have xC:x.c.op=x.op:=rfl
     rw [xC] at hrg
     have hrg2:x.op=1∨x.op=2∨x.op=3∨x.op=4∨x.op=5∨x.op=6∨x.op=7∨x.op=8∨x.op=9∨x.op=10∨x.op=11∨x.op=12∨x.op=13∨x.op=14∨x.op=15∨x.op=16∨x.op=17∨x.op=18∨x.op=19:=by omega
     have ig:=h_ (show x.op=8→0≤x.row from fun h=>Iw.out h)
     clear Iw hrg xC
     rcases hrg2 with hop|hop|hop|hop|hop|hop|hop|hop|hop|hop|hop|hop|hop|hop|hop|hop|hop|hop|hop
     · have bq:=h_ (il (n:=1) cj.out hop)
       have cop:=ir X2.out hop
       have c3:W2.cell? ⟨w.heap.size+1,3,none⟩=some (.int .i64 x.inn):=Sj _ _ 3 _ 40 (0,0) X2.out
       have c4:W2.cell? ⟨w.heap.size+1,4,none⟩=some (.int .i64 x.out):=Sj _ _ 4 _ 40 (0,0) X2.out
       have c13:W2.cell? ⟨w.heap.size+1,13,none⟩=some (.string x.name):=Sj _ _ 13 _ 40 (0,0) X2.out
       have c9:W2.cell? ⟨w.heap.size+1,9,none⟩=some (.int .u8 x.kind):=Sj _ _ 9 _ 40 (0,0) X2.out
       have c14:W2.cell? ⟨w.heap.size+1,14,none⟩=some (.string x.text):=Sj _ _ 14 _ 40 (0,0) X2.out
       have c22:W2.cell? ⟨w.heap.size+1,22,none⟩=some (.slice x.at_ x.rows.length x.cap):=Sj _ _ 22 _ 40 (0,0) X2.out
       have hxe:(⟨0,x.inn,x.out,x.name,x.kind,x.text,x.at_,x.cap,x.rows⟩:Ev).fits:=⟨zV,cH.2.1.2.2.1,cH.2.1.2.2.2.1,cH.2.2.2.2.1,cH.2.2.1.1,cH.2.2.1.2,cH.2.2.2.2.2.1,cH.2.2.2.2.2.2.2.1,cH.2.2.2.2.2.2.2.2⟩
       have HC:=h_ ((lv d (⟨0,x.inn,x.out,x.name,x.kind,x.text,x.at_,x.cap,x.rows⟩:Ev) W2 aZ.out.1 aZ.out.2.1 aZ.out.2.2.1 aZ.out.2.2.2 hxe).mono fun e w' h=>(show ∃ (D:Doc) (u:Int),e=.returned (.tuple #[.agg D.enc.toArray,.int .i64 u,.int .i64 (aQ d.c (⟨0,x.inn,x.out,x.name,x.kind,x.text,x.at_,x.cap,x.rows⟩:Ev).c)])∧D.c=(insertC d.c (⟨0,x.inn,x.out,x.name,x.kind,x.text,x.at_,x.cap,x.rows⟩:Ev).c).2∧D.lies w'∧(∀ b,D.uses b→W2.heap.size≤b)∧Sq W2.heap.size W2 w' from by
        obtain⟨D,h1,h2⟩:=h
        exact⟨D,_,h1,h2⟩))
       have dz:=h_ (show bU d.c x.c=insertC d.c (⟨0,x.inn,x.out,x.name,x.kind,x.text,x.at_,x.cap,x.rows⟩:Ev).c from bq.out)
       have Ja:=h_ (show(insertC d.c (⟨0,x.inn,x.out,x.name,x.kind,x.text,x.at_,x.cap,x.rows⟩:Ev).c).1=aQ d.c (⟨0,x.inn,x.out,x.name,x.kind,x.text,x.at_,x.cap,x.rows⟩:Ev).c from vL _ _)
       clear cj bq bh aZ cH ig hop
       simp only [Ev.enc] at HC
       generalize insertC d.c (⟨0,x.inn,x.out,x.name,x.kind,x.text,x.at_,x.cap,x.rows⟩:Ev).c=R at *
       generalize aQ d.c (⟨0,x.inn,x.out,x.name,x.kind,x.text,x.at_,x.cap,x.rows⟩:Ev).c=EQ at *
       obtain⟨pe,pc⟩:=R
       have hpe:pe=EQ:=Ja.out
       subst hpe
       go_wp2_with (refine aj 27 (.tmp 2) rfl w.heap.size 0 rfl d.enc _ hr2 Tryz.underlying27 rfl ag (by rfl) ?_)
       refine HC.out.mono ?_
       rintro e w4 ⟨D,u,rfl,bo,hDl,bM,hb5⟩
       try simp only at bo
       have hs4:=hb5.size
       have z4:=(hb5.block (w.heap.size+1+1) (by omega)).trans Z2.out
       have bP:=HB2.out.trans (hb5.mono (by omega))
       clear HC hb5 hr2 hx2 cop Ja
       have hDlt:∀ b,D.uses b→b<w4.heap.size:=fun b hb=>Doc.uses_lt hDl hb
       have hal:Sq w4.heap.size w4 (w4.alloc (.cells D.enc.toArray 27)):=(St _ _).alloc (Sr _) _
       have hv5:=Sl w4 (.cells D.enc.toArray 27)
       obtain⟨D0,hD0⟩:∃ D0:Doc,D0=D:=⟨_,rfl⟩
       rw [←hD0] at bo hDl bM hal hv5
       obtain⟨dt,dl,dr,dd,dla,dra,drc,dregs,dea,dec,devs,dca,dcc,dcms⟩:=D
       have E2:D0.enc.toArray=#[.string dt,.string dl,.int .u8 dr,.bool dd,.int .i64 dla,.slice dra dregs.length drc,.slice dea devs.length dec,.slice dca dcms.length dcc]:=by rw [hD0];rfl
       rw [E2] at hal hv5
       simp only [Doc.enc]
       go_upto_region 11 with fail
       generalize w4.alloc (.cells #[Su dt,.string dl,.int .u8 dr,.bool dd,.int .i64 dla,.slice dra dregs.length drc,.slice dea devs.length dec,.slice dca dcms.length dcc] 27)=w5 at *
       have hs5:=hal.size
       have z5:=(hal.block (w.heap.size+1+1) (by omega)).trans z4
       have bz:=bP.trans (hal.mono (by omega))
       replace hDl:=Doc.later hDl hal
       have ED:=ai (l:=[.string dt,.string dl,.int .u8 dr,.bool dd,.int .i64 dla,.slice dra dregs.length drc,.slice dea devs.length dec,.slice dca dcms.length dcc]) hv5
       clear z4 bP hDlt hal hv5
       obtain⟨D,hD⟩:∃ D:Doc,D=D0:=⟨_,rfl⟩
       rw [←hD] at bo hDl bM
       have uJ:#[.string dt,.string dl,.int .u8 dr,.bool dd,.int .i64 dla,.slice dra dregs.length drc,.slice dea devs.length dec,.slice dca dcms.length dcc]=D.enc.toArray:=by rw [hD,E2]
       clear E2
       have r9:=Si w5 (w.heap.size+1+1) _ D.enc.toArray 27 (0,0) z5
       rw [←uJ] at r9
       have HF:=h_ (bF.out (pe,pc) dz.out D _ (apF bo hDl (fun b hb=>by have:=bM b hb;omega) bz))
       rw [←uJ] at HF
       clear bo hDl bM bz bF dz hD hD0 uJ
       go_wp2_with (first|(refine aj 27 (.tmp 9) rfl (w4.heap.size) 0 rfl _ _ ED Tryz.underlying27 rfl ag (by rfl) ?_)|(refine Sh rfl 27 (.tmp 4) (.tmp 49) rfl (w.heap.size+1+1) _ rfl rfl 27 _ z5 ag rfl aO ?_))
       generalize w5.setRow (w.heap.size+1+1) _=w9 at *
       clear z5
       exact aL Tryz.results11 rfl rfl r9 rfl HF.out
     · have bq:=h_ (il (n:=2) cj.out hop)
       have cop:=ir X2.out hop
       have c1:W2.cell? ⟨w.heap.size+1,1,none⟩=some (.int .i64 x.id):=Sj _ _ 1 _ 40 (0,0) X2.out
       have HC:=h_ (ln d x.id W2 aZ.out.1 aZ.out.2.1 aZ.out.2.2.1)
       have dz:=h_ (show bU d.c x.c=bx d.c x.id from bq.out)
       clear cj bq bh aZ cH ig hop
       generalize bx d.c x.id=R at *
       obtain⟨pe,pc⟩:=R
       go_wp2_with (first|(refine aj 27 (.tmp 2) rfl w.heap.size 0 rfl d.enc _ hr2 Tryz.underlying27 rfl ag (by rfl) ?_))
       refine HC.out.mono ?_
       rintro e w5 ⟨D,rfl,bo,hDl,bM,hb5⟩
       simp only at bo
       have hs5:=hb5.size
       have z5:=(hb5.block (w.heap.size+1+1) (by omega)).trans Z2.out
       have bz:=HB2.out.trans (hb5.mono (by omega))
       clear HC hb5 hr2 hx2 cop
       have r9:=Si w5 (w.heap.size+1+1) _ D.enc.toArray 27 (0,0) z5
       have HF:=h_ (bF.out (pe,pc) dz.out D _ (apF bo hDl (fun b hb=>by have:=bM b hb;omega) bz))
       clear bo hDl bM bz bF dz
       go_wp2_with ((refine Sh rfl 27 (.tmp 4) (.tmp 57) rfl (w.heap.size+1+1) (D.enc.toArray) rfl rfl 27 _ z5 ag rfl aO ?_))
       generalize w5.setRow (w.heap.size+1+1) D.enc.toArray=w9 at *
       clear z5
       exact aL Tryz.results11 rfl rfl r9 rfl HF.out
     · have bq:=h_ (il (n:=3) cj.out hop)
       have cop:=ir X2.out hop
       have HC:=h_ (ff 33 #[.pointer (some ⟨w.heap.size+1,0,none⟩)] (fun e=>(0,{ e with inn:=x.inn,out:=x.out })) (w.heap.size) (w.heap.size+1) x d W2 aZ.out.1 aZ.out.2.1 aZ.out.2.2.1 HD2.out X2.out (fun w1 hb1 hbk=>DU W2.heap.size (w.heap.size+1) x w1 hbk ((hb1.block _ (by omega)).trans X2.out) (Ed.later aZ.out.2.2.2 hb1) cH))
       have dz:=h_ (show bU d.c x.c=aF d.c x.id (fun e=>(0,{ e with inn:=x.inn,out:=x.out })) from bq.out)
       clear cj bq bh aZ cH ig hop
       generalize aF d.c x.id (fun e=>(0,{ e with inn:=x.inn,out:=x.out }))=R at *
       obtain⟨pe,pc⟩:=R
       go_wp2_with (fail)
       refine HC.out.mono ?_
       rintro e w5 ⟨D,rfl,bo,hDl,bM,hb5⟩
       simp only at bo
       have hs5:=hb5.size
       have z5:=(hb5.block (w.heap.size+1+1) (by omega)).trans Z2.out
       have bz:=HB2.out.trans (hb5.mono (by omega))
       clear HC hb5 hr2 hx2 cop
       have r9:=Si w5 (w.heap.size+1+1) _ D.enc.toArray 27 (0,0) z5
       have HF:=h_ (bF.out (pe,pc) dz.out D _ (apF bo hDl (fun b hb=>by have:=bM b hb;omega) bz))
       clear bo hDl bM bz bF dz
       go_wp2_with ((refine Sh rfl 27 (.tmp 4) (.tmp 64) rfl (w.heap.size+1+1) (D.enc.toArray) rfl rfl 27 _ z5 ag rfl aO ?_))
       generalize w5.setRow (w.heap.size+1+1) D.enc.toArray=w9 at *
       clear z5
       exact aL Tryz.results11 rfl rfl r9 rfl HF.out
     · have bq:=h_ (il (n:=4) cj.out hop)
       have cop:=ir X2.out hop
       have HC:=h_ (ff 34 #[.pointer (some ⟨w.heap.size+1,0,none⟩)] (fun e=>(0,{ e with rows:=x.rows.map Row.runs })) (w.heap.size) (w.heap.size+1) x d W2 aZ.out.1 aZ.out.2.1 aZ.out.2.2.1 HD2.out X2.out (fun w1 hb1 hbk=>DT W2.heap.size (w.heap.size+1) x w1 hbk ((hb1.block _ (by omega)).trans X2.out) (Ed.later aZ.out.2.2.2 hb1) cH))
       have dz:=h_ (show bU d.c x.c=aF d.c x.id (fun e=>(0,{ e with rows:=x.rows.map Row.runs })) from bq.out)
       clear cj bq bh aZ cH ig hop
       generalize aF d.c x.id (fun e=>(0,{ e with rows:=x.rows.map Row.runs }))=R at *
       obtain⟨pe,pc⟩:=R
       go_wp2_with (fail)
       refine HC.out.mono ?_
       rintro e w5 ⟨D,rfl,bo,hDl,bM,hb5⟩
       simp only at bo
       have hs5:=hb5.size
       have z5:=(hb5.block (w.heap.size+1+1) (by omega)).trans Z2.out
       have bz:=HB2.out.trans (hb5.mono (by omega))
       clear HC hb5 hr2 hx2 cop
       have r9:=Si w5 (w.heap.size+1+1) _ D.enc.toArray 27 (0,0) z5
       have HF:=h_ (bF.out (pe,pc) dz.out D _ (apF bo hDl (fun b hb=>by have:=bM b hb;omega) bz))
       clear bo hDl bM bz bF dz
       go_wp2_with ((refine Sh rfl 27 (.tmp 4) (.tmp 71) rfl (w.heap.size+1+1) (D.enc.toArray) rfl rfl 27 _ z5 ag rfl aO ?_))
       generalize w5.setRow (w.heap.size+1+1) D.enc.toArray=w9 at *
       clear z5
       exact aL Tryz.results11 rfl rfl r9 rfl HF.out
     · have bq:=h_ (il (n:=5) cj.out hop)
       have cop:=ir X2.out hop
       have HC:=h_ (ff 35 #[.pointer (some ⟨w.heap.size+1,0,none⟩)] (fun e=>(0,{ e with region:=x.name })) (w.heap.size) (w.heap.size+1) x d W2 aZ.out.1 aZ.out.2.1 aZ.out.2.2.1 HD2.out X2.out (fun w1 hb1 hbk=>DS W2.heap.size (w.heap.size+1) x w1 hbk ((hb1.block _ (by omega)).trans X2.out) (Ed.later aZ.out.2.2.2 hb1) cH))
       have dz:=h_ (show bU d.c x.c=aF d.c x.id (fun e=>(0,{ e with region:=x.name })) from bq.out)
       clear cj bq bh aZ cH ig hop
       generalize aF d.c x.id (fun e=>(0,{ e with region:=x.name }))=R at *
       obtain⟨pe,pc⟩:=R
       go_wp2_with (fail)
       refine HC.out.mono ?_
       rintro e w5 ⟨D,rfl,bo,hDl,bM,hb5⟩
       simp only at bo
       have hs5:=hb5.size
       have z5:=(hb5.block (w.heap.size+1+1) (by omega)).trans Z2.out
       have bz:=HB2.out.trans (hb5.mono (by omega))
       clear HC hb5 hr2 hx2 cop
       have r9:=Si w5 (w.heap.size+1+1) _ D.enc.toArray 27 (0,0) z5
       have HF:=h_ (bF.out (pe,pc) dz.out D _ (apF bo hDl (fun b hb=>by have:=bM b hb;omega) bz))
       clear bo hDl bM bz bF dz
       go_wp2_with ((refine Sh rfl 27 (.tmp 4) (.tmp 78) rfl (w.heap.size+1+1) (D.enc.toArray) rfl rfl 27 _ z5 ag rfl aO ?_))
       generalize w5.setRow (w.heap.size+1+1) D.enc.toArray=w9 at *
       clear z5
       exact aL Tryz.results11 rfl rfl r9 rfl HF.out
     · have bq:=h_ (il (n:=6) cj.out hop)
       have cop:=ir X2.out hop
       have HC:=h_ (ff 36 #[.pointer (some ⟨w.heap.size+1,0,none⟩)] (fun e=>(0,{ e with kind:=x.kind })) (w.heap.size) (w.heap.size+1) x d W2 aZ.out.1 aZ.out.2.1 aZ.out.2.2.1 HD2.out X2.out (fun w1 hb1 hbk=>DR W2.heap.size (w.heap.size+1) x w1 hbk ((hb1.block _ (by omega)).trans X2.out) (Ed.later aZ.out.2.2.2 hb1) cH))
       have dz:=h_ (show bU d.c x.c=aF d.c x.id (fun e=>(0,{ e with kind:=x.kind })) from bq.out)
       clear cj bq bh aZ cH ig hop
       generalize aF d.c x.id (fun e=>(0,{ e with kind:=x.kind }))=R at *
       obtain⟨pe,pc⟩:=R
       go_wp2_with (fail)
       refine HC.out.mono ?_
       rintro e w5 ⟨D,rfl,bo,hDl,bM,hb5⟩
       simp only at bo
       have hs5:=hb5.size
       have z5:=(hb5.block (w.heap.size+1+1) (by omega)).trans Z2.out
       have bz:=HB2.out.trans (hb5.mono (by omega))
       clear HC hb5 hr2 hx2 cop
       have r9:=Si w5 (w.heap.size+1+1) _ D.enc.toArray 27 (0,0) z5
       have HF:=h_ (bF.out (pe,pc) dz.out D _ (apF bo hDl (fun b hb=>by have:=bM b hb;omega) bz))
       clear bo hDl bM bz bF dz
       go_wp2_with ((refine Sh rfl 27 (.tmp 4) (.tmp 85) rfl (w.heap.size+1+1) (D.enc.toArray) rfl rfl 27 _ z5 ag rfl aO ?_))
       generalize w5.setRow (w.heap.size+1+1) D.enc.toArray=w9 at *
       clear z5
       exact aL Tryz.results11 rfl rfl r9 rfl HF.out
     · have bq:=h_ (il (n:=7) cj.out hop)
       have cop:=ir X2.out hop
       have HC:=h_ (ff 37 #[.pointer (some ⟨w.heap.size+1,0,none⟩)] (fun e=>(0,{ e with speaker:=x.name })) (w.heap.size) (w.heap.size+1) x d W2 aZ.out.1 aZ.out.2.1 aZ.out.2.2.1 HD2.out X2.out (fun w1 hb1 hbk=>DQ W2.heap.size (w.heap.size+1) x w1 hbk ((hb1.block _ (by omega)).trans X2.out) (Ed.later aZ.out.2.2.2 hb1) cH))
       have dz:=h_ (show bU d.c x.c=aF d.c x.id (fun e=>(0,{ e with speaker:=x.name })) from bq.out)
       clear cj bq bh aZ cH ig hop
       generalize aF d.c x.id (fun e=>(0,{ e with speaker:=x.name }))=R at *
       obtain⟨pe,pc⟩:=R
       go_wp2_with (fail)
       refine HC.out.mono ?_
       rintro e w5 ⟨D,rfl,bo,hDl,bM,hb5⟩
       simp only at bo
       have hs5:=hb5.size
       have z5:=(hb5.block (w.heap.size+1+1) (by omega)).trans Z2.out
       have bz:=HB2.out.trans (hb5.mono (by omega))
       clear HC hb5 hr2 hx2 cop
       have r9:=Si w5 (w.heap.size+1+1) _ D.enc.toArray 27 (0,0) z5
       have HF:=h_ (bF.out (pe,pc) dz.out D _ (apF bo hDl (fun b hb=>by have:=bM b hb;omega) bz))
       clear bo hDl bM bz bF dz
       go_wp2_with ((refine Sh rfl 27 (.tmp 4) (.tmp 92) rfl (w.heap.size+1+1) (D.enc.toArray) rfl rfl 27 _ z5 ag rfl aO ?_))
       generalize w5.setRow (w.heap.size+1+1) D.enc.toArray=w9 at *
       clear z5
       exact aL Tryz.results11 rfl rfl r9 rfl HF.out
     · have bq:=h_ (il (n:=8) cj.out hop)
       have cop:=ir X2.out hop
       have hrow:0≤x.row:=ig.out hop
       have HC:=h_ (nX (restyle x.c) x d W2 aZ.out.1 aZ.out.2.1 aZ.out.2.2.1 (fun w1 hb1 hbk=>Gh (W2.heap.size+1) x w1 (Env.below aZ.out.1 hb1 (Sr _)) hbk cH hrow))
       have dz:=h_ (show bU d.c x.c=aF d.c x.id (restyle x.c) from bq.out)
       clear cj bq bh aZ cH ig hop
       generalize aF d.c x.id (restyle x.c)=R at *
       obtain⟨pe,pc⟩:=R
       go_wp2_with (first|(refine aj 27 (.tmp 2) rfl w.heap.size 0 rfl d.enc _ hr2 Tryz.underlying27 rfl ag (by rfl) ?_)|(refine aj 40 (.tmp 3) rfl (w.heap.size+1) 0 rfl x.enc _ hx2 Tryz.underlying40 rfl cS (by rfl) ?_))
       refine HC.out.mono ?_
       rintro e w5 ⟨D,rfl,bo,hDl,bM,hb5⟩
       simp only at bo
       have hs5:=hb5.size
       have z5:=(hb5.block (w.heap.size+1+1) (by omega)).trans Z2.out
       have bz:=HB2.out.trans (hb5.mono (by omega))
       clear HC hb5 hr2 hx2 cop
       have r9:=Si w5 (w.heap.size+1+1) _ D.enc.toArray 27 (0,0) z5
       have HF:=h_ (bF.out (pe,pc) dz.out D _ (apF bo hDl (fun b hb=>by have:=bM b hb;omega) bz))
       clear bo hDl bM bz bF dz
       go_wp2_with ((refine Sh rfl 27 (.tmp 4) (.tmp 99) rfl (w.heap.size+1+1) (D.enc.toArray) rfl rfl 27 _ z5 ag rfl aO ?_))
       generalize w5.setRow (w.heap.size+1+1) D.enc.toArray=w9 at *
       clear z5
       exact aL Tryz.results11 rfl rfl r9 rfl HF.out
     · have bq:=h_ (il (n:=9) cj.out hop)
       have cop:=ir X2.out hop
       have HC:=h_ (rC d x W2 aZ.out.1 aZ.out.2.1 aZ.out.2.2.1 cH)
       have dz:=h_ (show bU d.c x.c=eA d.c x.c from bq.out)
       clear cj bq bh aZ cH ig hop
       generalize eA d.c x.c=R at *
       obtain⟨pe,pc⟩:=R
       go_wp2_with (first|(refine aj 27 (.tmp 2) rfl w.heap.size 0 rfl d.enc _ hr2 Tryz.underlying27 rfl ag (by rfl) ?_)|(refine aj 40 (.tmp 3) rfl (w.heap.size+1) 0 rfl x.enc _ hx2 Tryz.underlying40 rfl cS (by rfl) ?_))
       refine HC.out.mono ?_
       rintro e w5 ⟨D,rfl,bo,hDl,bM,hb5⟩
       simp only at bo
       have hs5:=hb5.size
       have z5:=(hb5.block (w.heap.size+1+1) (by omega)).trans Z2.out
       have bz:=HB2.out.trans (hb5.mono (by omega))
       clear HC hb5 hr2 hx2 cop
       have r9:=Si w5 (w.heap.size+1+1) _ D.enc.toArray 27 (0,0) z5
       have HF:=h_ (bF.out (pe,pc) dz.out D _ (apF bo hDl (fun b hb=>by have:=bM b hb;omega) bz))
       clear bo hDl bM bz bF dz
       go_wp2_with ((refine Sh rfl 27 (.tmp 4) (.tmp 106) rfl (w.heap.size+1+1) (D.enc.toArray) rfl rfl 27 _ z5 ag rfl aO ?_))
       generalize w5.setRow (w.heap.size+1+1) D.enc.toArray=w9 at *
       clear z5
       exact aL Tryz.results11 rfl rfl r9 rfl HF.out
     · have bq:=h_ (il (n:=10) cj.out hop)
       have cop:=ir X2.out hop
       have HC:=h_ (uo d x W2 aZ.out.1 aZ.out.2.1 aZ.out.2.2.1)
       have dz:=h_ (show bU d.c x.c=gZ d.c x.c from bq.out)
       clear cj bq bh aZ cH ig hop
       generalize gZ d.c x.c=R at *
       obtain⟨pe,pc⟩:=R
       go_wp2_with (first|(refine aj 27 (.tmp 2) rfl w.heap.size 0 rfl d.enc _ hr2 Tryz.underlying27 rfl ag (by rfl) ?_)|(refine aj 40 (.tmp 3) rfl (w.heap.size+1) 0 rfl x.enc _ hx2 Tryz.underlying40 rfl cS (by rfl) ?_))
       refine HC.out.mono ?_
       rintro e w5 ⟨D,rfl,bo,hDl,bM,hb5⟩
       simp only at bo
       have hs5:=hb5.size
       have z5:=(hb5.block (w.heap.size+1+1) (by omega)).trans Z2.out
       have bz:=HB2.out.trans (hb5.mono (by omega))
       clear HC hb5 hr2 hx2 cop
       have r9:=Si w5 (w.heap.size+1+1) _ D.enc.toArray 27 (0,0) z5
       have HF:=h_ (bF.out (pe,pc) dz.out D _ (apF bo hDl (fun b hb=>by have:=bM b hb;omega) bz))
       clear bo hDl bM bz bF dz
       go_wp2_with ((refine Sh rfl 27 (.tmp 4) (.tmp 113) rfl (w.heap.size+1+1) (D.enc.toArray) rfl rfl 27 _ z5 ag rfl aO ?_))
       generalize w5.setRow (w.heap.size+1+1) D.enc.toArray=w9 at *
       clear z5
       exact aL Tryz.results11 rfl rfl r9 rfl HF.out
     · have bq:=h_ (il (n:=11) cj.out hop)
       have cop:=ir X2.out hop
       have c5:W2.cell? ⟨w.heap.size+1,5,none⟩=some (.int .i64 x.frame):=Sj _ _ 5 _ 40 (0,0) X2.out
       have c2:W2.cell? ⟨w.heap.size+1,2,none⟩=some (.int .i64 x.other):=Sj _ _ 2 _ 40 (0,0) X2.out
       have HC:=h_ (tP d x.frame x.other W2 aZ.out.1 aZ.out.2.1 aZ.out.2.2.1 cH.2.1.2.1)
       have dz:=h_ (show bU d.c x.c=d_ d.c x.frame x.other from bq.out)
       clear cj bq bh aZ cH ig hop
       generalize d_ d.c x.frame x.other=R at *
       obtain⟨pe,pc⟩:=R
       go_wp2_with (first|(refine aj 27 (.tmp 2) rfl w.heap.size 0 rfl d.enc _ hr2 Tryz.underlying27 rfl ag (by rfl) ?_))
       refine HC.out.mono ?_
       rintro e w5 ⟨D,rfl,bo,hDl,bM,hb5⟩
       simp only at bo
       have hs5:=hb5.size
       have z5:=(hb5.block (w.heap.size+1+1) (by omega)).trans Z2.out
       have bz:=HB2.out.trans (hb5.mono (by omega))
       clear HC hb5 hr2 hx2 cop
       have r9:=Si w5 (w.heap.size+1+1) _ D.enc.toArray 27 (0,0) z5
       have HF:=h_ (bF.out (pe,pc) dz.out D _ (apF bo hDl (fun b hb=>by have:=bM b hb;omega) bz))
       clear bo hDl bM bz bF dz
       go_wp2_with ((refine Sh rfl 27 (.tmp 4) (.tmp 123) rfl (w.heap.size+1+1) (D.enc.toArray) rfl rfl 27 _ z5 ag rfl aO ?_))
       generalize w5.setRow (w.heap.size+1+1) D.enc.toArray=w9 at *
       clear z5
       exact aL Tryz.results11 rfl rfl r9 rfl HF.out
     · have bq:=h_ (il (n:=12) cj.out hop)
       have cop:=ir X2.out hop
       have HC:=h_ (iq d x W2 aZ.out.1 aZ.out.2.1 aZ.out.2.2.1 cH hc0)
       have dz:=h_ (show bU d.c x.c=fu d.c x.c from bq.out)
       clear cj bq bh aZ cH ig hop
       generalize fu d.c x.c=R at *
       obtain⟨pe,pc⟩:=R
       go_wp2_with (first|(refine aj 27 (.tmp 2) rfl w.heap.size 0 rfl d.enc _ hr2 Tryz.underlying27 rfl ag (by rfl) ?_)|(refine aj 40 (.tmp 3) rfl (w.heap.size+1) 0 rfl x.enc _ hx2 Tryz.underlying40 rfl cS (by rfl) ?_))
       refine HC.out.mono ?_
       rintro e w5 ⟨D,rfl,bo,hDl,bM,hb5⟩
       simp only at bo
       have hs5:=hb5.size
       have z5:=(hb5.block (w.heap.size+1+1) (by omega)).trans Z2.out
       have bz:=HB2.out.trans (hb5.mono (by omega))
       clear HC hb5 hr2 hx2 cop
       have r9:=Si w5 (w.heap.size+1+1) _ D.enc.toArray 27 (0,0) z5
       have HF:=h_ (bF.out (pe,pc) dz.out D _ (apF bo hDl (fun b hb=>by have:=bM b hb;omega) bz))
       clear bo hDl bM bz bF dz
       go_wp2_with ((refine Sh rfl 27 (.tmp 4) (.tmp 179) rfl (w.heap.size+1+1) (D.enc.toArray) rfl rfl 27 _ z5 ag rfl aO ?_))
       generalize w5.setRow (w.heap.size+1+1) D.enc.toArray=w9 at *
       clear z5
       exact aL Tryz.results11 rfl rfl r9 rfl HF.out
     · have bq:=h_ (il (n:=13) cj.out hop)
       have cop:=ir X2.out hop
       have HC:=h_ (iq d x W2 aZ.out.1 aZ.out.2.1 aZ.out.2.2.1 cH hc0)
       have dz:=h_ (show bU d.c x.c=fu d.c x.c from bq.out)
       clear cj bq bh aZ cH ig hop
       generalize fu d.c x.c=R at *
       obtain⟨pe,pc⟩:=R
       go_wp2_with (first|(refine aj 27 (.tmp 2) rfl w.heap.size 0 rfl d.enc _ hr2 Tryz.underlying27 rfl ag (by rfl) ?_)|(refine aj 40 (.tmp 3) rfl (w.heap.size+1) 0 rfl x.enc _ hx2 Tryz.underlying40 rfl cS (by rfl) ?_))
       refine HC.out.mono ?_
       rintro e w5 ⟨D,rfl,bo,hDl,bM,hb5⟩
       simp only at bo
       have hs5:=hb5.size
       have z5:=(hb5.block (w.heap.size+1+1) (by omega)).trans Z2.out
       have bz:=HB2.out.trans (hb5.mono (by omega))
       clear HC hb5 hr2 hx2 cop
       have r9:=Si w5 (w.heap.size+1+1) _ D.enc.toArray 27 (0,0) z5
       have HF:=h_ (bF.out (pe,pc) dz.out D _ (apF bo hDl (fun b hb=>by have:=bM b hb;omega) bz))
       clear bo hDl bM bz bF dz
       go_wp2_with ((refine Sh rfl 27 (.tmp 4) (.tmp 179) rfl (w.heap.size+1+1) (D.enc.toArray) rfl rfl 27 _ z5 ag rfl aO ?_))
       generalize w5.setRow (w.heap.size+1+1) D.enc.toArray=w9 at *
       clear z5
       exact aL Tryz.results11 rfl rfl r9 rfl HF.out
     · have bq:=h_ (il (n:=14) cj.out hop)
       have cop:=ir X2.out hop
       have HC:=h_ (iq d x W2 aZ.out.1 aZ.out.2.1 aZ.out.2.2.1 cH hc0)
       have dz:=h_ (show bU d.c x.c=fu d.c x.c from bq.out)
       clear cj bq bh aZ cH ig hop
       generalize fu d.c x.c=R at *
       obtain⟨pe,pc⟩:=R
       go_wp2_with (first|(refine aj 27 (.tmp 2) rfl w.heap.size 0 rfl d.enc _ hr2 Tryz.underlying27 rfl ag (by rfl) ?_)|(refine aj 40 (.tmp 3) rfl (w.heap.size+1) 0 rfl x.enc _ hx2 Tryz.underlying40 rfl cS (by rfl) ?_))
       refine HC.out.mono ?_
       rintro e w5 ⟨D,rfl,bo,hDl,bM,hb5⟩
       simp only at bo
       have hs5:=hb5.size
       have z5:=(hb5.block (w.heap.size+1+1) (by omega)).trans Z2.out
       have bz:=HB2.out.trans (hb5.mono (by omega))
       clear HC hb5 hr2 hx2 cop
       have r9:=Si w5 (w.heap.size+1+1) _ D.enc.toArray 27 (0,0) z5
       have HF:=h_ (bF.out (pe,pc) dz.out D _ (apF bo hDl (fun b hb=>by have:=bM b hb;omega) bz))
       clear bo hDl bM bz bF dz
       go_wp2_with ((refine Sh rfl 27 (.tmp 4) (.tmp 179) rfl (w.heap.size+1+1) (D.enc.toArray) rfl rfl 27 _ z5 ag rfl aO ?_))
       generalize w5.setRow (w.heap.size+1+1) D.enc.toArray=w9 at *
       clear z5
       exact aL Tryz.results11 rfl rfl r9 rfl HF.out
     · have bq:=h_ (il (n:=15) cj.out hop)
       have cop:=ir X2.out hop
       have HC:=h_ (br d W2 aZ.out.2.1 aZ.out.2.2.1)
       have dz:=h_ (show bU d.c x.c=(0,{ d.c with hd:={ d.c.hd with title:=x.text } }) from bq.out)
       clear cj bq bh aZ cH ig
       go_wp2_with (refine aj 27 (.tmp 2) rfl w.heap.size 0 rfl d.enc _ hr2 Tryz.underlying27 rfl ag (by rfl) ?_)
       refine HC.out.mono ?_
       rintro e w4 ⟨D,rfl,bo,hDl,bM,hb4,_,_,_⟩
       have hs4:=hb4.size
       have r4:=(hb4.block (w.heap.size) (by omega)).trans HD2.out
       have x4:=(hb4.block (w.heap.size+1) (by omega)).trans X2.out
       have z4:=(hb4.block (w.heap.size+1+1) (by omega)).trans Z2.out
       have bP:=HB2.out.trans (hb4.mono (by omega))
       clear HC hb4 hr2 hx2 HD2 X2 Z2 HB2
       go_upto_region 35 with(refine Sh rfl 27 (.tmp 2) (.tmp 129) rfl (w.heap.size) (D.enc.toArray) rfl rfl 27 _ r4 ag rfl aO ?_)
       have r5:=Si w4 w.heap.size _ D.enc.toArray 27 (0,0) r4
       have hk5:Kept (fun b=>b=w.heap.size) w4 (w4.setRow w.heap.size D.enc.toArray):=bj _ _ _
       generalize w4.setRow w.heap.size D.enc.toArray=w6 at *
       have hs6:=hk5.size
       have x6:=(hk5.block (w.heap.size+1) (by omega) (by omega)).trans x4
       have z6:=(hk5.block (w.heap.size+1+1) (by omega) (by omega)).trans z4
       have vQ:D.lies w6:=Doc.frame hDl hs6 fun b hb=>hk5.block b (Doc.uses_lt hDl hb) (by have:=bM b hb;omega)
       have sz:Sq w.heap.size w w6:=bP.trans (hk5.below (by omega) fun k hk e=>by omega)
       have cop6:w6.cell? ⟨w.heap.size+1,0,none⟩=some (.int .u8 15):=(Sj _ _ 0 _ 40 (0,0) x6).trans (by
        show some (Sw .u8 x.op)=_
        rw [hop])
       have cv6:w6.cell? ⟨w.heap.size+1,14,none⟩=some (.string x.text):=Sj _ _ 14 _ 40 (0,0) x6
       have ct6:∀ j,w6.cell? ⟨w.heap.size,j,none⟩=_:=fun j=>Sj _ _ j _ 27 (0,0) r5
       have f6:∀ j,w6.frozen? ⟨w.heap.size,j,none⟩=false:=fun j=>by simp [Sk.frozen?,r5]
       have R6:=h_ r5
       have Z6:=h_ z6
       obtain⟨D2,hD2⟩:∃ D2:Doc,D2={ D with title:=x.text }:=⟨_,rfl⟩
       have fZ:=h_ (show D.enc.toArray.setIfInBounds 0 (.string x.text)=D2.enc.toArray from by rw [hD2];rfl)
       have lQ:=h_ (show D2.c={ d.c with hd:={ d.c.hd with title:=x.text } } from by rw [hD2,←bo];rfl)
       have HL2:=h_ (show D2.lies w6∧∀ b,D2.uses b→W2.heap.size≤b from by rw [hD2];exact⟨vQ,bM⟩)
       have Dd:=h_ sz
       clear r4 x4 z4 bP hk5 x6 z6 vQ sz r5 hD2 hDl bM bo
       go_upto_region 38 with fail
       have b7:=heap_setCell_same w6 w.heap.size 0 _ 27 (.string x.text) R6.out
       rw [fZ.out] at b7
       have iA:Kept (fun b=>b=w.heap.size) w6 (w6.setCell ⟨w.heap.size,0,none⟩ (.string x.text)):=bH (Kept.refl _ _) 0 _
       generalize w6.setCell ⟨w.heap.size,0,none⟩ (.string x.text)=w5 at *
       have hs7:=iA.size
       have z5:=(iA.block (w.heap.size+1+1) (by omega) (by omega)).trans Z6.out
       have ED:=ai b7
       have bz:Sq w.heap.size w w5:=Dd.out.trans (iA.below (by omega) fun k hk e=>by omega)
       have hDl:D2.lies w5:=Doc.frame HL2.out.1 hs7 fun b hb=>iA.block b (Doc.uses_lt HL2.out.1 hb) (by have:=HL2.out.2 b hb;omega)
       have bM:=HL2.out.2
       have bo:=lQ.out
       obtain⟨pe,hpe⟩:∃ p:Int,p=0:=⟨_,rfl⟩
       obtain⟨pc,hpc⟩:∃ p:DocC,p={ d.c with hd:={ d.c.hd with title:=x.text } }:=⟨_,rfl⟩
       rw [←hpc] at bo
       rw [←hpc,←hpe] at dz
       clear ct6 f6 cop6 cv6 R6 Z6 Dd fZ lQ HL2 iA b7 hpc cop
       have r9:=Si w5 (w.heap.size+1+1) _ D2.enc.toArray 27 (0,0) z5
       have HF:=h_ (bF.out (pe,pc) dz.out D2 (w5.setRow (w.heap.size+1+1) D2.enc.toArray) ⟨bo,Doc.frame hDl (by rw [size_setRow];exact Sr _) (fun b hb=>aM _ _ _ _ (by have:=bM b hb;omega)),fun b hb=>by have:=bM b hb;omega,Sm bz (by omega) _⟩)
       clear bo hDl bM bz bF dz
       go_wp2_with (first|(refine aj 27 (.tmp 2) rfl w.heap.size 0 rfl D2.enc _ ED Tryz.underlying27 rfl ag (by rfl) ?_)|(refine Sh rfl 27 (.tmp 4) (.tmp 139) rfl (w.heap.size+1+1) (D2.enc.toArray) rfl rfl 27 _ z5 ag rfl aO ?_))
       generalize w5.setRow (w.heap.size+1+1) D2.enc.toArray=w9 at *
       clear z5
       subst hpe
       exact aL Tryz.results11 rfl rfl r9 rfl HF.out
     · have bq:=h_ (il (n:=16) cj.out hop)
       have cop:=ir X2.out hop
       have HC:=h_ (br d W2 aZ.out.2.1 aZ.out.2.2.1)
       have dz:=h_ (show bU d.c x.c=(0,{ d.c with hd:={ d.c.hd with lA:=x.name } }) from bq.out)
       clear cj bq bh aZ cH ig
       go_wp2_with (refine aj 27 (.tmp 2) rfl w.heap.size 0 rfl d.enc _ hr2 Tryz.underlying27 rfl ag (by rfl) ?_)
       refine HC.out.mono ?_
       rintro e w4 ⟨D,rfl,bo,hDl,bM,hb4,_,_,_⟩
       have hs4:=hb4.size
       have r4:=(hb4.block (w.heap.size) (by omega)).trans HD2.out
       have x4:=(hb4.block (w.heap.size+1) (by omega)).trans X2.out
       have z4:=(hb4.block (w.heap.size+1+1) (by omega)).trans Z2.out
       have bP:=HB2.out.trans (hb4.mono (by omega))
       clear HC hb4 hr2 hx2 HD2 X2 Z2 HB2
       go_upto_region 35 with(refine Sh rfl 27 (.tmp 2) (.tmp 129) rfl (w.heap.size) (D.enc.toArray) rfl rfl 27 _ r4 ag rfl aO ?_)
       have r5:=Si w4 w.heap.size _ D.enc.toArray 27 (0,0) r4
       have hk5:Kept (fun b=>b=w.heap.size) w4 (w4.setRow w.heap.size D.enc.toArray):=bj _ _ _
       generalize w4.setRow w.heap.size D.enc.toArray=w6 at *
       have hs6:=hk5.size
       have x6:=(hk5.block (w.heap.size+1) (by omega) (by omega)).trans x4
       have z6:=(hk5.block (w.heap.size+1+1) (by omega) (by omega)).trans z4
       have vQ:D.lies w6:=Doc.frame hDl hs6 fun b hb=>hk5.block b (Doc.uses_lt hDl hb) (by have:=bM b hb;omega)
       have sz:Sq w.heap.size w w6:=bP.trans (hk5.below (by omega) fun k hk e=>by omega)
       have cop6:w6.cell? ⟨w.heap.size+1,0,none⟩=some (.int .u8 16):=(Sj _ _ 0 _ 40 (0,0) x6).trans (by
        show some (Sw .u8 x.op)=_
        rw [hop])
       have cv6:w6.cell? ⟨w.heap.size+1,13,none⟩=some (.string x.name):=Sj _ _ 13 _ 40 (0,0) x6
       have ct6:∀ j,w6.cell? ⟨w.heap.size,j,none⟩=_:=fun j=>Sj _ _ j _ 27 (0,0) r5
       have f6:∀ j,w6.frozen? ⟨w.heap.size,j,none⟩=false:=fun j=>by simp [Sk.frozen?,r5]
       have R6:=h_ r5
       have Z6:=h_ z6
       obtain⟨D2,hD2⟩:∃ D2:Doc,D2={ D with lA:=x.name }:=⟨_,rfl⟩
       have fZ:=h_ (show D.enc.toArray.setIfInBounds 1 (.string x.name)=D2.enc.toArray from by rw [hD2];rfl)
       have lQ:=h_ (show D2.c={ d.c with hd:={ d.c.hd with lA:=x.name } } from by rw [hD2,←bo];rfl)
       have HL2:=h_ (show D2.lies w6∧∀ b,D2.uses b→W2.heap.size≤b from by rw [hD2];exact⟨vQ,bM⟩)
       have Dd:=h_ sz
       clear r4 x4 z4 bP hk5 x6 z6 vQ sz r5 hD2 hDl bM bo
       go_upto_region 38 with fail
       have b7:=heap_setCell_same w6 w.heap.size 1 _ 27 (.string x.name) R6.out
       rw [fZ.out] at b7
       have iA:Kept (fun b=>b=w.heap.size) w6 (w6.setCell ⟨w.heap.size,1,none⟩ (.string x.name)):=bH (Kept.refl _ _) 1 _
       generalize w6.setCell ⟨w.heap.size,1,none⟩ (.string x.name)=w5 at *
       have hs7:=iA.size
       have z5:=(iA.block (w.heap.size+1+1) (by omega) (by omega)).trans Z6.out
       have ED:=ai b7
       have bz:Sq w.heap.size w w5:=Dd.out.trans (iA.below (by omega) fun k hk e=>by omega)
       have hDl:D2.lies w5:=Doc.frame HL2.out.1 hs7 fun b hb=>iA.block b (Doc.uses_lt HL2.out.1 hb) (by have:=HL2.out.2 b hb;omega)
       have bM:=HL2.out.2
       have bo:=lQ.out
       obtain⟨pe,hpe⟩:∃ p:Int,p=0:=⟨_,rfl⟩
       obtain⟨pc,hpc⟩:∃ p:DocC,p={ d.c with hd:={ d.c.hd with lA:=x.name } }:=⟨_,rfl⟩
       rw [←hpc] at bo
       rw [←hpc,←hpe] at dz
       clear ct6 f6 cop6 cv6 R6 Z6 Dd fZ lQ HL2 iA b7 hpc cop
       have r9:=Si w5 (w.heap.size+1+1) _ D2.enc.toArray 27 (0,0) z5
       have HF:=h_ (bF.out (pe,pc) dz.out D2 (w5.setRow (w.heap.size+1+1) D2.enc.toArray) ⟨bo,Doc.frame hDl (by rw [size_setRow];exact Sr _) (fun b hb=>aM _ _ _ _ (by have:=bM b hb;omega)),fun b hb=>by have:=bM b hb;omega,Sm bz (by omega) _⟩)
       clear bo hDl bM bz bF dz
       go_wp2_with (first|(refine aj 27 (.tmp 2) rfl w.heap.size 0 rfl D2.enc _ ED Tryz.underlying27 rfl ag (by rfl) ?_)|(refine Sh rfl 27 (.tmp 4) (.tmp 139) rfl (w.heap.size+1+1) (D2.enc.toArray) rfl rfl 27 _ z5 ag rfl aO ?_))
       generalize w5.setRow (w.heap.size+1+1) D2.enc.toArray=w9 at *
       clear z5
       subst hpe
       exact aL Tryz.results11 rfl rfl r9 rfl HF.out
     · have bq:=h_ (il (n:=17) cj.out hop)
       have cop:=ir X2.out hop
       have c1:W2.cell? ⟨w.heap.size+1,1,none⟩=some (.int .i64 x.id):=Sj _ _ 1 _ 40 (0,0) X2.out
       have c7:W2.cell? ⟨w.heap.size+1,7,none⟩=some (.int .i64 x.frm):=Sj _ _ 7 _ 40 (0,0) X2.out
       have c8:W2.cell? ⟨w.heap.size+1,8,none⟩=some (.int .i64 x.til):=Sj _ _ 8 _ 40 (0,0) X2.out
       have c13:W2.cell? ⟨w.heap.size+1,13,none⟩=some (.string x.name):=Sj _ _ 13 _ 40 (0,0) X2.out
       have c14:W2.cell? ⟨w.heap.size+1,14,none⟩=some (.string x.text):=Sj _ _ 14 _ 40 (0,0) X2.out
       have HC:=h_ ((u9 d x.id x.frm x.til x.name x.text W2 aZ.out.1 aZ.out.2.1 aZ.out.2.2.1 cH.2.2.2.2.1 cH.2.2.2.2.2.1).mono fun e w' h=>(show ∃ (D:Doc) (u:Int),e=.returned (.tuple #[.agg D.enc.toArray,.int .i64 u,.int .i64 (bO d.c x.id x.frm x.til x.name x.text)])∧D.c=(fT d.c x.id x.frm x.til x.name x.text).2∧D.lies w'∧(∀ b,D.uses b→W2.heap.size≤b)∧Sq W2.heap.size W2 w' from by
        obtain⟨D,h1,h2⟩:=h
        exact⟨D,_,h1,h2⟩))
       have dz:=h_ (show bU d.c x.c=fT d.c x.id x.frm x.til x.name x.text from bq.out)
       have Ja:=h_ (show(fT d.c x.id x.frm x.til x.name x.text).1=bO d.c x.id x.frm x.til x.name x.text from xY _ _ _ _ _ _)
       clear cj bq bh aZ cH ig hop
       generalize fT d.c x.id x.frm x.til x.name x.text=R at *
       generalize bO d.c x.id x.frm x.til x.name x.text=EQ at *
       obtain⟨pe,pc⟩:=R
       have hpe:pe=EQ:=Ja.out
       subst hpe
       go_wp2_with (refine aj 27 (.tmp 2) rfl w.heap.size 0 rfl d.enc _ hr2 Tryz.underlying27 rfl ag (by rfl) ?_)
       refine HC.out.mono ?_
       rintro e w4 ⟨D,u,rfl,bo,hDl,bM,hb5⟩
       try simp only at bo
       have hs4:=hb5.size
       have z4:=(hb5.block (w.heap.size+1+1) (by omega)).trans Z2.out
       have bP:=HB2.out.trans (hb5.mono (by omega))
       clear HC hb5 hr2 hx2 cop Ja
       have hDlt:∀ b,D.uses b→b<w4.heap.size:=fun b hb=>Doc.uses_lt hDl hb
       have hal:Sq w4.heap.size w4 (w4.alloc (.cells D.enc.toArray 27)):=(St _ _).alloc (Sr _) _
       have hv5:=Sl w4 (.cells D.enc.toArray 27)
       obtain⟨D0,hD0⟩:∃ D0:Doc,D0=D:=⟨_,rfl⟩
       rw [←hD0] at bo hDl bM hal hv5
       obtain⟨dt,dl,dr,dd,dla,dra,drc,dregs,dea,dec,devs,dca,dcc,dcms⟩:=D
       have E2:D0.enc.toArray=#[.string dt,.string dl,.int .u8 dr,.bool dd,.int .i64 dla,.slice dra dregs.length drc,.slice dea devs.length dec,.slice dca dcms.length dcc]:=by rw [hD0];rfl
       rw [E2] at hal hv5
       simp only [Doc.enc]
       go_upto_region 41 with fail
       generalize w4.alloc (.cells #[Su dt,.string dl,.int .u8 dr,.bool dd,.int .i64 dla,.slice dra dregs.length drc,.slice dea devs.length dec,.slice dca dcms.length dcc] 27)=w5 at *
       have hs5:=hal.size
       have z5:=(hal.block (w.heap.size+1+1) (by omega)).trans z4
       have bz:=bP.trans (hal.mono (by omega))
       replace hDl:=Doc.later hDl hal
       have ED:=ai (l:=[.string dt,.string dl,.int .u8 dr,.bool dd,.int .i64 dla,.slice dra dregs.length drc,.slice dea devs.length dec,.slice dca dcms.length dcc]) hv5
       clear z4 bP hDlt hal hv5
       obtain⟨D,hD⟩:∃ D:Doc,D=D0:=⟨_,rfl⟩
       rw [←hD] at bo hDl bM
       have uJ:#[.string dt,.string dl,.int .u8 dr,.bool dd,.int .i64 dla,.slice dra dregs.length drc,.slice dea devs.length dec,.slice dca dcms.length dcc]=D.enc.toArray:=by rw [hD,E2]
       clear E2
       have r9:=Si w5 (w.heap.size+1+1) _ D.enc.toArray 27 (0,0) z5
       rw [←uJ] at r9
       have HF:=h_ (bF.out (pe,pc) dz.out D _ (apF bo hDl (fun b hb=>by have:=bM b hb;omega) bz))
       rw [←uJ] at HF
       clear bo hDl bM bz bF dz hD hD0 uJ
       go_wp2_with (first|(refine aj 27 (.tmp 12) rfl (w4.heap.size) 0 rfl _ _ ED Tryz.underlying27 rfl ag (by rfl) ?_)|(refine Sh rfl 27 (.tmp 4) (.tmp 158) rfl (w.heap.size+1+1) _ rfl rfl 27 _ z5 ag rfl aO ?_))
       generalize w5.setRow (w.heap.size+1+1) _=w9 at *
       clear z5
       exact aL Tryz.results11 rfl rfl r9 rfl HF.out
     · have bq:=h_ (il (n:=18) cj.out hop)
       have cop:=ir X2.out hop
       have c1:W2.cell? ⟨w.heap.size+1,1,none⟩=some (.int .i64 x.id):=Sj _ _ 1 _ 40 (0,0) X2.out
       have HC:=h_ (qA d x.id W2 aZ.out.1 aZ.out.2.1 aZ.out.2.2.1)
       have dz:=h_ (show bU d.c x.c=b_ d.c x.id from bq.out)
       clear cj bq bh aZ cH ig hop
       generalize b_ d.c x.id=R at *
       obtain⟨pe,pc⟩:=R
       go_wp2_with (first|(refine aj 27 (.tmp 2) rfl w.heap.size 0 rfl d.enc _ hr2 Tryz.underlying27 rfl ag (by rfl) ?_))
       refine HC.out.mono ?_
       rintro e w5 ⟨D,rfl,bo,hDl,bM,hb5⟩
       simp only at bo
       have hs5:=hb5.size
       have z5:=(hb5.block (w.heap.size+1+1) (by omega)).trans Z2.out
       have bz:=HB2.out.trans (hb5.mono (by omega))
       clear HC hb5 hr2 hx2 cop
       have r9:=Si w5 (w.heap.size+1+1) _ D.enc.toArray 27 (0,0) z5
       have HF:=h_ (bF.out (pe,pc) dz.out D _ (apF bo hDl (fun b hb=>by have:=bM b hb;omega) bz))
       clear bo hDl bM bz bF dz
       go_wp2_with ((refine Sh rfl 27 (.tmp 4) (.tmp 166) rfl (w.heap.size+1+1) (D.enc.toArray) rfl rfl 27 _ z5 ag rfl aO ?_))
       generalize w5.setRow (w.heap.size+1+1) D.enc.toArray=w9 at *
       clear z5
       exact aL Tryz.results11 rfl rfl r9 rfl HF.out
     · have bq:=h_ (il (n:=19) cj.out hop)
       have cop:=ir X2.out hop
       have c1:W2.cell? ⟨w.heap.size+1,1,none⟩=some (.int .i64 x.id):=Sj _ _ 1 _ 40 (0,0) X2.out
       have HC:=h_ (ou d x.id W2 aZ.out.1 aZ.out.2.1 aZ.out.2.2.1)
       have dz:=h_ (show bU d.c x.c=bY d.c x.id from bq.out)
       clear cj bq bh aZ cH ig hop
       generalize bY d.c x.id=R at *
       obtain⟨pe,pc⟩:=R
       go_wp2_with (first|(refine aj 27 (.tmp 2) rfl w.heap.size 0 rfl d.enc _ hr2 Tryz.underlying27 rfl ag (by rfl) ?_))
       refine HC.out.mono ?_
       rintro e w5 ⟨D,rfl,bo,hDl,bM,hb5⟩
       simp only at bo
       have hs5:=hb5.size
       have z5:=(hb5.block (w.heap.size+1+1) (by omega)).trans Z2.out
       have bz:=HB2.out.trans (hb5.mono (by omega))
       clear HC hb5 hr2 hx2 cop
       have r9:=Si w5 (w.heap.size+1+1) _ D.enc.toArray 27 (0,0) z5
       have HF:=h_ (bF.out (pe,pc) dz.out D _ (apF bo hDl (fun b hb=>by have:=bM b hb;omega) bz))
       clear bo hDl bM bz bF dz
       go_wp2_with ((refine Sh rfl 27 (.tmp 4) (.tmp 174) rfl (w.heap.size+1+1) (D.enc.toArray) rfl rfl 27 _ z5 ag rfl aO ?_))
       generalize w5.setRow (w.heap.size+1+1) D.enc.toArray=w9 at *
       clear z5
       exact aL Tryz.results11 rfl rfl r9 rfl HF.out
   · have hne:(gM x.c != 0)=true:=by simpa using he0
     have pt:=h_ (Bz.out.trans ((if_neg (fun h=>h hc0)).trans (if_pos he0)))
     generalize gM x.c=EE at *
     have HE:=h_ (bh.out (EE) pt.out (W2.setRow (w.heap.size+1+1) zeD) (Sm hbw2 (by omega) _))
     have z9:=Si W2 (w.heap.size+1+1) _ zeD 27 (0,0) z2
     clear bh bF Bz pt C8 cH r2 x2 vo
     go_wp2_with (refine Sh rfl 27 (.tmp 4) (.tmp 25) rfl (w.heap.size+1+1) zeD rfl rfl 27 _ z2 ag rfl aO ?_)
     generalize W2.setRow (w.heap.size+1+1) zeD=w9 at *
     exact aL Tryz.results11 rfl rfl z9 rfl HE.out
 · have hne:(cErr d.c != 0)=true:=by simpa using hc0
   have pt:=h_ (Bz.out.trans (if_pos hc0))
   generalize cErr d.c=CE at *
   have HE:=h_ (bh.out (CE) pt.out (w1.setRow (w.heap.size+1+1) zeD) (Sm aK (by omega) _))
   have z9:=Si w1 (w.heap.size+1+1) _ zeD 27 (0,0) z1
   clear bh bF Bz pt C8 cH r1 x1 LU vo
   go_wp2_with (refine Sh rfl 27 (.tmp 4) (.tmp 19) rfl (w.heap.size+1+1) zeD rfl rfl 27 _ z1 ag rfl aO ?_)
   generalize w1.setRow (w.heap.size+1+1) zeD=w9 at *
   exact aL Tryz.results11 rfl rfl z9 rfl HE.out
theorem kO (b:Nat)(h:Hs)(x:Ed)(w:Sk)(hE:Env w)(H:HsAt b h w)(hxl:x.lies w)(xy:x.fits)(yG:h.undo.length≤16):Calls Tryz.prog 12 #[.pointer (some ⟨b,0,none⟩),.agg x.enc.toArray] w fun e w'=>e=.returned (.int .i64 (doH h.c x.c).1)∧fp (doH h.c x.c).2 b h w w':=by
 have hdo:=H.docs h.doc (by simp [Hs.docs])
 have HB:=h_ (iy w (.cells x.enc.toArray 40))
 have HH:=h_ H
 have Js:=h_ (fun(w1:Sk) (hb:Sq w.heap.size w w1)=>nA h.doc x w1 (hE.below hb (Sr _)) (Doc.later hdo.1 hb) hdo.2.1 (Ed.later hxl hb) xy)
 have pr:=h_ (fun(D:Doc) (h0:(bU h.doc.c x.c).1=0) (hD:D.c=(bU h.doc.c x.c).2)=>sH hdo.2.1 xy h0 hD)
 have C2:=h_ (fun(w':Sk) (h0:¬ (bU h.doc.c x.c).1=0) (hb:Sq w.heap.size w w')=>(show(fun(e:Sn) (w':Sk)=>e=.returned (.int .i64 (doH h.c x.c).1)∧fp (doH h.c x.c).2 b h w w') (.returned (.int .i64 (bU h.doc.c x.c).1)) w' from by
  have e:doH h.c x.c=((bU h.doc.c x.c).1,h.c):=if_neg h0
  rw [e];exact⟨rfl,fp.same H hb⟩))
 have C1:=h_ (fun(h0:(bU h.doc.c x.c).1=0) (w':Sk) (h':Hs) (s:bD (iI w) b h w h' w') (hc:h'.c=putH h.c (bU h.doc.c x.c).2)=>(show(fun(e:Sn) (w':Sk)=>e=.returned (.int .i64 (doH h.c x.c).1)∧fp (doH h.c x.c).2 b h w w') (.returned (.int .i64 0)) w' from by
  have e:doH h.c x.c=(0,putH h.c (bU h.doc.c x.c).2):=if_pos h0
  rw [e];exact⟨rfl,s.post hc⟩))
 generalize (fun(e:Sn) (w':Sk)=>e=.returned (.int .i64 (doH h.c x.c).1)∧fp (doH h.c x.c).2 b h w w')=Q at *
 clear H hdo hE hxl xy
 go_enter Tryz.func12,Tryz.ntmps12
 go_upto_region 3 with fail
 have z0:=HB.out.1
 have hb0:=HB.out.2.1
 have hs0:=HB.out.2.2
 clear HB
 obtain⟨w1,hw1⟩:∃ v,v=w.alloc (.cells x.enc.toArray 40):=⟨_,rfl⟩
 rw [←hw1] at z0 hb0 hs0 ⊢
 clear hw1
 have jo:=h_ (fun(w':Sk) (hb:Sq w1.heap.size w1 w')=>(show w'.rangeAt b 0 h.doc.enc∧w'.rangeAt w.heap.size 0 x.enc from⟨(aT ((hb.block b (by have:=dW HH.out.at_;omega)).trans ((hb0.block b (dW HH.out.at_)).trans HH.out.at_))).1,ai ((hb.block w.heap.size (by omega)).trans z0)⟩))
 have lZ:=h_ (fun(w':Sk) (hb:Sq w1.heap.size w1 w')=>Js.out w' (hb0.trans (hb.mono (by omega))))
 have HB0:=h_ hb0
 clear Js z0 hb0
 generalize hR:bU h.doc.c x.c=R at *
 obtain⟨EE,DC⟩:=R
 clear hR
 simp only at pr C2 C1
 go_cut [5,6] from 9 to 17 (fun p q wx=>∃ (g:Nat) (D:Doc),p=.pointer (some ⟨g,0,none⟩)∧q=.int .i64 EE∧D.c=DC∧D.lies wx∧(∀ k,D.uses k→w1.heap.size≤k)∧wx.heap[g]? =some (.cells D.enc.toArray 27 (0,0))∧w1.heap.size≤g∧Sq w1.heap.size w1 wx)
 case first =>
  have hd0:Sq w1.heap.size w1 w1.drew:=(St _ _).drew
  have lZ:=h_ (fun(w':Sk) (hb:Sq w1.heap.size w1 w')=>(lZ.out w' hb).mono fun e w2 hp=>(show ∃ D:Doc,e=.returned (.tuple #[.agg D.enc.toArray,.int .i64 EE])∧D.c=DC∧D.lies w2∧(∀ k,D.uses k→w'.heap.size≤k)∧Sq w'.heap.size w' w2 from hp))
  clear HH pr C2 C1 HB0
  go_upto_region 3 with fail
  refine wp_region_held_drew (S:=fun w'=>Sq w1.heap.size w1 w') (by kernel_rfl) hd0 (fun _=>?_)
  generalize w1.drew=v0 at *
  have hsd:=hd0.size
  refine ab 0 (.pointer (some ⟨b,0,none⟩)) hd0 ?_
  refine ab 1 (.pointer (some ⟨b,0,none⟩)) hd0 ?_
  refine ab 2 (.pointer (some ⟨b,0,none⟩)) hd0 ?_
  refine ab 3 (.agg h.doc.enc.toArray) hd0 ?_ (hy:=Sp (by rfl) 27 (.tmp 12) rfl b 0 rfl h.doc.enc _ (fun w_ h_=>(jo.out w_ h_).1) Tryz.underlying27 rfl ag)
  refine ab 4 (.agg x.enc.toArray) hd0 ?_ (hy:=Sp (by rfl) 40 (.tmp 3) rfl w.heap.size 0 rfl x.enc _ (fun w_ h_=>(jo.out w_ h_).2) Tryz.underlying40 rfl cS)
  refine dH 5 9 (fun K hK=>?_) (fun K hK=>?_)
  focus
   go_simp
   refine(lZ.out _ hd0).mono ?_
   rintro e_ v1 ⟨D,rfl,bo,hDl,bM,ar⟩
   have hv1:Sq w1.heap.size w1 v1:=ak hd0 ar
   have hs1:=ar.size
   have mT:=(hd0).size
   replace bM:∀ k,D.uses k→w1.heap.size≤k:=fun k h=>Ss mT (bM k h)
   have MF:∀ k,D.uses k→k<v1.heap.size:=fun k h=>Doc.uses_lt hDl h
   clear ar mT
   go_wp2_with fail
   refine goOn hK hv1 ?_
   clear hK
   refine ab 6 (.tuple #[.agg D.enc.toArray,.int .i64 EE]) hv1 ?_
   refine ab 7 (.agg D.enc.toArray) hv1 ?_
   refine ab 8 (.int .i64 EE) hv1 ?_
   refine aq 9 (fun K hK=>?_)
   go_simp
   have zg:=Sl v1 (.cells zeD 27)
   have ar:Sq v1.heap.size v1 (v1.alloc (.cells zeD 27)):=(St _ _).alloc (Sr _) _
   have lg:v1.heap.size<(v1.alloc (.cells zeD 27)).heap.size:=by simp
   generalize v1.alloc (.cells zeD 27)=v2 at *
   obtain⟨g,hg⟩:∃ g,g=v1.heap.size:=⟨_,rfl⟩
   rw [←hg] at zg lg ⊢
   have qg:v1.heap.size≤g∧g≤v1.heap.size:=by omega
   clear hg
   have hv2:Sq w1.heap.size w1 v2:=ak hv1 ar
   have hs2:=ar.size
   have Hv:∀ k,D.uses k→k≠g:=fun k h=>by have:=MF k h;omega
   replace hDl:=Doc.later hDl ar
   clear ar
   refine goOn hK hv2 ?_
   clear hK
  rotate_left
  focus
   go_simp
   have zg:=Sl v0 (.cells zeD 27)
   have ar:Sq v0.heap.size v0 (v0.alloc (.cells zeD 27)):=(St _ _).alloc (Sr _) _
   have lg:v0.heap.size<(v0.alloc (.cells zeD 27)).heap.size:=by simp
   generalize v0.alloc (.cells zeD 27)=v1 at *
   obtain⟨g,hg⟩:∃ g,g=v0.heap.size:=⟨_,rfl⟩
   rw [←hg] at zg lg ⊢
   have qg:v0.heap.size≤g∧g≤v0.heap.size:=by omega
   clear hg
   have hv1:Sq w1.heap.size w1 v1:=ak hd0 ar
   have hs1:=ar.size
   clear ar
   refine goOn hK hv1 ?_
   clear hK
   refine aq 5 (fun K hK=>?_)
   go_simp
   refine(lZ.out _ hv1).mono ?_
   rintro e_ v2 ⟨D,rfl,bo,hDl,bM,ar⟩
   have Ht:=bM
   have hv2:Sq w1.heap.size w1 v2:=ak hv1 ar
   have hs2:=ar.size
   have mT:=(hv1).size
   replace bM:∀ k,D.uses k→w1.heap.size≤k:=fun k h=>Ss mT (bM k h)
   have MF:∀ k,D.uses k→k<v2.heap.size:=fun k h=>Doc.uses_lt hDl h
   have Hv:∀ k,D.uses k→k≠g:=fun k h=>by have:=Ht k h;omega
   replace zg:=(ar.block g (by omega)).trans zg
   clear ar mT
   go_wp2_with fail
   refine goOn hK hv2 ?_
   clear hK
   refine ab 6 (.tuple #[.agg D.enc.toArray,.int .i64 EE]) hv2 ?_
   refine ab 7 (.agg D.enc.toArray) hv2 ?_
   refine ab 8 (.int .i64 EE) hv2 ?_
  all_goals
   refine aq 10 (fun K hK=>?_)
   rw [if_pos (by rfl)]
   refine wp_store_row 27 (.tmp 5) (.tmp 16) rfl g D.enc.toArray rfl rfl 27 _ zg ag rfl aO ?_
   have hst:Sq w1.heap.size w1 (v2.setRow g D.enc.toArray):=Sm hv2 (by have:=hd0.size;omega) _
   refine goOn hK hst ?_
   clear hK
   refine ab 11 (.int .i64 EE) hst ?_
   refine wpAnyH_done (by kernel_rfl) ?_ _
   have Hh:=hd0.size
   go_wp2_with fail
   go_meet
   exact⟨g,D,rfl,rfl,bo,Doc.frame hDl (by rw [size_setRow];exact Sr _) (fun k h=>aM _ _ _ _ (Hv k h)),bM,Si v2 g _ D.enc.toArray 27 (0,0) zg,by omega,hst⟩
 case rest =>
  obtain⟨g,D,rfl,rfl,bo,hDl,bM,Hv,hgw,hbc⟩:=hcut
  obtain⟨w2,hw2⟩:∃ v,v=wc:=⟨_,rfl⟩
  subst hw2
  have hsc:=hbc.size
  have hbw:=HB0.out.trans (hbc.mono (by omega))
  clear lZ jo HB0 hbc
  by_cases h0:EE=0
  · subst h0
    have AA:=pr.out D (by first|rfl|trivial) bo
    have hrg:=ai Hv
    have HQ:=h_ (fun(w':Sk) (h':Hs) (s:bD (iI w) b h w h' w') (hc:h'.c=putH h.c D.c)=>C1.out (by first|rfl|trivial) w' h' s (by rw [hc,bo]))
    clear pr C2 C1 bo
    have dq:=h_ (br D w2 hDl AA)
    have ew:=h_ (fun(D2:Doc) (e:D2.c=D.c)=>bp e AA)
    have yy:=h_ (bD.of_below (N:=iI w) HH.out hbw)
    go_wp2_with (refine aj 27 (.tmp 5) rfl g 0 rfl D.enc _ hrg Tryz.underlying27 rfl ag (by rfl) ?_)
    refine dq.out.mono ?_
    rintro e w3 ⟨D2,rfl,hc2,hl2,hu2,hb3,_,_,_⟩
    have hs3:=hb3.size
    have hf2:=ew.out D2 hc2
    have H3:=yy.out.trans (bD.of_below yy.out.1 hb3)
    have hoff:eC (h.own b) w3 D2:=⟨hl2,hf2,fun k hu ho=>by have:=hu2 k hu;have:=yy.out.1.lt ho;omega⟩
    have tz:=h_ (mU b h D2 w3 H3.1 hoff yG)
    rw [hc2] at tz
    have IG:=h_ (show ∀ d,d=D2→iI w d from fun d e k hu=>by
     subst e
     have:=hu2 k hu
     have:=hbw.size
     omega)
    have Jx:=h_ H3
    clear dq ew yy hc2 hl2 hu2 hb3 hf2 H3 hoff
    go_wp2_with fail
    refine tz.out.mono ?_
    rintro e w4 ⟨rfl,h4,H4,hc4,vP,hk4⟩
    have HF:=h_ (HQ.out w4 h4 (Jx.out.trans ⟨H4,vP.mono IG.out,hk4⟩) hc4)
    clear tz Jx IG H4 hc4 vP hk4 HQ
    go_wp2_with fail
    exact HF.out
  · have hne:(EE==0)=false:=by simpa using h0
    have HF:=h_ (C2.out w2 h0 hbw)
    clear pr C2 C1 bo hDl bM Hv h0
    go_wp2_with fail
    exact HF.out
theorem mW (s:ByteArray)(w:Sk):Calls Tryz.prog 24 #[.string s] w fun e w'=>∃ g1 g2:Nat,e=.returned (.agg (hsEd s g1 g2).enc.toArray)∧(hsEd s g1 g2).lies w'∧Sq w.heap.size w w':=by
 have HB:=h_ (iy w (.cells #[Sw .u8 0,.int .i64 0,.int .i64 0,.int .i64 0,.int .i64 0,.int .i64 0,.int .i64 0,.int .i64 0,.int .i64 0,.int .u8 0,.int .u8 0,.bool false,.bool false,.string ⟨#[]⟩,.string ⟨#[]⟩,.string ⟨#[]⟩,.int .i64 0,.int .i64 0,.int .i64 0,.int .i64 0,.int .u8 0,.bool false,.slice none 0 0] 40))
 have HQ:=h_ (fun(g1 g2:Nat) (w':Sk) h1 h2=>(show(fun(e:Sn) (w':Sk)=>∃ g1 g2:Nat,e=.returned (.agg (hsEd s g1 g2).enc.toArray)∧(hsEd s g1 g2).lies w'∧Sq w.heap.size w w') (.returned (.agg (hsEd s g1 g2).enc.toArray)) w' from⟨g1,g2,rfl,h1,h2⟩))
 generalize (fun(e:Sn) (w':Sk)=>∃ g1 g2:Nat,e=.returned (.agg (hsEd s g1 g2).enc.toArray)∧(hsEd s g1 g2).lies w'∧Sq w.heap.size w w')=Q at *
 go_enter Tryz.func24,Tryz.ntmps24
 go_upto_region 1 with fail
 have z0:=HB.out.1
 have hb0:=HB.out.2.1
 have hs0:=HB.out.2.2
 clear HB
 generalize w.alloc (.cells #[Sw .u8 0,.int .i64 0,.int .i64 0,.int .i64 0,.int .i64 0,.int .i64 0,.int .i64 0,.int .i64 0,.int .i64 0,.int .u8 0,.int .u8 0,.bool false,.bool false,.string ⟨#[]⟩,.string ⟨#[]⟩,.string ⟨#[]⟩,.int .i64 0,.int .i64 0,.int .i64 0,.int .i64 0,.int .u8 0,.bool false,.slice none 0 0] 40)=W0 at *
 have ha1:Sq W0.heap.size W0 (W0.alloc (.cells #[Su s,.int .u8 0,.bool false,.bool false,.string ⟨#[]⟩] 77)):=(St _ _).alloc (Sr _) _
 have g1:=Sl W0 (.cells #[Su s,.int .u8 0,.bool false,.bool false,.string ⟨#[]⟩] 77)
 have hsz1:(W0.alloc (.cells #[Su s,.int .u8 0,.bool false,.bool false,.string ⟨#[]⟩] 77)).heap.size=W0.heap.size+1:=by simp
 have g2:=Sl (W0.alloc (.cells #[Su s,.int .u8 0,.bool false,.bool false,.string ⟨#[]⟩] 77)) (.cells #[Sv (some ⟨W0.heap.size,0,none⟩) 1 1] 75)
 have ha2:Sq (W0.heap.size+1) (W0.alloc (.cells #[Su s,.int .u8 0,.bool false,.bool false,.string ⟨#[]⟩] 77)) ((W0.alloc (.cells #[Su s,.int .u8 0,.bool false,.bool false,.string ⟨#[]⟩] 77)).alloc (.cells #[Sv (some ⟨W0.heap.size,0,none⟩) 1 1] 75)):=by rw [←hsz1];exact(St _ _).alloc (Sr _) _
 have hsz2:((W0.alloc (.cells #[Su s,.int .u8 0,.bool false,.bool false,.string ⟨#[]⟩] 77)).alloc (.cells #[Sv (some ⟨W0.heap.size,0,none⟩) 1 1] 75)).heap.size=W0.heap.size+2:=by simp
 rw [hsz1] at g2
 have z2:=(ha2.block w.heap.size (by omega)).trans ((ha1.block w.heap.size (by omega)).trans z0)
 have g1':=(ha2.block W0.heap.size (by omega)).trans g1
 have hk:=bj ((W0.alloc (.cells #[Su s,.int .u8 0,.bool false,.bool false,.string ⟨#[]⟩] 77)).alloc (.cells #[Sv (some ⟨W0.heap.size,0,none⟩) 1 1] 75)) w.heap.size (hsEd s W0.heap.size (W0.heap.size+1)).enc.toArray
 have r9:=Si ((W0.alloc (.cells #[Su s,.int .u8 0,.bool false,.bool false,.string ⟨#[]⟩] 77)).alloc (.cells #[Sv (some ⟨W0.heap.size,0,none⟩) 1 1] 75)) w.heap.size _ (hsEd s W0.heap.size (W0.heap.size+1)).enc.toArray 40 (0,0) z2
 have e1:=(hk.block W0.heap.size (by omega) (by omega)).trans g1'
 have e2:=(hk.block (W0.heap.size+1) (by omega) (by omega)).trans g2
 have hrun:=rE (K:=5) (enc:=Run.enc) (Ok:=Flat) (x:=(⟨s,0,false,false,hsNo⟩:Run)) e1 trivial
 have hlies:=rE (K:=1) (enc:=Row.enc) (Ok:=Row.lies) (x:=(⟨some ⟨W0.heap.size,0,none⟩,1,[⟨s,0,false,false,hsNo⟩]⟩:Row)) e2 hrun
 have hbw:Sq w.heap.size w (((W0.alloc (.cells #[Su s,.int .u8 0,.bool false,.bool false,.string ⟨#[]⟩] 77)).alloc (.cells #[Sv (some ⟨W0.heap.size,0,none⟩) 1 1] 75)).setRow w.heap.size (hsEd s W0.heap.size (W0.heap.size+1)).enc.toArray):=Sm ((hb0.trans (ha1.mono (by omega))).trans (ha2.mono (by omega))) (Sr _) _
 have Mv:(hsEd s W0.heap.size (W0.heap.size+1)).enc.toArray=#[Sw .u8 1,.int .i64 0,.int .i64 0,.int .i64 0,.int .i64 9,.int .i64 0,.int .i64 0,.int .i64 0,.int .i64 0,.int .u8 1,.int .u8 0,.bool false,.bool false,.string ⟨#[]⟩,.string ⟨#[]⟩,.string ⟨#[]⟩,.int .i64 0,.int .i64 0,.int .i64 0,.int .i64 0,.int .u8 0,.bool false,.slice (some ⟨W0.heap.size+1,0,none⟩) 1 1]:=by simp [hsEd,Ed.enc,hsNo]
 have HF:=h_ (HQ.out W0.heap.size (W0.heap.size+1) _ hlies hbw)
 rw [Mv] at r9 HF
 have hone:((#[Sw .u8 1,.int .i64 0,.int .i64 0,.int .i64 0,.int .i64 9,.int .i64 0,.int .i64 0,.int .i64 0,.int .i64 0,.int .u8 1,.int .u8 0,.bool false,.bool false,.string ⟨#[]⟩,.string ⟨#[]⟩,.string ⟨#[]⟩,.int .i64 0,.int .i64 0,.int .i64 0,.int .i64 0,.int .u8 0,.bool false,.slice (some ⟨W0.heap.size+1,0,none⟩) 1 1]:Array Value).all (·.oneCell'))=true:=by simp [Value.oneCell']
 clear HQ hlies hrun e1 e2 hk g1' g1 g2 hbw z0 hb0 ha1 ha2 Mv
 go_wp2_with (refine Sh rfl 40 (.tmp 2) (.tmp 9) rfl w.heap.size (#[Sw .u8 1,.int .i64 0,.int .i64 0,.int .i64 0,.int .i64 9,.int .i64 0,.int .i64 0,.int .i64 0,.int .i64 0,.int .u8 1,.int .u8 0,.bool false,.bool false,.string ⟨#[]⟩,.string ⟨#[]⟩,.string ⟨#[]⟩,.int .i64 0,.int .i64 0,.int .i64 0,.int .i64 0,.int .u8 0,.bool false,.slice (some ⟨W0.heap.size+1,0,none⟩) 1 1]) rfl rfl 40 _ z2 cS rfl hone ?_)
 generalize ((W0.alloc (.cells #[Su s,.int .u8 0,.bool false,.bool false,.string ⟨#[]⟩] 77)).alloc (.cells #[Sv (some ⟨W0.heap.size,0,none⟩) 1 1] 75)).setRow w.heap.size (#[Sw .u8 1,.int .i64 0,.int .i64 0,.int .i64 0,.int .i64 9,.int .i64 0,.int .i64 0,.int .i64 0,.int .i64 0,.int .u8 1,.int .u8 0,.bool false,.bool false,.string ⟨#[]⟩,.string ⟨#[]⟩,.string ⟨#[]⟩,.int .i64 0,.int .i64 0,.int .i64 0,.int .i64 0,.int .u8 0,.bool false,.slice (some ⟨W0.heap.size+1,0,none⟩) 1 1])=w9 at *
 refine bodyPost_ret (results_cell_row Tryz.results24 _ _ w.heap.size 40 _ (0,0) _ rfl r9 Tryz.underlying40 rfl (by kernel_rfl)) rfl ?_
 exact HF.out
theorem qi (w:Sk)(hE:Env w):Calls Tryz.prog 7 #[] w fun e w'=>e=.returned (.bool true)∧Sq w.heap.size w w':=by
 have HE:=h_ hE
 have HQ:=h_ (fun(w':Sk) (h:Sq w.heap.size w w')=>(show(fun(e:Sn) (w':Sk)=>e=.returned (.bool true)∧Sq w.heap.size w w') (.returned (.bool true)) w' from⟨rfl,h⟩))
 have FZ:=h_ (mV hsD0 w hE (Ah w) Ai)
 generalize (fun(e:Sn) (w':Sk)=>e=.returned (.bool true)∧Sq w.heap.size w w')=Q at *
 clear hE
 go_enter Tryz.func7,Tryz.ntmps7
 go_wp2_with fail
 refine FZ.out.mono ?_
 rintro e w1 ⟨hb1,⟨hx,_⟩|⟨_,b,h,rfl,H,xG,hown,_⟩⟩
 · exact absurd GH hx
 have hsz1:=hb1.size
 have I1:=h_ (show HsIn w.heap.size w b h w1 from⟨H,hown,hb1⟩)
 clear FZ hb1 H hown
 go_wp2_with fail
 refine(mW ⟨#[65]⟩ w1).mono ?_
 rintro e w2 ⟨g1,g2,rfl,hxl,hb2⟩
 have hsz2:=hb2.size
 have I2:=I1.out.later hb2 (by omega)
 have vn:=kO b h (hsEd ⟨#[65]⟩ g1 g2) w2 (HE.out.below I2.2.2 (Sr _)) I2.1 hxl (sr _ _ _ (by show 1≤1000000;omega)) (by rw [(eM xG).1];show _≤16;decide)
 have hdo:doH h.c (hsEd ⟨#[65]⟩ g1 g2).c=(0,⟨hsC1,hsC0,[hsC0],[]⟩):=by rw [xG];exact Kx
 rw [hdo] at vn
 have nK:=h_ vn
 have J2:=h_ I2
 clear hxl hb2 I2 vn hdo I1 xG
 go_wp2_with fail
 refine nK.out.mono ?_
 rintro e w3 ⟨rfl,hp⟩
 have Ny:w2.heap.size≤w3.heap.size:=by obtain⟨_,_,_,_,hk⟩:=hp;exact hk.size
 obtain⟨hn,I,Aq⟩:=J2.out.post hp (by omega)
 have I3:=h_ I
 clear nK hp I J2
 go_wp2_with fail
 refine(mW ⟨#[66]⟩ w3).mono ?_
 rintro e w4 ⟨g1,g2,rfl,hxl,hb4⟩
 have Nv:=hb4.size
 have I4:=I3.out.later hb4 (by omega)
 have vn:=kO b hn (hsEd ⟨#[66]⟩ g1 g2) w4 (HE.out.below I4.2.2 (Sr _)) I4.1 hxl (sr _ _ _ (by show 1≤1000000;omega)) (by rw [(eM Aq).1];show _≤16;decide)
 have hdo:doH hn.c (hsEd ⟨#[66]⟩ g1 g2).c=(0,⟨hsC2,hsC0,[hsC0,hsC1],[]⟩):=by rw [Aq];exact Kw
 rw [hdo] at vn
 have nK:=h_ vn
 have J4:=h_ I4
 clear hxl hb4 I4 vn hdo I3 Aq
 go_wp2_with fail
 refine nK.out.mono ?_
 rintro e w5 ⟨rfl,hp⟩
 have Nx:w4.heap.size≤w5.heap.size:=by obtain⟨_,_,_,_,hk⟩:=hp;exact hk.size
 obtain⟨hnn,I,qm⟩:=J4.out.post hp (by omega)
 have I5:=h_ I
 clear nK hp I J4
 go_wp2_with fail
 have Fp:=lz b hnn w5 I5.out.1 (by rw [(eM qm).1];show _≤16;decide) (by rw [(eM qm).2];show _≤16;decide)
 have hun:fq hnn.c=(0,⟨hsC1,hsC0,[hsC0],[hsC2]⟩):=by rw [qm];exact Kv
 rw [hun] at Fp
 refine Fp.mono ?_
 rintro e w6 ⟨rfl,hp⟩
 have Nw:w5.heap.size≤w6.heap.size:=by obtain⟨_,_,_,_,hk⟩:=hp;exact hk.size
 obtain⟨mZ,I,fB⟩:=I5.out.post hp (by omega)
 have I6:=h_ I
 clear Fp hun hp I I5 qm
 go_wp2_with fail
 have LW:=fA b mZ w6 I6.out.1
 rw [(eM fB).1,(eM fB).2] at LW
 refine LW.mono ?_
 rintro e w7 ⟨rfl,iP⟩
 have Nu:=iP.size
 have I7:=h_ (I6.out.later iP (by omega))
 clear LW iP I6
 have hl1:((⟨hsC1,hsC0,[hsC0],[hsC2]⟩:HsC).undo.length:Int)=1:=rfl
 have hl2:((⟨hsC1,hsC0,[hsC0],[hsC2]⟩:HsC).redo.length:Int)=1:=rfl
 rw [hl1,hl2]
 clear hl1 hl2
 go_wp2_with fail
 refine(iz b mZ w7 I7.out.1).mono ?_
 rintro e w8 ⟨D,rfl,bo,_,_,_,gP⟩
 have Nt:=gP.size
 have I8:=h_ (I7.out.later gP (by omega))
 have hcd:D.c=hsC1:=by rw [bo];exact congrArg HsC.doc fB
 have hev:D.eV.length=1:=by
  have:=congrArg (fun c:DocC=>c.eV.length) hcd
  simpa [Doc.c,hsC1] using this
 clear gP I7 bo hcd
 obtain⟨dt,dl,dr,dd,dla,dra,drc,dregs,dea,dec,devs,dca,dcc,dcms⟩:=D
 simp only at hev
 simp only [Doc.enc]
 rw [hev]
 clear hev
 have N6:∀ w:Sk,(Instr.field 27 (.agg #[.string dt,.string dl,.int .u8 dr,.bool dd,.int .i64 dla,.slice dra dregs.length drc,.slice dea 1 dec,.slice dca dcms.length dcc]) 6).run Tryz.prog w=.ok (.slice dea 1 dec) w:=fun w=>by kernel_rfl
 go_wp2_with fail
 have CS:=ka b mZ w8 I8.out.1
 have hne:oo mZ.doc mZ.saved=false:=by
  cases h:oo mZ.doc mZ.saved with
  | false=>rfl
  | true =>
    have h1:=(kn _ _).1 h
    have e1:mZ.doc.c=hsC1:=congrArg HsC.doc fB
    have e2:mZ.saved.c=hsC0:=congrArg HsC.saved fB
    rw [e1,e2] at h1
    have:=congrArg (fun c:DocC=>c.hd.last) h1
    exact absurd this (by decide)
 rw [hne] at CS
 refine CS.mono ?_
 rintro e w9 ⟨rfl,js⟩
 have Ns:=js.size
 have I9:=h_ (I8.out.later js (by omega))
 clear CS hne js I8
 go_wp2_with fail
 have Fp:=lz b mZ w9 I9.out.1 (by rw [(eM fB).1];show _≤16;decide) (by rw [(eM fB).2];show _≤16;decide)
 have hun:fq mZ.c=(0,⟨hsC0,hsC0,[],[hsC2,hsC1]⟩):=by rw [fB];exact Ku
 rw [hun] at Fp
 refine Fp.mono ?_
 rintro e w10 ⟨rfl,hp⟩
 have Mb:w9.heap.size≤w10.heap.size:=by obtain⟨_,_,_,_,hk⟩:=hp;exact hk.size
 obtain⟨su,I,sy⟩:=I9.out.post hp (by omega)
 have I10:=h_ I
 clear Fp hun hp I I9 fB
 go_wp2_with fail
 have CS:=ka b su w10 I10.out.1
 have hne:oo su.doc su.saved=true:=(kn _ _).2 (by
  have e1:su.doc.c=hsC0:=congrArg HsC.doc sy
  have e2:su.saved.c=hsC0:=congrArg HsC.saved sy
  rw [e1,e2])
 rw [hne] at CS
 refine CS.mono ?_
 rintro e w11 ⟨rfl,eZ⟩
 have HF:=h_ (HQ.out w11 (I10.out.2.2.trans (eZ.mono (by omega))))
 clear CS hne eZ I10 HQ
 go_wp2_with fail
 first
  | exact HF.out
  | (go_ret;exact HF.out)
end Go.Proofs.YtjebaagkomejaaaGreatDoor
