/- The reference's Same of documents with equal contents; the reference's there. comment.Close: a document with a comment that is done. edit.join: a document with two events joined. -/
import Derived.Test.YtjebaagkomejaaaGreatDoorK34
import Derived.Test.YtjebaagkomejaaaGreatDoorK29
import Derived.Test.YtjebaagkomejaaaGreatDoorK24
import Derived.Test.YtjebaagkomejaaaGreatDoorK25
set_option linter.unusedVariables false
set_option linter.unusedSimpArgs false
set_option maxRecDepth 100000
set_option maxHeartbeats 12800000
open Go.Lib renaming hid→h_
open List renaming setIfInBounds_toArray→YA,getElem_cons_zero→YB,getElem_cons_succ→YC,getElem_toArray→YD,set_cons_zero→YE,set_cons_succ→YF
open Array renaming toArray_toList→YG
open Go renaming wpList_store_row→Sj,setRow_heap→Sk,World→Sl,below_setRow→Sm,cell_of_row→Sn,yieldsIf_load_mid→Sp,wp_region_held_drew→Sq,below_drewN→Sr,heap_alloc_last→Ss
open Go.RowKit renaming Below→St
open Go.RowKit.Below renaming refl→Su
open Option.some renaming inj→Sv
open Nat renaming le_refl→Sw,add_zero→Sx
open List renaming getElem?_eq_some_iff→Sy,mem_of_getElem?→Sz
open And renaming intro→SA
open Go.Value.slice renaming injEq→SB
namespace Go.Proofs.YtjebaagkomejaaaGreatDoor
open Go.RowKit
attribute [local go_sem ↓] Go.wp_at_zero Go.wp_at_succ
theorem mD (d d':Doc)(w:Sl)(hd:d.lies w)(hd':d'.lies w)(hc:d.c=d'.c)(hf:∀ x∈d.eV,x.rows.length≤4000000∧∀ r∈x.rows,r.runs.length≤4000000)(hl1:d.rG.length≤4000000)(hl2:d.eV.length≤4000000)(hl3:d.cM.length≤4000000) :
 Calls Tryz.prog 20 #[.agg d.enc.toArray,.agg d'.enc.toArray] w fun e w'=>e=.returned (.bool true)∧St w.heap.size w w':=by
 generalize hQ:(fun(e:Ending) (w':Sl)=>e=.returned (.bool true)∧St w.heap.size w w')=Q
 have HQ:=h_ (fun w' (hb:St w.heap.size w w')=>show Q (.returned (.bool true)) w' from hQ▸⟨rfl,hb⟩)
 clear hQ
 have JB:=h_ (fun(w1:Sl)=>mB d w1)
 have rq:=h_ (fun(w1:Sl)=>mB d' w1)
 have hh:d'.hd=d.hd:=(congrArg DocC.hd hc).symm
 rw [hh] at rq
 have r0:=fun wx=>BK d.hd d.hd wx
 simp only [sQ,Bool.not_true] at r0
 obtain⟨title,lA,rate,drop,last,ra,rc,rG,ea,ec,eV,ca,cc,cM⟩:=d
 obtain⟨title',lang',rate',drop',last',ra',rc',regs',ea',ec',evs',ca',cc',cms'⟩:=d'
 simp only [Doc.c,Doc.hd,DocC.mk.injEq,Hd.mk.injEq] at hc
 obtain⟨⟨rfl,rfl,rfl,rfl,rfl⟩,rfl,he,rfl⟩:=hc
 have hel:evs'.length=eV.length:=(jh he).symm
 have F_:=h_ hel
 have HR1:=h_ (fun(w1:Sl) (h:St w.heap.size w w1)=>Regs.later hd.1 h)
 have HR2:=h_ (fun(w1:Sl) (h:St w.heap.size w w1)=>Regs.later hd'.1 h)
 have nQ:=h_ (fun(w1:Sl) (h:St w.heap.size w w1)=>dy.later hd.2.1 h)
 have HE2:=h_ (fun(w1:Sl) (h:St w.heap.size w w1)=>dy.later hd'.2.1 h)
 have Dx:=h_ (fun(w1:Sl) (h:St w.heap.size w w1)=>yU.later hd.2.2 h)
 have OW:=h_ (fun(w1:Sl) (h:St w.heap.size w w1)=>yU.later hd'.2.2 h)
 have HAT:=h_ (fun(k:Nat)=>at_like he k)
 have HF:=h_ hf
 clear hd hd' he hh hf
 simp only [Doc.enc,Doc.hd,Hd.enc] at *
 simp only [hel] at rq ⊢
 clear hel
 generalize hds:#[Value.string title,.string lA,.int .u8 rate,.bool drop,.int .i64 last,.slice ra rG.length rc,.slice ea eV.length ec,.slice ca cM.length cc]=ds at *
 generalize lV:#[Value.string title,.string lA,.int .u8 rate,.bool drop,.int .i64 last,.slice ra' rG.length rc',.slice ea' eV.length ec',.slice ca' cM.length cc']=qs at *
 have HB:=h_ (fun(w1:Sl) (h:St (w.heap.size+2) ((w.alloc (.cells ds 27)).alloc (.cells qs 27)) w1)=>dU h)
 have f0:=bO w ds qs 27 27 0 (.string title) (by rw [←hds];rfl)
 have f1:=bO w ds qs 27 27 1 (.string lA) (by rw [←hds];rfl)
 have f2:=bO w ds qs 27 27 2 (.int .u8 rate) (by rw [←hds];rfl)
 have f3:=bO w ds qs 27 27 3 (.bool drop) (by rw [←hds];rfl)
 have f4:=bO w ds qs 27 27 4 (.int .i64 last) (by rw [←hds];rfl)
 have f5:=bO w ds qs 27 27 5 (.slice ra rG.length rc) (by rw [←hds];rfl)
 have f6:=bO w ds qs 27 27 6 (.slice ea eV.length ec) (by rw [←hds];rfl)
 have f7:=bO w ds qs 27 27 7 (.slice ca cM.length cc) (by rw [←hds];rfl)
 have g0:=bB w ds qs 27 27 0 (.string title) (by rw [←lV];rfl)
 have g1:=bB w ds qs 27 27 1 (.string lA) (by rw [←lV];rfl)
 have g2:=bB w ds qs 27 27 2 (.int .u8 rate) (by rw [←lV];rfl)
 have g3:=bB w ds qs 27 27 3 (.bool drop) (by rw [←lV];rfl)
 have g4:=bB w ds qs 27 27 4 (.int .i64 last) (by rw [←lV];rfl)
 have g5:=bB w ds qs 27 27 5 (.slice ra' rG.length rc') (by rw [←lV];rfl)
 have g6:=bB w ds qs 27 27 6 (.slice ea' eV.length ec') (by rw [←lV];rfl)
 have g7:=bB w ds qs 27 27 7 (.slice ca' cM.length cc') (by rw [←lV];rfl)
 have hb0:St (w.heap.size+2) ((w.alloc (.cells ds 27)).alloc (.cells qs 27)) ((w.alloc (.cells ds 27)).alloc (.cells qs 27)):=Su _ _
 have hsz:((w.alloc (.cells ds 27)).alloc (.cells qs 27)).heap.size=w.heap.size+2:=by simp
 generalize hW0:(w.alloc (.cells ds 27)).alloc (.cells qs 27)=W0 at *
 have HW0:=h_ hW0
 have dI:=h_ hsz
 have HT0:=h_ (fun(w2 w3:Sl) (h:St (w.heap.size+2) W0 w2) (h3:St w2.heap.size w2 w3)=>(h.trans (h3.mono (by have:=h.size;rw [dI.out] at this;exact this)):St (w.heap.size+2) W0 w3))
 clear hW0 hsz
 go_enter Tryz.func20,Tryz.ntmps20
 subst hds
 subst lV
 go_upto_region 1 with fail
 rw [HW0.out]
 have hbd:St (w.heap.size+2) W0 W0.drew:=hb0.drew
 go_region_held3 (fun w'=>St (w.heap.size+2) W0 w') (repeat (first|with_reducible assumption|with_reducible exact hbd)) (first
  | (go_at_call 60;(first|(with_reducible refine(JB.out _).mono ?_)|(with_reducible refine(rq.out _).mono ?_));rintro e w3 ⟨rfl,hb3⟩;first|(have hc3:=HT0.out _ _ hc3 hb3)|(have hc3:=HT0.out _ _ hbd hb3)))
 clear JB rq hb0 hbd r0
 go_wp2_with fail
 go_loopw [43] (fun i wr=>∃ k:Nat,k≤rG.length∧i=.int .i64 k∧St (w.heap.size+2) W0 wr) (fun i _=>rG.length-(intOf i).toNat)
 case atStart=>exact⟨0,by omega,rfl,hc3⟩
 case round =>
  obtain⟨k,hk,rfl,hb⟩:=hrel
  by_cases hlt:k<rG.length
  · obtain⟨b0,off,x,rfl,hbl,hxk,hcx,_⟩:=(HR1.out _ (HB.out _ hb)).at_ hlt
    obtain⟨b1,off',y,rfl,lW,hyk,hcy,_⟩:=(HR2.out _ (HB.out _ hb)).at_ hlt
    obtain rfl:x=y:=Sv (hxk.symm.trans hyk)
    have r1:=fun wx=>rZ x x wx
    simp only [pb,Bool.not_true] at r1
    have d0:=hcx 0 _ rfl;have d1:=hcx 1 _ rfl;have d2:=hcx 2 _ rfl;have d3:=hcx 3 _ rfl;have d4:=hcx 4 _ rfl;have d5:=hcx 5 _ rfl;have d6:=hcx 6 _ rfl;have e0:=hcy 0 _ rfl;have e1:=hcy 1 _ rfl;have e2:=hcy 2 _ rfl;have e3:=hcy 3 _ rfl;have e4:=hcy 4 _ rfl;have e5:=hcy 5 _ rfl;have e6:=hcy 6 _ rfl
    obtain⟨nm,top,aZ,left,width,align,bottom⟩:=x
    simp only [Reg.enc,Sx] at r1 d0 e0 d1 e1 d2 e2 d3 e3 d4 e4 d5 e5 d6 e6
    have Da:=h_ (fun n=>Sr hb n)
    clear hcx hcy hxk hyk
    go_wp2_with fail
    go_quiet (fail)
    go_wp2_with fail
    go_roundw
    case rel=>exact⟨k+1,by omega,by go_num,Da.out _⟩
    all_goals first|(simp [intOf];done)|(simp [intOf];omega)
  · obtain rfl:k=rG.length:=by omega
    have hcr:=hb
    clear hb hlt HR1 HR2
    go_wp2_with fail
    go_loopw [61] (fun i wr=>∃ k:Nat,k≤eV.length∧i=.int .i64 k∧St (w.heap.size+2) W0 wr) (fun i _=>eV.length-(intOf i).toNat)
    case atStart=>exact⟨0,by omega,rfl,hcr⟩
    case round =>
     obtain⟨k,hk,rfl,hb⟩:=hrel
     by_cases hlt:k<eV.length
     · obtain⟨b0,off,x,rfl,hbl,hxk,hcx,hxl⟩:=(nQ.out _ (HB.out _ hb)).at_ hlt
       obtain⟨b1,off',y,rfl,lW,hyk,hcy,hyl⟩:=(HE2.out _ (HB.out _ hb)).at_ (show k<evs'.length by rw [F_.out];exact hlt)
       have hxy:x.c=y.c:=by
        rcases HAT.out k with⟨h1,_⟩|⟨x',y',h1,h2,h3⟩
        · rw [hxk] at h1;cases h1
        · obtain rfl:=Sv (hxk.symm.trans h1)
          obtain rfl:=Sv (hyk.symm.trans h2)
          exact h3
       have hfx:=HF.out x (Sz hxk)
       have DI:=h_ (fun(w1:Sl) (h:St wr.heap.size wr w1)=>(show Calls Tryz.prog 61 #[.agg x.enc.toArray,.agg y.enc.toArray] w1 (fun e w'=>e=.returned (.bool true)∧St wr.heap.size wr w') from by
        have:=mC x y w1 (Ev.keeps _ _ _ h hxl) (Ev.keeps _ _ _ h hyl) hfx.2 hfx.1
        rw [Dl _ _ hxy] at this
        exact this.mono fun e w' p=>⟨p.1,h.trans (p.2.mono h.size)⟩))
       have sS:∀ (w1:Sl),St wr.heap.size wr w1→∀ (j:Nat) (u:Value),x.enc[j]? =some u→w1.cell? ⟨b0,off+k*7+j,none⟩=some u:=fun w1 h j u e=>(h.cell (p:=⟨b0,off+k*7+j,none⟩) hbl).trans (hcx j u e)
       have sR:∀ (w1:Sl),St wr.heap.size wr w1→∀ (j:Nat) (u:Value),y.enc[j]? =some u→w1.cell? ⟨b1,off'+k*7+j,none⟩=some u:=fun w1 h j u e=>(h.cell (p:=⟨b1,off'+k*7+j,none⟩) lW).trans (hcy j u e)
       have d0:=fun w1 h=>sS w1 h 0 _ rfl;have d1:=fun w1 h=>sS w1 h 1 _ rfl;have d2:=fun w1 h=>sS w1 h 2 _ rfl;have d3:=fun w1 h=>sS w1 h 3 _ rfl;have d4:=fun w1 h=>sS w1 h 4 _ rfl;have d5:=fun w1 h=>sS w1 h 5 _ rfl;have d6:=fun w1 h=>sS w1 h 6 _ rfl
       have e0:=fun w1 h=>sR w1 h 0 _ rfl;have e1:=fun w1 h=>sR w1 h 1 _ rfl;have e2:=fun w1 h=>sR w1 h 2 _ rfl;have e3:=fun w1 h=>sR w1 h 3 _ rfl;have e4:=fun w1 h=>sR w1 h 4 _ rfl;have e5:=fun w1 h=>sR w1 h 5 _ rfl;have e6:=fun w1 h=>sR w1 h 6 _ rfl
       obtain⟨xid,xin,xout,xreg,xkind,xsp,xa,xc,xrows⟩:=x
       obtain⟨yid,yin,yout,yreg,ykind,ysp,ya,yc,yrows⟩:=y
       simp only [Ev.enc,Sx] at DI d0 e0
       have sN:=fun(w1:Sl) (h:St wr.heap.size wr w1)=>f6 w1 (HT0.out _ _ hb h)
       have KJ:=fun(w1:Sl) (h:St wr.heap.size wr w1)=>g6 w1 (HT0.out _ _ hb h)
       have hwd:St wr.heap.size wr wr.drew:=(Su _ _).drew
       have jt:=h_ hb
       clear hcx hcy sS sR hxk hyk hxl hyl hxy hfx hb
       go_upto_region 12 with fail
       go_region_held3 (fun w'=>St wr.heap.size wr w') (first|with_reducible assumption|with_reducible exact hwd) (first|(go_at_call 61;((with_reducible refine(DI.out _ ?_).mono ?_);with_reducible assumption);rintro e w4 ⟨rfl,hb4⟩))
       all_goals
        have FO:=h_ (HT0.out _ _ jt.out hb4)
        clear hb4 DI
        go_wp2_with fail
        go_roundw
        case rel=>exact⟨k+1,by omega,by go_num,FO.out⟩
        all_goals first|(simp [intOf];done)|(simp [intOf];omega)
     · obtain rfl:k=eV.length:=by omega
       have hcm:=hb
       clear hb hlt nQ HE2
       go_wp2_with fail
       go_loopw [80] (fun i wr=>∃ k:Nat,k≤cM.length∧i=.int .i64 k∧St (w.heap.size+2) W0 wr) (fun i _=>cM.length-(intOf i).toNat)
       case atStart=>exact⟨0,by omega,rfl,hcm⟩
       case round =>
        obtain⟨k,hk,rfl,hb⟩:=hrel
        by_cases hlt:k<cM.length
        · obtain⟨b0,off,x,rfl,hbl,hxk,hcx,_⟩:=(Dx.out _ (HB.out _ hb)).at_ hlt
          obtain⟨b1,off',y,rfl,lW,hyk,hcy,_⟩:=(OW.out _ (HB.out _ hb)).at_ hlt
          obtain rfl:x=y:=Sv (hxk.symm.trans hyk)
          have r1:=fun wx=>vW x x wx
          simp only [tu,Bool.not_true] at r1
          have d0:=hcx 0 _ rfl;have d1:=hcx 1 _ rfl;have d2:=hcx 2 _ rfl;have d3:=hcx 3 _ rfl;have d4:=hcx 4 _ rfl;have d5:=hcx 5 _ rfl;have d6:=hcx 6 _ rfl;have d7:=hcx 7 _ rfl;have e0:=hcy 0 _ rfl;have e1:=hcy 1 _ rfl;have e2:=hcy 2 _ rfl;have e3:=hcy 3 _ rfl;have e4:=hcy 4 _ rfl;have e5:=hcy 5 _ rfl;have e6:=hcy 6 _ rfl;have e7:=hcy 7 _ rfl
          obtain⟨eid,eev,efrm,etil,eau,etx,edn,elo⟩:=x
          simp only [Cm.enc,Sx] at r1 d0 e0 d1 e1 d2 e2 d3 e3 d4 e4 d5 e5 d6 e6 d7 e7
          have Da:=h_ (fun n=>Sr hb n)
          clear hcx hcy hxk hyk
          go_wp2_with fail
          go_quiet (fail)
          go_wp2_with fail
          go_roundw
          case rel=>exact⟨k+1,by omega,by go_num,Da.out _⟩
          all_goals first|(simp [intOf];done)|(simp [intOf];omega)
        · obtain rfl:k=cM.length:=by omega
          go_wp2_with fail
          exact HQ.out _ (HB.out _ hb)
end Go.Proofs.YtjebaagkomejaaaGreatDoor
namespace Go.Proofs.YtjebaagkomejaaaGreatDoor
open Go.RowKit
theorem qP (d:Doc)(id:Int)(w:Sl)(hE:Env w)(hd:d.lies w)(hf:d.fits):Calls Tryz.prog 43 #[.agg d.enc.toArray,.int .i64 id] w (aS (bZ d.c id) w):=by
 have eP:=h_ (fun(w1:Sl) (h:St w.heap.size w w1)=>lG d id w1 (hE.below h (Sw _)) (Doc.later hd h) hf)
 have dA:=h_ (fun(w1:Sl) (h:St w.heap.size w w1)=>bJ d w1 (Doc.later hd h) hf)
 have bh:=h_ (fun(q:Int) (hq:bZ d.c id=(q,aU)) (w':Sl) (h:St w.heap.size w w')=>(show aS (bZ d.c id) w (.returned (.tuple #[.agg zeD,.int .i64 q])) w' from hq▸aS.zero q h))
 have cT:=h_ (fun(d':Doc) (h:d'.c=d.c)=>bn h hf)
 have dp:=h_ (o_ w d.enc.toArray zeD)
 have hb2:∀ o1 o2:Obj,St w.heap.size w ((w.alloc o1).alloc o2):=fun o1 o2=>((Su _ _).alloc (Sw _) _).alloc (by simp) _
 have hsz2:∀ o1 o2:Obj,((w.alloc o1).alloc o2).heap.size=w.heap.size+2:=fun o1 o2=>by simp
 have aY:=h_ (SA hd hf)
 have bD:=h_ (fun(h:bK d.c id≠0)=>vy h)
 have jF:=h_ (fun(h:bK d.c id=0)=>wI h)
 have jW:=h_ (fun(j:Nat) (x:Cm) (h0:cErr d.c=0) (hx:d.cM[j]? =some x) (h:cU d.cM id=some x) (hn:x.done=false)=>(show bZ d.c id=_ from yF h0 hx h hn))
 have tU:=h_ (fun(x:Cm) (h0:cErr d.c=0) (h:cU d.cM id=some x) (hn:x.done=true)=>(show bZ d.c id=_ from tv h0 h hn))
 generalize hR:bZ d.c id=R at *
 generalize hQ:aS R w=Q at bh ⊢
 clear hd hf hE
 generalize bK d.c id=FE at *
 generalize gl d.c id=FI at *
 go_enter Tryz.func43,Tryz.ntmps43
 have hr0:=ai dp.out.1
 go_wp2_with (refine aj 27 (.tmp 2) rfl w.heap.size 0 rfl d.enc _ hr0 Tryz.underlying27 rfl ag (by rfl) ?_)
 refine(eP.out _ (hb2 _ _)).mono ?_
 rintro e w2 ⟨rfl,hb1⟩
 rw [hsz2] at hb1
 have hbw2:St w.heap.size w w2:=(hb2 _ _).trans (hb1.mono (by omega))
 have r2:=(hb1.block w.heap.size (by omega)).trans dp.out.1
 have z2:=(hb1.block (w.heap.size+1) (by omega)).trans dp.out.2
 have hs2:w.heap.size+2≤w2.heap.size:=by have:=hb1.size;rw [hsz2] at this;exact this
 clear hb1 hr0 eP dp hb2 hsz2
 have hr2:=ai r2
 have R2:=h_ r2
 have Z2:=h_ z2
 clear r2 z2
 by_cases h0:FE=0
 · subst h0
   obtain⟨hc0,j,x,rfl,hx,hfx⟩:=jF.out rfl
   have hx1:d.cM[j]? =some x:=hx
   have hjd:j<d.cM.length:=(Sy.1 hx1).1
   have hj0:(0:Int)≤(j:Int):=by omega
   obtain⟨b0,off,x',ha,_,hx2,hcx,_⟩:=ah.at_ (Doc.later aY.out.1 hbw2).2.2 hjd
   rw [hx1] at hx2
   obtain rfl:=Sv hx2
   have hdn:w2.cell? ⟨b0,off+j*8+6,none⟩=some (.bool x.done):=hcx 6 _ rfl
   have c7:w2.cell? ⟨w.heap.size,7,none⟩=some (.slice (some ⟨b0,off,none⟩) d.cM.length d.cc):=by
    rw [←ha];exact Sn _ _ 7 _ 27 (0,0) R2.out
   have N2:d.cM.length≤4000000:=aY.out.2.2.2.2.2.2.2.2.2.2.2
   have HX:=h_ hx1
   by_cases hdone:x.done=true
   · have nZ:=h_ (tU.out x hc0 hfx hdone)
     rw [hdone] at hdn
     clear bD jF jW tU hx hfx hc0 hx1 hcx hx2 HX cT dA hr2 aY ha
     have HE:=h_ (bh.out (17) nZ.out (w2.setRow (w.heap.size+1) zeD) (Sm hbw2 (by omega) _))
     have z9:=Sk w2 (w.heap.size+1) _ zeD 27 (0,0) Z2.out
     clear nZ bh
     go_wp2_with (refine Sj rfl 27 (.tmp 4) (.tmp 26) rfl (w.heap.size+1) zeD rfl rfl 27 _ Z2.out ag rfl aO ?_)
     generalize w2.setRow (w.heap.size+1) zeD=w9 at *
     exact aL Tryz.results43 rfl rfl z9 rfl HE.out
   · have hdone:x.done=false:=by simpa using hdone
     have nZ:=h_ (jW.out j x hc0 hx1 hfx hdone)
     rw [hdone] at hdn
     clear bD jF jW tU hx hfx hc0 hx1 hcx hx2 bh aY ha
     go_upto_region 6 with fail
     clear c7 hdn
     go_wp2_with (refine aj 27 (.tmp 2) rfl w.heap.size 0 rfl d.enc _ hr2 Tryz.underlying27 rfl ag (by rfl) ?_)
     refine(dA.out w2 hbw2).mono ?_
     rintro e w4 ⟨d',rfl,hc',hl',hu',hb4,hap,hoe,hoc⟩
     have eo:=cT.out d' hc'
     have bQ:St w.heap.size w w4:=hbw2.trans (hb4.mono hbw2.size)
     have r4:=(hb4.block w.heap.size (by omega)).trans R2.out
     have z4:=(hb4.block (w.heap.size+1) (by omega)).trans Z2.out
     have hs4:w2.heap.size≤w4.heap.size:=hb4.size
     clear hr2 R2 Z2 dA hbw2 cT hb4
     go_upto_region 7 with(refine Sj rfl 27 (.tmp 2) (.tmp 29) rfl (w.heap.size) (d'.enc.toArray) rfl rfl 27 _ r4 ag rfl aO ?_)
     have hk5:Kept (fun b=>b=w.heap.size) w4 (w4.setRow w.heap.size d'.enc.toArray):=bj w4 w.heap.size d'.enc.toArray
     have r5:=Sk w4 w.heap.size _ d'.enc.toArray 27 (0,0) r4
     generalize w4.setRow w.heap.size d'.enc.toArray=w5 at *
     have hs5:=hk5.size
     have hl5:d'.lies w5:=Doc.frame hl' hs5 fun b hb=>hk5.block b (Doc.uses_lt hl' hb) (by have:=hu' b hb;omega)
     have oe5:=aB hoe fun b q=>hk5.block b (hoe.lt b q).2 (by have:=(hoe.lt b q).1;omega)
     have oc5:=aB hoc fun b q=>hk5.block b (hoc.lt b q).2 (by have:=(hoc.lt b q).1;omega)
     have z5:=(hk5.block (w.heap.size+1) (by omega) (by omega)).trans z4
     have hb5:St w.heap.size w w5:=bQ.trans (hk5.below (by omega) fun k hk e=>by omega)
     clear hl' r4 z4 hk5 hoe hoc bQ
     have hcm:d'.cM=d.cM:=congrArg DocC.cM hc'
     have vg:j<d'.cM.length:=by rw [hcm];exact hjd
     have hlc:d'.cM.length≤4000000:=eo.2.2.2.2.2.2.2.2.2.2
     have hne:d'.cM≠[]:=fun e=>by rw [e] at vg;simp at vg
     obtain⟨cb,cap,he⟩:=dD oc5 (by omega)
     have he1:d'.ca=some ⟨cb,0,none⟩∧d'.cc=cap:=by simp only [SB] at he;exact⟨he.1,he.2.2⟩
     rw [he] at oc5
     have hcb:=oc5.lt cb rfl
     have hcap:d'.cM.length≤cap:=by
      rcases oc5.2 with⟨h0,_⟩|⟨g',cap',cur,h0,_,_,hnc,_⟩
      · simp at h0
      · simp only [SB] at h0
        obtain⟨_,_,rfl⟩:=h0
        exact hnc
     have hxd:d'.cM[j]? =some x:=by rw [hcm];exact HX.out
     have c7:w5.cell? ⟨w.heap.size,7,none⟩=some (.slice (some ⟨cb,0,none⟩) d'.cM.length cap):=by
      rw [←he];exact Sn _ _ 7 _ 27 (0,0) r5
     have hcell:w5.cell? ⟨cb,j*8+6,none⟩=some (.bool x.done):=by
      rw [oc5.cellAt (j*8+6) (by omega)]
      exact cK Cm.enc 8 (fun _=>rfl) d'.cM j x 6 _ hxd rfl
     have fz:=fun q=>oc5.frozenAt (j:=q)
     have sN:Kept (fun b=>b=cb) w5 (w5.setCell ⟨cb,j*8+6,none⟩ (.bool true)):=bG (Kept.refl _ _) _ _
     have o6:=fH (enc:=Cm.enc) (k:=j) (x:=x) (y:={ x with done:=true }) (v:=.bool true) (j:=6) (fun _=>rfl) oc5 hxd rfl (by decide)
     obtain⟨a',c',he',yj⟩:=aA (k:=8) (enc:=Cm.enc) (Ok:=Flat) (xs:=d'.cM.set j { x with done:=true }) (fun _=>rfl) (by simpa using o6) (fun _ _=>trivial)
     simp only [SB] at he'
     obtain⟨rfl, -,rfl⟩:=he'
     obtain⟨D2,hD2⟩:∃ D2:Doc,D2={ d' with cc:=cap,cM:=d'.cM.set j { x with done:=true } }:=⟨_,rfl⟩
     have hden:d'.enc.toArray=D2.enc.toArray:=by rw [hD2];simp [Doc.enc,he1.2]
     have lN:=h_ (show D2.c={ d.c with cM:=d.cM.set j { x with done:=true } } from by
      rw [hD2,←hc',←hcm];rfl)
     have fR:=h_ (fun(w6 w9:Sl) hS k6 k9=>(show D2.lies w9∧∀ b,D2.uses b→w2.heap.size≤b from hD2▸Dm (cap:=cap) hl5 hu' hap he1.1 hne (w6:=w6) (w9:=w9) (ys:=d'.cM.set j { x with done:=true }) hS k6 k9))
     have iG:=h_ hb5
     have Z5:=h_ z5
     have R5:=h_ r5
     have Dq:=h_ yj
     have jn:=h_ sN
     have fP:=h_ hden
     have Ch:w.heap.size+2≤w5.heap.size:=by omega
     clear hl5 oe5 oc5 z5 hb5 hap eo hu' hs4 hs5 he hD2 hc' hcm hjd HX o6 yj sN hden r5 hxd
     go_upto_region 8 with fail
     generalize w5.setCell ⟨cb,j*8+6,none⟩ (.bool true)=w6 at *
     have hs6:=jn.out.size
     have b6:w6.heap[w.heap.size]? =some (.cells D2.enc.toArray 27 (0,0)):=fP.out▸(jn.out.block w.heap.size (by omega) (by omega)).trans R5.out
     clear fP R5 c7 hcell fz
     have nV:=ai b6
     have z8:=(jn.out.block (w.heap.size+1) (by omega) (by omega)).trans Z5.out
     have r9:=Sk w6 (w.heap.size+1) _ D2.enc.toArray 27 (0,0) z8
     have eX:Kept (fun b=>b=w.heap.size+1) w6 (w6.setRow (w.heap.size+1) D2.enc.toArray):=bj _ _ _
     have kW:=h_ (fR.out w6 (w6.setRow (w.heap.size+1) D2.enc.toArray) Dq.out jn.out (eX.mono fun i _ e=>by omega))
     have kX:=h_ (show St w.heap.size w (w6.setRow (w.heap.size+1) D2.enc.toArray) from(iG.out.trans (jn.out.below (by omega) fun b hb e=>by omega)).trans (eX.below (by omega) fun b hb e=>by omega))
     clear fR Dq jn iG Z5 eX hs6 b6
     go_wp2_with (first|(refine aj 27 (.tmp 2) rfl w.heap.size 0 rfl D2.enc _ nV Tryz.underlying27 rfl ag (by rfl) ?_)|(refine Sj rfl 27 (.tmp 4) (.tmp 35) rfl (w.heap.size+1) (D2.enc.toArray) rfl rfl 27 _ z8 ag rfl aO ?_))
     generalize w6.setRow (w.heap.size+1) D2.enc.toArray=w9 at *
     have yQ:=h_ (show Q (.returned (.tuple #[.agg D2.enc.toArray,.int .i64 0])) w9 from by
      rw [←hQ,nZ.out]
      exact⟨D2,rfl,lN.out,kW.out.1,fun b hb=>Nat.le_trans (by omega) (kW.out.2 b hb),kX.out⟩)
     clear kW kX nZ lN
     exact aL Tryz.results43 rfl rfl r9 rfl yQ.out
 · have hne:(FE != 0)=true:=by simpa using h0
   have hne2:(FE==0)=false:=by simpa using h0
   have HE:=h_ (bh.out (FE) (bD.out h0) (w2.setRow (w.heap.size+1) zeD) (Sm hbw2 (by omega) _))
   have z9:=Sk w2 (w.heap.size+1) _ zeD 27 (0,0) Z2.out
   clear bD jF jW tU cT dA bh hr2 aY
   go_wp2_with (refine Sj rfl 27 (.tmp 4) (.tmp 26) rfl (w.heap.size+1) zeD rfl rfl 27 _ Z2.out ag rfl aO ?_)
   generalize w2.setRow (w.heap.size+1) zeD=w9 at *
   exact aL Tryz.results43 rfl rfl z9 rfl HE.out
theorem uQ (d:Doc)(x:Ed)(w:Sl)(hE:Env w)(hd:d.lies w)(hf:d.fits):Calls Tryz.prog 40 #[.agg d.enc.toArray,.agg x.enc.toArray] w (aS (gR d.c x.c) w):=by
 have eP:=h_ (fun(k:Int) (w1:Sl) (h:St w.heap.size w w1)=>cW d k w1 (Doc.later hd h).2.1 hf.2.2.2.2.2.2.2.2.1)
 have aY:=h_ (SA hE (SA hd hf))
 have Fz:=h_ (fU d x.id)
 have Fy:=h_ (fU d x.other)
 have bh:=h_ (fun(q:Int) (hq:gR d.c x.c=(q,aU)) (w':Sl) (h:St w.heap.size w w')=>(show aS (gR d.c x.c) w (.returned (.tuple #[.agg zeD,.int .i64 q])) w' from by rw [hq];exact aS.zero q h))
 have C4:=h_ (fun(h:aT d.c.eV x.id=none)=>(show gR d.c x.c=(6,aU) from by
  have h':aT d.c.eV x.c.id=none:=h
  unfold gR;rw [h']))
 have zi:=h_ (fun(h:aT d.c.eV x.other=none)=>(show gR d.c x.c=(6,aU) from by
  have h':aT d.c.eV x.c.other=none:=h
  unfold gR;rw [h'];cases aT d.c.eV x.c.id<;>rfl))
 have pG:=h_ (fun(a b:EvC) (h:aT d.c.eV x.id=some a) (h2:aT d.c.eV x.other=some b)=>(show gR d.c x.c=if x.id=x.other then (1,aU) else if bS a b≠0 then (bS a b,aU)
  else if (br d.c x.other).1≠0 then ((br d.c x.other).1,aU) else putC (br d.c x.other).2 (og a b) from by
  have h':aT d.c.eV x.c.id=some a:=h
  have h2':aT d.c.eV x.c.other=some b:=h2
  unfold gR;rw [h',h2'];rfl))
 have bD:=h_ (fun(r:Int × DocC) (hr:gR d.c x.c=r) (D:Doc) (w':Sl) (h:D.c=r.2∧D.lies w'∧(∀ b,D.uses b→w.heap.size≤b)∧St w.heap.size w w')=>(show aS (gR d.c x.c) w (.returned (.tuple #[.agg D.enc.toArray,.int .i64 r.1])) w' from⟨D,by rw [hr],by rw [hr];exact h.1,h.2.1,h.2.2.1,h.2.2.2⟩))
 have jX:=h_ (box3 w d.enc.toArray x.enc.toArray zeD 27 40 27)
 have hb3:∀ o1 o2 o3:Obj,St w.heap.size w (((w.alloc o1).alloc o2).alloc o3):=fun o1 o2 o3=>(((Su _ _).alloc (Sw _) _).alloc (by simp) _).alloc (by simp;try omega) _
 have dv:∀ o1 o2 o3:Obj,w.heap.size+3≤(((w.alloc o1).alloc o2).alloc o3).heap.size:=fun o1 o2 o3=>by simp
 generalize hQ:aS (gR d.c x.c) w=Q at *
 clear hd hf hE
 go_enter Tryz.func40,Tryz.ntmps40
 go_upto_region 1 with fail
 have h0:=jX.out.1
 have h1:=jX.out.2.1
 have h2:=jX.out.2.2
 have hbw:=hb3 (.cells d.enc.toArray 27) (.cells x.enc.toArray 40) (.cells zeD 27)
 have hsz:=dv (.cells d.enc.toArray 27) (.cells x.enc.toArray 40) (.cells zeD 27)
 clear jX hb3 dv
 generalize ((w.alloc (.cells d.enc.toArray 27)).alloc (.cells x.enc.toArray 40)).alloc (.cells zeD 27)=W0 at *
 have H0:=h_ h0
 have H1:=h_ h1
 have H2:=h_ h2
 have bE:=h_ hbw
 clear h0 h1 h2 hbw
 have jm:=h_ (SA Fz.out Fy.out)
 generalize KZ:posOf (iu x.id) d.eV=FI at *
 generalize KY:posOf (iu x.other) d.eV=FJ at *
 go_cut [6,7] from 10 to 17 (fun a b wx=>a=.int .i64 FI∧b=.int .i64 FJ∧St W0.heap.size W0 wx)
 case first =>
  have hd0:St W0.heap.size W0 W0.drew:=(Su _ _).drew
  have gY:=h_ (fun(w':Sl) (h:St W0.heap.size W0 w')=>(show w'.rangeAt (w.heap.size) 0 d.enc∧w'.cell? ⟨w.heap.size+1,1,none⟩=some (.int .i64 x.id)∧w'.cell? ⟨w.heap.size+1,2,none⟩=some (.int .i64 x.other) from
   ⟨ai ((h.block _ (by omega)).trans H0.out),Sn _ _ 1 _ 40 (0,0) ((h.block _ (by omega)).trans H1.out),Sn _ _ 2 _ 40 (0,0) ((h.block _ (by omega)).trans H1.out)⟩))
  have tW:=h_ (fun(w':Sl) (h:St W0.heap.size W0 w')=>KZ▸eP.out x.id w' (bE.out.trans (h.mono (by omega))))
  have C9:=h_ (fun(w':Sl) (h:St W0.heap.size W0 w')=>KY▸eP.out x.other w' (bE.out.trans (h.mono (by omega))))
  clear eP aY Fz Fy bh C4 zi pG H0 H1 H2 bE jm hQ KZ KY
  refine Sq (S:=fun w'=>St W0.heap.size W0 w') (by kernel_rfl) hd0 (fun _=>?_)
  generalize W0.drew=v0 at *
  refine ab 0 (.agg d.enc.toArray) hd0 ?_ (hy:=Sp (by rfl) 27 (.tmp 2) rfl (w.heap.size) 0 rfl d.enc _ (fun w_ h_=>(gY.out w_ h_).1) Tryz.underlying27 rfl ag)
  refine ab 1 (.pointer (some ⟨w.heap.size+1,1,none⟩)) hd0 ?_
  refine ab 2 (.int .i64 x.id) hd0 ?_ (hy:=.inl ⟨by rfl,fun w_ aH=>by have q_:=(gY.out w_ aH).2.1;go_simp⟩)
  refine ab 4 (.agg d.enc.toArray) hd0 ?_ (hy:=Sp (by rfl) 27 (.tmp 2) rfl (w.heap.size) 0 rfl d.enc _ (fun w_ h_=>(gY.out w_ h_).1) Tryz.underlying27 rfl ag)
  refine ab 5 (.pointer (some ⟨w.heap.size+1,2,none⟩)) hd0 ?_
  refine ab 6 (.int .i64 x.other) hd0 ?_ (hy:=.inl ⟨by rfl,fun w_ aH=>by have q_:=(gY.out w_ aH).2.2;go_simp⟩)
  refine aq 3 (fun K hK=>?_)
  go_simp
  refine(tW.out _ hd0).mono ?_
  rintro e_ v1 ⟨rfl,ar⟩
  have hv1:St W0.heap.size W0 v1:=ak hd0 ar
  clear ar
  go_wp2_with fail
  refine goOn hK hv1 ?_
  clear hK
  refine aq 7 (fun K hK=>?_)
  go_simp
  refine(C9.out _ hv1).mono ?_
  rintro e_ v2 ⟨rfl,ar⟩
  have hv2:St W0.heap.size W0 v2:=ak hv1 ar
  clear ar
  go_wp2_with fail
  refine goOn hK hv2 ?_
  clear hK
  refine ab 8 (.int .i64 FI) hv2 ?_
  refine ab 9 (.int .i64 FJ) hv2 ?_
  refine wpAnyH_done (by kernel_rfl) ?_ _
  go_wp2_with fail
  go_meet
  exact⟨rfl,rfl,hv2⟩
 case rest =>
  obtain⟨rfl,rfl,hbc⟩:=hcut
  obtain⟨w1,hw1⟩:∃ x,x=wc:=⟨_,rfl⟩
  subst hw1
  have hs1:=hbc.size
  have z0:=(hbc.block (w.heap.size) (by omega)).trans H0.out
  have z1:=(hbc.block (w.heap.size+1) (by omega)).trans H1.out
  have z2:=(hbc.block (w.heap.size+1+1) (by omega)).trans H2.out
  have aM:=bE.out.trans (hbc.mono (by omega))
  clear hbc H0 H1 H2 bE eP KZ KY Fz Fy
  rcases jm.out.1 with⟨hp,hn⟩|⟨i,a,hp,hi,hn⟩
  · subst hp
    have wY:=h_ (C4.out hn)
    clear jm C4 zi pG aY hn
    have HE:=h_ (bh.out (6) wY.out (w1.setRow (w.heap.size+1+1) zeD) (Sm aM (by omega) _))
    have z9:=Sk w1 (w.heap.size+1+1) _ zeD 27 (0,0) z2
    clear bh wY aM z0 z1
    go_wp2_with (refine Sj rfl 27 (.tmp 4) (.tmp 25) rfl (w.heap.size+1+1) zeD rfl rfl 27 _ z2 ag rfl aO ?_)
    generalize w1.setRow (w.heap.size+1+1) zeD=w9 at *
    exact aL Tryz.results40 rfl rfl z9 rfl HE.out
  · rcases jm.out.2 with⟨hp2,hn2⟩|⟨j,b,hp2,hj,hn2⟩
    · subst hp2
      subst hp
      have hi0:(0:Int)≤(i:Int):=by omega
      have wY:=h_ (zi.out hn2)
      clear jm C4 zi pG aY hn hn2 hi
      have HE:=h_ (bh.out (6) wY.out (w1.setRow (w.heap.size+1+1) zeD) (Sm aM (by omega) _))
      have z9:=Sk w1 (w.heap.size+1+1) _ zeD 27 (0,0) z2
      clear bh wY aM z0 z1
      go_wp2_with (refine Sj rfl 27 (.tmp 4) (.tmp 25) rfl (w.heap.size+1+1) zeD rfl rfl 27 _ z2 ag rfl aO ?_)
      generalize w1.setRow (w.heap.size+1+1) zeD=w9 at *
      exact aL Tryz.results40 rfl rfl z9 rfl HE.out
    · subst hp2
      subst hp
      have hi0:(0:Int)≤(i:Int):=by omega
      have hj0:(0:Int)≤(j:Int):=by omega
      have HS:=h_ (pG.out a.c b.c hn hn2)
      have cid:w1.cell? ⟨w.heap.size+1,1,none⟩=some (.int .i64 x.id):=Sn _ _ 1 _ 40 (0,0) z1
      have cot:w1.cell? ⟨w.heap.size+1,2,none⟩=some (.int .i64 x.other):=Sn _ _ 2 _ 40 (0,0) z1
      clear jm C4 zi pG hn hn2
      by_cases heq:x.id=x.other
      · have heq':(x.id==x.other)=true:=by simpa using heq
        have nQ:=h_ (HS.out.trans (if_pos heq))
        clear HS heq aY hi hj
        have HE:=h_ (bh.out (1) nQ.out (w1.setRow (w.heap.size+1+1) zeD) (Sm aM (by omega) _))
        have z9:=Sk w1 (w.heap.size+1+1) _ zeD 27 (0,0) z2
        clear bh nQ aM z0 z1
        go_wp2_with (refine Sj rfl 27 (.tmp 4) (.tmp 32) rfl (w.heap.size+1+1) zeD rfl rfl 27 _ z2 ag rfl aO ?_)
        generalize w1.setRow (w.heap.size+1+1) zeD=w9 at *
        exact aL Tryz.results40 rfl rfl z9 rfl HE.out
      · have heq':(x.id==x.other)=false:=by simpa using heq
        have HS2:=h_ (HS.out.trans (if_neg heq))
        clear HS heq
        go_upto_region 6 with fail
        have hld:=Doc.later aY.out.2.1 aM
        have hil:i<d.eV.length:=(Sy.1 hi).1
        have hjl:j<d.eV.length:=(Sy.1 hj).1
        have hle:d.eV.length≤4000000:=aY.out.2.2.2.2.2.2.2.2.2.2.1
        have hfa:a.fits:=aY.out.2.2.2.2.2.2.2.2.2.1 a (Sz hi)
        have kM:b.fits:=aY.out.2.2.2.2.2.2.2.2.2.1 b (Sz hj)
        obtain⟨b0,off,a',vi,hb0,hxa,oq,hal⟩:=ah.at_ hld.2.1 hil
        rw [hi] at hxa
        obtain rfl:=Sv hxa
        obtain⟨b0',off',b',EW,Od,hxb,hcb,hbl⟩:=ah.at_ hld.2.1 hjl
        rw [hj] at hxb
        obtain rfl:=Sv hxb
        rw [vi] at EW
        simp only [Option.some.injEq,Addr.mk.injEq,and_true] at EW
        obtain⟨rfl,rfl⟩:=EW
        have tT:=h_ (fun(w':Sl) (h:St w1.heap.size w1 w')=>(show w'.cell? ⟨w.heap.size,6,none⟩=some (.slice (some ⟨b0,off,none⟩) d.eV.length d.ec)∧w'.rangeAt b0 (off+i*7) a.enc∧w'.rangeAt b0 (off+j*7) b.enc from
         ⟨by rw [←vi];exact Sn _ _ 6 _ 27 (0,0) ((h.block w.heap.size (by omega)).trans z0),fun q v hv=>(h.cell (p:=⟨b0,off+i*7+q,none⟩) hb0).trans (oq q v hv),fun q v hv=>(h.cell (p:=⟨b0,off+j*7+q,none⟩) hb0).trans (hcb q v hv)⟩))
        have Lr:=h_ (fun(w':Sl) (h:St w1.heap.size w1 w')=>xR a b w' (Ev.keeps _ _ _ h hal) (Ev.keeps _ _ _ h hbl) hfa kM)
        have nP:=h_ (SA hfa kM)
        have Z0:=h_ z0
        have Z1:=h_ z1
        have Z2:=h_ z2
        have jV:=h_ aM
        clear hld vi oq hcb hal hbl hfa kM hi hj z0 z1 z2 aM cid cot
        go_upto_region 6 with fail
        go_cut [8,9] from 33 to 46 (fun p q wx=>∃ (g:Nat) (y:Ev),p=.pointer (some ⟨g,0,none⟩)∧q=.int .i64 (bS a.c b.c)∧(bS a.c b.c=0→y.c=og a.c b.c)∧y.lies wx∧(∀ k,y.uses k→w1.heap.size≤k)∧wx.heap[g]? =some (.cells y.enc.toArray 72 (0,0))∧w1.heap.size≤g∧St w1.heap.size w1 wx)
        case first =>
         have hd0:St w1.heap.size w1 w1.drew:=(Su _ _).drew
         clear aY bh HS2 nP Z0 Z1 Z2 jV hQ
         refine Sq (S:=fun w'=>St w1.heap.size w1 w') (by kernel_rfl) hd0 (fun _=>?_)
         generalize w1.drew=v0 at *
         refine ab 0 (.pointer (some ⟨w.heap.size,6,none⟩)) hd0 ?_
         refine ab 1 (.slice (some ⟨b0,off,none⟩) d.eV.length d.ec) hd0 ?_ (hy:=.inl ⟨by rfl,fun w_ aH=>by have q_:=(tT.out w_ aH).1;go_simp⟩)
         refine ab 2 (.int .i64 i) hd0 ?_
         refine ab 3 (.pointer (some ⟨b0,off+i*7,none⟩)) hd0 ?_
         refine ab 4 (.agg a.enc.toArray) hd0 ?_ (hy:=Sp (by rfl) 72 (.tmp 37) rfl b0 (off+i*7) rfl a.enc _ (fun w_ h_=>(tT.out w_ h_).2.1) Tryz.underlying72 rfl aV)
         refine ab 5 (.pointer (some ⟨w.heap.size,6,none⟩)) hd0 ?_
         refine ab 6 (.slice (some ⟨b0,off,none⟩) d.eV.length d.ec) hd0 ?_ (hy:=.inl ⟨by rfl,fun w_ aH=>by have q_:=(tT.out w_ aH).1;go_simp⟩)
         refine ab 7 (.int .i64 j) hd0 ?_
         refine ab 8 (.pointer (some ⟨b0,off+j*7,none⟩)) hd0 ?_
         refine ab 9 (.agg b.enc.toArray) hd0 ?_ (hy:=Sp (by rfl) 72 (.tmp 42) rfl b0 (off+j*7) rfl b.enc _ (fun w_ h_=>(tT.out w_ h_).2.2) Tryz.underlying72 rfl aV)
         refine dP 10 14 (fun K hK=>?_) (fun K hK=>?_)
         focus
          go_simp
          refine(Lr.out _ hd0).mono ?_
          rintro e_ v1 ⟨y,rfl,ff,hyl,hyu,ar⟩
          have hv1:St w1.heap.size w1 v1:=ak hd0 ar
          have hs1:=ar.size
          have LO:∀ k,y.uses k→k<v1.heap.size:=fun k h=>Ev.uses_lt hyl h
          clear ar
          go_wp2_with fail
          refine goOn hK hv1 ?_
          clear hK
          refine ab 11 (.tuple #[.agg y.enc.toArray,.int .i64 (bS a.c b.c)]) hv1 ?_
          refine ab 12 (.agg y.enc.toArray) hv1 ?_
          refine ab 13 (.int .i64 (bS a.c b.c)) hv1 ?_
          refine aq 14 (fun K hK=>?_)
          go_simp
          have zg:=Ss v1 (.cells zeE 72)
          have ar:St v1.heap.size v1 (v1.alloc (.cells zeE 72)):=(Su _ _).alloc (Sw _) _
          have lg:v1.heap.size<(v1.alloc (.cells zeE 72)).heap.size:=by simp
          generalize v1.alloc (.cells zeE 72)=v2 at *
          obtain⟨g,hg⟩:∃ g,g=v1.heap.size:=⟨_,rfl⟩
          rw [←hg] at zg lg ⊢
          have qg:v1.heap.size≤g∧g≤v1.heap.size:=by omega
          clear hg
          have hv2:St w1.heap.size w1 v2:=ak hv1 ar
          have hs2:=ar.size
          replace hyl:=Ev.keeps _ _ _ ar hyl
          clear ar
          refine goOn hK hv2 ?_
          clear hK
         rotate_left
         focus
          go_simp
          have zg:=Ss v0 (.cells zeE 72)
          have ar:St v0.heap.size v0 (v0.alloc (.cells zeE 72)):=(Su _ _).alloc (Sw _) _
          have lg:v0.heap.size<(v0.alloc (.cells zeE 72)).heap.size:=by simp
          generalize v0.alloc (.cells zeE 72)=v1 at *
          obtain⟨g,hg⟩:∃ g,g=v0.heap.size:=⟨_,rfl⟩
          rw [←hg] at zg lg ⊢
          have qg:v0.heap.size≤g∧g≤v0.heap.size:=by omega
          clear hg
          have hv1:St w1.heap.size w1 v1:=ak hd0 ar
          have hs1:=ar.size
          clear ar
          refine goOn hK hv1 ?_
          clear hK
          refine aq 10 (fun K hK=>?_)
          go_simp
          refine(Lr.out _ hv1).mono ?_
          rintro e_ v2 ⟨y,rfl,ff,hyl,hyu,ar⟩
          have hv2:St w1.heap.size w1 v2:=ak hv1 ar
          have hs2:=ar.size
          have LO:∀ k,y.uses k→k<v2.heap.size:=fun k h=>Ev.uses_lt hyl h
          replace zg:=(ar.block g (by omega)).trans zg
          clear ar
          go_wp2_with fail
          refine goOn hK hv2 ?_
          clear hK
          refine ab 11 (.tuple #[.agg y.enc.toArray,.int .i64 (bS a.c b.c)]) hv2 ?_
          refine ab 12 (.agg y.enc.toArray) hv2 ?_
          refine ab 13 (.int .i64 (bS a.c b.c)) hv2 ?_
         all_goals
          refine aq 15 (fun K hK=>?_)
          rw [if_pos (by rfl)]
          refine wp_store_row 72 (.tmp 8) (.tmp 45) rfl g y.enc.toArray rfl rfl 72 _ zg aV rfl (mL _) ?_
          have hst:St w1.heap.size w1 (v2.setRow g y.enc.toArray):=Sm hv2 (by have:=hd0.size;omega) _
          refine goOn hK hst ?_
          clear hK
          refine ab 16 (.int .i64 (bS a.c b.c)) hst ?_
          refine wpAnyH_done (by kernel_rfl) ?_ _
          have Hg:=hd0.size
          go_wp2_with fail
          go_meet
          exact⟨g,y,rfl,rfl,ff,Ev.frame hyl (by rw [size_setRow];exact Sw _) (fun k h=>aK _ _ _ _ (by have:=LO k h;have:=hyu k h;omega)),(fun k h=>by have:=hyu k h;omega),Sk v2 g _ y.enc.toArray 72 (0,0) zg,by omega,hst⟩
        case rest =>
         obtain⟨g,y,rfl,rfl,ff,hyl,hyu,hyg,hgw,hbc⟩:=hcut
         obtain⟨w2,hw2⟩:∃ x,x=wc:=⟨_,rfl⟩
         subst hw2
         have hs2:=hbc.size
         have y0:=(hbc.block w.heap.size (by omega)).trans Z0.out
         have y1:=(hbc.block (w.heap.size+1) (by omega)).trans Z1.out
         have y2:=(hbc.block (w.heap.size+1+1) (by omega)).trans Z2.out
         have hbw2:=jV.out.trans (hbc.mono (by omega))
         have Fp:=h_ ff
         have Ls:=h_ (fun(h:bS a.c b.c=0) (hc:y.c=og a.c b.c)=>sC nP.out.1 nP.out.2 h hc)
         clear hbc Z0 Z1 Z2 jV tT Lr ff
         generalize bS a.c b.c=JE at *
         by_cases nW:JE=0
         · subst nW
           have ff:=Fp.out (by first|rfl|trivial)
           have FY:=h_ (Ls.out (by first|rfl|trivial) ff)
           have nY:=h_ (HS2.out.trans (if_neg (by intro h;exact h rfl)))
           rw [←ff] at nY
           have F2:=h_ (lj d x.other w2 (aY.out.1.below hbw2 (Sw _)) (Doc.later aY.out.2.1 hbw2) aY.out.2.2)
           have Bs:=h_ (fun(D:Doc) (h:D.c=(br d.c x.other).2) (h0:(br d.c x.other).1=0)=>zL aY.out.2.2 h h0)
           have r0:=ai y0
           have cot:w2.cell? ⟨w.heap.size+1,2,none⟩=some (.int .i64 x.other):=Sn _ _ 2 _ 40 (0,0) y1
           have zj:=h_ aY.out.1
           have Jp:=h_ (SA hyl hyg)
           have Bv:=h_ hbw2
           have Y0:=h_ y0
           have Y2:=h_ y2
           generalize br d.c x.other=rm at *
           obtain⟨re,rc⟩:=rm
           clear Fp Ls HS2 aY nP ff hyl hyg hbw2 y0 y1 y2
           go_wp2_with (refine aj 27 (.tmp 2) rfl w.heap.size 0 rfl d.enc _ r0 Tryz.underlying27 rfl ag (by rfl) ?_)
           refine F2.out.mono ?_
           rintro e w3 ⟨D,rfl,bq,hDl,bP,hb3⟩
           simp only at bq
           have hs3:=hb3.size
           have q0:=(hb3.block w.heap.size (by omega)).trans Y0.out
           have q2:=(hb3.block (w.heap.size+1+1) (by omega)).trans Y2.out
           have qg:=(hb3.block g (aR Jp.out.2)).trans Jp.out.2
           have hyl:=Ev.keeps _ _ _ hb3 Jp.out.1
           have cR:=Bv.out.trans (hb3.mono (by omega))
           clear F2 hb3 Y0 Y2 r0 cot Bv
           go_upto_region 10 with(refine Sj rfl 27 (.tmp 2) (.tmp 56) rfl w.heap.size (D.enc.toArray) rfl rfl 27 _ q0 ag rfl aO ?_)
           have r0:=Sk w3 w.heap.size _ D.enc.toArray 27 (0,0) q0
           have z2:=(aK w3 w.heap.size (w.heap.size+1+1) D.enc.toArray (by omega)).trans q2
           have zg:=(aK w3 w.heap.size g D.enc.toArray (by omega)).trans qg
           have bQ:St w.heap.size w (w3.setRow w.heap.size D.enc.toArray):=Sm cR (Sw _) _
           have vk:D.lies (w3.setRow w.heap.size D.enc.toArray):=Doc.frame hDl (by rw [size_setRow];exact Sw _) (fun k h=>aK _ _ _ _ (by have:=bP k h;omega))
           have Em:y.lies (w3.setRow w.heap.size D.enc.toArray):=Ev.frame hyl (by rw [size_setRow];exact Sw _) (fun k h=>aK _ _ _ _ (by have:=hyu k h;omega))
           have hs4:w3.heap.size≤(w3.setRow w.heap.size D.enc.toArray).heap.size:=by rw [size_setRow];exact Sw _
           generalize w3.setRow w.heap.size D.enc.toArray=w4 at *
           clear hDl hyl qg q0 q2 cR Jp
           by_cases hre:re=0
           · subst hre
             have Io:=h_ (nY.out.trans (if_neg (by intro h;exact h rfl)))
             have AK:=Bs.out D bq (by first|rfl|trivial)
             have HP:=h_ (mF D y w4 (zj.out.below bQ (Sw _)) vk AK Em FY.out)
             rw [bq] at HP
             have rD:=ai r0
             have rg:=ai zg
             have Z2:=h_ z2
             have FO:=h_ bQ
             have Hp:=h_ (fun(r:Int × DocC) (hr:gR d.c x.c=r) (E:Doc) (w':Sl) (h:E.c=r.2∧E.lies w'∧(∀ b,E.uses b→w.heap.size≤b)∧St w.heap.size w w')=>bD.out r hr E w' h)
             clear nY Bs zj FY AK bq vk Em bQ r0 zg z2 bh bD
             generalize putC rc y.c=pq at *
             obtain⟨pe,pc⟩:=pq
             go_wp2_with (first|(refine aj 27 (.tmp 2) rfl w.heap.size 0 rfl D.enc _ rD Tryz.underlying27 rfl ag (by rfl) ?_)|(refine aj 72 (.tmp 8) rfl g 0 rfl y.enc _ rg Tryz.underlying72 rfl aV (by rfl) ?_))
             refine HP.out.mono ?_
             rintro e w5 ⟨E,rfl,K1,hEl,K0,hb5⟩
             simp only at K1
             have hs5:=hb5.size
             have z5:=(hb5.block (w.heap.size+1+1) (by omega)).trans Z2.out
             have bt:=FO.out.trans (hb5.mono (by omega))
             have r9:=Sk w5 (w.heap.size+1+1) _ E.enc.toArray 27 (0,0) z5
             have HF:=h_ (Hp.out (pe,pc) Io.out E (w5.setRow (w.heap.size+1+1) E.enc.toArray) ⟨K1,Doc.frame hEl (by rw [size_setRow];exact Sw _) (fun k h=>aK _ _ _ _ (by have:=K0 k h;omega)),fun k h=>by have:=K0 k h;omega,Sm bt (by omega) _⟩)
             clear HP K1 hEl K0 hb5 bt Io Hp rD rg Z2 FO
             go_wp2_with (refine Sj rfl 27 (.tmp 4) (.tmp 65) rfl (w.heap.size+1+1) (E.enc.toArray) rfl rfl 27 _ z5 ag rfl aO ?_)
             generalize w5.setRow (w.heap.size+1+1) E.enc.toArray=w9 at *
             clear z5
             go_wp2_with fail
             exact aL Tryz.results40 rfl rfl r9 rfl HF.out
           · have Kn:(re != 0)=true:=by simpa using hre
             have Ip:=h_ (nY.out.trans (if_pos hre))
             have HE:=h_ (bh.out (re) Ip.out (w4.setRow (w.heap.size+1+1) zeD) (Sm bQ (by omega) _))
             have z9:=Sk w4 (w.heap.size+1+1) _ zeD 27 (0,0) z2
             clear bh bD nY Ip Bs zj FY bq vk Em bQ r0 zg hre
             go_wp2_with (refine Sj rfl 27 (.tmp 4) (.tmp 60) rfl (w.heap.size+1+1) zeD rfl rfl 27 _ z2 ag rfl aO ?_)
             generalize w4.setRow (w.heap.size+1+1) zeD=w9 at *
             exact aL Tryz.results40 rfl rfl z9 rfl HE.out
         · have N3:(JE != 0)=true:=by simpa using nW
           have nY:=h_ (HS2.out.trans (if_pos nW))
           have HE:=h_ (bh.out (JE) nY.out (w2.setRow (w.heap.size+1+1) zeD) (Sm hbw2 (by omega) _))
           have z9:=Sk w2 (w.heap.size+1+1) _ zeD 27 (0,0) y2
           clear bh HS2 nY Fp Ls aY nP hyl hyg hbw2 y0 y1 nW
           go_wp2_with (refine Sj rfl 27 (.tmp 4) (.tmp 49) rfl (w.heap.size+1+1) zeD rfl rfl 27 _ y2 ag rfl aO ?_)
           generalize w2.setRow (w.heap.size+1+1) zeD=w9 at *
           exact aL Tryz.results40 rfl rfl z9 rfl HE.out
end Go.Proofs.YtjebaagkomejaaaGreatDoor
