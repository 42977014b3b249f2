/- edit.regions: a document with its regions changed. -/
import Derived.Test.YtjebaagkomejaaaGreatDoorH19
set_option linter.unusedVariables false
set_option linter.unusedSimpArgs false
set_option maxRecDepth 100000
set_option maxHeartbeats 12800000
open Go.Lib renaming hid→h_
open List renaming setIfInBounds_toArray→YA,getElem_cons_zero→YB,getElem_cons_succ→YC,getElem_toArray→YD,set_cons_zero→YE,set_cons_succ→YF
open Array renaming toArray_toList→YG
open Go renaming cell_of_row→Sh,wpList_store_row→Si,setRow_heap→Sj,World→Sk,below_setRow→Sl,heap_alloc_last→Sm,wp_region_held_drew→Sn
open Go.RowKit renaming Below→Sp
open Go.RowKit.Below renaming refl→Sq
open Nat renaming le_refl→Sr,le_trans→Ss
open Go.Value renaming string→St,slice→Su,int→Sv
open Go.World renaming frozen?→Sw
open Go.Op renaming bytesLess→Sx
open Option.some renaming inj→Sy
open Go.Value.slice renaming injEq→Sz
open List renaming mem_of_getElem?→SA,length_set→SB
namespace Go.Proofs.YtjebaagkomejaaaGreatDoor
open Go.RowKit
theorem iq (d:Doc)(x:Ed)(w:Sk)(hE:Env w)(hd:d.lies w)(hf:d.fits)(hx:x.fits)(h0:cErr d.c=0):Calls Tryz.prog 45 #[.agg d.enc.toArray,.agg x.enc.toArray] w (aS (fu d.c x.c) w):=by
 have dq:=h_ (fun(w1:Sk) (h:Sp w.heap.size w w1)=>i_ d w1 (Doc.later hd h) hf)
 have yM:=h_ hE
 have bh:=h_ (fun(q:Int) (hq:fu d.c x.c=(q,aV)) (w':Sk) (h:Sp w.heap.size w w')=>(show aS (fu d.c x.c) w (.returned (.tuple #[.agg zeD,.int .i64 q])) w' from by rw [hq];exact aS.zero q h))
 have bF:=h_ (fun(r:Int × DocC) (hr:fu d.c x.c=r) (D:Doc) (w':Sk) (h:D.c=r.2∧D.lies w'∧(∀ b,D.uses b→w.heap.size≤b)∧Sp w.heap.size w w')=>(show aS (fu d.c x.c) w (.returned (.tuple #[.agg D.enc.toArray,.int .i64 r.1])) w' from⟨D,by rw [hr],by rw [hr];exact h.1,h.2.1,h.2.2.1,h.2.2.2⟩))
 have cP:=h_ (fun(d':Doc) (h:d'.c=d.c)=>bp h hf)
 have jt:=h_ (BN d.c x.c)
 have lL:=h_ (iF h0).rG
 have Bu:=h_ hx.2.2.2.2.2.2.1
 have jV:=h_ (vz w d.enc.toArray x.enc.toArray zeD)
 have hb3:∀ o1 o2 o3:Obj,Sp w.heap.size w (((w.alloc o1).alloc o2).alloc o3):=fun o1 o2 o3=>(((Sq _ _).alloc (Sr _) _).alloc (by simp) _).alloc (by simp;try omega) _
 have db:∀ o1 o2 o3:Obj,w.heap.size+3≤(((w.alloc o1).alloc o2).alloc o3).heap.size:=fun o1 o2 o3=>by simp
 generalize hQ:aS (fu d.c x.c) w=Q at *
 clear hd hf hE hx h0
 go_enter Tryz.func45,Tryz.ntmps45
 go_upto_region 1 with fail
 have h0:=jV.out.1
 have h1:=jV.out.2.1
 have h2:=jV.out.2.2
 have hbw:=hb3 (.cells d.enc.toArray 27) (.cells x.enc.toArray 40) (.cells zeD 27)
 have hsz:=db (.cells d.enc.toArray 27) (.cells x.enc.toArray 40) (.cells zeD 27)
 clear jV hb3 db
 generalize ((w.alloc (.cells d.enc.toArray 27)).alloc (.cells x.enc.toArray 40)).alloc (.cells zeD 27)=W0 at *
 have hr0:=ai h0
 have H1:=h_ h1
 have H2:=h_ h2
 have H0:=h_ h0
 have bA:=h_ hbw
 clear h0 h1 h2 hbw
 go_wp2_with (refine aj 27 (.tmp 2) rfl w.heap.size 0 rfl d.enc _ hr0 Tryz.underlying27 rfl ag (by rfl) ?_)
 refine(dq.out W0 bA.out).mono ?_
 rintro e w4 ⟨D,rfl,bo,hDl,bM,hb4,hap,hoe,hoc,hxe,Em,hor,qU⟩
 have hs4:=hb4.size
 have eu:=cP.out D bo
 have bP:Sp w.heap.size w w4:=bA.out.trans (hb4.mono (by omega))
 have z0:=(hb4.block w.heap.size (by omega)).trans H0.out
 have z1:=(hb4.block (w.heap.size+1) (by omega)).trans H1.out
 have z2:=(hb4.block (w.heap.size+1+1) (by omega)).trans H2.out
 obtain⟨n,hn⟩:∃ n,n=W0.heap.size:=⟨_,rfl⟩
 rw [←hn] at bM hor hs4 hsz
 clear dq cP hr0 H0 H1 H2 bA hb4 hap hoe hoc hxe Em hn
 go_upto_region 2 with(refine Si rfl 27 (.tmp 2) (.tmp 13) rfl (w.heap.size) (D.enc.toArray) rfl rfl 27 _ z0 ag rfl aO ?_)
 have hk5:Kept (fun b=>b=w.heap.size) w4 (w4.setRow w.heap.size D.enc.toArray):=bj _ _ _
 have r5:=Sj w4 w.heap.size _ D.enc.toArray 27 (0,0) z0
 generalize w4.setRow w.heap.size D.enc.toArray=w5 at *
 have hs5:=hk5.size
 have hl5:D.lies w5:=Doc.frame hDl hs5 fun b hb=>hk5.block b (Doc.uses_lt hDl hb) (by have:=bM b hb;omega)
 have or5:=aB hor fun b q=>hk5.block b (hor.lt b q).2 (by have:=(hor.lt b q).1;omega)
 have x5:=(hk5.block (w.heap.size+1) (by omega) (by omega)).trans z1
 have y5:=(hk5.block (w.heap.size+1+1) (by omega) (by omega)).trans z2
 have hb5:Sp w.heap.size w w5:=bP.trans (hk5.below (by omega) fun k hk e=>by omega)
 clear hDl z0 z1 z2 hk5 hor bP
 have cop:w5.cell? ⟨w.heap.size+1,0,none⟩=some (.int .u8 x.op):=Sh _ _ 0 _ 40 (0,0) x5
 have cnm:w5.cell? ⟨w.heap.size+1,13,none⟩=some (.string x.name):=Sh _ _ 13 _ 40 (0,0) x5
 have crn:w5.cell? ⟨w.heap.size+1,15,none⟩=some (.string x.reg.name):=Sh _ _ 15 _ 40 (0,0) x5
 have nT:=h_ hl5
 have FY:=h_ or5
 have R5:=h_ r5
 have X5:=h_ x5
 have Y5:=h_ y5
 have iL:=h_ hb5
 clear hl5 or5 r5 x5 y5 hb5
 go_upto_region 3 with fail
 have h6:=Sm w5 (.cells #[St x.reg.name] 9)
 have hb6:Sp w5.heap.size w5 (w5.alloc (.cells #[St x.reg.name] 9)):=(Sq _ _).alloc (Sr _) _
 have hs6:w5.heap.size+1≤(w5.alloc (.cells #[St x.reg.name] 9)).heap.size:=by simp
 generalize w5.alloc (.cells #[St x.reg.name] 9)=w6 at *
 clear crn
 obtain⟨g6,Mm⟩:∃ g,g=w5.heap.size:=⟨_,rfl⟩
 rw [←Mm] at h6 ⊢
 have hgw:w5.heap.size≤g6∧g6≤w5.heap.size:=by omega
 clear Mm
 have jd:=h_ (show mz x.c=if x.op=14 then x.name else x.reg.name from rfl)
 generalize hNM:mz x.c=nm at *
 have cn6:w6.cell? ⟨w.heap.size+1,13,none⟩=some (.string x.name):=(hb6.cell (p:=⟨w.heap.size+1,13,none⟩) (by show w.heap.size+1<_;omega)).trans cnm
 have c60:w6.cell? ⟨g6,0,none⟩=some (.string x.reg.name):=Sh _ _ 0 _ 9 (0,0) h6
 have cop6:w6.cell? ⟨w.heap.size+1,0,none⟩=some (.int .u8 x.op):=(hb6.cell (p:=⟨w.heap.size+1,0,none⟩) (by show w.heap.size+1<_;omega)).trans cop
 have f60:w6.frozen? ⟨g6,0,none⟩=false:=by simp [Sw,h6]
 clear cop
 go_upto_if 19 with fail
 generalize lC:(x.op==14)=Bt at *
 go_cut [] from 20 to 21 (fun wx=>wx.heap[g6]? =some (.cells #[St nm] 9 (0,0))∧Sp w5.heap.size w5 wx∧w5.heap.size+1≤wx.heap.size)
 case first =>
  cases Bt with
  | true =>
    have Lj:x.op=14:=by simpa using lC
    have hnm:=jd.out
    rw [if_pos Lj] at hnm
    have h9:(w6.setCell ⟨g6,0,none⟩ (.string x.name)).heap[g6]? =some (.cells #[St nm] 9 (0,0)):=by
     rw [heap_setCell_same w6 g6 0 _ 9 (.string x.name) h6,hnm];rfl
    have Ox:Sp w5.heap.size w5 (w6.setCell ⟨g6,0,none⟩ (.string x.name)):=hb6.setCell (by show w5.heap.size≤g6;omega) _
    have Ow:w5.heap.size+1≤(w6.setCell ⟨g6,0,none⟩ (.string x.name)).heap.size:=by simpa using hs6
    clear jd h6 hb6 bh bF jt lL nT FY R5 X5 Y5 iL qU hnm lC
    go_wp2_with fail
    go_meet
    exact⟨h9,Ox,Ow⟩
  | false =>
    have Lj:¬ x.op=14:=by simpa using lC
    have hnm:=jd.out
    rw [if_neg Lj] at hnm
    rw [←hnm] at h6
    clear jd bh bF jt lL nT FY R5 X5 Y5 iL qU hnm lC
    go_wp2_with fail
    go_meet
    exact⟨h6,hb6,hs6⟩
 case rest =>
  obtain⟨KK,iP,hs7⟩:=hcut
  obtain⟨w7,hw7⟩:∃ x,x=wc:=⟨_,rfl⟩
  subst hw7
  clear cn6 c60 f60 h6 hb6 hs6 jd cnm lC cop6
  have r7:=(iP.block w.heap.size (by omega)).trans R5.out
  have Mf:=ai r7
  have cn7:w7.cell? ⟨g6,0,none⟩=some (.string nm):=Sh _ _ 0 _ 9 (0,0) KK
  have Dv:=h_ (pT D nm w7 (ah.keeps Flat.keeps _ _ _ _ iP nT.out.1) eu.2.2.2.2.2.2.1)
  have hfn:D.c.rG=D.rG:=rfl
  have EB:d.c.rG=D.rG:=by rw [←bo];rfl
  have Cs:d.c.eV=D.eV.map Ev.c:=by rw [←bo];rfl
  go_wp2_with (refine aj 27 (.tmp 2) rfl w.heap.size 0 rfl D.enc _ Mf Tryz.underlying27 rfl ag (by rfl) ?_)
  refine Dv.out.mono ?_
  rintro e w8 ⟨rfl,gP⟩
  have JC:=gP.size
  have xJ:Sp w5.heap.size w5 w8:=iP.trans (gP.mono (by omega))
  have r8:=(gP.block w.heap.size (by omega)).trans r7
  have n8:=(gP.block g6 (by omega)).trans KK
  have x8:=(xJ.block (w.heap.size+1) (by omega)).trans X5.out
  have z8:=(xJ.block (w.heap.size+1+1) (by omega)).trans Y5.out
  have or8:=aJ FY.out xJ
  have G5:=Doc.later nT.out xJ
  have N5:g6<w8.heap.size:=(Array.getElem?_eq_some_iff.1 n8).1
  have EX:Sp w.heap.size w w8:=iL.out.trans (xJ.mono (by omega))
  have cop8:w8.cell? ⟨w.heap.size+1,0,none⟩=some (.int .u8 x.op):=Sh _ _ 0 _ 40 (0,0) x8
  have creg8:w8.cell? ⟨w.heap.size,5,none⟩=some (.slice D.ra D.rG.length D.rc):=Sh _ _ 5 _ 27 (0,0) r8
  have hlr:(D.rG.length:Int)≤4000000:=by have:=eu.2.2.2.2.2.2.1;omega
  have O9:n≤w8.heap.size:=by omega
  have FD:=h_ (yM.out.below EX (Sr _))
  clear Dv r7 Mf cn7 KK iP hs7 gP X5 Y5 FY nT iL R5 xJ
  have xC:x.c.op=x.op:=rfl
  have hrec:x.c.reg=x.reg:=rfl
  rw [EB] at jt lL
  rw [xC,hrec] at jt
  have R8:=h_ r8
  have X8:=h_ x8
  have Z8:=h_ z8
  have N8:=h_ n8
  have Bw:=h_ or8
  have yv:=h_ G5
  have nL:=h_ EX
  have yJ:=h_ qU
  clear r8 x8 z8 n8 or8 G5 EX qU
  by_cases h12:x.op=12
  · have yp:=h_ (jt.out.trans (if_pos h12))
    have GP:(x.op==12)=true:=by simpa using h12
    clear jt h12
    rcases vA D.rG nm with⟨hp,hnf⟩|⟨i,r,hp,hi,hnf⟩
    · rw [hp]
      rw [hnf] at yp
      have HR2:=h_ (yp.out.trans (if_neg (by simp)))
      clear yp hp hnf
      by_cases h16:16≤D.rG.length
      · have Li:(16:Int)≤(D.rG.length:Int):=by omega
        have Db:=h_ (HR2.out.trans (if_pos h16))
        clear HR2 h16
        have HE:=h_ (bh.out (9) Db.out (w8.setRow (w.heap.size+1+1) zeD) (Sl nL.out (by omega) _))
        have z9:=Sj w8 (w.heap.size+1+1) _ zeD 27 (0,0) Z8.out
        clear bh bF lL Bw yv FD yJ Bu Db
        go_wp2_with (refine Si rfl 27 (.tmp 4) (.tmp 51) rfl (w.heap.size+1+1) zeD rfl rfl 27 _ Z8.out ag rfl aO ?_)
        generalize w8.setRow (w.heap.size+1+1) zeD=w9 at *
        exact aL Tryz.results45 rfl rfl z9 rfl HE.out
      · have Li:¬ (16:Int)≤(D.rG.length:Int):=by omega
        have HR3:=h_ (HR2.out.trans (if_neg h16))
        clear HR2 h16
        have MD:=h_ (show ∀ j,Sx j nm.toList=Sx j nm.toList from fun _=>rfl)
        have LC:=h_ (fun(k:Nat) (wr:Sk) (hb:Sp w8.heap.size w8 wr) (hk:k<D.rG.length)=>ah.at_ (ah.keeps Flat.keeps _ _ _ _ hb yv.out.1) hk)
        go_wp2_with fail
        go_loopw [8] (fun v wr=>∃ k:Nat,k≤D.rG.length∧v=.int .i64 k∧(∀ j r,j<k→D.rG[j]? =some r→dO nm r=true)∧Sp w8.heap.size w8 wr) (fun v _=>D.rG.length-(intOf v).toNat)
        case atStart=>exact⟨0,by omega,rfl,fun j r h=>absurd h (by omega),Sq _ _⟩
        case round =>
         obtain⟨k,hk,rfl,hlo,hbr⟩:=hrel
         have JA:=hbr.size
         have hk0:(0:Int)≤(k:Int):=by omega
         have hd0:Sp w8.heap.size w8 wr.drew:=hbr.drew
         by_cases hlt:k<D.rG.length
         · obtain⟨b0,off,rk,qW,hb0,hxk,hck,_⟩:=LC.out k wr hbr hlt
           have GX:(k:Int)<(D.rG.length:Int):=by omega
           have HV:=h_ (fun(w':Sk) (h:Sp wr.heap.size wr w')=>(show w'.cell? ⟨w.heap.size,5,none⟩=some (.slice (some ⟨b0,off,none⟩) D.rG.length D.rc)∧w'.cell? ⟨b0,off+k*7,none⟩=some (.string rk.name)∧w'.cell? ⟨g6,0,none⟩=some (.string nm) from
            ⟨by rw [←qW];exact Sh _ _ 5 _ 27 (0,0) ((h.block _ (by omega)).trans ((hbr.block _ (by omega)).trans R8.out)),(h.cell (p:=⟨b0,off+k*7,none⟩) hb0).trans (hck 0 _ rfl),Sh _ _ 0 _ 9 (0,0) ((h.block g6 (by omega)).trans ((hbr.block g6 (by omega)).trans N8.out))⟩))
           have gO:=h_ (show dO nm rk=Sx rk.name.toList nm.toList from rfl)
           generalize JK:Sx rk.name.toList nm.toList=LT at *
           have hdw:Sp wr.heap.size wr wr.drew:=(Sq _ _).drew
           go_upto_region 13 with fail
           refine Sn (S:=fun w'=>Sp wr.heap.size wr w') (by kernel_rfl) hdw (fun _=>?_)
           generalize wr.drew=v0 at *
           refine ab 0 (.int .i64 k) hdw ?_
           refine ab 1 (.pointer (some ⟨w.heap.size,5,none⟩)) hdw ?_
           refine ab 2 (.slice (some ⟨b0,off,none⟩) D.rG.length D.rc) hdw ?_ (hy:=.inl ⟨by rfl,fun w_ aH=>by have q_:=HV.out w_ aH;obtain⟨q1,q2,q3⟩:=q_;go_simp⟩)
           refine ab 3 (.int .i64 D.rG.length) hdw ?_
           refine ab 4 (.bool true) hdw ?_
           refine ab 5 (.bool true) hdw ?_
           refine ab 6 (.pointer (some ⟨w.heap.size,5,none⟩)) hdw ?_
           refine ab 7 (.slice (some ⟨b0,off,none⟩) D.rG.length D.rc) hdw ?_ (hy:=.inl ⟨by rfl,fun w_ aH=>by have q_:=HV.out w_ aH;obtain⟨q1,q2,q3⟩:=q_;go_simp⟩)
           refine ab 8 (.int .i64 k) hdw ?_
           refine ab 9 (.pointer (some ⟨b0,off+k*7,none⟩)) hdw ?_
           refine ab 10 (.pointer (some ⟨b0,off+k*7,none⟩)) hdw ?_
           refine ab 11 (.string rk.name) hdw ?_ (hy:=.inl ⟨by rfl,fun w_ aH=>by have q_:=HV.out w_ aH;obtain⟨q1,q2,q3⟩:=q_;go_simp⟩)
           refine ab 12 (.string nm) hdw ?_ (hy:=.inl ⟨by rfl,fun w_ aH=>by have q_:=HV.out w_ aH;obtain⟨q1,q2,q3⟩:=q_;go_simp⟩)
           refine ab 13 (.bool LT) hdw ?_ (hy:=.inl ⟨by rfl,fun w_ aH=>by go_simp;try rw [JK]⟩)
           refine ab 14 (.bool LT) hdw ?_
           refine wpAnyH_done (by kernel_rfl) ?_ _
           have qX:Sp w8.heap.size w8 v0:=hbr.trans (hdw.mono (by omega))
           cases LT with
           | true =>
             have hlo2:∀ j r,j<k+1→D.rG[j]? =some r→dO nm r=true:=fun j r hj hr=>by
              by_cases hjk:j<k
              · exact hlo j r hjk hr
              · obtain rfl:j=k:=by omega
                rw [hxk] at hr
                rw [←Sy hr,gO.out]
             go_wp2_with fail
             go_roundw
             case rel=>exact⟨k+1,by omega,by go_num,hlo2,qX⟩
             case measure=>simp [intOf];omega
           | false =>
             have hhi:∀ r,D.rG[k]? =some r→dO nm r=false:=fun r hr=>by
              rw [hxk] at hr
              rw [←Sy hr,gO.out]
             have hkk:k≤D.rG.length:=hk
             have Pj:=h_ HV.out
             clear HV gO hxk hck qW hb0 hlt GX
             clear hbr JA hdw hd0
             have uD:=qX.size
             have r9:=(qX.block w.heap.size (by omega)).trans R8.out
             have x9:=(qX.block (w.heap.size+1) (by omega)).trans X8.out
             have z9:=(qX.block (w.heap.size+1+1) (by omega)).trans Z8.out
             have c95:v0.cell? ⟨w.heap.size,5,none⟩=some (.slice D.ra D.rG.length D.rc):=Sh _ _ 5 _ 27 (0,0) r9
             have hrx:=nl x9
             have or9:=aJ Bw.out qX
             have nR:=h_ (HR3.out.trans (by rw [vy lL.out hlo hhi]))
             obtain⟨xr,qU⟩:∃ r,r=x.reg:=⟨_,rfl⟩
             rw [←qU] at nR hrx
             have Km:xr.fits:=qU▸Bu.out
             clear HR3 qU hlo hhi
             have nI:=h_ (fun(g:Nat) (W:Sk) (ho:W.ownsRow n 37 7 (.slice D.ra D.rG.length D.rc) D.rG.length (D.rG.flatMap Reg.enc)) hv hg hw=>iO n (.slice D.ra D.rG.length D.rc) D.rG k xr g 1 W ho hv hg hkk (by have:=eu.2.2.2.2.2.2.1;omega) hw)
             obtain⟨rn,rt,rh,rl,rwd,ral,rbt⟩:=xr
             simp only [Reg.enc] at hrx
             go_wp2_with (refine aj 37 (.tmp 76) rfl (w.heap.size+1) 15 rfl _ _ hrx Tryz.underlying37 rfl pI (by rfl) ?_)
             have hal:Sp v0.heap.size v0 (v0.alloc (.cells #[St rn,.int .i64 rt,.int .i64 rh,.int .i64 rl,.int .i64 rwd,.int .u8 ral,.bool rbt] 37)):=(Sq _ _).alloc (Sr _) _
             have GB:=Sm v0 (.cells #[St rn,.int .i64 rt,.int .i64 rh,.int .i64 rl,.int .i64 rwd,.int .u8 ral,.bool rbt] 37)
             have Dn:=or9.alloc (.cells #[St rn,.int .i64 rt,.int .i64 rh,.int .i64 rl,.int .i64 rwd,.int .u8 ral,.bool rbt] 37)
             generalize v0.alloc (.cells #[St rn,.int .i64 rt,.int .i64 rh,.int .i64 rl,.int .i64 rwd,.int .u8 ral,.bool rbt] 37)=W9 at *
             have Et:=hal.size
             refine(nI.out v0.heap.size W9 Dn GB (fun e=>by have:=(or9.lt _ e).2;omega) (by omega)).mono ?_
             rintro e w10 ⟨⟨a,c,rfl,hS,hge,hbn⟩,hgr⟩
             have hown:∀ b,(Su D.ra D.rG.length D.rc).ownBlock=some b→n≤b:=fun b e=>(or9.lt b e).1
             have hk10:Kept (fun b=>(Su D.ra D.rG.length D.rc).ownBlock=some b) v0 w10:=(Kept.of_below hal).trans (Kept.of_grown hgr) fun i hi e=>e
             have Ck:=hk10.size
             have r10:=(hk10.block w.heap.size (by omega) (fun e=>by have:=hown _ e;omega)).trans r9
             have z10:=(hk10.block (w.heap.size+1+1) (by omega) (fun e=>by have:=hown _ e;omega)).trans z9
             have sA:Sp w.heap.size w w10:=(nL.out.trans (qX.mono (by omega))).trans (hk10.below (by omega) fun b hb e=>by have:=hown b e;omega)
             obtain⟨D2,hD2⟩:∃ D2:Doc,D2={ D with ra:=a,rc:=c,rG:=fk D.rG k ⟨rn,rt,rh,rl,rwd,ral,rbt⟩ }:=⟨_,rfl⟩
             have f_:=h_ (fun(w11 W9:Sk) (h1:Kept (fun b=>b=w.heap.size) w10 w11) (h2:Kept (fun b=>b=w.heap.size+1+1) w11 W9)=>(show D2.lies W9∧∀ b,D2.uses b→n≤b from hD2▸pQ (Doc.later yv.out qX) bM yJ.out hS hge hk10 ((h1.mono fun i _ e=>by omega).trans h2 fun i _ e=>by omega)))
             have fZ:=h_ (show D.enc.toArray.setIfInBounds 5 (.slice a (fk D.rG k (⟨rn,rt,rh,rl,rwd,ral,rbt⟩:Reg)).length c)=D2.enc.toArray from by
              rw [hD2];simp [Doc.enc])
             have bq:=h_ (show fu d.c x.c=(0,D2.c) from by
              rw [nR.out,hD2,←bo];rfl)
             have c10:∀ j,w10.cell? ⟨w.heap.size,j,none⟩=_:=fun j=>Sh _ _ j _ 27 (0,0) r10
             have f10:∀ j,w10.frozen? ⟨w.heap.size,j,none⟩=false:=fun j=>by simp [Sw,r10]
             have R10:=h_ r10
             have Z10:=h_ z10
             have tp:=h_ sA
             clear hD2 nR nI hal GB Dn Et or9 hS hge hbn hgr hown hk10 r10 z10 sA r9 x9 z9 c95 hrx qX FD yv Bw yJ nL R8 X8 Z8 N8 LC lL Bu
             go_upto_region 29 with fail
             have b11:=heap_setCell_same w10 w.heap.size 5 _ 27 (.slice a (fk D.rG k (⟨rn,rt,rh,rl,rwd,ral,rbt⟩:Reg)).length c) R10.out
             rw [fZ.out] at b11
             have kb:Kept (fun b=>b=w.heap.size) w10 (w10.setCell ⟨w.heap.size,5,none⟩ (.slice a (fk D.rG k (⟨rn,rt,rh,rl,rwd,ral,rbt⟩:Reg)).length c)):=bH (Kept.refl _ _) 5 _
             generalize w10.setCell ⟨w.heap.size,5,none⟩ (.slice a (fk D.rG k (⟨rn,rt,rh,rl,rwd,ral,rbt⟩:Reg)).length c)=w11 at *
             have Cj:=kb.size
             have z11:=(kb.block (w.heap.size+1+1) (by omega) (by omega)).trans Z10.out
             have eZ:Sp w.heap.size w w11:=tp.out.trans (kb.below (by omega) fun b hb e=>by omega)
             have DF:=h_ (f_.out w11)
             clear c10 f10 R10 Z10 tp fZ f_
             have nN:=ai b11
             have r9:=Sj w11 (w.heap.size+1+1) _ D2.enc.toArray 27 (0,0) z11
             have fh:Kept (fun b=>b=w.heap.size+1+1) w11 (w11.setRow (w.heap.size+1+1) D2.enc.toArray):=bj _ _ _
             have kZ:=h_ (DF.out (w11.setRow (w.heap.size+1+1) D2.enc.toArray) kb fh)
             have pz:=h_ (show Sp w.heap.size w (w11.setRow (w.heap.size+1+1) D2.enc.toArray) from eZ.trans (fh.below (by omega) fun b hb e=>by omega))
             have dz:=h_ bq.out
             clear DF bq
             go_wp2_with (first|(refine aj 27 (.tmp 2) rfl w.heap.size 0 rfl D2.enc _ nN Tryz.underlying27 rfl ag (by rfl) ?_)|(refine Si rfl 27 (.tmp 4) (.tmp 117) rfl (w.heap.size+1+1) (D2.enc.toArray) rfl rfl 27 _ z11 ag rfl aO ?_))
             generalize w11.setRow (w.heap.size+1+1) D2.enc.toArray=w9 at *
             have yq:=h_ (show Q (.returned (.tuple #[.agg D2.enc.toArray,.int .i64 0])) w9 from bF.out _ dz.out D2 w9 ⟨rfl,kZ.out.1,fun b hb=>Ss (by omega) (kZ.out.2 b hb),pz.out⟩)
             clear kZ pz dz bF bh
             exact aL Tryz.results45 rfl rfl r9 rfl yq.out
         · obtain rfl:k=D.rG.length:=by omega
           have NN:¬ ((D.rG.length:Int)<(D.rG.length:Int)):=by omega
           have HV:=h_ (fun(w':Sk) (h:Sp wr.heap.size wr w')=>(show w'.cell? ⟨w.heap.size,5,none⟩=some (.slice D.ra D.rG.length D.rc) from
            Sh _ _ 5 _ 27 (0,0) ((h.block _ (by omega)).trans ((hbr.block _ (by omega)).trans R8.out))))
           have hdw:Sp wr.heap.size wr wr.drew:=(Sq _ _).drew
           go_upto_region 13 with fail
           refine Sn (S:=fun w'=>Sp wr.heap.size wr w') (by kernel_rfl) hdw (fun _=>?_)
           generalize wr.drew=v0 at *
           refine ab 0 (.int .i64 D.rG.length) hdw ?_
           refine ab 1 (.pointer (some ⟨w.heap.size,5,none⟩)) hdw ?_
           refine ab 2 (.slice D.ra D.rG.length D.rc) hdw ?_ (hy:=.inl ⟨by rfl,fun w_ aH=>by have q1:=HV.out w_ aH;go_simp⟩)
           refine ab 3 (.int .i64 D.rG.length) hdw ?_
           refine ab 4 (.bool false) hdw ?_
           refine ab 5 (.bool false) hdw ?_
           refine aw 6 hdw ?_
           refine aw 7 hdw ?_
           refine aw 8 hdw ?_
           refine aw 9 hdw ?_
           refine aw 10 hdw ?_
           refine aw 11 hdw ?_
           refine aw 12 hdw ?_
           refine aw 13 hdw ?_
           refine ab 14 (.bool false) hdw ?_
           refine wpAnyH_done (by kernel_rfl) ?_ _
           have qX:Sp w8.heap.size w8 v0:=hbr.trans (hdw.mono (by omega))
           have hhi:∀ r,D.rG[D.rG.length]? =some r→dO nm r=false:=fun r hr=>by simp at hr
           have hkk:D.rG.length≤D.rG.length:=Sr _
           clear HV hk
           clear hbr JA hdw hd0
           have uD:=qX.size
           have r9:=(qX.block w.heap.size (by omega)).trans R8.out
           have x9:=(qX.block (w.heap.size+1) (by omega)).trans X8.out
           have z9:=(qX.block (w.heap.size+1+1) (by omega)).trans Z8.out
           have c95:v0.cell? ⟨w.heap.size,5,none⟩=some (.slice D.ra D.rG.length D.rc):=Sh _ _ 5 _ 27 (0,0) r9
           have hrx:=nl x9
           have or9:=aJ Bw.out qX
           have nR:=h_ (HR3.out.trans (by rw [vy lL.out hlo hhi]))
           obtain⟨xr,qU⟩:∃ r,r=x.reg:=⟨_,rfl⟩
           rw [←qU] at nR hrx
           have Km:xr.fits:=qU▸Bu.out
           clear HR3 qU hlo hhi
           have nI:=h_ (fun(g:Nat) (W:Sk) (ho:W.ownsRow n 37 7 (.slice D.ra D.rG.length D.rc) D.rG.length (D.rG.flatMap Reg.enc)) hv hg hw=>iO n (.slice D.ra D.rG.length D.rc) D.rG D.rG.length xr g 1 W ho hv hg hkk (by have:=eu.2.2.2.2.2.2.1;omega) hw)
           obtain⟨rn,rt,rh,rl,rwd,ral,rbt⟩:=xr
           simp only [Reg.enc] at hrx
           go_wp2_with (refine aj 37 (.tmp 76) rfl (w.heap.size+1) 15 rfl _ _ hrx Tryz.underlying37 rfl pI (by rfl) ?_)
           have hal:Sp v0.heap.size v0 (v0.alloc (.cells #[St rn,.int .i64 rt,.int .i64 rh,.int .i64 rl,.int .i64 rwd,.int .u8 ral,.bool rbt] 37)):=(Sq _ _).alloc (Sr _) _
           have GB:=Sm v0 (.cells #[St rn,.int .i64 rt,.int .i64 rh,.int .i64 rl,.int .i64 rwd,.int .u8 ral,.bool rbt] 37)
           have Dn:=or9.alloc (.cells #[St rn,.int .i64 rt,.int .i64 rh,.int .i64 rl,.int .i64 rwd,.int .u8 ral,.bool rbt] 37)
           generalize v0.alloc (.cells #[St rn,.int .i64 rt,.int .i64 rh,.int .i64 rl,.int .i64 rwd,.int .u8 ral,.bool rbt] 37)=W9 at *
           have Et:=hal.size
           refine(nI.out v0.heap.size W9 Dn GB (fun e=>by have:=(or9.lt _ e).2;omega) (by omega)).mono ?_
           rintro e w10 ⟨⟨a,c,rfl,hS,hge,hbn⟩,hgr⟩
           have hown:∀ b,(Su D.ra D.rG.length D.rc).ownBlock=some b→n≤b:=fun b e=>(or9.lt b e).1
           have hk10:Kept (fun b=>(Su D.ra D.rG.length D.rc).ownBlock=some b) v0 w10:=(Kept.of_below hal).trans (Kept.of_grown hgr) fun i hi e=>e
           have Ck:=hk10.size
           have r10:=(hk10.block w.heap.size (by omega) (fun e=>by have:=hown _ e;omega)).trans r9
           have z10:=(hk10.block (w.heap.size+1+1) (by omega) (fun e=>by have:=hown _ e;omega)).trans z9
           have sA:Sp w.heap.size w w10:=(nL.out.trans (qX.mono (by omega))).trans (hk10.below (by omega) fun b hb e=>by have:=hown b e;omega)
           obtain⟨D2,hD2⟩:∃ D2:Doc,D2={ D with ra:=a,rc:=c,rG:=fk D.rG D.rG.length ⟨rn,rt,rh,rl,rwd,ral,rbt⟩ }:=⟨_,rfl⟩
           have f_:=h_ (fun(w11 W9:Sk) (h1:Kept (fun b=>b=w.heap.size) w10 w11) (h2:Kept (fun b=>b=w.heap.size+1+1) w11 W9)=>(show D2.lies W9∧∀ b,D2.uses b→n≤b from hD2▸pQ (Doc.later yv.out qX) bM yJ.out hS hge hk10 ((h1.mono fun i _ e=>by omega).trans h2 fun i _ e=>by omega)))
           have fZ:=h_ (show D.enc.toArray.setIfInBounds 5 (.slice a (fk D.rG D.rG.length (⟨rn,rt,rh,rl,rwd,ral,rbt⟩:Reg)).length c)=D2.enc.toArray from by
            rw [hD2];simp [Doc.enc])
           have bq:=h_ (show fu d.c x.c=(0,D2.c) from by
            rw [nR.out,hD2,←bo];rfl)
           have c10:∀ j,w10.cell? ⟨w.heap.size,j,none⟩=_:=fun j=>Sh _ _ j _ 27 (0,0) r10
           have f10:∀ j,w10.frozen? ⟨w.heap.size,j,none⟩=false:=fun j=>by simp [Sw,r10]
           have R10:=h_ r10
           have Z10:=h_ z10
           have tp:=h_ sA
           clear hD2 nR nI hal GB Dn Et or9 hS hge hbn hgr hown hk10 r10 z10 sA r9 x9 z9 c95 hrx qX FD yv Bw yJ nL R8 X8 Z8 N8 LC lL Bu
           go_upto_region 29 with fail
           have b11:=heap_setCell_same w10 w.heap.size 5 _ 27 (.slice a (fk D.rG D.rG.length (⟨rn,rt,rh,rl,rwd,ral,rbt⟩:Reg)).length c) R10.out
           rw [fZ.out] at b11
           have kb:Kept (fun b=>b=w.heap.size) w10 (w10.setCell ⟨w.heap.size,5,none⟩ (.slice a (fk D.rG D.rG.length (⟨rn,rt,rh,rl,rwd,ral,rbt⟩:Reg)).length c)):=bH (Kept.refl _ _) 5 _
           generalize w10.setCell ⟨w.heap.size,5,none⟩ (.slice a (fk D.rG D.rG.length (⟨rn,rt,rh,rl,rwd,ral,rbt⟩:Reg)).length c)=w11 at *
           have Cj:=kb.size
           have z11:=(kb.block (w.heap.size+1+1) (by omega) (by omega)).trans Z10.out
           have eZ:Sp w.heap.size w w11:=tp.out.trans (kb.below (by omega) fun b hb e=>by omega)
           have DF:=h_ (f_.out w11)
           clear c10 f10 R10 Z10 tp fZ f_
           have nN:=ai b11
           have r9:=Sj w11 (w.heap.size+1+1) _ D2.enc.toArray 27 (0,0) z11
           have fh:Kept (fun b=>b=w.heap.size+1+1) w11 (w11.setRow (w.heap.size+1+1) D2.enc.toArray):=bj _ _ _
           have kZ:=h_ (DF.out (w11.setRow (w.heap.size+1+1) D2.enc.toArray) kb fh)
           have pz:=h_ (show Sp w.heap.size w (w11.setRow (w.heap.size+1+1) D2.enc.toArray) from eZ.trans (fh.below (by omega) fun b hb e=>by omega))
           have dz:=h_ bq.out
           clear DF bq
           go_wp2_with (first|(refine aj 27 (.tmp 2) rfl w.heap.size 0 rfl D2.enc _ nN Tryz.underlying27 rfl ag (by rfl) ?_)|(refine Si rfl 27 (.tmp 4) (.tmp 117) rfl (w.heap.size+1+1) (D2.enc.toArray) rfl rfl 27 _ z11 ag rfl aO ?_))
           generalize w11.setRow (w.heap.size+1+1) D2.enc.toArray=w9 at *
           have yq:=h_ (show Q (.returned (.tuple #[.agg D2.enc.toArray,.int .i64 0])) w9 from bF.out _ dz.out D2 w9 ⟨rfl,kZ.out.1,fun b hb=>Ss (by omega) (kZ.out.2 b hb),pz.out⟩)
           clear kZ pz dz bF bh
           exact aL Tryz.results45 rfl rfl r9 rfl yq.out
    · rw [hp]
      rw [hnf] at yp
      have M_:=h_ (yp.out.trans (if_pos rfl))
      have hi0:(0:Int)≤(i:Int):=by omega
      clear yp hp hnf hi
      have HE:=h_ (bh.out (7) M_.out (w8.setRow (w.heap.size+1+1) zeD) (Sl nL.out (by omega) _))
      have z9:=Sj w8 (w.heap.size+1+1) _ zeD 27 (0,0) Z8.out
      clear bh bF lL Bw yv FD yJ Bu M_
      go_wp2_with (refine Si rfl 27 (.tmp 4) (.tmp 40) rfl (w.heap.size+1+1) zeD rfl rfl 27 _ Z8.out ag rfl aO ?_)
      generalize w8.setRow (w.heap.size+1+1) zeD=w9 at *
      exact aL Tryz.results45 rfl rfl z9 rfl HE.out
  · have FW:=h_ (jt.out.trans (if_neg h12))
    have GP:(x.op==12)=false:=by simpa using h12
    clear jt h12
    rcases vA D.rG nm with⟨hp,hnf⟩|⟨i,r,hp,hi,hnf⟩
    · rw [hp]
      rw [hnf] at FW
      have wy:=h_ (FW.out.trans (if_pos rfl))
      clear FW hp hnf
      have HE:=h_ (bh.out (6) wy.out (w8.setRow (w.heap.size+1+1) zeD) (Sl nL.out (by omega) _))
      have z9:=Sj w8 (w.heap.size+1+1) _ zeD 27 (0,0) Z8.out
      clear bh bF lL Bw yv FD yJ Bu wy
      go_wp2_with (refine Si rfl 27 (.tmp 4) (.tmp 84) rfl (w.heap.size+1+1) zeD rfl rfl 27 _ Z8.out ag rfl aO ?_)
      generalize w8.setRow (w.heap.size+1+1) zeD=w9 at *
      exact aL Tryz.results45 rfl rfl z9 rfl HE.out
    · rw [hp]
      rw [hnf] at FW
      have HR2:=h_ (FW.out.trans (if_neg (by simp)))
      have hi0:(0:Int)≤(i:Int):=by omega
      have hil:i<D.rG.length:=(List.getElem?_eq_some_iff.1 hi).1
      have Cl:eH nm r=true:=List.find?_some hnf
      have N1:(i:Int)<(D.rG.length:Int):=by omega
      clear FW hp hnf
      obtain⟨rb,cap,he⟩:=dw Bw.out (by omega)
      have he1:D.ra=some ⟨rb,0,none⟩∧D.rc=cap:=by simp only [Sz] at he;exact⟨he.1,he.2.2⟩
      have hor:=Bw.out
      rw [he] at hor creg8
      have EC:=hor.lt rb rfl
      have hcap:D.rG.length≤cap:=by
       rcases hor.2 with⟨h0,_⟩|⟨g',cap',cur,h0,_,_,hnc,_⟩
       · simp at h0
       · simp only [Sz] at h0
         obtain⟨_,_,rfl⟩:=h0
         exact hnc
      have Dw:=h_ hor
      clear hor Bw
      by_cases AE:x.op=13
      · have GO:(x.op==13)=true:=by simpa using AE
        have HR3:=h_ (show fu d.c x.c=if cd (D.rG.set i x.reg) d.c.eV≠0 then (cd (D.rG.set i x.reg) d.c.eV,aV) else (0,{ d.c with rG:=D.rG.set i x.reg }) from by
         rw [HR2.out,if_pos AE,BM lL.out hi Cl x.reg]
         exact ni _ _ _)
        clear HR2 AE Cl lL hi
        have hrx:=nl X8.out
        have hth:=mi (K:=7) (enc:=Reg.enc) (fun _=>rfl) Dw.out rfl hil
        have hos:=uf (K:=7) (enc:=Reg.enc) (fun _=>rfl) x.reg Dw.out hil
        have hks:Kept (fun b=>b=rb) w8 (w8.setCells rb (i*7) x.reg.enc):=j8 (may:=fun b=>b=rb) rfl _ _ _ (Kept.refl _ _)
        have OD:(x.reg.enc.toArray.all (·.oneCell'))=true:=by simp [Reg.enc,Value.oneCell']
        go_upto_region 20 with(first|(refine aj 37 (.tmp 92) rfl (w.heap.size+1) 15 rfl x.reg.enc _ hrx Tryz.underlying37 rfl pI (by rfl) ?_)|(refine wpList_store_mid rfl 37 (.tmp 94) (.tmp 93) rfl rb (i*7) x.reg.enc.toArray rfl rfl hth pI OD ?_))
        generalize w8.setCells rb (i*7) x.reg.enc=w9 at *
        have uD:=hks.size
        have hln:(D.rG.set i x.reg).length=D.rG.length:=SB ..
        have r9:=(hks.block w.heap.size (by omega) (by omega)).trans R8.out
        have z9:=(hks.block (w.heap.size+1+1) (by omega) (by omega)).trans Z8.out
        have js:Sp w.heap.size w w9:=nL.out.trans (hks.below (by omega) fun b hb e=>by omega)
        have Db:=h_ (yM.out.below js (Sr _))
        obtain⟨D2,hD2⟩:∃ D2:Doc,D2={ D with rG:=D.rG.set i x.reg }:=⟨_,rfl⟩
        have Ez:D2.rG=D.rG.set i x.reg:=by rw [hD2]
        have EO:D2.eV=D.eV:=by rw [hD2]
        have Hb:Kept (fun b=>(Su D.ra D.rG.length D.rc).ownBlock=some b) w8 w9:=hks.mono fun b _ e=>by rw [he,e];rfl
        have My:ah 7 Reg.enc Flat w9 (some ⟨rb,0,none⟩) (D.rG.set i x.reg):=by
         rw [←hln] at hos
         obtain⟨a',c',oa,hS⟩:=aA (k:=7) (enc:=Reg.enc) (Ok:=Flat) (fun _=>rfl) hos (fun _ _=>trivial)
         simp only [Sz] at oa
         rw [oa.1];exact hS
        have wv:=h_ (fun(W9:Sk) (h2:Kept (fun b=>b<n) w9 W9)=>(show D2.lies W9∧∀ b,D2.uses b→n≤b from by
         have hz:=pQ (c:=D.rc) yv.out bM yJ.out My (fun ad e=>by rw [←Sy e];exact EC.1) Hb h2
         rw [←he1.1] at hz
         rw [hD2];exact hz))
        have Cq:=(wv.out w9 (Kept.refl _ _)).1
        have EN:D2.fits:=by
         obtain⟨p1,p2,p3,p4,p5,p6,p7,p8,p9,p10,p11⟩:=eu
         rw [hD2]
         refine⟨p1,p2,p3,p4,p5,fun z hz=>?_,by show(D.rG.set i x.reg).length≤_;rw [hln];exact p7,p8,p9,p10,p11⟩
         rcases List.mem_or_eq_of_mem_set hz with h|h
         · exact p6 z h
         · rw [h];exact Bu.out
        have r9':w9.heap[w.heap.size]? =some (.cells D2.enc.toArray 27 (0,0)):=by
         rw [r9,hD2]
         simp [Doc.enc,hln]
        have Bz:=h_ (fun(k:Nat) (y:Ev) (w1:Sk) (hy:D.eV[k]? =some y) (h:Sp w9.heap.size w9 w1)=>fC y D2.ra D2.rc D2.rG w1 (Db.out.below h (Sr _)) (Ev.keeps _ _ _ h (gu Cq.2.1 (by rw [EO];exact SA hy))) (eu.2.2.2.2.2.2.2.1 y (SA hy)) (ah.keeps Flat.keeps _ _ _ _ h Cq.1) EN.2.2.2.2.2.1 EN.2.2.2.2.2.2.1)
        have hle:(D.eV.length:Int)≤4000000:=by have:=eu.2.2.2.2.2.2.2.2.1;omega
        rw [Cs] at HR3
        have DA:=h_ (show cd (D.rG.set i x.reg) ((D.eV.map Ev.c).drop 0)=cd (D.rG.set i x.reg) (D.eV.map Ev.c) from by rw [List.drop_zero])
        generalize GJ:D.rG.set i x.reg=rs at *
        have LV:=h_ (fun(k:Nat) (y:Ev) (h:D.eV[k]? =some y)=>AJ rs D.eV k y h)
        generalize hG:cd rs (D.eV.map Ev.c)=G at *
        have c96:w9.cell? ⟨w.heap.size,6,none⟩=some (.slice D.ea D.eV.length D.ec):=by
         rw [hD2] at r9'
         exact Sh _ _ 6 _ 27 (0,0) r9'
        have bq:=h_ (fun(h:G=0)=>(show fu d.c x.c=(0,D2.c) from by
         rw [HR3.out,if_neg (fun k=>k h),hD2,←bo];rfl))
        have dY:=h_ (fun(h:G≠0)=>HR3.out.trans (if_pos h))
        have Pk:=h_ Cq
        have R9:=h_ r9'
        have Z9:=h_ z9
        have vq:=h_ js
        have CY:=h_ Ez
        have J3:=h_ (fun(k:Nat) (wr:Sk) (hb:Sp w9.heap.size w9 wr) (hk:k<D.eV.length)=>ah.at_ (dG.later (EO▸Cq.2.1) hb) hk)
        have He:D2.ea=D.ea:=by rw [hD2]
        have KI:D2.ra=D.ra:=by rw [hD2]
        have KE:D2.rc=D.rc:=by rw [hD2]
        have hrl2:D2.rG.length=D.rG.length:=by rw [Ez,←GJ];exact SB ..
        rw [He] at J3
        have c95:w9.cell? ⟨w.heap.size,5,none⟩=some (.slice D2.ra D2.rG.length D2.rc):=Sh _ _ 5 _ 27 (0,0) r9'
        clear Cq r9 r9' z9 js hD2 HR3 My Hb hos hth hrx hks yv yJ Dw FD R8 X8 Z8 nL N8 EN hG GJ Bu cop8 creg8 he he1 KI KE hrl2 Ez EO He hln hcap bo Cs EB eu hfn xC hrec hQ
        go_wp2_with fail
        go_loopw [98] (fun v wr=>∃ k:Nat,k≤D.eV.length∧v=.int .i64 k∧cd rs ((D.eV.map Ev.c).drop k)=G∧Sp w9.heap.size w9 wr) (fun v _=>D.eV.length-(intOf v).toNat)
        case atStart=>exact⟨0,by omega,rfl,DA.out,Sq _ _⟩
        case round =>
         clear DA
         obtain⟨k,hk,rfl,hp,hb⟩:=hrel
         have JA:=hb.size
         have hk0:(0:Int)≤(k:Int):=by omega
         by_cases hlt:k<D.eV.length
         · obtain⟨b0,off,y,qW,hb0,hy,hc,hyl⟩:=J3.out k wr hb hlt
           have Br:wr.rangeAt b0 (off+k*7) y.enc:=hc
           have GX:(k:Int)<(D.eV.length:Int):=by omega
           have OZ:=h_ qW
           have jq:=h_ (hp.symm.trans (LV.out k y hy))
           have gn:=hb.alloc hb.size (.cells y.enc.toArray 72)
           have lQ:=h_ (Bz.out k y _ hy gn)
           rw [CG,CY.out] at lQ
           generalize bT rs y.c=E at *
           have oH:=h_ gn
           have rA:(wr.alloc (.cells y.enc.toArray 72)).heap[w.heap.size]? =some (.cells D2.enc.toArray 27 (0,0)):=(gn.block w.heap.size (by omega)).trans R9.out
           have yA:=Sm wr (.cells y.enc.toArray 72)
           have hsA:wr.heap.size+1≤(wr.alloc (.cells y.enc.toArray 72)).heap.size:=by simp
           obtain⟨yid,yinn,yout,yreg,yk,ysp,yat,ycap,yrows⟩:=y
           simp only [Ev.enc] at Br lQ oH rA yA hsA
           go_upto_region 23 with(first|(refine aj 72 (.tmp 100) rfl b0 (off+k*7) rfl _ _ Br Tryz.underlying72 rfl aX (by rfl) ?_))
           generalize wr.alloc (.cells #[Sv .i64 yid,.int .i64 yinn,.int .i64 yout,.string yreg,.int .u8 yk,.string ysp,.slice yat yrows.length ycap] 72)=wA at *
           have Me:=ai (l:=[Sv .i64 yid,.int .i64 yinn,.int .i64 yout,.string yreg,.int .u8 yk,.string ysp,.slice yat yrows.length ycap]) yA
           have cA:wA.cell? ⟨w.heap.size,5,none⟩=some (.slice D2.ra D2.rG.length D2.rc):=Sh _ _ 5 _ 27 (0,0) rA
           rw [CY.out] at cA
           clear hp hb gn qW hb0 hc hyl Br rA yA
           go_wp2_with (refine aj 72 (.tmp 10) rfl wr.heap.size 0 rfl _ _ Me Tryz.underlying72 rfl aX (by rfl) ?_)
           refine lQ.out.mono ?_
           rintro e w1 ⟨rfl,hb1⟩
           have hs1:=hb1.size
           have hbe:=oH.out.trans (hb1.mono (by omega))
           clear hb1 oH lQ Me cA
           by_cases h0:E=0
           · have hp2:=jq.out
             rw [if_neg (fun h=>h h0)] at hp2
             have Ov:(E != 0)=false:=by simp [h0]
             clear jq h0
             go_wp2_with fail
             go_roundw
             case rel =>
              rw [OZ.out]
              refine⟨_,_,_,_,_,_,_,_,_,_,_,_,_,_,_,_,?_,rfl⟩
              exact⟨k+1,by omega,by go_num,hp2.symm,hbe⟩
             case measure=>simp [intOf];omega
           · have hp2:=jq.out
             rw [if_pos h0] at hp2
             have Ov:(E != 0)=true:=by simpa using h0
             have hEr:=dY.out (by rw [hp2];exact h0)
             rw [hp2] at hEr
             have M9:=h_ hEr
             have z1:=(hbe.block (w.heap.size+1+1) (by omega)).trans Z9.out
             have aK:Sp w.heap.size w w1:=vq.out.trans (hbe.mono (by omega))
             have HE:=h_ (bh.out (E) M9.out (w1.setRow (w.heap.size+1+1) zeD) (Sl aK (by omega) _))
             have z9:=Sj w1 (w.heap.size+1+1) _ zeD 27 (0,0) z1
             clear bh bF dY LV J3 Bz wv bq jq M9 h0 hEr hp2 R9 Z9 vq CY Db hbe aK
             go_wp2_with (refine Si rfl 27 (.tmp 4) (.tmp 108) rfl (w.heap.size+1+1) zeD rfl rfl 27 _ z1 ag rfl aO ?_)
             generalize w1.setRow (w.heap.size+1+1) zeD=w9 at *
             exact aL Tryz.results45 rfl rfl z9 rfl HE.out
         · obtain rfl:k=D.eV.length:=by omega
           rw [List.drop_of_length_le (by simp)] at hp
           have hG0:G=0:=hp.symm
           have hnl:¬ ((D.eV.length:Int)<(D.eV.length:Int)):=by omega
           have tl:=h_ (fun(W9:Sk) (h2:Kept (fun b=>b=w.heap.size+1+1) wr W9)=>wv.out W9 ((Kept.of_below hb).trans h2 fun i _ e=>by omega))
           have b2:=(hb.block w.heap.size (by omega)).trans R9.out
           have b4:=(hb.block (w.heap.size+1+1) (by omega)).trans Z9.out
           have hbb:Sp w.heap.size w wr:=vq.out.trans (hb.mono (by omega))
           have HEq:=h_ (bq.out hG0)
           clear bq dY LV J3 Bz wv hp hb hG0 R9 Z9 vq CY Db
           have nN:=ai b2
           have r9:=Sj wr (w.heap.size+1+1) _ D2.enc.toArray 27 (0,0) b4
           have fh:Kept (fun b=>b=w.heap.size+1+1) wr (wr.setRow (w.heap.size+1+1) D2.enc.toArray):=bj _ _ _
           have kZ:=h_ (tl.out (wr.setRow (w.heap.size+1+1) D2.enc.toArray) fh)
           have pz:=h_ (show Sp w.heap.size w (wr.setRow (w.heap.size+1+1) D2.enc.toArray) from hbb.trans (fh.below (by omega) fun b hb e=>by omega))
           have dz:=h_ HEq.out
           clear tl HEq
           go_wp2_with (first|(refine aj 27 (.tmp 2) rfl w.heap.size 0 rfl D2.enc _ nN Tryz.underlying27 rfl ag (by rfl) ?_)|(refine Si rfl 27 (.tmp 4) (.tmp 117) rfl (w.heap.size+1+1) (D2.enc.toArray) rfl rfl 27 _ b4 ag rfl aO ?_))
           generalize wr.setRow (w.heap.size+1+1) D2.enc.toArray=w9 at *
           have yq:=h_ (show Q (.returned (.tuple #[.agg D2.enc.toArray,.int .i64 0])) w9 from bF.out _ dz.out D2 w9 ⟨rfl,kZ.out.1,fun b hb=>Ss (by omega) (kZ.out.2 b hb),pz.out⟩)
           clear kZ pz dz bF bh
           exact aL Tryz.results45 rfl rfl r9 rfl yq.out
      · have GO:(x.op==13)=false:=by simpa using AE
        have HR3:=h_ (HR2.out.trans (if_neg AE))
        clear HR2 AE
        have c68:w8.cell? ⟨w.heap.size,6,none⟩=some (.slice D.ea D.eV.length D.ec):=Sh _ _ 6 _ 27 (0,0) R8.out
        have GS:w8.cell? ⟨g6,0,none⟩=some (.string nm):=Sh _ _ 0 _ 9 (0,0) N8.out
        have HAS:=h_ (sB D.ea D.ec D.eV g6 nm w8 yv.out.2.1 eu.2.2.2.2.2.2.2.2.1 GS N5)
        have Ju:d.c.eV.any (fun e=>e.region.toList==nm.toList)=D.eV.any (uw nm):=by rw [Cs,List.any_map];rfl
        have HR4:=h_ (show fu d.c x.c=if D.eV.any (uw nm)=true then (17,aV) else (0,{ d.c with rG:=bI D.rG i }) from by
         rw [←Ju,←zt lL.out hi Cl];exact HR3.out)
        generalize D.eV.any (uw nm)=AN at *
        have mg:=h_ he
        have pt:=h_ he1
        have ew:=h_ eu
        have yO:=h_ bo
        clear Ju HR3 Cl lL hi Bu FD he he1 Cs EB eu bo hfn xC hrec
        go_wp2_with fail
        refine HAS.out.mono ?_
        rintro e wa ⟨rfl,js⟩
        have uD:=js.size
        have ra9:=(js.block w.heap.size (by omega)).trans R8.out
        have za:=(js.block (w.heap.size+1+1) (by omega)).trans Z8.out
        have EW:Sp w.heap.size w wa:=nL.out.trans (js.mono (by omega))
        have c95:wa.cell? ⟨w.heap.size,5,none⟩=some (.slice (some ⟨rb,0,none⟩) D.rG.length cap):=(js.cell (p:=⟨w.heap.size,5,none⟩) (by show w.heap.size<_;omega)).trans creg8
        have or9:=aJ Dw.out js
        have Cq:=Doc.later yv.out js
        clear HAS c68 GS creg8 cop8 js Dw yv nL R8 X8 Z8 N8
        cases AN with
        | true =>
          have Jb:=h_ (HR4.out.trans (if_pos rfl))
          clear HR4 or9 Cq c95
          have HE:=h_ (bh.out (17) Jb.out (wa.setRow (w.heap.size+1+1) zeD) (Sl EW (by omega) _))
          have z9:=Sj wa (w.heap.size+1+1) _ zeD 27 (0,0) za
          clear bh bF Jb mg pt ew yO yJ ra9
          go_wp2_with (refine Si rfl 27 (.tmp 4) (.tmp 116) rfl (w.heap.size+1+1) zeD rfl rfl 27 _ za ag rfl aO ?_)
          generalize wa.setRow (w.heap.size+1+1) zeD=w9 at *
          exact aL Tryz.results45 rfl rfl z9 rfl HE.out
        | false =>
          have MQ:=h_ (HR4.out.trans (if_neg (by simp)))
          clear HR4
          have tm:=h_ (sO n rb cap i D.rG wa or9 hil (by omega))
          have hln:(bI D.rG i).length=D.rG.length-1:=jl _ _ hil
          obtain⟨D2,hD2⟩:∃ D2:Doc,D2={ D with ra:=some ⟨rb,0,none⟩,rc:=cap,rG:=bI D.rG i }:=⟨_,rfl⟩
          have fZ:=h_ (show D.enc.toArray.setIfInBounds 5 (.slice (some ⟨rb,0,none⟩) (D.rG.length-1) cap)=D2.enc.toArray from by
           rw [hD2];simp [Doc.enc,hln])
          have bq:=h_ (show fu d.c x.c=(0,D2.c) from by
           rw [MQ.out,hD2,←yO.out];rfl)
          have f_:=h_ (fun(w10 w11 W9:Sk) hS (hk10:Kept (fun b=>b=rb) wa w10) (h1:Kept (fun b=>b=w.heap.size) w10 w11) (h2:Kept (fun b=>b=w.heap.size+1+1) w11 W9)=>(show D2.lies W9∧∀ b,D2.uses b→n≤b from hD2▸pQ (c:=cap) Cq bM yJ.out hS (fun ad e=>by rw [←Sy e];exact EC.1) (hk10.mono fun b _ e=>by rw [mg.out,e];rfl) ((h1.mono fun i _ e=>by omega).trans h2 fun i _ e=>by omega)))
          have R9:=h_ ra9
          have Z9:=h_ za
          have vq:=h_ EW
          have NJ:=EC
          clear MQ hD2 or9 Cq ra9 za EW hln yJ mg pt ew yO
          go_wp2_with fail
          refine tm.out.mono ?_
          rintro e w10 ⟨rfl,hS,hbn,hk10⟩
          have Ck:=hk10.size
          have r10:=(hk10.block w.heap.size (by omega) (by omega)).trans R9.out
          have z10:=(hk10.block (w.heap.size+1+1) (by omega) (by omega)).trans Z9.out
          have sA:Sp w.heap.size w w10:=vq.out.trans (hk10.below (by omega) fun b hb e=>by omega)
          have c10:∀ j,w10.cell? ⟨w.heap.size,j,none⟩=_:=fun j=>Sh _ _ j _ 27 (0,0) r10
          have f10:∀ j,w10.frozen? ⟨w.heap.size,j,none⟩=false:=fun j=>by simp [Sw,r10]
          have R10:=h_ r10
          have Z10:=h_ z10
          have tp:=h_ sA
          have tl:=h_ (fun(w11 W9:Sk)=>f_.out w10 w11 W9 hS hk10)
          clear tm c95 hS hbn hk10 r10 z10 sA R9 Z9 vq f_
          go_upto_region 29 with fail
          have b11:=heap_setCell_same w10 w.heap.size 5 _ 27 (.slice (some ⟨rb,0,none⟩) (D.rG.length-1) cap) R10.out
          rw [fZ.out] at b11
          have kb:Kept (fun b=>b=w.heap.size) w10 (w10.setCell ⟨w.heap.size,5,none⟩ (.slice (some ⟨rb,0,none⟩) (D.rG.length-1) cap)):=bH (Kept.refl _ _) 5 _
          generalize w10.setCell ⟨w.heap.size,5,none⟩ (.slice (some ⟨rb,0,none⟩) (D.rG.length-1) cap)=w11 at *
          have Cj:=kb.size
          have z11:=(kb.block (w.heap.size+1+1) (by omega) (by omega)).trans Z10.out
          have eZ:Sp w.heap.size w w11:=tp.out.trans (kb.below (by omega) fun b hb e=>by omega)
          have DF:=h_ (tl.out w11)
          clear c10 f10 R10 Z10 tp fZ tl
          have nN:=ai b11
          have r9:=Sj w11 (w.heap.size+1+1) _ D2.enc.toArray 27 (0,0) z11
          have fh:Kept (fun b=>b=w.heap.size+1+1) w11 (w11.setRow (w.heap.size+1+1) D2.enc.toArray):=bj _ _ _
          have kZ:=h_ (DF.out (w11.setRow (w.heap.size+1+1) D2.enc.toArray) kb fh)
          have pz:=h_ (show Sp w.heap.size w (w11.setRow (w.heap.size+1+1) D2.enc.toArray) from eZ.trans (fh.below (by omega) fun b hb e=>by omega))
          have dz:=h_ bq.out
          clear DF bq
          go_wp2_with (first|(refine aj 27 (.tmp 2) rfl w.heap.size 0 rfl D2.enc _ nN Tryz.underlying27 rfl ag (by rfl) ?_)|(refine Si rfl 27 (.tmp 4) (.tmp 117) rfl (w.heap.size+1+1) (D2.enc.toArray) rfl rfl 27 _ z11 ag rfl aO ?_))
          generalize w11.setRow (w.heap.size+1+1) D2.enc.toArray=w9 at *
          have yq:=h_ (show Q (.returned (.tuple #[.agg D2.enc.toArray,.int .i64 0])) w9 from bF.out _ dz.out D2 w9 ⟨rfl,kZ.out.1,fun b hb=>Ss (by omega) (kZ.out.2 b hb),pz.out⟩)
          clear kZ pz dz bF bh
          exact aL Tryz.results45 rfl rfl r9 rfl yq.out
end Go.Proofs.YtjebaagkomejaaaGreatDoor
