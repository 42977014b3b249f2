/- edit.regions: a document with its regions changed. -/
import Derived.Test.YtjebaagkomejaaaGreatDoorK27
set_option linter.unusedVariables false
set_option linter.unusedSimpArgs false
set_option maxRecDepth 100000
set_option maxHeartbeats 12800000
open Go.Lib renaming hid→h_
open List renaming setIfInBounds_toArray→YA,getElem_cons_zero→YB,getElem_cons_succ→YC,getElem_toArray→YD,set_cons_zero→YE,set_cons_succ→YF
open Array renaming toArray_toList→YG
open Go renaming cell_of_row→Sj,wpList_store_row→Sk,setRow_heap→Sl,World→Sm,below_setRow→Sn,heap_alloc_last→Sp,wp_region_held_drew→Sq
open Go.RowKit renaming Below→Sr
open Go.RowKit.Below renaming refl→Ss
open Nat renaming le_refl→St,le_trans→Su
open Go.Value renaming string→Sv,slice→Sw,int→Sx
open Go.World renaming frozen?→Sy
open Go.Op renaming bytesLess→Sz
open Option.some renaming inj→SA
open Go.Value.slice renaming injEq→SB
open List renaming mem_of_getElem?→SC,length_set→SD
namespace Go.Proofs.YtjebaagkomejaaaGreatDoor
open Go.RowKit
theorem ib (d:Doc)(x:Ed)(w:Sm)(hE:Env w)(hd:d.lies w)(hf:d.fits)(hx:x.fits)(h0:cErr d.c=0):Calls Tryz.prog 45 #[.agg d.enc.toArray,.agg x.enc.toArray] w (aS (fo d.c x.c) w):=by
 have dA:=h_ (fun(w1:Sm) (h:Sr w.heap.size w w1)=>iU d w1 (Doc.later hd h) hf)
 have zj:=h_ hE
 have bh:=h_ (fun(q:Int) (hq:fo d.c x.c=(q,aU)) (w':Sm) (h:Sr w.heap.size w w')=>(show aS (fo d.c x.c) w (.returned (.tuple #[.agg zeD,.int .i64 q])) w' from by rw [hq];exact aS.zero q h))
 have bD:=h_ (fun(r:Int × DocC) (hr:fo d.c x.c=r) (D:Doc) (w':Sm) (h:D.c=r.2∧D.lies w'∧(∀ b,D.uses b→w.heap.size≤b)∧Sr w.heap.size w w')=>(show aS (fo d.c x.c) w (.returned (.tuple #[.agg D.enc.toArray,.int .i64 r.1])) w' from⟨D,by rw [hr],by rw [hr];exact h.1,h.2.1,h.2.2.1,h.2.2.2⟩))
 have cT:=h_ (fun(d':Doc) (h:d'.c=d.c)=>bn h hf)
 have js:=h_ (BQ d.c x.c)
 have lI:=h_ (iy h0).rG
 have Bx:=h_ hx.2.2.2.2.2.2.1
 have jX:=h_ (vZ w d.enc.toArray x.enc.toArray zeD)
 have hb3:∀ o1 o2 o3:Obj,Sr w.heap.size w (((w.alloc o1).alloc o2).alloc o3):=fun o1 o2 o3=>(((Ss _ _).alloc (St _) _).alloc (by simp) _).alloc (by simp;try omega) _
 have dv:∀ o1 o2 o3:Obj,w.heap.size+3≤(((w.alloc o1).alloc o2).alloc o3).heap.size:=fun o1 o2 o3=>by simp
 generalize hQ:aS (fo d.c x.c) w=Q at *
 clear hd hf hE hx h0
 go_enter Tryz.func45,Tryz.ntmps45
 go_upto_region 1 with fail
 have h0:=jX.out.1
 have h1:=jX.out.2.1
 have h2:=jX.out.2.2
 have hbw:=hb3 (.cells d.enc.toArray 27) (.cells x.enc.toArray 40) (.cells zeD 27)
 have hsz:=dv (.cells d.enc.toArray 27) (.cells x.enc.toArray 40) (.cells zeD 27)
 clear jX hb3 dv
 generalize ((w.alloc (.cells d.enc.toArray 27)).alloc (.cells x.enc.toArray 40)).alloc (.cells zeD 27)=W0 at *
 have hr0:=ai h0
 have H1:=h_ h1
 have H2:=h_ h2
 have H0:=h_ h0
 have bE:=h_ hbw
 clear h0 h1 h2 hbw
 go_wp2_with (refine aj 27 (.tmp 2) rfl w.heap.size 0 rfl d.enc _ hr0 Tryz.underlying27 rfl ag (by rfl) ?_)
 refine(dA.out W0 bE.out).mono ?_
 rintro e w4 ⟨D,rfl,bq,hDl,bP,hb4,hap,hoe,hoc,hxe,Am,hor,rH⟩
 have hs4:=hb4.size
 have eo:=cT.out D bq
 have bQ:Sr w.heap.size w w4:=bE.out.trans (hb4.mono (by omega))
 have z0:=(hb4.block w.heap.size (by omega)).trans H0.out
 have z1:=(hb4.block (w.heap.size+1) (by omega)).trans H1.out
 have z2:=(hb4.block (w.heap.size+1+1) (by omega)).trans H2.out
 obtain⟨n,hn⟩:∃ n,n=W0.heap.size:=⟨_,rfl⟩
 rw [←hn] at bP hor hs4 hsz
 clear dA cT hr0 H0 H1 H2 bE hb4 hap hoe hoc hxe Am hn
 go_upto_region 2 with(refine Sk rfl 27 (.tmp 2) (.tmp 13) rfl (w.heap.size) (D.enc.toArray) rfl rfl 27 _ z0 ag rfl aO ?_)
 have hk5:Kept (fun b=>b=w.heap.size) w4 (w4.setRow w.heap.size D.enc.toArray):=bj _ _ _
 have r5:=Sl w4 w.heap.size _ D.enc.toArray 27 (0,0) z0
 generalize w4.setRow w.heap.size D.enc.toArray=w5 at *
 have hs5:=hk5.size
 have hl5:D.lies w5:=Doc.frame hDl hs5 fun b hb=>hk5.block b (Doc.uses_lt hDl hb) (by have:=bP b hb;omega)
 have or5:=aB hor fun b q=>hk5.block b (hor.lt b q).2 (by have:=(hor.lt b q).1;omega)
 have x5:=(hk5.block (w.heap.size+1) (by omega) (by omega)).trans z1
 have y5:=(hk5.block (w.heap.size+1+1) (by omega) (by omega)).trans z2
 have hb5:Sr w.heap.size w w5:=bQ.trans (hk5.below (by omega) fun k hk e=>by omega)
 clear hDl z0 z1 z2 hk5 hor bQ
 have cop:w5.cell? ⟨w.heap.size+1,0,none⟩=some (.int .u8 x.op):=Sj _ _ 0 _ 40 (0,0) x5
 have cnm:w5.cell? ⟨w.heap.size+1,13,none⟩=some (.string x.name):=Sj _ _ 13 _ 40 (0,0) x5
 have crn:w5.cell? ⟨w.heap.size+1,15,none⟩=some (.string x.reg.name):=Sj _ _ 15 _ 40 (0,0) x5
 have n_:=h_ hl5
 have F4:=h_ or5
 have R5:=h_ r5
 have X5:=h_ x5
 have Y5:=h_ y5
 have iG:=h_ hb5
 clear hl5 or5 r5 x5 y5 hb5
 go_upto_region 3 with fail
 have h6:=Sp w5 (.cells #[Sv x.reg.name] 9)
 have hb6:Sr w5.heap.size w5 (w5.alloc (.cells #[Sv x.reg.name] 9)):=(Ss _ _).alloc (St _) _
 have hs6:w5.heap.size+1≤(w5.alloc (.cells #[Sv x.reg.name] 9)).heap.size:=by simp
 generalize w5.alloc (.cells #[Sv x.reg.name] 9)=w6 at *
 clear crn
 obtain⟨g6,KJ⟩:∃ g,g=w5.heap.size:=⟨_,rfl⟩
 rw [←KJ] at h6 ⊢
 have hgw:w5.heap.size≤g6∧g6≤w5.heap.size:=by omega
 clear KJ
 have i_:=h_ (show mz x.c=if x.op=14 then x.name else x.reg.name from rfl)
 generalize hNM:mz x.c=nm at *
 have cn6:w6.cell? ⟨w.heap.size+1,13,none⟩=some (.string x.name):=(hb6.cell (p:=⟨w.heap.size+1,13,none⟩) (by show w.heap.size+1<_;omega)).trans cnm
 have c60:w6.cell? ⟨g6,0,none⟩=some (.string x.reg.name):=Sj _ _ 0 _ 9 (0,0) h6
 have cop6:w6.cell? ⟨w.heap.size+1,0,none⟩=some (.int .u8 x.op):=(hb6.cell (p:=⟨w.heap.size+1,0,none⟩) (by show w.heap.size+1<_;omega)).trans cop
 have f60:w6.frozen? ⟨g6,0,none⟩=false:=by simp [Sy,h6]
 clear cop
 go_upto_if 19 with fail
 generalize lz:(x.op==14)=Bt at *
 go_cut [] from 20 to 21 (fun wx=>wx.heap[g6]? =some (.cells #[Sv nm] 9 (0,0))∧Sr w5.heap.size w5 wx∧w5.heap.size+1≤wx.heap.size)
 case first =>
  cases Bt with
  | true =>
    have K5:x.op=14:=by simpa using lz
    have hnm:=i_.out
    rw [if_pos K5] at hnm
    have h9:(w6.setCell ⟨g6,0,none⟩ (.string x.name)).heap[g6]? =some (.cells #[Sv nm] 9 (0,0)):=by
     rw [heap_setCell_same w6 g6 0 _ 9 (.string x.name) h6,hnm];rfl
    have OC:Sr w5.heap.size w5 (w6.setCell ⟨g6,0,none⟩ (.string x.name)):=hb6.setCell (by show w5.heap.size≤g6;omega) _
    have OB:w5.heap.size+1≤(w6.setCell ⟨g6,0,none⟩ (.string x.name)).heap.size:=by simpa using hs6
    clear i_ h6 hb6 bh bD js lI n_ F4 R5 X5 Y5 iG rH hnm lz
    go_wp2_with fail
    go_meet
    exact⟨h9,OC,OB⟩
  | false =>
    have K5:¬ x.op=14:=by simpa using lz
    have hnm:=i_.out
    rw [if_neg K5] at hnm
    rw [←hnm] at h6
    clear i_ bh bD js lI n_ F4 R5 X5 Y5 iG rH hnm lz
    go_wp2_with fail
    go_meet
    exact⟨h6,hb6,hs6⟩
 case rest =>
  obtain⟨Kv,jr,hs7⟩:=hcut
  obtain⟨w7,hw7⟩:∃ x,x=wc:=⟨_,rfl⟩
  subst hw7
  clear cn6 c60 f60 h6 hb6 hs6 i_ cnm lz cop6
  have r7:=(jr.block w.heap.size (by omega)).trans R5.out
  have L4:=ai r7
  have cn7:w7.cell? ⟨g6,0,none⟩=some (.string nm):=Sj _ _ 0 _ 9 (0,0) Kv
  have Dt:=h_ (qj D nm w7 (ah.keeps Flat.keeps _ _ _ _ jr n_.out.1) eo.2.2.2.2.2.2.1)
  have hfn:D.c.rG=D.rG:=rfl
  have EG:d.c.rG=D.rG:=by rw [←bq];rfl
  have Cv:d.c.eV=D.eV.map Ev.c:=by rw [←bq];rfl
  go_wp2_with (refine aj 27 (.tmp 2) rfl w.heap.size 0 rfl D.enc _ L4 Tryz.underlying27 rfl ag (by rfl) ?_)
  refine Dt.out.mono ?_
  rintro e w8 ⟨rfl,iF⟩
  have Ki:=iF.size
  have yf:Sr w5.heap.size w5 w8:=jr.trans (iF.mono (by omega))
  have r8:=(iF.block w.heap.size (by omega)).trans r7
  have n8:=(iF.block g6 (by omega)).trans Kv
  have x8:=(yf.block (w.heap.size+1) (by omega)).trans X5.out
  have z8:=(yf.block (w.heap.size+1+1) (by omega)).trans Y5.out
  have or8:=aI F4.out yf
  have G3:=Doc.later n_.out yf
  have N9:g6<w8.heap.size:=(Array.getElem?_eq_some_iff.1 n8).1
  have E1:Sr w.heap.size w w8:=iG.out.trans (yf.mono (by omega))
  have cop8:w8.cell? ⟨w.heap.size+1,0,none⟩=some (.int .u8 x.op):=Sj _ _ 0 _ 40 (0,0) x8
  have creg8:w8.cell? ⟨w.heap.size,5,none⟩=some (.slice D.ra D.rG.length D.rc):=Sj _ _ 5 _ 27 (0,0) r8
  have hlr:(D.rG.length:Int)≤4000000:=by have:=eo.2.2.2.2.2.2.1;omega
  have Pf:n≤w8.heap.size:=by omega
  have FK:=h_ (zj.out.below E1 (St _))
  clear Dt r7 L4 cn7 Kv jr hs7 iF X5 Y5 F4 n_ iG R5 yf
  have xZ:x.c.op=x.op:=rfl
  have hrec:x.c.reg=x.reg:=rfl
  rw [EG] at js lI
  rw [xZ,hrec] at js
  have R8:=h_ r8
  have X8:=h_ x8
  have Z8:=h_ z8
  have N8:=h_ n8
  have Bz:=h_ or8
  have yR:=h_ G3
  have nR:=h_ E1
  have yZ:=h_ rH
  clear r8 x8 z8 n8 or8 G3 E1 rH
  by_cases h12:x.op=12
  · have yP:=h_ (js.out.trans (if_pos h12))
    have GU:(x.op==12)=true:=by simpa using h12
    clear js h12
    rcases v_ D.rG nm with⟨hp,hnf⟩|⟨i,r,hp,hi,hnf⟩
    · rw [hp]
      rw [hnf] at yP
      have HR2:=h_ (yP.out.trans (if_neg (by simp)))
      clear yP hp hnf
      by_cases h16:16≤D.rG.length
      · have K4:(16:Int)≤(D.rG.length:Int):=by omega
        have C_:=h_ (HR2.out.trans (if_pos h16))
        clear HR2 h16
        have HE:=h_ (bh.out (9) C_.out (w8.setRow (w.heap.size+1+1) zeD) (Sn nR.out (by omega) _))
        have z9:=Sl w8 (w.heap.size+1+1) _ zeD 27 (0,0) Z8.out
        clear bh bD lI Bz yR FK yZ Bx C_
        go_wp2_with (refine Sk rfl 27 (.tmp 4) (.tmp 51) rfl (w.heap.size+1+1) zeD rfl rfl 27 _ Z8.out ag rfl aO ?_)
        generalize w8.setRow (w.heap.size+1+1) zeD=w9 at *
        exact aL Tryz.results45 rfl rfl z9 rfl HE.out
      · have K4:¬ (16:Int)≤(D.rG.length:Int):=by omega
        have HR3:=h_ (HR2.out.trans (if_neg h16))
        clear HR2 h16
        have Mq:=h_ (show ∀ j,Sz j nm.toList=Sz j nm.toList from fun _=>rfl)
        have F6:=h_ (fun(k:Nat) (wr:Sm) (hb:Sr w8.heap.size w8 wr) (hk:k<D.rG.length)=>ah.at_ (ah.keeps Flat.keeps _ _ _ _ hb yR.out.1) hk)
        go_wp2_with fail
        go_loopw [8] (fun v wr=>∃ k:Nat,k≤D.rG.length∧v=.int .i64 k∧(∀ j r,j<k→D.rG[j]? =some r→dM nm r=true)∧Sr w8.heap.size w8 wr) (fun v _=>D.rG.length-(intOf v).toNat)
        case atStart=>exact⟨0,by omega,rfl,fun j r h=>absurd h (by omega),Ss _ _⟩
        case round =>
         obtain⟨k,hk,rfl,hlo,hbr⟩:=hrel
         have Jh:=hbr.size
         have hk0:(0:Int)≤(k:Int):=by omega
         have hd0:Sr w8.heap.size w8 wr.drew:=hbr.drew
         by_cases hlt:k<D.rG.length
         · obtain⟨b0,off,rk,vi,hb0,hxk,hck,_⟩:=F6.out k wr hbr hlt
           have GX:(k:Int)<(D.rG.length:Int):=by omega
           have HV:=h_ (fun(w':Sm) (h:Sr wr.heap.size wr w')=>(show w'.cell? ⟨w.heap.size,5,none⟩=some (.slice (some ⟨b0,off,none⟩) D.rG.length D.rc)∧w'.cell? ⟨b0,off+k*7,none⟩=some (.string rk.name)∧w'.cell? ⟨g6,0,none⟩=some (.string nm) from
            ⟨by rw [←vi];exact Sj _ _ 5 _ 27 (0,0) ((h.block _ (by omega)).trans ((hbr.block _ (by omega)).trans R8.out)),(h.cell (p:=⟨b0,off+k*7,none⟩) hb0).trans (hck 0 _ rfl),Sj _ _ 0 _ 9 (0,0) ((h.block g6 (by omega)).trans ((hbr.block g6 (by omega)).trans N8.out))⟩))
           have gG:=h_ (show dM nm rk=Sz rk.name.toList nm.toList from rfl)
           generalize Jo:Sz rk.name.toList nm.toList=LT at *
           have hdw:Sr wr.heap.size wr wr.drew:=(Ss _ _).drew
           go_upto_region 13 with fail
           refine Sq (S:=fun w'=>Sr wr.heap.size wr w') (by kernel_rfl) hdw (fun _=>?_)
           generalize wr.drew=v0 at *
           refine ab 0 (.int .i64 k) hdw ?_
           refine ab 1 (.pointer (some ⟨w.heap.size,5,none⟩)) hdw ?_
           refine ab 2 (.slice (some ⟨b0,off,none⟩) D.rG.length D.rc) hdw ?_ (hy:=.inl ⟨by rfl,fun w_ aH=>by have q_:=HV.out w_ aH;obtain⟨q1,q2,q3⟩:=q_;go_simp⟩)
           refine ab 3 (.int .i64 D.rG.length) hdw ?_
           refine ab 4 (.bool true) hdw ?_
           refine ab 5 (.bool true) hdw ?_
           refine ab 6 (.pointer (some ⟨w.heap.size,5,none⟩)) hdw ?_
           refine ab 7 (.slice (some ⟨b0,off,none⟩) D.rG.length D.rc) hdw ?_ (hy:=.inl ⟨by rfl,fun w_ aH=>by have q_:=HV.out w_ aH;obtain⟨q1,q2,q3⟩:=q_;go_simp⟩)
           refine ab 8 (.int .i64 k) hdw ?_
           refine ab 9 (.pointer (some ⟨b0,off+k*7,none⟩)) hdw ?_
           refine ab 10 (.pointer (some ⟨b0,off+k*7,none⟩)) hdw ?_
           refine ab 11 (.string rk.name) hdw ?_ (hy:=.inl ⟨by rfl,fun w_ aH=>by have q_:=HV.out w_ aH;obtain⟨q1,q2,q3⟩:=q_;go_simp⟩)
           refine ab 12 (.string nm) hdw ?_ (hy:=.inl ⟨by rfl,fun w_ aH=>by have q_:=HV.out w_ aH;obtain⟨q1,q2,q3⟩:=q_;go_simp⟩)
           refine ab 13 (.bool LT) hdw ?_ (hy:=.inl ⟨by rfl,fun w_ aH=>by go_simp;try rw [Jo]⟩)
           refine ab 14 (.bool LT) hdw ?_
           refine wpAnyH_done (by kernel_rfl) ?_ _
           have rJ:Sr w8.heap.size w8 v0:=hbr.trans (hdw.mono (by omega))
           cases LT with
           | true =>
             have hlo2:∀ j r,j<k+1→D.rG[j]? =some r→dM nm r=true:=fun j r hj hr=>by
              by_cases hjk:j<k
              · exact hlo j r hjk hr
              · obtain rfl:j=k:=by omega
                rw [hxk] at hr
                rw [←SA hr,gG.out]
             go_wp2_with fail
             go_roundw
             case rel=>exact⟨k+1,by omega,by go_num,hlo2,rJ⟩
             case measure=>simp [intOf];omega
           | false =>
             have hhi:∀ r,D.rG[k]? =some r→dM nm r=false:=fun r hr=>by
              rw [hxk] at hr
              rw [←SA hr,gG.out]
             have hkk:k≤D.rG.length:=hk
             have Pr:=h_ HV.out
             clear HV gG hxk hck vi hb0 hlt GX
             clear hbr Jh hdw hd0
             have vd:=rJ.size
             have r9:=(rJ.block w.heap.size (by omega)).trans R8.out
             have x9:=(rJ.block (w.heap.size+1) (by omega)).trans X8.out
             have z9:=(rJ.block (w.heap.size+1+1) (by omega)).trans Z8.out
             have c95:v0.cell? ⟨w.heap.size,5,none⟩=some (.slice D.ra D.rG.length D.rc):=Sj _ _ 5 _ 27 (0,0) r9
             have hrx:=nv x9
             have or9:=aI Bz.out rJ
             have nZ:=h_ (HR3.out.trans (by rw [vY lI.out hlo hhi]))
             obtain⟨xr,rH⟩:∃ r,r=x.reg:=⟨_,rfl⟩
             rw [←rH] at nZ hrx
             have J3:xr.fits:=rH▸Bx.out
             clear HR3 rH hlo hhi
             have nO:=h_ (fun(g:Nat) (W:Sm) (ho:W.ownsRow n 37 7 (.slice D.ra D.rG.length D.rc) D.rG.length (D.rG.flatMap Reg.enc)) hv hg hw=>iE n (.slice D.ra D.rG.length D.rc) D.rG k xr g 1 W ho hv hg hkk (by have:=eo.2.2.2.2.2.2.1;omega) hw)
             obtain⟨rn,rt,rh,rl,rwd,ral,rbt⟩:=xr
             simp only [Reg.enc] at hrx
             go_wp2_with (refine aj 37 (.tmp 76) rfl (w.heap.size+1) 15 rfl _ _ hrx Tryz.underlying37 rfl pS (by rfl) ?_)
             have hal:Sr v0.heap.size v0 (v0.alloc (.cells #[Sv rn,.int .i64 rt,.int .i64 rh,.int .i64 rl,.int .i64 rwd,.int .u8 ral,.bool rbt] 37)):=(Ss _ _).alloc (St _) _
             have GG:=Sp v0 (.cells #[Sv rn,.int .i64 rt,.int .i64 rh,.int .i64 rl,.int .i64 rwd,.int .u8 ral,.bool rbt] 37)
             have Dj:=or9.alloc (.cells #[Sv rn,.int .i64 rt,.int .i64 rh,.int .i64 rl,.int .i64 rwd,.int .u8 ral,.bool rbt] 37)
             generalize v0.alloc (.cells #[Sv rn,.int .i64 rt,.int .i64 rh,.int .i64 rl,.int .i64 rwd,.int .u8 ral,.bool rbt] 37)=W9 at *
             have Ex:=hal.size
             refine(nO.out v0.heap.size W9 Dj GG (fun e=>by have:=(or9.lt _ e).2;omega) (by omega)).mono ?_
             rintro e w10 ⟨⟨a,c,rfl,hS,hge,hbn⟩,hgr⟩
             have hown:∀ b,(Sw D.ra D.rG.length D.rc).ownBlock=some b→n≤b:=fun b e=>(or9.lt b e).1
             have hk10:Kept (fun b=>(Sw D.ra D.rG.length D.rc).ownBlock=some b) v0 w10:=(Kept.of_below hal).trans (Kept.of_grown hgr) fun i hi e=>e
             have Cn:=hk10.size
             have r10:=(hk10.block w.heap.size (by omega) (fun e=>by have:=hown _ e;omega)).trans r9
             have z10:=(hk10.block (w.heap.size+1+1) (by omega) (fun e=>by have:=hown _ e;omega)).trans z9
             have jQ:Sr w.heap.size w w10:=(nR.out.trans (rJ.mono (by omega))).trans (hk10.below (by omega) fun b hb e=>by have:=hown b e;omega)
             obtain⟨D2,hD2⟩:∃ D2:Doc,D2={ D with ra:=a,rc:=c,rG:=fc D.rG k ⟨rn,rt,rh,rl,rwd,ral,rbt⟩ }:=⟨_,rfl⟩
             have fR:=h_ (fun(w11 W9:Sm) (h1:Kept (fun b=>b=w.heap.size) w10 w11) (h2:Kept (fun b=>b=w.heap.size+1+1) w11 W9)=>(show D2.lies W9∧∀ b,D2.uses b→n≤b from hD2▸qd (Doc.later yR.out rJ) bP yZ.out hS hge hk10 ((h1.mono fun i _ e=>by omega).trans h2 fun i _ e=>by omega)))
             have fP:=h_ (show D.enc.toArray.setIfInBounds 5 (.slice a (fc D.rG k (⟨rn,rt,rh,rl,rwd,ral,rbt⟩:Reg)).length c)=D2.enc.toArray from by
              rw [hD2];simp [Doc.enc])
             have bo:=h_ (show fo d.c x.c=(0,D2.c) from by
              rw [nZ.out,hD2,←bq];rfl)
             have c10:∀ j,w10.cell? ⟨w.heap.size,j,none⟩=_:=fun j=>Sj _ _ j _ 27 (0,0) r10
             have f10:∀ j,w10.frozen? ⟨w.heap.size,j,none⟩=false:=fun j=>by simp [Sy,r10]
             have R10:=h_ r10
             have Z10:=h_ z10
             have nT:=h_ jQ
             clear hD2 nZ nO hal GG Dj Ex or9 hS hge hbn hgr hown hk10 r10 z10 jQ r9 x9 z9 c95 hrx rJ FK yR Bz yZ nR R8 X8 Z8 N8 F6 lI Bx
             go_upto_region 29 with fail
             have b11:=heap_setCell_same w10 w.heap.size 5 _ 27 (.slice a (fc D.rG k (⟨rn,rt,rh,rl,rwd,ral,rbt⟩:Reg)).length c) R10.out
             rw [fP.out] at b11
             have kb:Kept (fun b=>b=w.heap.size) w10 (w10.setCell ⟨w.heap.size,5,none⟩ (.slice a (fc D.rG k (⟨rn,rt,rh,rl,rwd,ral,rbt⟩:Reg)).length c)):=bG (Kept.refl _ _) 5 _
             generalize w10.setCell ⟨w.heap.size,5,none⟩ (.slice a (fc D.rG k (⟨rn,rt,rh,rl,rwd,ral,rbt⟩:Reg)).length c)=w11 at *
             have EA:=kb.size
             have z11:=(kb.block (w.heap.size+1+1) (by omega) (by omega)).trans Z10.out
             have kN:Sr w.heap.size w w11:=nT.out.trans (kb.below (by omega) fun b hb e=>by omega)
             have DH:=h_ (fR.out w11)
             clear c10 f10 R10 Z10 nT fP fR
             have nV:=ai b11
             have r9:=Sl w11 (w.heap.size+1+1) _ D2.enc.toArray 27 (0,0) z11
             have eX:Kept (fun b=>b=w.heap.size+1+1) w11 (w11.setRow (w.heap.size+1+1) D2.enc.toArray):=bj _ _ _
             have kW:=h_ (DH.out (w11.setRow (w.heap.size+1+1) D2.enc.toArray) kb eX)
             have kX:=h_ (show Sr w.heap.size w (w11.setRow (w.heap.size+1+1) D2.enc.toArray) from kN.trans (eX.below (by omega) fun b hb e=>by omega))
             have dz:=h_ bo.out
             clear DH bo
             go_wp2_with (first|(refine aj 27 (.tmp 2) rfl w.heap.size 0 rfl D2.enc _ nV Tryz.underlying27 rfl ag (by rfl) ?_)|(refine Sk rfl 27 (.tmp 4) (.tmp 117) rfl (w.heap.size+1+1) (D2.enc.toArray) rfl rfl 27 _ z11 ag rfl aO ?_))
             generalize w11.setRow (w.heap.size+1+1) D2.enc.toArray=w9 at *
             have yQ:=h_ (show Q (.returned (.tuple #[.agg D2.enc.toArray,.int .i64 0])) w9 from bD.out _ dz.out D2 w9 ⟨rfl,kW.out.1,fun b hb=>Su (by omega) (kW.out.2 b hb),kX.out⟩)
             clear kW kX dz bD bh
             exact aL Tryz.results45 rfl rfl r9 rfl yQ.out
         · obtain rfl:k=D.rG.length:=by omega
           have NN:¬ ((D.rG.length:Int)<(D.rG.length:Int)):=by omega
           have HV:=h_ (fun(w':Sm) (h:Sr wr.heap.size wr w')=>(show w'.cell? ⟨w.heap.size,5,none⟩=some (.slice D.ra D.rG.length D.rc) from
            Sj _ _ 5 _ 27 (0,0) ((h.block _ (by omega)).trans ((hbr.block _ (by omega)).trans R8.out))))
           have hdw:Sr wr.heap.size wr wr.drew:=(Ss _ _).drew
           go_upto_region 13 with fail
           refine Sq (S:=fun w'=>Sr wr.heap.size wr w') (by kernel_rfl) hdw (fun _=>?_)
           generalize wr.drew=v0 at *
           refine ab 0 (.int .i64 D.rG.length) hdw ?_
           refine ab 1 (.pointer (some ⟨w.heap.size,5,none⟩)) hdw ?_
           refine ab 2 (.slice D.ra D.rG.length D.rc) hdw ?_ (hy:=.inl ⟨by rfl,fun w_ aH=>by have q1:=HV.out w_ aH;go_simp⟩)
           refine ab 3 (.int .i64 D.rG.length) hdw ?_
           refine ab 4 (.bool false) hdw ?_
           refine ab 5 (.bool false) hdw ?_
           refine ax 6 hdw ?_
           refine ax 7 hdw ?_
           refine ax 8 hdw ?_
           refine ax 9 hdw ?_
           refine ax 10 hdw ?_
           refine ax 11 hdw ?_
           refine ax 12 hdw ?_
           refine ax 13 hdw ?_
           refine ab 14 (.bool false) hdw ?_
           refine wpAnyH_done (by kernel_rfl) ?_ _
           have rJ:Sr w8.heap.size w8 v0:=hbr.trans (hdw.mono (by omega))
           have hhi:∀ r,D.rG[D.rG.length]? =some r→dM nm r=false:=fun r hr=>by simp at hr
           have hkk:D.rG.length≤D.rG.length:=St _
           clear HV hk
           clear hbr Jh hdw hd0
           have vd:=rJ.size
           have r9:=(rJ.block w.heap.size (by omega)).trans R8.out
           have x9:=(rJ.block (w.heap.size+1) (by omega)).trans X8.out
           have z9:=(rJ.block (w.heap.size+1+1) (by omega)).trans Z8.out
           have c95:v0.cell? ⟨w.heap.size,5,none⟩=some (.slice D.ra D.rG.length D.rc):=Sj _ _ 5 _ 27 (0,0) r9
           have hrx:=nv x9
           have or9:=aI Bz.out rJ
           have nZ:=h_ (HR3.out.trans (by rw [vY lI.out hlo hhi]))
           obtain⟨xr,rH⟩:∃ r,r=x.reg:=⟨_,rfl⟩
           rw [←rH] at nZ hrx
           have J3:xr.fits:=rH▸Bx.out
           clear HR3 rH hlo hhi
           have nO:=h_ (fun(g:Nat) (W:Sm) (ho:W.ownsRow n 37 7 (.slice D.ra D.rG.length D.rc) D.rG.length (D.rG.flatMap Reg.enc)) hv hg hw=>iE n (.slice D.ra D.rG.length D.rc) D.rG D.rG.length xr g 1 W ho hv hg hkk (by have:=eo.2.2.2.2.2.2.1;omega) hw)
           obtain⟨rn,rt,rh,rl,rwd,ral,rbt⟩:=xr
           simp only [Reg.enc] at hrx
           go_wp2_with (refine aj 37 (.tmp 76) rfl (w.heap.size+1) 15 rfl _ _ hrx Tryz.underlying37 rfl pS (by rfl) ?_)
           have hal:Sr v0.heap.size v0 (v0.alloc (.cells #[Sv rn,.int .i64 rt,.int .i64 rh,.int .i64 rl,.int .i64 rwd,.int .u8 ral,.bool rbt] 37)):=(Ss _ _).alloc (St _) _
           have GG:=Sp v0 (.cells #[Sv rn,.int .i64 rt,.int .i64 rh,.int .i64 rl,.int .i64 rwd,.int .u8 ral,.bool rbt] 37)
           have Dj:=or9.alloc (.cells #[Sv rn,.int .i64 rt,.int .i64 rh,.int .i64 rl,.int .i64 rwd,.int .u8 ral,.bool rbt] 37)
           generalize v0.alloc (.cells #[Sv rn,.int .i64 rt,.int .i64 rh,.int .i64 rl,.int .i64 rwd,.int .u8 ral,.bool rbt] 37)=W9 at *
           have Ex:=hal.size
           refine(nO.out v0.heap.size W9 Dj GG (fun e=>by have:=(or9.lt _ e).2;omega) (by omega)).mono ?_
           rintro e w10 ⟨⟨a,c,rfl,hS,hge,hbn⟩,hgr⟩
           have hown:∀ b,(Sw D.ra D.rG.length D.rc).ownBlock=some b→n≤b:=fun b e=>(or9.lt b e).1
           have hk10:Kept (fun b=>(Sw D.ra D.rG.length D.rc).ownBlock=some b) v0 w10:=(Kept.of_below hal).trans (Kept.of_grown hgr) fun i hi e=>e
           have Cn:=hk10.size
           have r10:=(hk10.block w.heap.size (by omega) (fun e=>by have:=hown _ e;omega)).trans r9
           have z10:=(hk10.block (w.heap.size+1+1) (by omega) (fun e=>by have:=hown _ e;omega)).trans z9
           have jQ:Sr w.heap.size w w10:=(nR.out.trans (rJ.mono (by omega))).trans (hk10.below (by omega) fun b hb e=>by have:=hown b e;omega)
           obtain⟨D2,hD2⟩:∃ D2:Doc,D2={ D with ra:=a,rc:=c,rG:=fc D.rG D.rG.length ⟨rn,rt,rh,rl,rwd,ral,rbt⟩ }:=⟨_,rfl⟩
           have fR:=h_ (fun(w11 W9:Sm) (h1:Kept (fun b=>b=w.heap.size) w10 w11) (h2:Kept (fun b=>b=w.heap.size+1+1) w11 W9)=>(show D2.lies W9∧∀ b,D2.uses b→n≤b from hD2▸qd (Doc.later yR.out rJ) bP yZ.out hS hge hk10 ((h1.mono fun i _ e=>by omega).trans h2 fun i _ e=>by omega)))
           have fP:=h_ (show D.enc.toArray.setIfInBounds 5 (.slice a (fc D.rG D.rG.length (⟨rn,rt,rh,rl,rwd,ral,rbt⟩:Reg)).length c)=D2.enc.toArray from by
            rw [hD2];simp [Doc.enc])
           have bo:=h_ (show fo d.c x.c=(0,D2.c) from by
            rw [nZ.out,hD2,←bq];rfl)
           have c10:∀ j,w10.cell? ⟨w.heap.size,j,none⟩=_:=fun j=>Sj _ _ j _ 27 (0,0) r10
           have f10:∀ j,w10.frozen? ⟨w.heap.size,j,none⟩=false:=fun j=>by simp [Sy,r10]
           have R10:=h_ r10
           have Z10:=h_ z10
           have nT:=h_ jQ
           clear hD2 nZ nO hal GG Dj Ex or9 hS hge hbn hgr hown hk10 r10 z10 jQ r9 x9 z9 c95 hrx rJ FK yR Bz yZ nR R8 X8 Z8 N8 F6 lI Bx
           go_upto_region 29 with fail
           have b11:=heap_setCell_same w10 w.heap.size 5 _ 27 (.slice a (fc D.rG D.rG.length (⟨rn,rt,rh,rl,rwd,ral,rbt⟩:Reg)).length c) R10.out
           rw [fP.out] at b11
           have kb:Kept (fun b=>b=w.heap.size) w10 (w10.setCell ⟨w.heap.size,5,none⟩ (.slice a (fc D.rG D.rG.length (⟨rn,rt,rh,rl,rwd,ral,rbt⟩:Reg)).length c)):=bG (Kept.refl _ _) 5 _
           generalize w10.setCell ⟨w.heap.size,5,none⟩ (.slice a (fc D.rG D.rG.length (⟨rn,rt,rh,rl,rwd,ral,rbt⟩:Reg)).length c)=w11 at *
           have EA:=kb.size
           have z11:=(kb.block (w.heap.size+1+1) (by omega) (by omega)).trans Z10.out
           have kN:Sr w.heap.size w w11:=nT.out.trans (kb.below (by omega) fun b hb e=>by omega)
           have DH:=h_ (fR.out w11)
           clear c10 f10 R10 Z10 nT fP fR
           have nV:=ai b11
           have r9:=Sl w11 (w.heap.size+1+1) _ D2.enc.toArray 27 (0,0) z11
           have eX:Kept (fun b=>b=w.heap.size+1+1) w11 (w11.setRow (w.heap.size+1+1) D2.enc.toArray):=bj _ _ _
           have kW:=h_ (DH.out (w11.setRow (w.heap.size+1+1) D2.enc.toArray) kb eX)
           have kX:=h_ (show Sr w.heap.size w (w11.setRow (w.heap.size+1+1) D2.enc.toArray) from kN.trans (eX.below (by omega) fun b hb e=>by omega))
           have dz:=h_ bo.out
           clear DH bo
           go_wp2_with (first|(refine aj 27 (.tmp 2) rfl w.heap.size 0 rfl D2.enc _ nV Tryz.underlying27 rfl ag (by rfl) ?_)|(refine Sk rfl 27 (.tmp 4) (.tmp 117) rfl (w.heap.size+1+1) (D2.enc.toArray) rfl rfl 27 _ z11 ag rfl aO ?_))
           generalize w11.setRow (w.heap.size+1+1) D2.enc.toArray=w9 at *
           have yQ:=h_ (show Q (.returned (.tuple #[.agg D2.enc.toArray,.int .i64 0])) w9 from bD.out _ dz.out D2 w9 ⟨rfl,kW.out.1,fun b hb=>Su (by omega) (kW.out.2 b hb),kX.out⟩)
           clear kW kX dz bD bh
           exact aL Tryz.results45 rfl rfl r9 rfl yQ.out
    · rw [hp]
      rw [hnf] at yP
      have M2:=h_ (yP.out.trans (if_pos rfl))
      have hi0:(0:Int)≤(i:Int):=by omega
      clear yP hp hnf hi
      have HE:=h_ (bh.out (7) M2.out (w8.setRow (w.heap.size+1+1) zeD) (Sn nR.out (by omega) _))
      have z9:=Sl w8 (w.heap.size+1+1) _ zeD 27 (0,0) Z8.out
      clear bh bD lI Bz yR FK yZ Bx M2
      go_wp2_with (refine Sk rfl 27 (.tmp 4) (.tmp 40) rfl (w.heap.size+1+1) zeD rfl rfl 27 _ Z8.out ag rfl aO ?_)
      generalize w8.setRow (w.heap.size+1+1) zeD=w9 at *
      exact aL Tryz.results45 rfl rfl z9 rfl HE.out
  · have Dr:=h_ (js.out.trans (if_neg h12))
    have GU:(x.op==12)=false:=by simpa using h12
    clear js h12
    rcases v_ D.rG nm with⟨hp,hnf⟩|⟨i,r,hp,hi,hnf⟩
    · rw [hp]
      rw [hnf] at Dr
      have wY:=h_ (Dr.out.trans (if_pos rfl))
      clear Dr hp hnf
      have HE:=h_ (bh.out (6) wY.out (w8.setRow (w.heap.size+1+1) zeD) (Sn nR.out (by omega) _))
      have z9:=Sl w8 (w.heap.size+1+1) _ zeD 27 (0,0) Z8.out
      clear bh bD lI Bz yR FK yZ Bx wY
      go_wp2_with (refine Sk rfl 27 (.tmp 4) (.tmp 84) rfl (w.heap.size+1+1) zeD rfl rfl 27 _ Z8.out ag rfl aO ?_)
      generalize w8.setRow (w.heap.size+1+1) zeD=w9 at *
      exact aL Tryz.results45 rfl rfl z9 rfl HE.out
    · rw [hp]
      rw [hnf] at Dr
      have HR2:=h_ (Dr.out.trans (if_neg (by simp)))
      have hi0:(0:Int)≤(i:Int):=by omega
      have hil:i<D.rG.length:=(List.getElem?_eq_some_iff.1 hi).1
      have Co:eD nm r=true:=List.find?_some hnf
      have N4:(i:Int)<(D.rG.length:Int):=by omega
      clear Dr hp hnf
      obtain⟨rb,cap,he⟩:=dD Bz.out (by omega)
      have he1:D.ra=some ⟨rb,0,none⟩∧D.rc=cap:=by simp only [SB] at he;exact⟨he.1,he.2.2⟩
      have hor:=Bz.out
      rw [he] at hor creg8
      have EI:=hor.lt rb rfl
      have hcap:D.rG.length≤cap:=by
       rcases hor.2 with⟨h0,_⟩|⟨g',cap',cur,h0,_,_,hnc,_⟩
       · simp at h0
       · simp only [SB] at h0
         obtain⟨_,_,rfl⟩:=h0
         exact hnc
      have Du:=h_ hor
      clear hor Bz
      by_cases AO:x.op=13
      · have GS:(x.op==13)=true:=by simpa using AO
        have HR3:=h_ (show fo d.c x.c=if cd (D.rG.set i x.reg) d.c.eV≠0 then (cd (D.rG.set i x.reg) d.c.eV,aU) else (0,{ d.c with rG:=D.rG.set i x.reg }) from by
         rw [HR2.out,if_pos AO,BP lI.out hi Co x.reg]
         exact ns _ _ _)
        clear HR2 AO Co lI hi
        have hrx:=nv X8.out
        have hth:=mi (K:=7) (enc:=Reg.enc) (fun _=>rfl) Du.out rfl hil
        have hos:=uJ (K:=7) (enc:=Reg.enc) (fun _=>rfl) x.reg Du.out hil
        have hks:Kept (fun b=>b=rb) w8 (w8.setCells rb (i*7) x.reg.enc):=j8 (may:=fun b=>b=rb) rfl _ _ _ (Kept.refl _ _)
        have OI:(x.reg.enc.toArray.all (·.oneCell'))=true:=by simp [Reg.enc,Value.oneCell']
        go_upto_region 20 with(first|(refine aj 37 (.tmp 92) rfl (w.heap.size+1) 15 rfl x.reg.enc _ hrx Tryz.underlying37 rfl pS (by rfl) ?_)|(refine wpList_store_mid rfl 37 (.tmp 94) (.tmp 93) rfl rb (i*7) x.reg.enc.toArray rfl rfl hth pS OI ?_))
        generalize w8.setCells rb (i*7) x.reg.enc=w9 at *
        have vd:=hks.size
        have hln:(D.rG.set i x.reg).length=D.rG.length:=SD ..
        have r9:=(hks.block w.heap.size (by omega) (by omega)).trans R8.out
        have z9:=(hks.block (w.heap.size+1+1) (by omega) (by omega)).trans Z8.out
        have jq:Sr w.heap.size w w9:=nR.out.trans (hks.below (by omega) fun b hb e=>by omega)
        have C_:=h_ (zj.out.below jq (St _))
        obtain⟨D2,hD2⟩:∃ D2:Doc,D2={ D with rG:=D.rG.set i x.reg }:=⟨_,rfl⟩
        have ED:D2.rG=D.rG.set i x.reg:=by rw [hD2]
        have ET:D2.eV=D.eV:=by rw [hD2]
        have G_:Kept (fun b=>(Sw D.ra D.rG.length D.rc).ownBlock=some b) w8 w9:=hks.mono fun b _ e=>by rw [he,e];rfl
        have Ml:ah 7 Reg.enc Flat w9 (some ⟨rb,0,none⟩) (D.rG.set i x.reg):=by
         rw [←hln] at hos
         obtain⟨a',c',rI,hS⟩:=aA (k:=7) (enc:=Reg.enc) (Ok:=Flat) (fun _=>rfl) hos (fun _ _=>trivial)
         simp only [SB] at rI
         rw [rI.1];exact hS
        have wX:=h_ (fun(W9:Sm) (h2:Kept (fun b=>b<n) w9 W9)=>(show D2.lies W9∧∀ b,D2.uses b→n≤b from by
         have hz:=qd (c:=D.rc) yR.out bP yZ.out Ml (fun ad e=>by rw [←SA e];exact EI.1) G_ h2
         rw [←he1.1] at hz
         rw [hD2];exact hz))
        have Cs:=(wX.out w9 (Kept.refl _ _)).1
        have ES:D2.fits:=by
         obtain⟨p1,p2,p3,p4,p5,p6,p7,p8,p9,p10,p11⟩:=eo
         rw [hD2]
         refine⟨p1,p2,p3,p4,p5,fun z hz=>?_,by show(D.rG.set i x.reg).length≤_;rw [hln];exact p7,p8,p9,p10,p11⟩
         rcases List.mem_or_eq_of_mem_set hz with h|h
         · exact p6 z h
         · rw [h];exact Bx.out
        have r9':w9.heap[w.heap.size]? =some (.cells D2.enc.toArray 27 (0,0)):=by
         rw [r9,hD2]
         simp [Doc.enc,hln]
        have BC:=h_ (fun(k:Nat) (y:Ev) (w1:Sm) (hy:D.eV[k]? =some y) (h:Sr w9.heap.size w9 w1)=>fw y D2.ra D2.rc D2.rG w1 (C_.out.below h (St _)) (Ev.keeps _ _ _ h (gh Cs.2.1 (by rw [ET];exact SC hy))) (eo.2.2.2.2.2.2.2.1 y (SC hy)) (ah.keeps Flat.keeps _ _ _ _ h Cs.1) ES.2.2.2.2.2.1 ES.2.2.2.2.2.2.1)
        have hle:(D.eV.length:Int)≤4000000:=by have:=eo.2.2.2.2.2.2.2.2.1;omega
        rw [Cv] at HR3
        have DD:=h_ (show cd (D.rG.set i x.reg) ((D.eV.map Ev.c).drop 0)=cd (D.rG.set i x.reg) (D.eV.map Ev.c) from by rw [List.drop_zero])
        generalize GN:D.rG.set i x.reg=rs at *
        have LA:=h_ (fun(k:Nat) (y:Ev) (h:D.eV[k]? =some y)=>AV rs D.eV k y h)
        generalize hG:cd rs (D.eV.map Ev.c)=G at *
        have c96:w9.cell? ⟨w.heap.size,6,none⟩=some (.slice D.ea D.eV.length D.ec):=by
         rw [hD2] at r9'
         exact Sj _ _ 6 _ 27 (0,0) r9'
        have bo:=h_ (fun(h:G=0)=>(show fo d.c x.c=(0,D2.c) from by
         rw [HR3.out,if_neg (fun k=>k h),hD2,←bq];rfl))
        have dV:=h_ (fun(h:G≠0)=>HR3.out.trans (if_pos h))
        have Ps:=h_ Cs
        have R9:=h_ r9'
        have Z9:=h_ z9
        have vP:=h_ jq
        have CW:=h_ ED
        have F_:=h_ (fun(k:Nat) (wr:Sm) (hb:Sr w9.heap.size w9 wr) (hk:k<D.eV.length)=>ah.at_ (dy.later (ET▸Cs.2.1) hb) hk)
        have Hc:D2.ea=D.ea:=by rw [hD2]
        have Ks:D2.ra=D.ra:=by rw [hD2]
        have Ko:D2.rc=D.rc:=by rw [hD2]
        have hrl2:D2.rG.length=D.rG.length:=by rw [ED,←GN];exact SD ..
        rw [Hc] at F_
        have c95:w9.cell? ⟨w.heap.size,5,none⟩=some (.slice D2.ra D2.rG.length D2.rc):=Sj _ _ 5 _ 27 (0,0) r9'
        clear Cs r9 r9' z9 jq hD2 HR3 Ml G_ hos hth hrx hks yR yZ Du FK R8 X8 Z8 nR N8 ES hG GN Bx cop8 creg8 he he1 Ks Ko hrl2 ED ET Hc hln hcap bq Cv EG eo hfn xZ hrec hQ
        go_wp2_with fail
        go_loopw [98] (fun v wr=>∃ k:Nat,k≤D.eV.length∧v=.int .i64 k∧cd rs ((D.eV.map Ev.c).drop k)=G∧Sr w9.heap.size w9 wr) (fun v _=>D.eV.length-(intOf v).toNat)
        case atStart=>exact⟨0,by omega,rfl,DD.out,Ss _ _⟩
        case round =>
         clear DD
         obtain⟨k,hk,rfl,hp,hb⟩:=hrel
         have Jh:=hb.size
         have hk0:(0:Int)≤(k:Int):=by omega
         by_cases hlt:k<D.eV.length
         · obtain⟨b0,off,y,vi,hb0,hy,hc,hyl⟩:=F_.out k wr hb hlt
           have EC:wr.rangeAt b0 (off+k*7) y.enc:=hc
           have GX:(k:Int)<(D.eV.length:Int):=by omega
           have O7:=h_ vi
           have jm:=h_ (hp.symm.trans (LA.out k y hy))
           have fW:=hb.alloc hb.size (.cells y.enc.toArray 72)
           have lN:=h_ (BC.out k y _ hy fW)
           rw [CJ,CW.out] at lN
           generalize bT rs y.c=E at *
           have oQ:=h_ fW
           have rA:(wr.alloc (.cells y.enc.toArray 72)).heap[w.heap.size]? =some (.cells D2.enc.toArray 27 (0,0)):=(fW.block w.heap.size (by omega)).trans R9.out
           have yA:=Sp wr (.cells y.enc.toArray 72)
           have hsA:wr.heap.size+1≤(wr.alloc (.cells y.enc.toArray 72)).heap.size:=by simp
           obtain⟨yid,yinn,yout,yreg,yk,ysp,yat,ycap,yrows⟩:=y
           simp only [Ev.enc] at EC lN oQ rA yA hsA
           go_upto_region 23 with(first|(refine aj 72 (.tmp 100) rfl b0 (off+k*7) rfl _ _ EC Tryz.underlying72 rfl aV (by rfl) ?_))
           generalize wr.alloc (.cells #[Sx .i64 yid,.int .i64 yinn,.int .i64 yout,.string yreg,.int .u8 yk,.string ysp,.slice yat yrows.length ycap] 72)=wA at *
           have L3:=ai (l:=[Sx .i64 yid,.int .i64 yinn,.int .i64 yout,.string yreg,.int .u8 yk,.string ysp,.slice yat yrows.length ycap]) yA
           have cA:wA.cell? ⟨w.heap.size,5,none⟩=some (.slice D2.ra D2.rG.length D2.rc):=Sj _ _ 5 _ 27 (0,0) rA
           rw [CW.out] at cA
           clear hp hb fW vi hb0 hc hyl EC rA yA
           go_wp2_with (refine aj 72 (.tmp 10) rfl wr.heap.size 0 rfl _ _ L3 Tryz.underlying72 rfl aV (by rfl) ?_)
           refine lN.out.mono ?_
           rintro e w1 ⟨rfl,hb1⟩
           have hs1:=hb1.size
           have hbe:=oQ.out.trans (hb1.mono (by omega))
           clear hb1 oQ lN L3 cA
           by_cases h0:E=0
           · have hp2:=jm.out
             rw [if_neg (fun h=>h h0)] at hp2
             have OA:(E != 0)=false:=by simp [h0]
             clear jm h0
             go_wp2_with fail
             go_roundw
             case rel =>
              rw [O7.out]
              refine⟨_,_,_,_,_,_,_,_,_,_,_,_,_,_,_,_,?_,rfl⟩
              exact⟨k+1,by omega,by go_num,hp2.symm,hbe⟩
             case measure=>simp [intOf];omega
           · have hp2:=jm.out
             rw [if_pos h0] at hp2
             have OA:(E != 0)=true:=by simpa using h0
             have hEr:=dV.out (by rw [hp2];exact h0)
             rw [hp2] at hEr
             have M1:=h_ hEr
             have z1:=(hbe.block (w.heap.size+1+1) (by omega)).trans Z9.out
             have aM:Sr w.heap.size w w1:=vP.out.trans (hbe.mono (by omega))
             have HE:=h_ (bh.out (E) M1.out (w1.setRow (w.heap.size+1+1) zeD) (Sn aM (by omega) _))
             have z9:=Sl w1 (w.heap.size+1+1) _ zeD 27 (0,0) z1
             clear bh bD dV LA F_ BC wX bo jm M1 h0 hEr hp2 R9 Z9 vP CW C_ hbe aM
             go_wp2_with (refine Sk rfl 27 (.tmp 4) (.tmp 108) rfl (w.heap.size+1+1) zeD rfl rfl 27 _ z1 ag rfl aO ?_)
             generalize w1.setRow (w.heap.size+1+1) zeD=w9 at *
             exact aL Tryz.results45 rfl rfl z9 rfl HE.out
         · obtain rfl:k=D.eV.length:=by omega
           rw [List.drop_of_length_le (by simp)] at hp
           have hG0:G=0:=hp.symm
           have hnl:¬ ((D.eV.length:Int)<(D.eV.length:Int)):=by omega
           have tM:=h_ (fun(W9:Sm) (h2:Kept (fun b=>b=w.heap.size+1+1) wr W9)=>wX.out W9 ((Kept.of_below hb).trans h2 fun i _ e=>by omega))
           have b2:=(hb.block w.heap.size (by omega)).trans R9.out
           have b4:=(hb.block (w.heap.size+1+1) (by omega)).trans Z9.out
           have hbb:Sr w.heap.size w wr:=vP.out.trans (hb.mono (by omega))
           have HEq:=h_ (bo.out hG0)
           clear bo dV LA F_ BC wX hp hb hG0 R9 Z9 vP CW C_
           have nV:=ai b2
           have r9:=Sl wr (w.heap.size+1+1) _ D2.enc.toArray 27 (0,0) b4
           have eX:Kept (fun b=>b=w.heap.size+1+1) wr (wr.setRow (w.heap.size+1+1) D2.enc.toArray):=bj _ _ _
           have kW:=h_ (tM.out (wr.setRow (w.heap.size+1+1) D2.enc.toArray) eX)
           have kX:=h_ (show Sr w.heap.size w (wr.setRow (w.heap.size+1+1) D2.enc.toArray) from hbb.trans (eX.below (by omega) fun b hb e=>by omega))
           have dz:=h_ HEq.out
           clear tM HEq
           go_wp2_with (first|(refine aj 27 (.tmp 2) rfl w.heap.size 0 rfl D2.enc _ nV Tryz.underlying27 rfl ag (by rfl) ?_)|(refine Sk rfl 27 (.tmp 4) (.tmp 117) rfl (w.heap.size+1+1) (D2.enc.toArray) rfl rfl 27 _ b4 ag rfl aO ?_))
           generalize wr.setRow (w.heap.size+1+1) D2.enc.toArray=w9 at *
           have yQ:=h_ (show Q (.returned (.tuple #[.agg D2.enc.toArray,.int .i64 0])) w9 from bD.out _ dz.out D2 w9 ⟨rfl,kW.out.1,fun b hb=>Su (by omega) (kW.out.2 b hb),kX.out⟩)
           clear kW kX dz bD bh
           exact aL Tryz.results45 rfl rfl r9 rfl yQ.out
      · have GS:(x.op==13)=false:=by simpa using AO
        have HR3:=h_ (HR2.out.trans (if_neg AO))
        clear HR2 AO
        have c68:w8.cell? ⟨w.heap.size,6,none⟩=some (.slice D.ea D.eV.length D.ec):=Sj _ _ 6 _ 27 (0,0) R8.out
        have GV:w8.cell? ⟨g6,0,none⟩=some (.string nm):=Sj _ _ 0 _ 9 (0,0) N8.out
        have HAS:=h_ (sY D.ea D.ec D.eV g6 nm w8 yR.out.2.1 eo.2.2.2.2.2.2.2.2.1 GV N9)
        have Jd:d.c.eV.any (fun e=>e.region.toList==nm.toList)=D.eV.any (uU nm):=by rw [Cv,List.any_map];rfl
        have HR4:=h_ (show fo d.c x.c=if D.eV.any (uU nm)=true then (17,aU) else (0,{ d.c with rG:=bI D.rG i }) from by
         rw [←Jd,←zO lI.out hi Co];exact HR3.out)
        generalize D.eV.any (uU nm)=AN at *
        have mg:=h_ he
        have nQ:=h_ he1
        have eP:=h_ eo
        have DK:=h_ bq
        clear Jd HR3 Co lI hi Bx FK he he1 Cv EG eo bq hfn xZ hrec
        go_wp2_with fail
        refine HAS.out.mono ?_
        rintro e wa ⟨rfl,jq⟩
        have vd:=jq.size
        have ra9:=(jq.block w.heap.size (by omega)).trans R8.out
        have za:=(jq.block (w.heap.size+1+1) (by omega)).trans Z8.out
        have E0:Sr w.heap.size w wa:=nR.out.trans (jq.mono (by omega))
        have c95:wa.cell? ⟨w.heap.size,5,none⟩=some (.slice (some ⟨rb,0,none⟩) D.rG.length cap):=(jq.cell (p:=⟨w.heap.size,5,none⟩) (by show w.heap.size<_;omega)).trans creg8
        have or9:=aI Du.out jq
        have Cs:=Doc.later yR.out jq
        clear HAS c68 GV creg8 cop8 jq Du yR nR R8 X8 Z8 N8
        cases AN with
        | true =>
          have IW:=h_ (HR4.out.trans (if_pos rfl))
          clear HR4 or9 Cs c95
          have HE:=h_ (bh.out (17) IW.out (wa.setRow (w.heap.size+1+1) zeD) (Sn E0 (by omega) _))
          have z9:=Sl wa (w.heap.size+1+1) _ zeD 27 (0,0) za
          clear bh bD IW mg nQ eP DK yZ ra9
          go_wp2_with (refine Sk rfl 27 (.tmp 4) (.tmp 116) rfl (w.heap.size+1+1) zeD rfl rfl 27 _ za ag rfl aO ?_)
          generalize wa.setRow (w.heap.size+1+1) zeD=w9 at *
          exact aL Tryz.results45 rfl rfl z9 rfl HE.out
        | false =>
          have MF:=h_ (HR4.out.trans (if_neg (by simp)))
          clear HR4
          have tN:=h_ (tn n rb cap i D.rG wa or9 hil (by omega))
          have hln:(bI D.rG i).length=D.rG.length-1:=jj _ _ hil
          obtain⟨D2,hD2⟩:∃ D2:Doc,D2={ D with ra:=some ⟨rb,0,none⟩,rc:=cap,rG:=bI D.rG i }:=⟨_,rfl⟩
          have fP:=h_ (show D.enc.toArray.setIfInBounds 5 (.slice (some ⟨rb,0,none⟩) (D.rG.length-1) cap)=D2.enc.toArray from by
           rw [hD2];simp [Doc.enc,hln])
          have bo:=h_ (show fo d.c x.c=(0,D2.c) from by
           rw [MF.out,hD2,←DK.out];rfl)
          have fR:=h_ (fun(w10 w11 W9:Sm) hS (hk10:Kept (fun b=>b=rb) wa w10) (h1:Kept (fun b=>b=w.heap.size) w10 w11) (h2:Kept (fun b=>b=w.heap.size+1+1) w11 W9)=>(show D2.lies W9∧∀ b,D2.uses b→n≤b from hD2▸qd (c:=cap) Cs bP yZ.out hS (fun ad e=>by rw [←SA e];exact EI.1) (hk10.mono fun b _ e=>by rw [mg.out,e];rfl) ((h1.mono fun i _ e=>by omega).trans h2 fun i _ e=>by omega)))
          have R9:=h_ ra9
          have Z9:=h_ za
          have vP:=h_ E0
          have NJ:=EI
          clear MF hD2 or9 Cs ra9 za E0 hln yZ mg nQ eP DK
          go_wp2_with fail
          refine tN.out.mono ?_
          rintro e w10 ⟨rfl,hS,hbn,hk10⟩
          have Cn:=hk10.size
          have r10:=(hk10.block w.heap.size (by omega) (by omega)).trans R9.out
          have z10:=(hk10.block (w.heap.size+1+1) (by omega) (by omega)).trans Z9.out
          have jQ:Sr w.heap.size w w10:=vP.out.trans (hk10.below (by omega) fun b hb e=>by omega)
          have c10:∀ j,w10.cell? ⟨w.heap.size,j,none⟩=_:=fun j=>Sj _ _ j _ 27 (0,0) r10
          have f10:∀ j,w10.frozen? ⟨w.heap.size,j,none⟩=false:=fun j=>by simp [Sy,r10]
          have R10:=h_ r10
          have Z10:=h_ z10
          have nT:=h_ jQ
          have tM:=h_ (fun(w11 W9:Sm)=>fR.out w10 w11 W9 hS hk10)
          clear tN c95 hS hbn hk10 r10 z10 jQ R9 Z9 vP fR
          go_upto_region 29 with fail
          have b11:=heap_setCell_same w10 w.heap.size 5 _ 27 (.slice (some ⟨rb,0,none⟩) (D.rG.length-1) cap) R10.out
          rw [fP.out] at b11
          have kb:Kept (fun b=>b=w.heap.size) w10 (w10.setCell ⟨w.heap.size,5,none⟩ (.slice (some ⟨rb,0,none⟩) (D.rG.length-1) cap)):=bG (Kept.refl _ _) 5 _
          generalize w10.setCell ⟨w.heap.size,5,none⟩ (.slice (some ⟨rb,0,none⟩) (D.rG.length-1) cap)=w11 at *
          have EA:=kb.size
          have z11:=(kb.block (w.heap.size+1+1) (by omega) (by omega)).trans Z10.out
          have kN:Sr w.heap.size w w11:=nT.out.trans (kb.below (by omega) fun b hb e=>by omega)
          have DH:=h_ (tM.out w11)
          clear c10 f10 R10 Z10 nT fP tM
          have nV:=ai b11
          have r9:=Sl w11 (w.heap.size+1+1) _ D2.enc.toArray 27 (0,0) z11
          have eX:Kept (fun b=>b=w.heap.size+1+1) w11 (w11.setRow (w.heap.size+1+1) D2.enc.toArray):=bj _ _ _
          have kW:=h_ (DH.out (w11.setRow (w.heap.size+1+1) D2.enc.toArray) kb eX)
          have kX:=h_ (show Sr w.heap.size w (w11.setRow (w.heap.size+1+1) D2.enc.toArray) from kN.trans (eX.below (by omega) fun b hb e=>by omega))
          have dz:=h_ bo.out
          clear DH bo
          go_wp2_with (first|(refine aj 27 (.tmp 2) rfl w.heap.size 0 rfl D2.enc _ nV Tryz.underlying27 rfl ag (by rfl) ?_)|(refine Sk rfl 27 (.tmp 4) (.tmp 117) rfl (w.heap.size+1+1) (D2.enc.toArray) rfl rfl 27 _ z11 ag rfl aO ?_))
          generalize w11.setRow (w.heap.size+1+1) D2.enc.toArray=w9 at *
          have yQ:=h_ (show Q (.returned (.tuple #[.agg D2.enc.toArray,.int .i64 0])) w9 from bD.out _ dz.out D2 w9 ⟨rfl,kW.out.1,fun b hb=>Su (by omega) (kW.out.2 b hb),kX.out⟩)
          clear kW kX dz bD bh
          exact aL Tryz.results45 rfl rfl r9 rfl yQ.out
end Go.Proofs.YtjebaagkomejaaaGreatDoor
