/- document.Shift: the events from a frame on moved. edit.restyled: its change of the event. -/
import Derived.Test.YtjebaagkomejaaaGreatDoorH30
import Derived.Test.YtjebaagkomejaaaGreatDoorH29
set_option linter.unusedVariables false
set_option linter.unusedSimpArgs false
set_option maxRecDepth 100000
set_option maxHeartbeats 12800000
open Go.Lib renaming hid→h_
open List renaming setIfInBounds_toArray→YA,getElem_cons_zero→YB,getElem_cons_succ→YC,getElem_toArray→YD,set_cons_zero→YE,set_cons_succ→YF
open Array renaming toArray_toList→YG
open Go renaming cell_of_row→Sh,wp_region_held_drew→Si,wpList_store_row→Sj,World→Sk,wpAnyH_done→Sl,setRow_heap→Sm,below_setRow→Sn
open Go.RowKit renaming Below→Sp
open Nat renaming le_refl→Sq
open Go.RowKit.Below renaming refl→Sr
open List renaming length_map→Ss,eq_nil_of_length_eq_zero→St,mem_map→Su,mem_of_getElem?→Sv,pairwise_map→Sw
open Go.Value.slice renaming injEq→Sx
namespace Go.Proofs.YtjebaagkomejaaaGreatDoor
open Go.RowKit
theorem tP (d:Doc)(fr n:Int)(w:Sk)(hE:Env w)(hd:d.lies w)(hf:d.fits)(KL:i64 n):Calls Tryz.prog 41 #[.agg d.enc.toArray,.int .i64 fr,.int .i64 n] w (aS (d_ d.c fr n) w):=by
 have iK:=h_ (fun(w1:Sk) (h:Sp w.heap.size w w1)=>bR d w1 (hE.below h (Sq _)) (Doc.later hd h) hf)
 have dq:=h_ (fun(w1:Sk) (h:Sp w.heap.size w w1)=>dy d w1 (Doc.later hd h) hf)
 have bh:=h_ (fun(q:Int) (hq:d_ d.c fr n=(q,aV)) (w':Sk) (h:Sp w.heap.size w w')=>(show aS (d_ d.c fr n) w (.returned (.tuple #[.agg zeD,.int .i64 q])) w' from hq▸aS.zero q h))
 have bF:=h_ (fun(h:a_ d≠0)=>(show d_ d.c fr n=(a_ d,aV) from by unfold d_;rw [if_pos (fun q=>h ((bw d).trans q)),←bw]))
 have kD:=h_ (fun(h:a_ d=0) (h2:n < -5184000∨5184000<n)=>(show d_ d.c fr n=(2,aV) from by unfold d_;rw [if_neg (fun q=>q ((bw d).symm.trans h)),if_pos h2]))
 have jU:=h_ (fun(d':Doc) (h0:a_ d=0) hn hc hok=>DN (d:=d) (d':=d') (fr:=fr) (n:=n) h0 hn hc hok)
 have tw:=h_ (fun(d':Doc) (y:Ev) (q:Nat) (h0:a_ d=0) hn hc hy hok=>yX (d:=d) (d':=d') (fr:=fr) (n:=n) (y:=y) (q:=q) h0 hn hc hy hok)
 have A8:=h_ (fun(h0:a_ d=0) (e:EvC) (he:e∈d.c.eV)=>AM ((bw d).symm.trans h0) he)
 have cP:=h_ (fun(d':Doc) (h:d'.c=d.c)=>bp h hf)
 have cQ:=h_ (oT w d.enc.toArray zeD)
 have hb2:∀ o1 o2:Obj,Sp w.heap.size w ((w.alloc o1).alloc o2):=fun o1 o2=>((Sr _ _).alloc (Sq _) _).alloc (by simp) _
 have hsz2:∀ o1 o2:Obj,((w.alloc o1).alloc o2).heap.size=w.heap.size+2:=fun o1 o2=>by simp
 generalize hR:d_ d.c fr n=R at *
 generalize hQ:aS R w=Q at bh ⊢
 unfold i64 at KL
 clear hd hf hE
 go_enter Tryz.func41,Tryz.ntmps41
 have hr0:=ai cQ.out.1
 go_wp2_with (refine aj 27 (.tmp 3) rfl w.heap.size 0 rfl d.enc _ hr0 Tryz.underlying27 rfl ag (by rfl) ?_)
 refine(iK.out _ (hb2 _ _)).mono ?_
 rintro e w2 ⟨rfl,hb1⟩
 rw [hsz2] at hb1
 have hbw2:Sp w.heap.size w w2:=(hb2 _ _).trans (hb1.mono (by omega))
 have r2:=(hb1.block w.heap.size (by omega)).trans cQ.out.1
 have z2:=(hb1.block (w.heap.size+1) (by omega)).trans cQ.out.2
 have hs2:w.heap.size+2≤w2.heap.size:=by have:=hb1.size;rw [hsz2] at this;exact this
 clear hb1 hr0 iK cQ hb2 hsz2
 have hr2:=ai r2
 have R2:=h_ r2
 have Z2:=h_ z2
 clear r2 z2
 have vo:=h_ (bw d)
 generalize a_ d=DE at *
 by_cases h0:DE=0
 · subst h0
   by_cases hn:n < -5184000∨5184000<n
   · have mg:=h_ (kD.out rfl hn)
     clear bF kD jU tw A8 cP dq hr2
     rcases hn with hn|hn
     · skip
       have HE:=h_ (bh.out (2) mg.out (w2.setRow (w.heap.size+1) zeD) (Sn hbw2 (by omega) _))
       have z9:=Sm w2 (w.heap.size+1) _ zeD 27 (0,0) Z2.out
       clear bh mg
       go_wp2_with (refine Sj rfl 27 (.tmp 6) (.tmp 23) rfl (w.heap.size+1) zeD rfl rfl 27 _ Z2.out ag rfl aO ?_)
       generalize w2.setRow (w.heap.size+1) zeD=w9 at *
       exact aL Tryz.results41 rfl rfl z9 rfl HE.out
     · have hn1:n < -5184000∨-5184000≤n:=by omega
       have hn2:¬ n < -5184000:=by omega
       have HE:=h_ (bh.out (2) mg.out (w2.setRow (w.heap.size+1) zeD) (Sn hbw2 (by omega) _))
       have z9:=Sm w2 (w.heap.size+1) _ zeD 27 (0,0) Z2.out
       clear bh mg hn1
       go_wp2_with (refine Sj rfl 27 (.tmp 6) (.tmp 23) rfl (w.heap.size+1) zeD rfl rfl 27 _ Z2.out ag rfl aO ?_)
       generalize w2.setRow (w.heap.size+1) zeD=w9 at *
       exact aL Tryz.results41 rfl rfl z9 rfl HE.out
   · have hn1:-5184000≤n:=by omega
     have hn2:n≤5184000:=by omega
     have HN:=h_ hn
     have wB:=h_ (vo.out.symm.trans rfl:cErr d.c=0)
     clear bF kD hn
     go_wp2_with (refine aj 27 (.tmp 3) rfl w.heap.size 0 rfl d.enc _ hr2 Tryz.underlying27 rfl ag (by rfl) ?_)
     refine(dq.out w2 hbw2).mono ?_
     rintro e w4 ⟨d',rfl,hc',hl',hu',hb4,hap,hoe, -,hox, -⟩
     have eu:=cP.out d' hc'
     have bP:Sp w.heap.size w w4:=hbw2.trans (hb4.mono hbw2.size)
     have r4:=(hb4.block w.heap.size (by omega)).trans R2.out
     have z4:=(hb4.block (w.heap.size+1) (by omega)).trans Z2.out
     have hs4:w2.heap.size≤w4.heap.size:=hb4.size
     have CU:=h_ (fun(y:Ev) (hy:y∈d'.eV)=>A8.out (by first|rfl|trivial) y.c (by rw [←hc'];exact Su.2 ⟨y,hy,rfl⟩))
     clear hr2 R2 Z2 dq hbw2 cP hb4 A8
     go_upto_region 7 with(refine Sj rfl 27 (.tmp 3) (.tmp 25) rfl (w.heap.size) (d'.enc.toArray) rfl rfl 27 _ r4 ag rfl aO ?_)
     have hk5:Kept (fun b=>b=w.heap.size) w4 (w4.setRow w.heap.size d'.enc.toArray):=bj w4 w.heap.size d'.enc.toArray
     have r5:=Sm w4 w.heap.size _ d'.enc.toArray 27 (0,0) r4
     generalize w4.setRow w.heap.size d'.enc.toArray=w5 at *
     have hs5:=hk5.size
     have hl5:d'.lies w5:=Doc.frame hl' hs5 fun b hb=>hk5.block b (Doc.uses_lt hl' hb) (by have:=hu' b hb;omega)
     have oe5:=aB hoe fun b q=>hk5.block b (hoe.lt b q).2 (by have:=(hoe.lt b q).1;omega)
     have z5:=(hk5.block (w.heap.size+1) (by omega) (by omega)).trans z4
     have hb5:Sp w.heap.size w w5:=bP.trans (hk5.below (by omega) fun k hk e=>by omega)
     have hle:d'.eV.length≤4000000:=eu.2.2.2.2.2.2.2.2.1
     have c6:w5.cell? ⟨w.heap.size,6,none⟩=some (.slice d'.ea d'.eV.length d'.ec):=Sh _ _ 6 _ 27 (0,0) r5
     have HR1:=h_ (And.intro (dN.start (shE fr n) d'.eV) (And.intro oe5 (Kept.refl (fun b=>bt d'.ea d'.eV b) w5)))
     have tk:=h_ (fun b (hb:b<w.heap.size+2)=>(show ¬ bt d'.ea d'.eV b from fun q=>by have:=hu' b (.inr (.inl (.inl q)));omega))
     have R5:=h_ r5
     have Z5:=h_ z5
     have iL:=h_ hb5
     have nT:=h_ hl5
     have HU:=h_ hu'
     have lZ:=h_ hap
     have ew:=h_ eu
     have LA:=h_ hox
     have wC:=h_ hc'
     have Ce:w.heap.size+2≤w5.heap.size:=by omega
     have L8:w2.heap.size≤w5.heap.size:=by omega
     clear hl' r4 z4 hk5 hoe bP hl5 oe5 z5 hb5 hu' hap eu hox hc' r5 hs4 hs5
     go_wp2_with fail
     go_loopw [29] (fun i wr=>∃ (j:Nat) (zs:List Ev),j≤d'.eV.length∧i=.int .i64 j∧dN (shE fr n) d'.eV zs j∧wr.ownsRow w2.heap.size 72 7 (.slice d'.ea d'.eV.length d'.ec) d'.eV.length (zs.flatMap Ev.enc)∧Kept (fun b=>bt d'.ea d'.eV b) w5 wr∧∀ q,q<j→∀ y,d'.eV[q]? =some y→eF fr n y.c=true) (fun i _=>d'.eV.length-(intOf i).toNat)
     case atStart=>exact⟨0,d'.eV,by omega,rfl,HR1.out.1,HR1.out.2.1,HR1.out.2.2,fun q h=>absurd h (by omega)⟩
     case round =>
      clear HR1 c6
      obtain⟨j,zs,hj,rfl,hup,how,hkp,Cp⟩:=hrel
      have hs:=hkp.size
      have b8:=(hkp.block w.heap.size (by omega) (tk.out _ (by omega))).trans R5.out
      have c8:wr.cell? ⟨w.heap.size,6,none⟩=some (.slice d'.ea d'.eV.length d'.ec):=Sh _ _ 6 _ 27 (0,0) b8
      by_cases hlt:j<d'.eV.length
      · have hx:d'.eV[j]? =some d'.eV[j]:=List.getElem?_eq_getElem hlt
        generalize d'.eV[j]=x at hx
        obtain⟨eb,cp,he⟩:=dw how (by omega)
        have he2:d'.ea=some ⟨eb,0,none⟩:=by simp only [Sx] at he;exact he.1
        have qf:=hup.at_ hx
        rw [he] at how c8
        have hlz:zs.length=d'.eV.length:=hup.1
        have hcs:∀ q v,x.enc[q]? =some v→q<7→wr.cell? ⟨eb,j*7+q,none⟩=some v:=fun q v hv hq8=>by
         rw [how.cellAt (j*7+q) (by omega)]
         exact cD Ev.enc 7 (fun _=>rfl) zs j x q _ qf hv
        have hcell1:wr.cell? ⟨eb,j*7+1,none⟩=some (.int .i64 x.inn):=hcs 1 _ rfl (by decide)
        have hcell2:wr.cell? ⟨eb,j*7+1+1,none⟩=some (.int .i64 x.out):=hcs 2 _ rfl (by decide)
        have hcp:d'.eV.length≤cp:=by
         rcases how.2 with⟨h0,_⟩|⟨g',cap',cur,h0,_,_,hnc,_⟩
         · simp at h0
         · simp only [Sx] at h0
           obtain⟨_,_,rfl⟩:=h0
           exact hnc
        have fz:=fun j=>how.frozenAt (j:=j)
        have hsp:=CU.out x (Sv hx)
        have hsi:0≤x.inn:=hsp.1
        have hso:x.inn<x.out:=hsp.2.1
        have hsm:x.out≤5184000:=hsp.2.2
        have C4:=h_ (fun(hq:¬ x.inn<fr)=>DO (n:=n) hup how hkp hx he2 hq)
        have CQ:=h_ (fun(hq:x.inn<fr)=>dN.skip hup hx (BE (n:=n) hq))
        have HOW:=h_ how
        have tA:=h_ hkp
        have Bf:=h_ (fun(ho:eF fr n x.c=true)=>(show ∀ q,q<j+1→∀ y,d'.eV[q]? =some y→eF fr n y.c=true from fun q hq y hy=>by
         by_cases e:q=j
         · subst e;rw [hx] at hy;rw [←Option.some.inj hy];exact ho
         · exact Cp q (by omega) y hy))
        have HBAD:=h_ (fun(ho:eF fr n x.c=false)=>tw.out d' x j (by first|rfl|trivial) HN.out wC.out hx ho)
        have B8:=h_ b8
        have HX:=h_ hx
        rw [←he] at C4 HOW
        have N7:w2.heap.size≤eb∧eb<wr.heap.size:=by have:=how.lt eb rfl;exact this
        clear b8 qf how hup hkp hx he he2 hsp Cp hcs
        by_cases hq:x.inn<fr
        · have HE:=h_ (CQ.out hq)
          have HO:=h_ (Bf.out (by unfold eF;rw [show x.c.inn=x.inn from rfl,decide_eq_true hq];rfl))
          clear C4 CQ Bf HBAD
          go_wp2_with fail
          go_roundw
          case rel=>exact⟨j+1,_,by omega,by go_num,HE.out,HOW.out,tA.out,HO.out⟩
          case measure=>simp [intOf];omega
        · have hq2:fr≤x.inn:=by omega
          have HE:=h_ (C4.out hq)
          have MS:=h_ hq
          clear C4 CQ hq
          obtain⟨W12,Cx⟩:∃ W,W=(wr.drew.setCell ⟨eb,j*7+1,none⟩ (.int .i64 (x.inn+n))).setCell ⟨eb,j*7+1+1,none⟩ (.int .i64 (x.out+n)):=⟨_,rfl⟩
          have HE2:=HE.out
          rw [←Cx] at HE2
          have FF:=h_ HE2
          have w1:W12.cell? ⟨eb,j*7+1,none⟩=some (.int .i64 (x.inn+n))∧W12.cell? ⟨eb,j*7+1+1,none⟩=some (.int .i64 (x.out+n)):=by
           rw [Cx]
           have q1:wr.drew.cell? ⟨eb,j*7+1,none⟩=some (.int .i64 x.inn):=hcell1
           have q2:wr.drew.cell? ⟨eb,j*7+1+1,none⟩=some (.int .i64 x.out):=hcell2
           constructor
           · go_simp
           · go_simp
          have HW1:=h_ w1
          have Ii:=h_ Cx
          clear HE HE2 w1 Cx
          have wr1:IntKind.i64.wrap (x.inn+n)=x.inn+n:=by rw [IntKind.wrap_i64];omega
          have wr2:IntKind.i64.wrap (x.out+n)=x.out+n:=by rw [IntKind.wrap_i64];omega
          go_upto_region 12 with fail
          go_cut [] from 43 to 60 (fun wx=>wx=W12)
          case first =>
           have hd0:Kept (fun b=>b=eb) wr wr.drew:=Kept.of_below ((Sr _ _).drew)
           have fd1:wr.drew.cell? ⟨eb,j*7+1,none⟩=some (.int .i64 x.inn):=hcell1
           have fd2:wr.drew.cell? ⟨eb,j*7+1+1,none⟩=some (.int .i64 x.out):=hcell2
           have fdz:∀ j,wr.drew.frozen? ⟨eb,j,none⟩=false:=fz
           refine Si (S:=fun w'=>Kept (fun b=>b=eb) wr w') (by kernel_rfl) hd0 (fun _=>?_)
           refine ab 0 (.pointer (some ⟨eb,j*7+1,none⟩)) hd0 ?_
           refine ab 1 (.pointer (some ⟨eb,j*7+1,none⟩)) hd0 ?_
           refine ab 2 (.pointer (some ⟨eb,j*7+1,none⟩)) hd0 ?_
           refine ab 3 (.pointer (some ⟨eb,j*7+1,none⟩)) hd0 ?_
           refine ab 4 (.pointer (some ⟨eb,j*7+1,none⟩)) hd0 ?_
           refine ab 6 (.int .i64 n) hd0 ?_
           refine ab 8 (.pointer (some ⟨eb,j*7+1,none⟩)) hd0 ?_
           refine ab 9 (.pointer (some ⟨eb,j*7+1,none⟩)) hd0 ?_
           refine ab 10 (.pointer (some ⟨eb,j*7+1+1,none⟩)) hd0 ?_
           refine ab 12 (.int .i64 n) hd0 ?_
           refine dH 5 11 (fun K hK=>?_) (fun K hK=>?_)
           focus
            go_simp
            refine goOn hK hd0 ?_
            clear hK
            refine ab 7 (.int .i64 (x.inn+n)) hd0 ?_
            refine aq 11 (fun K hK=>?_)
            go_simp
            refine goOn hK hd0 ?_
            clear hK
            refine ab 13 (.int .i64 (x.out+n)) hd0 ?_
           rotate_left
           focus
            go_simp
            refine goOn hK hd0 ?_
            clear hK
            refine ab 13 (.int .i64 (x.out+n)) hd0 ?_
            refine aq 5 (fun K hK=>?_)
            go_simp
            refine goOn hK hd0 ?_
            clear hK
            refine ab 7 (.int .i64 (x.inn+n)) hd0 ?_
           all_goals
            refine ab 14 (.pointer (some ⟨eb,j*7+1,none⟩)) hd0 ?_
            refine ab 15 (.pointer (some ⟨eb,j*7+1,none⟩)) hd0 ?_
            refine aq 16 (fun K hK=>?_)
            go_simp
            have hk1:Kept (fun b=>b=eb) wr (wr.drew.setCell ⟨eb,j*7+1,none⟩ (.int .i64 (x.inn+n))):=bH hd0 (j*7+1) _
            refine goOn hK hk1 ?_
            clear hK
            refine ab 17 (.pointer (some ⟨eb,j*7+1,none⟩)) hk1 ?_
            refine ab 18 (.pointer (some ⟨eb,j*7+1+1,none⟩)) hk1 ?_
            refine aq 19 (fun K hK=>?_)
            go_simp
            have hk2:Kept (fun b=>b=eb) wr ((wr.drew.setCell ⟨eb,j*7+1,none⟩ (.int .i64 (x.inn+n))).setCell ⟨eb,j*7+1+1,none⟩ (.int .i64 (x.out+n))):=bH hk1 (j*7+1+1) _
            refine goOn hK hk2 ?_
            clear hK
            refine Sl (by kernel_rfl) ?_ _
            go_wp2_with fail
            go_meet
            exact Ii.out.symm
          case rest =>
           obtain rfl:=hcut
           have g1:=HW1.out.1
           have g2:=HW1.out.2
           have KA:=FF.out.2.2.size
           clear hcell1 hcell2 fz c8 Ii HW1
           by_cases ho:0≤x.inn+n∧x.out+n≤5184000
           · have ho1:=ho.1
             have ho2:=ho.2
             have HO:=h_ (Bf.out (by
              unfold eF
              rw [show x.c.inn=x.inn from rfl,show x.c.out=x.out from rfl,decide_eq_false MS.out,decide_eq_true ho1,decide_eq_true ho2];rfl))
             clear Bf HBAD ho tw
             go_wp2_with fail
             go_roundw
             case rel=>exact⟨j+1,_,by omega,by go_num,FF.out.1,FF.out.2.1,FF.out.2.2,HO.out⟩
             case measure=>simp [intOf];omega
           · have fE:=h_ (HBAD.out (by
              unfold eF
              rw [show x.c.inn=x.inn from rfl,show x.c.out=x.out from rfl,decide_eq_false MS.out]
              by_cases h1:0≤x.inn+n
              · rw [decide_eq_false (fun h2=>ho ⟨h1,h2⟩)];simp
              · rw [decide_eq_false h1];rfl))
             have Hm:Sp w.heap.size w wc:=iL.out.trans (FF.out.2.2.below (by omega) fun b hb=>tk.out b (by omega))
             have Z12:=h_ ((FF.out.2.2.block (w.heap.size+1) (by omega) (tk.out _ (by omega))).trans Z5.out)
             have Eo:x.inn+n<0∨(0≤x.inn+n∧5184000<x.out+n):=by omega
             clear Bf HBAD ho tw
             rcases Eo with Eo|⟨Eo,Nl⟩
             focus
              have HE:=h_ (bh.out (2) fE.out (wc.setRow (w.heap.size+1) zeD) (Sn Hm (by omega) _))
             rotate_left
             focus
              have HE:=h_ (bh.out (2) fE.out (wc.setRow (w.heap.size+1) zeD) (Sn Hm (by omega) _))
             all_goals
              have z9:=Sm wc (w.heap.size+1) _ zeD 27 (0,0) Z12.out
              clear FF bh fE CU jU
              go_wp2_with (refine Sj rfl 27 (.tmp 6) (.tmp 73) rfl (w.heap.size+1) zeD rfl rfl 27 _ Z12.out ag rfl aO ?_)
              generalize wc.setRow (w.heap.size+1) zeD=w9 at *
              exact aL Tryz.results41 rfl rfl z9 rfl HE.out
      · obtain rfl:j=d'.eV.length:=by omega
        obtain rfl:=hup.all
        have Nd:=h_ (jU.out d' (by first|rfl|trivial) HN.out wC.out Cp)
        have G5:∀ z∈d'.eV.map (shE fr n),z.lies wr:=fun z hz=>by
         obtain⟨x,hx,rfl⟩:=Su.1 hz
         have hxl:x.lies w5:=gu nT.out.2.1 hx
         obtain⟨t,_,t2,t3,_⟩:=lZ.out
         show bN wr (shE fr n x).at_ (shE fr n x).rows
         rw [(yY fr n x).1,(yY fr n x).2]
         exact Ev.frame hxl hs fun b hb=>hkp.block b (Ev.uses_lt hxl hb) (fun q=>by have:=t3 x hx b hb;have:=t2 b q;omega)
        obtain⟨ea',ec',he',hS⟩:=aA (k:=7) (enc:=Ev.enc) (Ok:=Ev.lies) (xs:=d'.eV.map (shE fr n)) (fun _=>rfl) (by rw [Ss];exact how) G5
        rw [Ss] at he'
        simp only [Sx] at he'
        obtain⟨rfl, -,rfl⟩:=he'
        have lL:=h_ (iE d'.ea d'.ec (d'.eV.map (shE fr n)) wr hS (fun z hz=>by
         obtain⟨x,hx,rfl⟩:=Su.1 hz
         have hfx:=ew.out.2.2.2.2.2.2.2.1 x hx
         have hsp:=CU.out x hx
         unfold shE
         split
         · exact hfx
         · have i1:0≤x.inn:=hsp.1
           have i2:x.inn<x.out:=hsp.2.1
           have i3:x.out≤5184000:=hsp.2.2
           exact⟨hfx.1,⟨by show _≤x.inn+n;omega,by show x.inn+n≤_;omega⟩,⟨by show _≤x.out+n;omega,by show x.out+n≤_;omega⟩,hfx.2.2.2⟩) (by rw [Ss];exact hle))
        rw [Ss] at lL
        have tA:=h_ hkp
        have B8:=h_ b8
        have yx:=h_ (show((d'.eV.map (shE fr n)).map Ev.c).Pairwise fun x y=>x.id≠y.id from by
         have h1:cErr d.c=0:=wB.out
         have e1:d'.eV.map Ev.c=d.c.eV:=congrArg DocC.eV wC.out
         have h2:=(iF h1).ids
         rw [←e1,Sw] at h2
         rw [List.map_map,Sw]
         refine h2.imp fun {a b} h=>?_
         have ea:∀ z:Ev,(shE fr n z).c.id=z.c.id:=fun z=>by unfold shE;split<;>rfl
         show(shE fr n a).c.id≠(shE fr n b).c.id
         rw [ea,ea];exact h)
        have hwr2:w2.heap.size≤wr.heap.size:=by omega
        clear hup how hkp b8 G5 hS Cp jU tw CU hs
        go_wp2_with fail
        refine lL.out.mono ?_
        rintro e w8 ⟨v,ys,rfl,hgr,hperm,hsrt⟩
        obtain⟨ta,tc,hv,Dp⟩:=aA (k:=7) (enc:=Ev.enc) (Ok:=Ev.lies) (fun _=>rfl) hgr.1 (fun z hz=>(hgr.2.1 z hz).1)
        subst hv
        have gP:=hgr.2.2
        have JC:=gP.size
        have hs5:=tA.out.size
        have r8:=(gP.block w.heap.size (by omega)).trans B8.out
        have z8:=(gP.block (w.heap.size+1) (by omega)).trans ((tA.out.block (w.heap.size+1) (by omega) (tk.out _ (by omega))).trans Z5.out)
        have Av:Sp w.heap.size w w8:=(iL.out.trans (tA.out.below (by omega) fun b hb=>tk.out b (by omega))).trans (gP.mono (by omega))
        have f8:∀ j,w8.frozen? ⟨w.heap.size,j,none⟩=false:=fun j=>by simp [Sk.frozen?,r8]
        have c8':∀ j,w8.cell? ⟨w.heap.size,j,none⟩=_:=fun j=>Sh _ _ j _ 27 (0,0) r8
        obtain⟨D2,hD2⟩:∃ D2:Doc,D2={ d' with ea:=ta,ec:=tc,eV:=ys }:=⟨_,rfl⟩
        have r9:=heap_setCell_same w8 w.heap.size 6 _ 27 (.slice ta ys.length tc) r8
        rw [show d'.enc.toArray.setIfInBounds 6 (.slice ta ys.length tc)=D2.enc.toArray from by rw [hD2];rfl] at r9
        have fh:Kept (fun b=>b=w.heap.size) w8 (w8.setCell ⟨w.heap.size,6,none⟩ (.slice ta ys.length tc)):=bH (Kept.refl _ _) 6 _
        have R9:=h_ r9
        have lO:=h_ fh
        have Z8:=h_ z8
        have L4:=h_ Av
        have A_:=h_ Dp
        have lP:=h_ hgr
        have Bc:=h_ (And.intro hperm hsrt)
        have HD2:=h_ hD2
        clear r9 fh z8 Av Dp hgr hperm hsrt hD2 r8 gP lL c8
        go_upto_region 17 with fail
        generalize w8.setCell ⟨w.heap.size,6,none⟩ (.slice ta ys.length tc)=w9 at *
        clear f8 c8'
        have uD:=lO.out.size
        have nN:=ai R9.out
        have z9:=(lO.out.block (w.heap.size+1) (by omega) (by omega)).trans Z8.out
        have hk10:Kept (fun b=>b=w.heap.size+1) w9 (w9.setRow (w.heap.size+1) D2.enc.toArray):=bj _ _ _
        have r10:=Sm w9 (w.heap.size+1) _ D2.enc.toArray 27 (0,0) z9
        go_wp2_with (first|(refine aj 27 (.tmp 3) rfl w.heap.size 0 rfl D2.enc _ nN Tryz.underlying27 rfl ag (by rfl) ?_)|(refine Sj rfl 27 (.tmp 6) (.tmp 79) rfl (w.heap.size+1) (D2.enc.toArray) rfl rfl 27 _ z9 ag rfl aO ?_))
        generalize w9.setRow (w.heap.size+1) D2.enc.toArray=w10 at *
        have lY:=h_ (show Q (.returned (.tuple #[.agg D2.enc.toArray,.int .i64 0])) w10 from by
         have hc:=wC.out
         have xI:=lP.out.2.2
         have hge:∀ b,iQ ta ys b→wr.heap.size≤b:=fun b hb=>by
          rcases hb with⟨_,ad,e,rfl⟩|⟨z,hz,hu⟩
          · exact(lP.out.1.lt ad.block (by rw [e];rfl)).1
          · exact((lP.out.2.1 z hz).2 b hu).2
         have hold:∀ b,b<w5.heap.size→w2.heap.size≤b→¬ bt d'.ea d'.eV b→w10.heap[b]? =w5.heap[b]?:=fun b h1 h2 h3=>by
          rw [hk10.block b (by omega) (by omega),lO.out.block b (by omega) (by omega),xI.block b (by omega),tA.out.block b h1 h3]
         have hsz:w9.heap.size≤w10.heap.size:=hk10.size
         have hs:=kI Bc.out.1 Bc.out.2 yx.out
         obtain⟨t,t1,t2,t3,t4⟩:=lZ.out
         rw [←hQ,Nd.out]
         refine⟨D2,rfl,?_,⟨?_,?_,?_⟩,?_,?_⟩
         · rw [HD2.out,←hs,←hc];rfl
         · rw [HD2.out]
           refine ah.frame nT.out.1 (by omega) (fun b hb=>?_) (fun _ _ _=>trivial)
           exact hold b (aP nT.out.1 hb) (HU.out b (.inl hb)) (fun q=>by have:=t1 b hb;have:=t2 b q;omega)
         · rw [HD2.out]
           refine dG.frame A_.out (by omega) fun b hb=>?_
           have h1:=el A_.out hb
           have h2:=hge b hb
           rw [hk10.block b (by omega) (by omega),lO.out.block b (by omega) (by omega)]
         · rw [HD2.out]
           refine ah.frame nT.out.2.2 (by omega) (fun b hb=>?_) (fun _ _ _=>trivial)
           exact hold b (aP nT.out.2.2 hb) (HU.out b (.inr (.inr hb))) (fun q=>by have:=t4 b hb;have:=t2 b q;omega)
         · rw [HD2.out]
           intro b hb
           rcases hb with hb|hb|hb
           · have:=HU.out b (.inl hb);omega
           · have:=hge b hb;omega
           · have:=HU.out b (.inr (.inr hb));omega
         · exact(L4.out.trans (lO.out.below (by omega) fun b hb e=>by omega)).trans (hk10.below (by omega) fun b hb e=>by omega))
        clear hk10 z9 HD2 wC lP A_ lO Bc yx Nd lZ nT
        exact aL Tryz.results41 rfl rfl r10 rfl lY.out
 · have hne:(DE != 0)=true:=by simpa using h0
   have HE:=h_ (bh.out (DE) (bF.out h0) (w2.setRow (w.heap.size+1) zeD) (Sn hbw2 (by omega) _))
   have z9:=Sm w2 (w.heap.size+1) _ zeD 27 (0,0) Z2.out
   clear bF kD jU tw A8 cP dq bh hr2
   go_wp2_with (refine Sj rfl 27 (.tmp 6) (.tmp 15) rfl (w.heap.size+1) zeD rfl rfl 27 _ Z2.out ag rfl aO ?_)
   generalize w2.setRow (w.heap.size+1) zeD=w9 at *
   exact aL Tryz.results41 rfl rfl z9 rfl HE.out
theorem Gh (gx:Nat)(x:Ed)(w:Sk)(hE:Env w)(hbx:w.heap[gx]? =some (.cells x.enc.toArray 40 (0,0)))(hx:x.fits)(h0:0≤x.row):fF 87 #[.pointer (some ⟨gx,0,none⟩)] (restyle x.c) w:=by
 intro g B y w1 hb hB hBg hyl hyu qS hf hg qT hyp
 have hs:=hb.size
 have lx:=aR hbx
 have lg:=aR hg
 have hx1:=(hb.block gx lx).trans hbx
 have hE1:Env w1:=hE.below hb (Sq _)
 obtain⟨i,hi⟩:=Int.eq_ofNat_of_zero_le h0
 have hBw:B≤w1.heap.size:=by omega
 have hE2:=h_ (fun(h:restyle x.c y.c=(2,y.c)) (w':Sk) (h':Sp w1.heap.size w1 w')=>(show cO (restyle x.c) B g y w1 (.returned (.int .i64 2)) w' from⟨y,by rw [h],fun h2=>(by rw [h] at h2;cases h2),h'.mono hBw⟩))
 have hrl:y.c.rows[x.c.row.toNat]? =(y.rows[i]?).map Row.runs:=by
  show(y.rows.map Row.runs)[x.row.toNat]? =_
  rw [hi,List.getElem?_map];rfl
 have JF:y.rows.length≤4000000:=hf.2.2.2.2.2.2.2.2
 have hbN:∀ b,y.at_=some b→y.rows≠[]→∃ rb,b=⟨rb,0,none⟩:=by
  intro b hb' hne
  rcases qT.2 with⟨h1,h2⟩|⟨rb,cap,cur,h1,h2⟩
  · exact absurd (St h2) hne
  · simp only [Sx] at h1
    rw [hb'] at h1
    exact⟨rb,Option.some.inj h1.1⟩
 by_cases h1:i<y.rows.length
 · obtain⟨rb,off,r,hat,hrb,hr,hrc,uE⟩:=ah.at_ hyl h1
   have hne:y.rows≠[]:=fun e=>by rw [e] at h1;simp at h1
   obtain⟨rb',GL⟩:=hbN _ hat hne
   simp only [Addr.mk.injEq,and_true] at GL
   obtain⟨KG,hoff⟩:=GL
   subst KG
   subst hoff
   have xz:y.uses rb:=.inl ⟨hne,⟨rb,0,none⟩,hat,rfl⟩
   have hrl2:y.c.rows[x.c.row.toNat]? =some r.runs:=by rw [hrl,hr];rfl
   have hrf:=qS r (Sv hr)
   have HR:=h_ (show restyle x.c y.c=(if x.frm<0∨x.til≤x.frm∨rowLen r.runs<x.til then (2,y.c) else (0,{ y.c with rows:=y.c.rows.set i (gH r.runs x.frm x.til x.color x.it x.un) })) from by
    unfold restyle
    rw [hrl2]
    show(if x.frm<0∨x.til≤x.frm∨rowLen r.runs<x.til then (2,y.c) else (0,{ y.c with rows:=y.c.rows.set x.row.toNat _ }))=_
    rw [hi];rfl)
   have lN:=h_ (fun(w':Sk) (h:Sp w1.heap.size w1 w')=>eX r w' (hE1.below h (Sq _)) (Row.keeps _ _ _ h uE) hrf)
   have II:=h_ (fun(w':Sk) (h:Sp w1.heap.size w1 w')=>wY r x.frm x.til x.color x.it x.un w' (hE1.below h (Sq _)) (Row.keeps _ _ _ h uE) hrf)
   have fI:=h_ (fun(q:Row) (w2 w3:Sk) (h1:restyle x.c y.c=(0,{ y.c with rows:=y.c.rows.set i (gH r.runs x.frm x.til x.color x.it x.un) })) (h2:Sp w1.heap.size w1 w2) (hq:q.runs=gH r.runs x.frm x.til x.color x.it x.un) (hqo:w3.ownsRow w2.heap.size 77 5 (.slice q.at_ q.runs.length q.cap) q.runs.length (q.runs.flatMap Run.enc)) (h3:Sp w2.heap.size w2 w3) =>
    zI (by rw [h1,hq]) hr hat hyl qS hf (r_ x.frm x.til x.color x.it x.un hx.2.2.2.1 hrf hq) hBg lg hBw hyu hg qT (fun z hz b hu e=>hyp z hz b hu (by rw [hat,e];rfl)) h2 hqo h3)
   have hgr:rb≠g:=(hyu rb xz).2
   have qU:rb≠gx:=by have:=(hyu rb xz).1;omega
   have KF:rb<w1.heap.size:=hrb
   have lK:=h_ (fun(w2 w':Sk) (h2:Sp w1.heap.size w1 w2) (h:Kept (fun b=>b=rb) w2 w')=>(show w'.cell? ⟨gx,6,none⟩=some (.int .i64 x.row)∧w'.cell? ⟨gx,7,none⟩=some (.int .i64 x.frm)∧w'.cell? ⟨gx,8,none⟩=some (.int .i64 x.til)∧w'.cell? ⟨gx,10,none⟩=some (.int .u8 x.color)∧w'.cell? ⟨gx,11,none⟩=some (.bool x.it)∧w'.cell? ⟨gx,12,none⟩=some (.bool x.un)∧w'.cell? ⟨g,6,none⟩=some (.slice (some ⟨rb,0,none⟩) y.rows.length y.cap) from by
    have hbx:=(h.block gx (by have:=h2.size;omega) (fun e=>qU e.symm)).trans ((h2.block gx (by omega)).trans hx1)
    have hbg:=(h.block g (by have:=h2.size;omega) (fun e=>hgr e.symm)).trans ((h2.block g lg).trans hg)
    refine⟨Sh _ _ 6 _ 40 (0,0) hbx,Sh _ _ 7 _ 40 (0,0) hbx,Sh _ _ 8 _ 40 (0,0) hbx,Sh _ _ 10 _ 40 (0,0) hbx,Sh _ _ 11 _ 40 (0,0) hbx,Sh _ _ 12 _ 40 (0,0) hbx,?_⟩
    rw [←hat];exact Sh _ _ 6 _ 72 (0,0) hbg))
   have wi:=h_ (fun(w2 w':Sk) (h2:Sp w1.heap.size w1 w2) (h:Sp w2.heap.size w2 w')=>(show w'.cell? ⟨rb,i,none⟩=some (.slice r.at_ r.runs.length r.cap) from by
    have q0:=hrc 0 _ rfl
    rw [show 0+i*1+0=i by omega] at q0
    exact(h.cell (p:=⟨rb,i,none⟩) (Nat.lt_of_lt_of_le hrb h2.size)).trans ((h2.cell (p:=⟨rb,i,none⟩) hrb).trans q0)))
   have LO:=h_ (fun(w':Sk) (h:Sp w1.heap.size w1 w') (o:Nat)=>(show w'.frozen? ⟨rb,o,none⟩=false from by
    rcases qT.2 with⟨k1,k2⟩|⟨rb',cap,cur,k1,k2,k3,k4⟩
    · exact absurd (St k2) hne
    · simp only [Sx,hat,Option.some.injEq,Addr.mk.injEq,and_true] at k1
      obtain⟨rfl,_⟩:=k1
      simp [Sk.frozen?,(h.block rb KF).trans k3]))
   have hd1:Sp w1.heap.size w1 w1.drew:=(Sr _ _).drew
   have HE2:=hE2
   clear hE2 hrl hrl2 hbN hyl hyu qS hf hg qT hyp hb hbx hx hE hE1 hx1 hat hrc uE xz hrf hrb hr
   obtain⟨ra,rc,rs⟩:=r
   obtain⟨yid,yinn,yout,yreg,yk,ysp,yat,ycap,yrows⟩:=y
   obtain⟨op,id,other,inn,out,frame,row,frm,til,kind,color,it,un,name,text,⟨rn,rt,rh,rl,rwd,rga,rgb⟩,xat,xcap,xrows⟩:=x
   simp only at *
   subst hi
   generalize rowLen rs=RL at *
   generalize yrows.length=n at *
   generalize cO _ B g _ w1=Q at *
   show Calls Tryz.prog 87 #[.pointer (some ⟨g,0,none⟩),.pointer (some ⟨gx,0,none⟩)] w1 Q
   have hn0:(0:Int)≤(i:Int):=by omega
   by_cases c1:frm<0
   · have HE:=h_ (fun w_ h_=>HE2.out (HR.out.trans (if_pos (.inl c1))) w_ h_)
     have HV:=h_ (fun(w':Sk) (h:Sp w1.heap.size w1 w')=>lK.out w1 w' (Sr _ _) (Kept.of_below h))
     clear HE2 HR lN II fI wi lK LO
     go_enter Tryz.func87,Tryz.ntmps87
     go_upto_region 1 with fail
     refine Si (S:=fun w'=>Sp w1.heap.size w1 w') (by kernel_rfl) hd1 (fun _=>?_)
     have hd0:=hd1
     generalize w1.drew=v0 at *
     refine ab 0 (.pointer (some ⟨gx,6,none⟩)) hd0 ?_
     refine ab 1 (.int .i64 i) hd0 ?_ (hy:=.inl ⟨by rfl,fun w_ aH=>by have q_:=HV.out w_ aH;obtain⟨q1,q2,q3,q4,q5,q6,q7⟩:=q_;go_simp⟩)
     refine ab 2 (.pointer (some ⟨g,0,none⟩)) hd0 ?_
     refine ab 3 (.pointer (some ⟨g,0,none⟩)) hd0 ?_
     refine ab 4 (.pointer (some ⟨g,6,none⟩)) hd0 ?_
     refine ab 5 (.slice (some ⟨rb,0,none⟩) n ycap) hd0 ?_ (hy:=.inl ⟨by rfl,fun w_ aH=>by have q_:=HV.out w_ aH;obtain⟨q1,q2,q3,q4,q5,q6,q7⟩:=q_;go_simp⟩)
     refine ab 6 (.int .i64 n) hd0 ?_
     refine ab 7 (.bool false) hd0 ?_
     refine ab 8 (.bool false) hd0 ?_
     refine ab 9 (.pointer (some ⟨gx,7,none⟩)) hd0 ?_
     refine ab 10 (.int .i64 frm) hd0 ?_ (hy:=.inl ⟨by rfl,fun w_ aH=>by have q_:=HV.out w_ aH;obtain⟨q1,q2,q3,q4,q5,q6,q7⟩:=q_;go_simp⟩)
     refine ab 11 (.bool true) hd0 ?_
     refine ab 12 (.bool true) hd0 ?_
     refine ab 13 (.bool true) hd0 ?_
     refine aw 14 hd0 ?_
     refine aw 15 hd0 ?_
     refine aw 16 hd0 ?_
     refine aw 17 hd0 ?_
     refine aw 18 hd0 ?_
     refine ab 19 (.bool true) hd0 ?_
     refine ab 20 (.bool true) hd0 ?_
     refine aw 21 hd0 ?_
     refine aw 22 hd0 ?_
     refine aw 23 hd0 ?_
     refine aw 24 hd0 ?_
     refine aw 25 hd0 ?_
     refine aw 26 hd0 ?_
     refine aw 27 hd0 ?_
     refine aw 28 hd0 ?_
     refine aw 29 hd0 ?_
     refine aw 30 hd0 ?_
     refine aw 31 hd0 ?_
     refine aw 32 hd0 ?_
     refine ab 33 (.bool true) hd0 ?_
     refine Sl (by kernel_rfl) ?_ _
     go_wp2_with fail
     exact HE.out _ hd0
   · by_cases c2:til≤frm
     · have HE:=h_ (fun w_ h_=>HE2.out (HR.out.trans (if_pos (.inr (.inl c2)))) w_ h_)
       have HV:=h_ (fun(w':Sk) (h:Sp w1.heap.size w1 w')=>lK.out w1 w' (Sr _ _) (Kept.of_below h))
       clear HE2 HR lN II fI wi lK LO
       go_enter Tryz.func87,Tryz.ntmps87
       go_upto_region 1 with fail
       refine Si (S:=fun w'=>Sp w1.heap.size w1 w') (by kernel_rfl) hd1 (fun _=>?_)
       have hd0:=hd1
       generalize w1.drew=v0 at *
       refine ab 0 (.pointer (some ⟨gx,6,none⟩)) hd0 ?_
       refine ab 1 (.int .i64 i) hd0 ?_ (hy:=.inl ⟨by rfl,fun w_ aH=>by have q_:=HV.out w_ aH;obtain⟨q1,q2,q3,q4,q5,q6,q7⟩:=q_;go_simp⟩)
       refine ab 2 (.pointer (some ⟨g,0,none⟩)) hd0 ?_
       refine ab 3 (.pointer (some ⟨g,0,none⟩)) hd0 ?_
       refine ab 4 (.pointer (some ⟨g,6,none⟩)) hd0 ?_
       refine ab 5 (.slice (some ⟨rb,0,none⟩) n ycap) hd0 ?_ (hy:=.inl ⟨by rfl,fun w_ aH=>by have q_:=HV.out w_ aH;obtain⟨q1,q2,q3,q4,q5,q6,q7⟩:=q_;go_simp⟩)
       refine ab 6 (.int .i64 n) hd0 ?_
       refine ab 7 (.bool false) hd0 ?_
       refine ab 8 (.bool false) hd0 ?_
       refine ab 9 (.pointer (some ⟨gx,7,none⟩)) hd0 ?_
       refine ab 10 (.int .i64 frm) hd0 ?_ (hy:=.inl ⟨by rfl,fun w_ aH=>by have q_:=HV.out w_ aH;obtain⟨q1,q2,q3,q4,q5,q6,q7⟩:=q_;go_simp⟩)
       refine ab 11 (.bool false) hd0 ?_
       refine ab 12 (.bool false) hd0 ?_
       refine ab 13 (.bool false) hd0 ?_
       refine ab 14 (.pointer (some ⟨gx,7,none⟩)) hd0 ?_
       refine ab 15 (.int .i64 frm) hd0 ?_ (hy:=.inl ⟨by rfl,fun w_ aH=>by have q_:=HV.out w_ aH;obtain⟨q1,q2,q3,q4,q5,q6,q7⟩:=q_;go_simp⟩)
       refine ab 16 (.pointer (some ⟨gx,8,none⟩)) hd0 ?_
       refine ab 17 (.int .i64 til) hd0 ?_ (hy:=.inl ⟨by rfl,fun w_ aH=>by have q_:=HV.out w_ aH;obtain⟨q1,q2,q3,q4,q5,q6,q7⟩:=q_;go_simp⟩)
       refine ab 18 (.bool true) hd0 ?_
       refine ab 19 (.bool true) hd0 ?_
       refine ab 20 (.bool true) hd0 ?_
       refine aw 21 hd0 ?_
       refine aw 22 hd0 ?_
       refine aw 23 hd0 ?_
       refine aw 24 hd0 ?_
       refine aw 25 hd0 ?_
       refine aw 26 hd0 ?_
       refine aw 27 hd0 ?_
       refine aw 28 hd0 ?_
       refine aw 29 hd0 ?_
       refine aw 30 hd0 ?_
       refine aw 31 hd0 ?_
       refine aw 32 hd0 ?_
       refine ab 33 (.bool true) hd0 ?_
       refine Sl (by kernel_rfl) ?_ _
       go_wp2_with fail
       exact HE.out _ hd0
     · have HV:=h_ (fun(w':Sk) (h:Sp w1.heap.size w1 w')=>lK.out w1 w' (Sr _ _) (Kept.of_below h))
       have JO:=h_ (fun(w':Sk) (h:Sp w1.heap.size w1 w')=>wi.out w1 w' (Sr _ _) h)
       go_enter Tryz.func87,Tryz.ntmps87
       go_upto_region 1 with fail
       refine Si (S:=fun w'=>Sp w1.heap.size w1 w') (by kernel_rfl) hd1 (fun _=>?_)
       have hd0:=hd1
       generalize w1.drew=v0 at *
       refine ab 0 (.pointer (some ⟨gx,6,none⟩)) hd0 ?_
       refine ab 1 (.int .i64 i) hd0 ?_ (hy:=.inl ⟨by rfl,fun w_ aH=>by have q_:=HV.out w_ aH;obtain⟨q1,q2,q3,q4,q5,q6,q7⟩:=q_;go_simp⟩)
       refine ab 2 (.pointer (some ⟨g,0,none⟩)) hd0 ?_
       refine ab 3 (.pointer (some ⟨g,0,none⟩)) hd0 ?_
       refine ab 4 (.pointer (some ⟨g,6,none⟩)) hd0 ?_
       refine ab 5 (.slice (some ⟨rb,0,none⟩) n ycap) hd0 ?_ (hy:=.inl ⟨by rfl,fun w_ aH=>by have q_:=HV.out w_ aH;obtain⟨q1,q2,q3,q4,q5,q6,q7⟩:=q_;go_simp⟩)
       refine ab 6 (.int .i64 n) hd0 ?_
       refine ab 7 (.bool false) hd0 ?_
       refine ab 8 (.bool false) hd0 ?_
       refine ab 9 (.pointer (some ⟨gx,7,none⟩)) hd0 ?_
       refine ab 10 (.int .i64 frm) hd0 ?_ (hy:=.inl ⟨by rfl,fun w_ aH=>by have q_:=HV.out w_ aH;obtain⟨q1,q2,q3,q4,q5,q6,q7⟩:=q_;go_simp⟩)
       refine ab 11 (.bool false) hd0 ?_
       refine ab 12 (.bool false) hd0 ?_
       refine ab 13 (.bool false) hd0 ?_
       refine ab 14 (.pointer (some ⟨gx,7,none⟩)) hd0 ?_
       refine ab 15 (.int .i64 frm) hd0 ?_ (hy:=.inl ⟨by rfl,fun w_ aH=>by have q_:=HV.out w_ aH;obtain⟨q1,q2,q3,q4,q5,q6,q7⟩:=q_;go_simp⟩)
       refine ab 16 (.pointer (some ⟨gx,8,none⟩)) hd0 ?_
       refine ab 17 (.int .i64 til) hd0 ?_ (hy:=.inl ⟨by rfl,fun w_ aH=>by have q_:=HV.out w_ aH;obtain⟨q1,q2,q3,q4,q5,q6,q7⟩:=q_;go_simp⟩)
       refine ab 18 (.bool false) hd0 ?_
       refine ab 19 (.bool false) hd0 ?_
       refine ab 20 (.bool false) hd0 ?_
       refine ab 21 (.pointer (some ⟨gx,8,none⟩)) hd0 ?_
       refine ab 22 (.int .i64 til) hd0 ?_ (hy:=.inl ⟨by rfl,fun w_ aH=>by have q_:=HV.out w_ aH;obtain⟨q1,q2,q3,q4,q5,q6,q7⟩:=q_;go_simp⟩)
       refine ab 23 (.pointer (some ⟨g,0,none⟩)) hd0 ?_
       refine ab 24 (.pointer (some ⟨g,0,none⟩)) hd0 ?_
       refine ab 25 (.pointer (some ⟨g,6,none⟩)) hd0 ?_
       refine ab 26 (.slice (some ⟨rb,0,none⟩) n ycap) hd0 ?_ (hy:=.inl ⟨by rfl,fun w_ aH=>by have q_:=HV.out w_ aH;obtain⟨q1,q2,q3,q4,q5,q6,q7⟩:=q_;go_simp⟩)
       refine ab 27 (.pointer (some ⟨gx,6,none⟩)) hd0 ?_
       refine ab 28 (.int .i64 i) hd0 ?_ (hy:=.inl ⟨by rfl,fun w_ aH=>by have q_:=HV.out w_ aH;obtain⟨q1,q2,q3,q4,q5,q6,q7⟩:=q_;go_simp⟩)
       refine ab 29 (.pointer (some ⟨rb,i,none⟩)) hd0 ?_
       refine ab 30 (.agg #[.slice ra rs.length rc]) hd0 ?_ (hy:=.inl ⟨by rfl,fun w_ aH=>by have q_:=JO.out w_ aH;go_simp⟩)
       refine aq 31 (fun K hK=>?_)
       go_simp
       refine(lN.out _ hd0).mono ?_
       rintro e_ w2 ⟨rfl,ar⟩
       have hv1:Sp w1.heap.size w1 w2:=ak hd0 ar
       clear ar
       go_wp2_with fail
       refine goOn hK hv1 ?_
       clear hK
       refine ab 32 (.bool (decide (RL<til))) hv1 ?_
       refine ab 33 (.bool (decide (RL<til))) hv1 ?_
       refine Sl (by kernel_rfl) ?_ _
       have hs2:=hv1.size
       by_cases c3:RL<til
       · have HE:=h_ (fun w_ h_=>HE2.out (HR.out.trans (if_pos (.inr (.inr c3)))) w_ h_)
         clear HE2 HR lN II fI lK wi
         go_wp2_with fail
         exact HE.out _ hv1
       · have HQ:=h_ (fun(q:Row) (w3:Sk)=>fI.out q w2 w3 (HR.out.trans (if_neg (by rintro (k|k|k)<;>omega))) hv1)
         have LD:=h_ (fun(w':Sk) (h:Sp w2.heap.size w2 w')=>II.out w' (hv1.trans (h.mono (by omega))))
         have HV:=h_ (fun(w':Sk) (h:Kept (fun b=>b=rb) w2 w')=>lK.out w2 w' hv1 h)
         have JO:=h_ (fun(w':Sk) (h:Sp w2.heap.size w2 w')=>wi.out w2 w' hv1 h)
         clear HE2 HR lN II fI lK wi hd0
         go_upto_region 3 with fail
         have hv0:=hv1
         clear hv1
         have hd0:Sp w2.heap.size w2 w2.drew:=(Sr _ _).drew
         refine Si (S:=fun w'=>Kept (fun b=>b=rb) w2 w') (by kernel_rfl) (Kept.of_below hd0) (fun _=>?_)
         generalize w2.drew=v0 at *
         refine ab 0 (.pointer (some ⟨g,0,none⟩)) (Kept.of_below hd0) ?_
         refine ab 1 (.pointer (some ⟨g,0,none⟩)) (Kept.of_below hd0) ?_
         refine ab 2 (.pointer (some ⟨g,6,none⟩)) (Kept.of_below hd0) ?_
         refine ab 3 (.slice (some ⟨rb,0,none⟩) n ycap) (Kept.of_below hd0) ?_ (hy:=.inl ⟨by rfl,fun w_ aH=>by have q_:=HV.out w_ aH;obtain⟨q1,q2,q3,q4,q5,q6,q7⟩:=q_;go_simp⟩)
         refine ab 4 (.pointer (some ⟨gx,6,none⟩)) (Kept.of_below hd0) ?_
         refine ab 5 (.int .i64 i) (Kept.of_below hd0) ?_ (hy:=.inl ⟨by rfl,fun w_ aH=>by have q_:=HV.out w_ aH;obtain⟨q1,q2,q3,q4,q5,q6,q7⟩:=q_;go_simp⟩)
         refine ab 6 (.pointer (some ⟨g,0,none⟩)) (Kept.of_below hd0) ?_
         refine ab 7 (.pointer (some ⟨g,0,none⟩)) (Kept.of_below hd0) ?_
         refine ab 8 (.pointer (some ⟨g,6,none⟩)) (Kept.of_below hd0) ?_
         refine ab 9 (.slice (some ⟨rb,0,none⟩) n ycap) (Kept.of_below hd0) ?_ (hy:=.inl ⟨by rfl,fun w_ aH=>by have q_:=HV.out w_ aH;obtain⟨q1,q2,q3,q4,q5,q6,q7⟩:=q_;go_simp⟩)
         refine ab 10 (.pointer (some ⟨gx,6,none⟩)) (Kept.of_below hd0) ?_
         refine ab 11 (.int .i64 i) (Kept.of_below hd0) ?_ (hy:=.inl ⟨by rfl,fun w_ aH=>by have q_:=HV.out w_ aH;obtain⟨q1,q2,q3,q4,q5,q6,q7⟩:=q_;go_simp⟩)
         refine ab 12 (.pointer (some ⟨rb,i,none⟩)) (Kept.of_below hd0) ?_
         refine ab 14 (.pointer (some ⟨gx,7,none⟩)) (Kept.of_below hd0) ?_
         refine ab 15 (.int .i64 frm) (Kept.of_below hd0) ?_ (hy:=.inl ⟨by rfl,fun w_ aH=>by have q_:=HV.out w_ aH;obtain⟨q1,q2,q3,q4,q5,q6,q7⟩:=q_;go_simp⟩)
         refine ab 16 (.pointer (some ⟨gx,8,none⟩)) (Kept.of_below hd0) ?_
         refine ab 17 (.int .i64 til) (Kept.of_below hd0) ?_ (hy:=.inl ⟨by rfl,fun w_ aH=>by have q_:=HV.out w_ aH;obtain⟨q1,q2,q3,q4,q5,q6,q7⟩:=q_;go_simp⟩)
         refine ab 18 (.pointer (some ⟨gx,10,none⟩)) (Kept.of_below hd0) ?_
         refine ab 19 (.agg #[.int .u8 color,.bool it,.bool un]) (Kept.of_below hd0) ?_ (hy:=.inl ⟨by rfl,fun w_ aH=>by have q_:=HV.out w_ aH;obtain⟨q1,q2,q3,q4,q5,q6,q7⟩:=q_;go_simp⟩)
         refine aq 13 (fun K hK=>?_)
         have q8:=JO.out v0 hd0
         go_simp
         refine goOn hK (Kept.of_below hd0) ?_
         clear hK
         refine aq 20 (fun K hK=>?_)
         go_simp
         refine(LD.out _ hd0).mono ?_
         rintro e_ w3 ⟨⟨qa,qc,qs⟩,rfl,KJ,hqo,ar⟩
         simp only at KJ hqo
         have hv1:Sp w2.heap.size w2 w3:=ak hd0 ar
         have hs3:=hv1.size
         have GM:=kW hqo hd0.size
         clear ar hqo
         have q8:=JO.out w3 hv1
         have f8:w3.frozen? ⟨rb,i,none⟩=false:=LO.out w3 (hv0.trans (hv1.mono (by omega))) _
         have MR:=h_ KJ
         clear KJ
         simp only [Row.enc]
         go_wp2_with fail
         refine goOn hK (Kept.of_below hv1) ?_
         clear hK
         refine ab 21 (.pointer (some ⟨rb,i,none⟩)) (Kept.of_below hv1) ?_
         refine aq 22 (fun K hK=>?_)
         go_simp
         have hst:Kept (fun b=>b=rb) w2 (w3.setCell ⟨rb,i,none⟩ (.slice qa qs.length qc)):=(Kept.of_below (S:=fun b=>b=rb) hv1).setCell (p:=⟨rb,i,none⟩) (.inr rfl) _
         refine goOn hK hst ?_
         clear hK
         refine Sl (by kernel_rfl) ?_ _
         have HF:=h_ (HQ.out ⟨qa,qc,qs⟩ w3 MR.out GM hv1)
         clear hst HQ MR GM
         generalize w3.setCell ⟨rb,i,none⟩ (.slice qa qs.length qc)=w9 at *
         go_wp2_with fail
         exact HF.out
 · have HE:=h_ (hE2.out (by
    unfold restyle
    rw [hrl,List.getElem?_eq_none (by omega)]
    rfl))
   have hc6:w1.cell? ⟨g,6,none⟩=some (.slice y.at_ y.rows.length y.cap):=Sh _ _ 6 _ 72 (0,0) hg
   have HV:=h_ (fun(w':Sk) (h:Sp w1.heap.size w1 w')=>(show w'.cell? ⟨gx,6,none⟩=some (.int .i64 x.row)∧w'.cell? ⟨g,6,none⟩=some (.slice y.at_ y.rows.length y.cap) from
    ⟨Sh _ _ 6 _ 40 (0,0) ((h.block gx (by omega)).trans hx1),Sh _ _ 6 _ 72 (0,0) ((h.block g lg).trans hg)⟩))
   have hd0:Sp w1.heap.size w1 w1.drew:=(Sr _ _).drew
   clear hE2 hrl hbN hyl hyu qS hf hg qT hyp hb hbx hx hE hE1 hx1 hc6
   rw [hi] at HV
   generalize y.rows.length=n at *
   have h1':n≤i:=by omega
   clear h1
   generalize cO (restyle x.c) B g y w1=Q at *
   show Calls Tryz.prog 87 #[.pointer (some ⟨g,0,none⟩),.pointer (some ⟨gx,0,none⟩)] w1 Q
   go_enter Tryz.func87,Tryz.ntmps87
   go_upto_region 1 with fail
   refine Si (S:=fun w'=>Sp w1.heap.size w1 w') (by kernel_rfl) hd0 (fun _=>?_)
   generalize w1.drew=v0 at *
   refine ab 0 (.pointer (some ⟨gx,6,none⟩)) hd0 ?_
   refine ab 1 (.int .i64 i) hd0 ?_ (hy:=.inl ⟨by rfl,fun w_ aH=>by have q_:=HV.out w_ aH;obtain⟨q1,q7⟩:=q_;go_simp⟩)
   refine ab 2 (.pointer (some ⟨g,0,none⟩)) hd0 ?_
   refine ab 3 (.pointer (some ⟨g,0,none⟩)) hd0 ?_
   refine ab 4 (.pointer (some ⟨g,6,none⟩)) hd0 ?_
   refine ab 5 (.slice y.at_ n y.cap) hd0 ?_ (hy:=.inl ⟨by rfl,fun w_ aH=>by have q_:=HV.out w_ aH;obtain⟨q1,q7⟩:=q_;go_simp⟩)
   refine ab 6 (.int .i64 n) hd0 ?_
   refine ab 7 (.bool true) hd0 ?_
   refine ab 8 (.bool true) hd0 ?_
   refine aw 9 hd0 ?_
   refine aw 10 hd0 ?_
   refine aw 11 hd0 ?_
   refine ab 12 (.bool true) hd0 ?_
   refine ab 13 (.bool true) hd0 ?_
   refine aw 14 hd0 ?_
   refine aw 15 hd0 ?_
   refine aw 16 hd0 ?_
   refine aw 17 hd0 ?_
   refine aw 18 hd0 ?_
   refine ab 19 (.bool true) hd0 ?_
   refine ab 20 (.bool true) hd0 ?_
   refine aw 21 hd0 ?_
   refine aw 22 hd0 ?_
   refine aw 23 hd0 ?_
   refine aw 24 hd0 ?_
   refine aw 25 hd0 ?_
   refine aw 26 hd0 ?_
   refine aw 27 hd0 ?_
   refine aw 28 hd0 ?_
   refine aw 29 hd0 ?_
   refine aw 30 hd0 ?_
   refine aw 31 hd0 ?_
   refine aw 32 hd0 ?_
   refine ab 33 (.bool true) hd0 ?_
   refine Sl (by kernel_rfl) ?_ _
   go_wp2_with fail
   exact HE.out _ hd0
end Go.Proofs.YtjebaagkomejaaaGreatDoor
