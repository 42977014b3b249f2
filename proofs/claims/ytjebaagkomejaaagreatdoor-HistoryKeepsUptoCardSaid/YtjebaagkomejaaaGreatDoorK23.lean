/- document.Shift: the events from a frame on moved. style: a marked row has no more bytes than the row, and fits where the row does; the bytes of the characters of a valid text are the text. -/
import Derived.Test.YtjebaagkomejaaaGreatDoorK21
set_option linter.unusedVariables false
set_option linter.unusedSimpArgs false
set_option maxRecDepth 100000
set_option maxHeartbeats 12800000
open Go.Lib renaming hid→h_
open List renaming setIfInBounds_toArray→YA,getElem_cons_zero→YB,getElem_cons_succ→YC,getElem_toArray→YD,set_cons_zero→YE,set_cons_succ→YF
open Array renaming toArray_toList→YG
open Nat renaming le_refl→Sj,le_trans→Sk
open Go renaming wpList_store_row→Sl,setRow_heap→Sm,below_setRow→Sn,cell_of_row→Sp
open List renaming mem_singleton→Sq,mem_append→Sr,mem_map→Ss,length_map→St,take_append_drop→Su,length_filter_le→Sv,length_append→Sw,mem_filter→Sx,drop_eq_nil_of_le→Sy,mem_of_getElem?→Sz,pairwise_map→SA,length_cons→SB,drop_zero→SC,mem_cons→SD
open Go.Value.slice renaming injEq→SF
open Decidable renaming not_not→SG
namespace Go.Proofs.YtjebaagkomejaaaGreatDoor
open Go.RowKit
theorem uq (d:Doc)(fr n:Int)(w:World)(hE:Env w)(hd:d.lies w)(hf:d.fits)(Kw:i64 n):Calls Tryz.prog 41 #[.agg d.enc.toArray,.int .i64 fr,.int .i64 n] w (aS (dY d.c fr n) w):=by
 have jb:=h_ (fun(w1:World) (h:Below w.heap.size w w1)=>b_ d w1 (hE.below h (Sj _)) (Doc.later hd h) hf)
 have dA:=h_ (fun(w1:World) (h:Below w.heap.size w w1)=>dx d w1 (Doc.later hd h) hf)
 have bh:=h_ (fun(q:Int) (hq:dY d.c fr n=(q,aU)) (w':World) (h:Below w.heap.size w w')=>(show aS (dY d.c fr n) w (.returned (.tuple #[.agg zeD,.int .i64 q])) w' from hq▸aS.zero q h))
 have bD:=h_ (fun(h:a_ d≠0)=>(show dY d.c fr n=(a_ d,aU) from by unfold dY;rw [if_pos (fun q=>h ((bA d).trans q)),←bA]))
 have jF:=h_ (fun(h:a_ d=0) (h2:n < -5184000∨5184000<n)=>(show dY d.c fr n=(2,aU) from by unfold dY;rw [if_neg (fun q=>q ((bA d).symm.trans h)),if_pos h2]))
 have jW:=h_ (fun(d':Doc) (h0:a_ d=0) hn hc hok=>DS (d:=d) (d':=d') (fr:=fr) (n:=n) h0 hn hc hok)
 have tU:=h_ (fun(d':Doc) (y:Ev) (q:Nat) (h0:a_ d=0) hn hc hy hok=>zx (d:=d) (d':=d') (fr:=fr) (n:=n) (y:=y) (q:=q) h0 hn hc hy hok)
 have Bf:=h_ (fun(h0:a_ d=0) (e:EvC) (he:e∈d.c.eV)=>AY ((bA d).symm.trans h0) he)
 have cT:=h_ (fun(d':Doc) (h:d'.c=d.c)=>bn h hf)
 have dp:=h_ (o_ w d.enc.toArray zeD)
 have hb2:∀ o1 o2:Obj,Below w.heap.size w ((w.alloc o1).alloc o2):=fun o1 o2=>((Below.refl _ _).alloc (Sj _) _).alloc (by simp) _
 have hsz2:∀ o1 o2:Obj,((w.alloc o1).alloc o2).heap.size=w.heap.size+2:=fun o1 o2=>by simp
 generalize hR:dY d.c fr n=R at *
 generalize hQ:aS R w=Q at bh ⊢
 unfold i64 at Kw
 clear hd hf hE
 go_enter Tryz.func41,Tryz.ntmps41
 have hr0:=ai dp.out.1
 go_wp2_with (refine aj 27 (.tmp 3) rfl w.heap.size 0 rfl d.enc _ hr0 Tryz.underlying27 rfl ag (by rfl) ?_)
 refine(jb.out _ (hb2 _ _)).mono ?_
 rintro e w2 ⟨rfl,hb1⟩
 rw [hsz2] at hb1
 have hbw2:Below w.heap.size w w2:=(hb2 _ _).trans (hb1.mono (by omega))
 have r2:=(hb1.block w.heap.size (by omega)).trans dp.out.1
 have z2:=(hb1.block (w.heap.size+1) (by omega)).trans dp.out.2
 have hs2:w.heap.size+2≤w2.heap.size:=by have:=hb1.size;rw [hsz2] at this;exact this
 clear hb1 hr0 jb dp hb2 hsz2
 have hr2:=ai r2
 have R2:=h_ r2
 have Z2:=h_ z2
 clear r2 z2
 have vN:=h_ (bA d)
 generalize a_ d=DE at *
 by_cases h0:DE=0
 · subst h0
   by_cases hn:n < -5184000∨5184000<n
   · have mg:=h_ (jF.out rfl hn)
     clear bD jF jW tU Bf cT dA hr2
     rcases hn with hn|hn
     · skip
       have HE:=h_ (bh.out (2) mg.out (w2.setRow (w.heap.size+1) zeD) (Sn hbw2 (by omega) _))
       have z9:=Sm w2 (w.heap.size+1) _ zeD 27 (0,0) Z2.out
       clear bh mg
       go_wp2_with (refine Sl rfl 27 (.tmp 6) (.tmp 23) rfl (w.heap.size+1) zeD rfl rfl 27 _ Z2.out ag rfl aO ?_)
       generalize w2.setRow (w.heap.size+1) zeD=w9 at *
       exact aL Tryz.results41 rfl rfl z9 rfl HE.out
     · have hn1:n < -5184000∨-5184000≤n:=by omega
       have hn2:¬ n < -5184000:=by omega
       have HE:=h_ (bh.out (2) mg.out (w2.setRow (w.heap.size+1) zeD) (Sn hbw2 (by omega) _))
       have z9:=Sm w2 (w.heap.size+1) _ zeD 27 (0,0) Z2.out
       clear bh mg hn1
       go_wp2_with (refine Sl rfl 27 (.tmp 6) (.tmp 23) rfl (w.heap.size+1) zeD rfl rfl 27 _ Z2.out ag rfl aO ?_)
       generalize w2.setRow (w.heap.size+1) zeD=w9 at *
       exact aL Tryz.results41 rfl rfl z9 rfl HE.out
   · have hn1:-5184000≤n:=by omega
     have hn2:n≤5184000:=by omega
     have HN:=h_ hn
     have wZ:=h_ (vN.out.symm.trans rfl:cErr d.c=0)
     clear bD jF hn
     go_wp2_with (refine aj 27 (.tmp 3) rfl w.heap.size 0 rfl d.enc _ hr2 Tryz.underlying27 rfl ag (by rfl) ?_)
     refine(dA.out w2 hbw2).mono ?_
     rintro e w4 ⟨d',rfl,hc',hl',hu',hb4,hap,hoe, -,hox, -⟩
     have eo:=cT.out d' hc'
     have bQ:Below w.heap.size w w4:=hbw2.trans (hb4.mono hbw2.size)
     have r4:=(hb4.block w.heap.size (by omega)).trans R2.out
     have z4:=(hb4.block (w.heap.size+1) (by omega)).trans Z2.out
     have hs4:w2.heap.size≤w4.heap.size:=hb4.size
     have CS:=h_ (fun(y:Ev) (hy:y∈d'.eV)=>Bf.out (by first|rfl|trivial) y.c (by rw [←hc'];exact Ss.2 ⟨y,hy,rfl⟩))
     clear hr2 R2 Z2 dA hbw2 cT hb4 Bf
     go_upto_region 7 with(refine Sl rfl 27 (.tmp 3) (.tmp 25) rfl (w.heap.size) (d'.enc.toArray) rfl rfl 27 _ r4 ag rfl aO ?_)
     have hk5:Kept (fun b=>b=w.heap.size) w4 (w4.setRow w.heap.size d'.enc.toArray):=bj w4 w.heap.size d'.enc.toArray
     have r5:=Sm w4 w.heap.size _ d'.enc.toArray 27 (0,0) r4
     generalize w4.setRow w.heap.size d'.enc.toArray=w5 at *
     have hs5:=hk5.size
     have hl5:d'.lies w5:=Doc.frame hl' hs5 fun b hb=>hk5.block b (Doc.uses_lt hl' hb) (by have:=hu' b hb;omega)
     have oe5:=aB hoe fun b q=>hk5.block b (hoe.lt b q).2 (by have:=(hoe.lt b q).1;omega)
     have z5:=(hk5.block (w.heap.size+1) (by omega) (by omega)).trans z4
     have hb5:Below w.heap.size w w5:=bQ.trans (hk5.below (by omega) fun k hk e=>by omega)
     have hle:d'.eV.length≤4000000:=eo.2.2.2.2.2.2.2.2.1
     have c6:w5.cell? ⟨w.heap.size,6,none⟩=some (.slice d'.ea d'.eV.length d'.ec):=Sp _ _ 6 _ 27 (0,0) r5
     have HR1:=h_ (And.intro (dK.start (shE fr n) d'.eV) (And.intro oe5 (Kept.refl (fun b=>bp d'.ea d'.eV b) w5)))
     have tL:=h_ (fun b (hb:b<w.heap.size+2)=>(show ¬ bp d'.ea d'.eV b from fun q=>by have:=hu' b (.inr (.inl (.inl q)));omega))
     have R5:=h_ r5
     have Z5:=h_ z5
     have iG:=h_ hb5
     have n_:=h_ hl5
     have HU:=h_ hu'
     have oR:=h_ hap
     have eP:=h_ eo
     have Ll:=h_ hox
     have xf:=h_ hc'
     have Ch:w.heap.size+2≤w5.heap.size:=by omega
     have LQ:w2.heap.size≤w5.heap.size:=by omega
     clear hl' r4 z4 hk5 hoe bQ hl5 oe5 z5 hb5 hu' hap eo hox hc' r5 hs4 hs5
     go_wp2_with fail
     go_loopw [29] (fun i wr=>∃ (j:Nat) (zs:List Ev),j≤d'.eV.length∧i=.int .i64 j∧dK (shE fr n) d'.eV zs j∧wr.ownsRow w2.heap.size 72 7 (.slice d'.ea d'.eV.length d'.ec) d'.eV.length (zs.flatMap Ev.enc)∧Kept (fun b=>bp d'.ea d'.eV b) w5 wr∧∀ q,q<j→∀ y,d'.eV[q]? =some y→eB fr n y.c=true) (fun i _=>d'.eV.length-(intOf i).toNat)
     case atStart=>exact⟨0,d'.eV,by omega,rfl,HR1.out.1,HR1.out.2.1,HR1.out.2.2,fun q h=>absurd h (by omega)⟩
     case round =>
      clear HR1 c6
      obtain⟨j,zs,hj,rfl,hup,how,hkp,Cq⟩:=hrel
      have hs:=hkp.size
      have b8:=(hkp.block w.heap.size (by omega) (tL.out _ (by omega))).trans R5.out
      have c8:wr.cell? ⟨w.heap.size,6,none⟩=some (.slice d'.ea d'.eV.length d'.ec):=Sp _ _ 6 _ 27 (0,0) b8
      by_cases hlt:j<d'.eV.length
      · have hx:d'.eV[j]? =some d'.eV[j]:=List.getElem?_eq_getElem hlt
        generalize d'.eV[j]=x at hx
        obtain⟨eb,cp,he⟩:=dD how (by omega)
        have he2:d'.ea=some ⟨eb,0,none⟩:=by simp only [SF] at he;exact he.1
        have qu:=hup.at_ hx
        rw [he] at how c8
        have hlz:zs.length=d'.eV.length:=hup.1
        have hcs:∀ q v,x.enc[q]? =some v→q<7→wr.cell? ⟨eb,j*7+q,none⟩=some v:=fun q v hv hq8=>by
         rw [how.cellAt (j*7+q) (by omega)]
         exact cK Ev.enc 7 (fun _=>rfl) zs j x q _ qu hv
        have hcell1:wr.cell? ⟨eb,j*7+1,none⟩=some (.int .i64 x.inn):=hcs 1 _ rfl (by decide)
        have hcell2:wr.cell? ⟨eb,j*7+1+1,none⟩=some (.int .i64 x.out):=hcs 2 _ rfl (by decide)
        have hcp:d'.eV.length≤cp:=by
         rcases how.2 with⟨h0,_⟩|⟨g',cap',cur,h0,_,_,hnc,_⟩
         · simp at h0
         · simp only [SF] at h0
           obtain⟨_,_,rfl⟩:=h0
           exact hnc
        have fz:=fun j=>how.frozenAt (j:=j)
        have hsp:=CS.out x (Sz hx)
        have hsi:0≤x.inn:=hsp.1
        have hso:x.inn<x.out:=hsp.2.1
        have hsm:x.out≤5184000:=hsp.2.2
        have C2:=h_ (fun(hq:¬ x.inn<fr)=>DT (n:=n) hup how hkp hx he2 hq)
        have Fu:=h_ (fun(hq:x.inn<fr)=>dK.skip hup hx (BI (n:=n) hq))
        have HOW:=h_ how
        have tV:=h_ hkp
        have Bm:=h_ (fun(ho:eB fr n x.c=true)=>(show ∀ q,q<j+1→∀ y,d'.eV[q]? =some y→eB fr n y.c=true from fun q hq y hy=>by
         by_cases e:q=j
         · subst e;rw [hx] at hy;rw [←Option.some.inj hy];exact ho
         · exact Cq q (by omega) y hy))
        have HBAD:=h_ (fun(ho:eB fr n x.c=false)=>tU.out d' x j (by first|rfl|trivial) HN.out xf.out hx ho)
        have B8:=h_ b8
        have HX:=h_ hx
        rw [←he] at C2 HOW
        have Ob:w2.heap.size≤eb∧eb<wr.heap.size:=by have:=how.lt eb rfl;exact this
        clear b8 qu how hup hkp hx he he2 hsp Cq hcs
        by_cases hq:x.inn<fr
        · have HE:=h_ (Fu.out hq)
          have HO:=h_ (Bm.out (by unfold eB;rw [show x.c.inn=x.inn from rfl,decide_eq_true hq];rfl))
          clear C2 Fu Bm HBAD
          go_wp2_with fail
          go_roundw
          case rel=>exact⟨j+1,_,by omega,by go_num,HE.out,HOW.out,tV.out,HO.out⟩
          case measure=>simp [intOf];omega
        · have hq2:fr≤x.inn:=by omega
          have HE:=h_ (C2.out hq)
          have MH:=h_ hq
          clear C2 Fu hq
          obtain⟨W12,Cz⟩:∃ W,W=(wr.drew.setCell ⟨eb,j*7+1,none⟩ (.int .i64 (x.inn+n))).setCell ⟨eb,j*7+1+1,none⟩ (.int .i64 (x.out+n)):=⟨_,rfl⟩
          have HE2:=HE.out
          rw [←Cz] at HE2
          have FL:=h_ HE2
          have w1:W12.cell? ⟨eb,j*7+1,none⟩=some (.int .i64 (x.inn+n))∧W12.cell? ⟨eb,j*7+1+1,none⟩=some (.int .i64 (x.out+n)):=by
           rw [Cz]
           have q1:wr.drew.cell? ⟨eb,j*7+1,none⟩=some (.int .i64 x.inn):=hcell1
           have q2:wr.drew.cell? ⟨eb,j*7+1+1,none⟩=some (.int .i64 x.out):=hcell2
           constructor
           · go_simp
           · go_simp
          have HW1:=h_ w1
          have Ig:=h_ Cz
          clear HE HE2 w1 Cz
          have wr1:IntKind.i64.wrap (x.inn+n)=x.inn+n:=by rw [IntKind.wrap_i64];omega
          have wr2:IntKind.i64.wrap (x.out+n)=x.out+n:=by rw [IntKind.wrap_i64];omega
          go_upto_region 12 with fail
          go_cut [] from 43 to 60 (fun wx=>wx=W12)
          case first =>
           have hd0:Kept (fun b=>b=eb) wr wr.drew:=Kept.of_below ((Below.refl _ _).drew)
           have fd1:wr.drew.cell? ⟨eb,j*7+1,none⟩=some (.int .i64 x.inn):=hcell1
           have fd2:wr.drew.cell? ⟨eb,j*7+1+1,none⟩=some (.int .i64 x.out):=hcell2
           have fdz:∀ j,wr.drew.frozen? ⟨eb,j,none⟩=false:=fz
           refine wp_region_held_drew (S:=fun w'=>Kept (fun b=>b=eb) wr w') (by kernel_rfl) hd0 (fun _=>?_)
           refine ab 0 (.pointer (some ⟨eb,j*7+1,none⟩)) hd0 ?_
           refine ab 1 (.pointer (some ⟨eb,j*7+1,none⟩)) hd0 ?_
           refine ab 2 (.pointer (some ⟨eb,j*7+1,none⟩)) hd0 ?_
           refine ab 3 (.pointer (some ⟨eb,j*7+1,none⟩)) hd0 ?_
           refine ab 4 (.pointer (some ⟨eb,j*7+1,none⟩)) hd0 ?_
           refine ab 6 (.int .i64 n) hd0 ?_
           refine ab 8 (.pointer (some ⟨eb,j*7+1,none⟩)) hd0 ?_
           refine ab 9 (.pointer (some ⟨eb,j*7+1,none⟩)) hd0 ?_
           refine ab 10 (.pointer (some ⟨eb,j*7+1+1,none⟩)) hd0 ?_
           refine ab 12 (.int .i64 n) hd0 ?_
           refine dP 5 11 (fun K hK=>?_) (fun K hK=>?_)
           focus
            go_simp
            refine goOn hK hd0 ?_
            clear hK
            refine ab 7 (.int .i64 (x.inn+n)) hd0 ?_
            refine aq 11 (fun K hK=>?_)
            go_simp
            refine goOn hK hd0 ?_
            clear hK
            refine ab 13 (.int .i64 (x.out+n)) hd0 ?_
           rotate_left
           focus
            go_simp
            refine goOn hK hd0 ?_
            clear hK
            refine ab 13 (.int .i64 (x.out+n)) hd0 ?_
            refine aq 5 (fun K hK=>?_)
            go_simp
            refine goOn hK hd0 ?_
            clear hK
            refine ab 7 (.int .i64 (x.inn+n)) hd0 ?_
           all_goals
            refine ab 14 (.pointer (some ⟨eb,j*7+1,none⟩)) hd0 ?_
            refine ab 15 (.pointer (some ⟨eb,j*7+1,none⟩)) hd0 ?_
            refine aq 16 (fun K hK=>?_)
            go_simp
            have hk1:Kept (fun b=>b=eb) wr (wr.drew.setCell ⟨eb,j*7+1,none⟩ (.int .i64 (x.inn+n))):=bG hd0 (j*7+1) _
            refine goOn hK hk1 ?_
            clear hK
            refine ab 17 (.pointer (some ⟨eb,j*7+1,none⟩)) hk1 ?_
            refine ab 18 (.pointer (some ⟨eb,j*7+1+1,none⟩)) hk1 ?_
            refine aq 19 (fun K hK=>?_)
            go_simp
            have hk2:Kept (fun b=>b=eb) wr ((wr.drew.setCell ⟨eb,j*7+1,none⟩ (.int .i64 (x.inn+n))).setCell ⟨eb,j*7+1+1,none⟩ (.int .i64 (x.out+n))):=bG hk1 (j*7+1+1) _
            refine goOn hK hk2 ?_
            clear hK
            refine wpAnyH_done (by kernel_rfl) ?_ _
            go_wp2_with fail
            go_meet
            exact Ig.out.symm
          case rest =>
           obtain rfl:=hcut
           have g1:=HW1.out.1
           have g2:=HW1.out.2
           have Ez:=FL.out.2.2.size
           clear hcell1 hcell2 fz c8 Ig HW1
           by_cases ho:0≤x.inn+n∧x.out+n≤5184000
           · have ho1:=ho.1
             have ho2:=ho.2
             have HO:=h_ (Bm.out (by
              unfold eB
              rw [show x.c.inn=x.inn from rfl,show x.c.out=x.out from rfl,decide_eq_false MH.out,decide_eq_true ho1,decide_eq_true ho2];rfl))
             clear Bm HBAD ho tU
             go_wp2_with fail
             go_roundw
             case rel=>exact⟨j+1,_,by omega,by go_num,FL.out.1,FL.out.2.1,FL.out.2.2,HO.out⟩
             case measure=>simp [intOf];omega
           · have fB:=h_ (HBAD.out (by
              unfold eB
              rw [show x.c.inn=x.inn from rfl,show x.c.out=x.out from rfl,decide_eq_false MH.out]
              by_cases h1:0≤x.inn+n
              · rw [decide_eq_false (fun h2=>ho ⟨h1,h2⟩)];simp
              · rw [decide_eq_false h1];rfl))
             have Hl:Below w.heap.size w wc:=iG.out.trans (FL.out.2.2.below (by omega) fun b hb=>tL.out b (by omega))
             have Z12:=h_ ((FL.out.2.2.block (w.heap.size+1) (by omega) (tL.out _ (by omega))).trans Z5.out)
             have Et:x.inn+n<0∨(0≤x.inn+n∧5184000<x.out+n):=by omega
             clear Bm HBAD ho tU
             rcases Et with Et|⟨Et,Nk⟩
             focus
              have HE:=h_ (bh.out (2) fB.out (wc.setRow (w.heap.size+1) zeD) (Sn Hl (by omega) _))
             rotate_left
             focus
              have HE:=h_ (bh.out (2) fB.out (wc.setRow (w.heap.size+1) zeD) (Sn Hl (by omega) _))
             all_goals
              have z9:=Sm wc (w.heap.size+1) _ zeD 27 (0,0) Z12.out
              clear FL bh fB CS jW
              go_wp2_with (refine Sl rfl 27 (.tmp 6) (.tmp 73) rfl (w.heap.size+1) zeD rfl rfl 27 _ Z12.out ag rfl aO ?_)
              generalize wc.setRow (w.heap.size+1) zeD=w9 at *
              exact aL Tryz.results41 rfl rfl z9 rfl HE.out
      · obtain rfl:j=d'.eV.length:=by omega
        obtain rfl:=hup.all
        have M_:=h_ (jW.out d' (by first|rfl|trivial) HN.out xf.out Cq)
        have G3:∀ z∈d'.eV.map (shE fr n),z.lies wr:=fun z hz=>by
         obtain⟨x,hx,rfl⟩:=Ss.1 hz
         have hxl:x.lies w5:=gh n_.out.2.1 hx
         obtain⟨t,_,t2,t3,_⟩:=oR.out
         show bx wr (shE fr n x).at_ (shE fr n x).rows
         rw [(zy fr n x).1,(zy fr n x).2]
         exact Ev.frame hxl hs fun b hb=>hkp.block b (Ev.uses_lt hxl hb) (fun q=>by have:=t3 x hx b hb;have:=t2 b q;omega)
        obtain⟨ea',ec',he',hS⟩:=aA (k:=7) (enc:=Ev.enc) (Ok:=Ev.lies) (xs:=d'.eV.map (shE fr n)) (fun _=>rfl) (by rw [St];exact how) G3
        rw [St] at he'
        simp only [SF] at he'
        obtain⟨rfl, -,rfl⟩:=he'
        have lI:=h_ (ix d'.ea d'.ec (d'.eV.map (shE fr n)) wr hS (fun z hz=>by
         obtain⟨x,hx,rfl⟩:=Ss.1 hz
         have hfx:=eP.out.2.2.2.2.2.2.2.1 x hx
         have hsp:=CS.out x hx
         unfold shE
         split
         · exact hfx
         · have i1:0≤x.inn:=hsp.1
           have i2:x.inn<x.out:=hsp.2.1
           have i3:x.out≤5184000:=hsp.2.2
           exact⟨hfx.1,⟨by show _≤x.inn+n;omega,by show x.inn+n≤_;omega⟩,⟨by show _≤x.out+n;omega,by show x.out+n≤_;omega⟩,hfx.2.2.2⟩) (by rw [St];exact hle))
        rw [St] at lI
        have tV:=h_ hkp
        have B8:=h_ b8
        have yS:=h_ (show((d'.eV.map (shE fr n)).map Ev.c).Pairwise fun x y=>x.id≠y.id from by
         have h1:cErr d.c=0:=wZ.out
         have e1:d'.eV.map Ev.c=d.c.eV:=congrArg DocC.eV xf.out
         have h2:=(iy h1).ids
         rw [←e1,SA] at h2
         rw [List.map_map,SA]
         refine h2.imp fun {a b} h=>?_
         have ea:∀ z:Ev,(shE fr n z).c.id=z.c.id:=fun z=>by unfold shE;split<;>rfl
         show(shE fr n a).c.id≠(shE fr n b).c.id
         rw [ea,ea];exact h)
        have hwr2:w2.heap.size≤wr.heap.size:=by omega
        clear hup how hkp b8 G3 hS Cq jW tU CS hs
        go_wp2_with fail
        refine lI.out.mono ?_
        rintro e w8 ⟨v,ys,rfl,hgr,hperm,hsrt⟩
        obtain⟨ta,tc,hv,Dk⟩:=aA (k:=7) (enc:=Ev.enc) (Ok:=Ev.lies) (fun _=>rfl) hgr.1 (fun z hz=>(hgr.2.1 z hz).1)
        subst hv
        have iF:=hgr.2.2
        have Ki:=iF.size
        have hs5:=tV.out.size
        have r8:=(iF.block w.heap.size (by omega)).trans B8.out
        have z8:=(iF.block (w.heap.size+1) (by omega)).trans ((tV.out.block (w.heap.size+1) (by omega) (tL.out _ (by omega))).trans Z5.out)
        have AG:Below w.heap.size w w8:=(iG.out.trans (tV.out.below (by omega) fun b hb=>tL.out b (by omega))).trans (iF.mono (by omega))
        have f8:∀ j,w8.frozen? ⟨w.heap.size,j,none⟩=false:=fun j=>by simp [World.frozen?,r8]
        have c8':∀ j,w8.cell? ⟨w.heap.size,j,none⟩=_:=fun j=>Sp _ _ j _ 27 (0,0) r8
        obtain⟨D2,hD2⟩:∃ D2:Doc,D2={ d' with ea:=ta,ec:=tc,eV:=ys }:=⟨_,rfl⟩
        have r9:=heap_setCell_same w8 w.heap.size 6 _ 27 (.slice ta ys.length tc) r8
        rw [show d'.enc.toArray.setIfInBounds 6 (.slice ta ys.length tc)=D2.enc.toArray from by rw [hD2];rfl] at r9
        have eX:Kept (fun b=>b=w.heap.size) w8 (w8.setCell ⟨w.heap.size,6,none⟩ (.slice ta ys.length tc)):=bG (Kept.refl _ _) 6 _
        have R9:=h_ r9
        have lL:=h_ eX
        have Z8:=h_ z8
        have LJ:=h_ AG
        have Bg:=h_ Dk
        have lM:=h_ hgr
        have Bj:=h_ (And.intro hperm hsrt)
        have HD2:=h_ hD2
        clear r9 eX z8 AG Dk hgr hperm hsrt hD2 r8 iF lI c8
        go_upto_region 17 with fail
        generalize w8.setCell ⟨w.heap.size,6,none⟩ (.slice ta ys.length tc)=w9 at *
        clear f8 c8'
        have vd:=lL.out.size
        have nV:=ai R9.out
        have z9:=(lL.out.block (w.heap.size+1) (by omega) (by omega)).trans Z8.out
        have hk10:Kept (fun b=>b=w.heap.size+1) w9 (w9.setRow (w.heap.size+1) D2.enc.toArray):=bj _ _ _
        have r10:=Sm w9 (w.heap.size+1) _ D2.enc.toArray 27 (0,0) z9
        go_wp2_with (first|(refine aj 27 (.tmp 3) rfl w.heap.size 0 rfl D2.enc _ nV Tryz.underlying27 rfl ag (by rfl) ?_)|(refine Sl rfl 27 (.tmp 6) (.tmp 79) rfl (w.heap.size+1) (D2.enc.toArray) rfl rfl 27 _ z9 ag rfl aO ?_))
        generalize w9.setRow (w.heap.size+1) D2.enc.toArray=w10 at *
        have l6:=h_ (show Q (.returned (.tuple #[.agg D2.enc.toArray,.int .i64 0])) w10 from by
         have hc:=xf.out
         have ye:=lM.out.2.2
         have hge:∀ b,gi ta ys b→wr.heap.size≤b:=fun b hb=>by
          rcases hb with⟨_,ad,e,rfl⟩|⟨z,hz,hu⟩
          · exact(lM.out.1.lt ad.block (by rw [e];rfl)).1
          · exact((lM.out.2.1 z hz).2 b hu).2
         have hold:∀ b,b<w5.heap.size→w2.heap.size≤b→¬ bp d'.ea d'.eV b→w10.heap[b]? =w5.heap[b]?:=fun b h1 h2 h3=>by
          rw [hk10.block b (by omega) (by omega),lL.out.block b (by omega) (by omega),ye.block b (by omega),tV.out.block b h1 h3]
         have hsz:w9.heap.size≤w10.heap.size:=hk10.size
         have hs:=kF Bj.out.1 Bj.out.2 yS.out
         obtain⟨t,t1,t2,t3,t4⟩:=oR.out
         rw [←hQ,M_.out]
         refine⟨D2,rfl,?_,⟨?_,?_,?_⟩,?_,?_⟩
         · rw [HD2.out,←hs,←hc];rfl
         · rw [HD2.out]
           refine ah.frame n_.out.1 (by omega) (fun b hb=>?_) (fun _ _ _=>trivial)
           exact hold b (aP n_.out.1 hb) (HU.out b (.inl hb)) (fun q=>by have:=t1 b hb;have:=t2 b q;omega)
         · rw [HD2.out]
           refine dy.frame Bg.out (by omega) fun b hb=>?_
           have h1:=ej Bg.out hb
           have h2:=hge b hb
           rw [hk10.block b (by omega) (by omega),lL.out.block b (by omega) (by omega)]
         · rw [HD2.out]
           refine ah.frame n_.out.2.2 (by omega) (fun b hb=>?_) (fun _ _ _=>trivial)
           exact hold b (aP n_.out.2.2 hb) (HU.out b (.inr (.inr hb))) (fun q=>by have:=t4 b hb;have:=t2 b q;omega)
         · rw [HD2.out]
           intro b hb
           rcases hb with hb|hb|hb
           · have:=HU.out b (.inl hb);omega
           · have:=hge b hb;omega
           · have:=HU.out b (.inr (.inr hb));omega
         · exact(LJ.out.trans (lL.out.below (by omega) fun b hb e=>by omega)).trans (hk10.below (by omega) fun b hb e=>by omega))
        clear hk10 z9 HD2 xf lM Bg lL Bj yS M_ oR n_
        exact aL Tryz.results41 rfl rfl r10 rfl l6.out
 · have hne:(DE != 0)=true:=by simpa using h0
   have HE:=h_ (bh.out (DE) (bD.out h0) (w2.setRow (w.heap.size+1) zeD) (Sn hbw2 (by omega) _))
   have z9:=Sm w2 (w.heap.size+1) _ zeD 27 (0,0) Z2.out
   clear bD jF jW tU Bf cT dA bh hr2
   go_wp2_with (refine Sl rfl 27 (.tmp 6) (.tmp 15) rfl (w.heap.size+1) zeD rfl rfl 27 _ Z2.out ag rfl aO ?_)
   generalize w2.setRow (w.heap.size+1) zeD=w9 at *
   exact aL Tryz.results41 rfl rfl z9 rfl HE.out
theorem Cg:¬ 0≤idx 65533:=by decide +kernel
theorem lh (s:ByteArray):∀ b pos,s.size≤pos+b→(c_ s b pos).all (fun r=>decide (0≤idx r))=true→((c_ s b pos).flatMap fun(r:Nat)=>Lib.encodeRune r)=s.data.toList.drop pos
 | 0,pos,hb,_=>by
   rw [Sy (by simpa using hb)]
   rfl
 | b+1,pos,hb,h=>by
   by_cases hlt:pos<s.size
   · have hw:=width_pos s pos hlt
     have hne:s.data.toList.drop pos≠[]:=by
      intro h0
      have:=congrArg List.length h0
      simp at this
      have h1:s.size=s.data.size:=rfl
      omega
     rw [c_,if_pos hlt,List.all_cons,Bool.and_eq_true] at h
     have ih:=lh s b (pos+(Utf8.decode s pos).2) (by omega) h.2
     have he:=Lib.encode_decode (s.data.toList.drop pos) hne (by
      rw [Lib.decodeL_drop]
      rintro ⟨h1,_⟩
      have h2:=h.1
      rw [h1] at h2
      exact Cg (by simpa using h2))
     rw [Lib.decodeL_drop] at he
     rw [c_,if_pos hlt,List.flatMap_cons,ih,he,←List.drop_drop,Su]
   · rw [Sy (by have h1:s.size=s.data.size:=rfl;simp;omega),gK _ _ _ hlt]
     rfl
def cz (l:List Nat):Nat:=(l.flatMap fun(r:Nat)=>Lib.encodeRune r).length
theorem Ib (l:List Nat):(fM l).size=cz l:=by simp [fM,cz,ByteArray.size]
theorem nA (a b:List Nat):cz (a++b)=cz a+cz b:=by simp [cz]
theorem vC {s:ByteArray} (h:bw s=true):fM (runes s)=s:=by
 have h2:=h
 unfold bw at h2
 rw [Bool.and_eq_true] at h2
 have:=lh s s.size 0 (by omega) h2.2
 unfold fM runes
 rw [this,SC]
theorem CK (s:ByteArray):cz (chars s)≤s.size:=by
 unfold chars
 split
 · rename_i h
   rw [←Ib,vC h];exact Sj _
 · simp [cz]
theorem slice3 (l:List Nat)(p q r:Nat)(h:p≤q):cz ((l.take p).drop 0)+cz ((l.take q).drop p)+cz ((l.take r).drop q)≤cz l:=by
 have e1:cz l=cz (l.take q)+cz (l.drop q):=by rw [←nA,Su]
 have e2:cz (l.take q)=cz ((l.take q).take p)+cz ((l.take q).drop p):=by rw [←nA,Su]
 have e3:(l.take q).take p=l.take p:=by rw [List.take_take,Nat.min_eq_left h]
 have e4:cz ((l.take r).drop q)≤cz (l.drop q):=by
  rw [List.drop_take]
  have:cz (l.drop q)=cz ((l.drop q).take (r-q))+cz ((l.drop q).drop (r-q)):=by rw [←nA,Su]
  omega
 rw [SC]
 rw [e3] at e2
 omega
theorem mn (s:ByteArray)(i j:Int):(dO s i j).size=cz (((chars s).take (limB (chars s).length i j).toNat).drop (limA (chars s).length i).toNat):=Ib _
theorem Ac {s:ByteArray} (h:0≤lenB s):lenB s=(chars s).length:=by
 unfold lenB chars at *
 split
 · rfl
 · rename_i hv;rw [if_neg hv] at h;omega
theorem uk (s:ByteArray)(hv:0≤lenB s)(a b N A:Int)(hA:0≤A)(h0:0≤a)(hab:a≤b) :
 (dO s (limA (lenB s) (0-A)) (limB (lenB s) (0-A) (a-A))).size+(dO s (limA (lenB s) (a-A)) (limB (lenB s) (a-A) (b-A))).size+(dO s (limA (lenB s) (b-A)) (limB (lenB s) (b-A) (N-A))).size≤s.size:=by
 have hn:=Ac hv
 have hc:=CK s
 rw [mn,mn,mn,hn]
 generalize chars s=l at *
 have e1:(limA (l.length:Int) (limA l.length (0-A))).toNat=0:=by unfold limA;omega
 have e2:(limB (l.length:Int) (limA l.length (0-A)) (limB l.length (0-A) (a-A)))=min (max (a-A) 0) l.length:=by unfold limB limA;omega
 have e3:(limA (l.length:Int) (limA l.length (a-A)))=min (max (a-A) 0) l.length:=by unfold limA;omega
 have e4:(limB (l.length:Int) (limA l.length (a-A)) (limB l.length (a-A) (b-A)))=min (max (b-A) 0) l.length:=by unfold limB limA;omega
 have e5:(limA (l.length:Int) (limA l.length (b-A)))=min (max (b-A) 0) l.length:=by unfold limA;omega
 rw [e1,e2,e3,e4,e5]
 exact Sk (slice3 l _ _ _ (by omega)) hc
theorem sn (a b N:Int)(h0:0≤a)(hab:a≤b):∀ (l:List Run)(A:Int),0≤A→0≤cV l A→az (sliceAt 0 a A l)+az (sliceAt a b A l)+az (sliceAt b N A l)≤az l
 | [],A,_,_=>by simp [sliceAt,az]
 | x::l,A,hA,hl=>by
   rw [cV] at hl
   split at hl
   · omega
   · rename_i hx
     have ih:=sn a b N h0 hab l (A+lenB x.text) (by omega) hl
     have h1:=uk x.text (by omega) a b N A hA h0 hab
     simp only [sliceAt,az]
     omega
theorem B5 (r:List Run)(i j c:Int)(it un:Bool):az (gw r i j c it un)≤az r:=by
 by_cases h:rowLen r<0
 · unfold gw;rw [if_pos h];simp [az]
 · have e:gw r i j c it un=cZ (cZ (bR r 0 (limA (rowLen r) i)) ((bR r (limA (rowLen r) i) (limB (rowLen r) i j)).map (ew c it un))) (bR r (limB (rowLen r) i j) (rowLen r)):=by unfold gw;rw [if_neg h];rfl
   rw [e,jT,jT,ik]
   have hp:=sn (limA (rowLen r) i) (limB (rowLen r) i j) (rowLen r) (by unfold limA;omega) (by unfold limB limA;omega) r 0 (Int.le_refl 0) (by unfold rowLen at h;omega)
   have c1:az (bR r 0 (limA (rowLen r) i))=az (sliceAt 0 (limA (rowLen r) i) 0 r):=by
    unfold bR
    rw [if_neg h,iO,show limA (rowLen r) 0=0 by unfold limA;omega,show limB (rowLen r) 0 (limA (rowLen r) i)=limA (rowLen r) i by unfold limB limA;omega]
   have c2:az (bR r (limA (rowLen r) i) (limB (rowLen r) i j))=az (sliceAt (limA (rowLen r) i) (limB (rowLen r) i j) 0 r):=by
    unfold bR
    rw [if_neg h,iO,show limA (rowLen r) (limA (rowLen r) i)=limA (rowLen r) i by unfold limA;omega,show limB (rowLen r) (limA (rowLen r) i) (limB (rowLen r) i j)=limB (rowLen r) i j by unfold limB limA;omega]
   have c3:az (bR r (limB (rowLen r) i j) (rowLen r))=az (sliceAt (limB (rowLen r) i j) (rowLen r) 0 r):=by
    unfold bR
    rw [if_neg h,iO,show limA (rowLen r) (limB (rowLen r) i j)=limB (rowLen r) i j by unfold limB limA;omega,show limB (rowLen r) (limB (rowLen r) i j) (rowLen r)=rowLen r by unfold limB limA;omega]
   omega
theorem uM {P:Run→Prop} {out:List Run} {x:Run} (ho:∀ y∈out,P y)(hx:x.text.size≠0→P x)(hj:∀ (y:Run)(t:ByteArray),P y→P { y with text:=y.text++t }):∀ y∈dN out x,P y:=by
 intro y hy
 unfold dN at hy
 split at hy
 · exact ho y hy
 · rename_i h
   split at hy
   · rename_i l hl
     have hlm:=List.mem_of_getLast? hl
     split at hy
     · rcases Sr.1 hy with h1|h1
       · exact ho y (List.dropLast_subset _ h1)
       · rw [Sq.1 h1];exact hj l _ (ho l hlm)
     · rcases Sr.1 hy with h1|h1
       · exact ho y h1
       · rw [Sq.1 h1];exact hx h
   · rw [Sq.1 hy];exact hx h
theorem sv {P:Run→Prop} (hj:∀ (y:Run)(t:ByteArray),P y→P { y with text:=y.text++t }) {l:List Run} (hl:∀ x∈l,x.text.size≠0→P x):∀ y∈cN l,P y:=by
 have H:∀ (l out:List Run),(∀ x∈l,x.text.size≠0→P x)→(∀ y∈out,P y)→∀ y∈l.foldl dN out,P y:=by
  intro l
  induction l with
  | nil=>intro out _ ho;exact ho
  | cons x l ih =>
    intro out hl ho
    rw [List.foldl_cons]
    exact ih _ (fun z hz=>hl z (by simp [hz])) (uM ho (hl x (by simp)) hj)
 exact H l [] hl (by simp)
theorem xK (l:List Run):∀ y∈cN l,y.text.size≠0:=sv (P:=fun y=>y.text.size≠0) (fun y t h=>by simp only [ByteArray.size_append];omega) (fun x _ h=>h)
theorem wD:∀ l:List Run,(∀ y∈l,y.text.size≠0)→l.length≤az l
 | [],_=>by simp
 | x::l,h=>by
   have h1:=h x (by simp)
   have h2:=wD l fun y hy=>h y (by simp [hy])
   rw [az,SB];omega
def lZ (x:Run):Prop:=x.ruby.size≤4000000∧0≤x.color∧x.color≤255
theorem wq {l:List Run} (h:∀ x∈l,lZ x):∀ y∈cN l,lZ y:=sv (P:=lZ) (fun y t h=>h) (fun x hx _=>h x hx)
theorem oW (i j:Int):∀ (l:List Run)(A:Int),(∀ x∈l,lZ x)→∀ y∈sliceAt i j A l,lZ y
 | [],A,_,y,hy=>by simp [sliceAt] at hy
 | x::l,A,h,y,hy=>by
   simp only [sliceAt,SD] at hy
   rcases hy with rfl|hy
   · have hx:=h x (by simp)
     refine⟨?_,hx.2⟩
     show(if _ then uN else x.ruby).size≤4000000
     split
     · exact Nat.zero_le _
     · exact hx.1
   · exact oW i j l _ (fun z hz=>h z (by simp [hz])) y hy
theorem mo {r:List Run} (i j:Int)(h:∀ x∈r,lZ x):∀ y∈bR r i j,lZ y:=by
 unfold bR
 split
 · simp
 · exact wq (oW _ _ _ _ h)
theorem pA {a b:List Run} (ha:∀ x∈a,lZ x)(hb:∀ x∈b,lZ x):∀ y∈cZ a b,lZ y:=wq fun x hx=>(Sr.1 hx).elim (ha x) (hb x)
theorem Ee {r:List Run} (i j c:Int)(it un:Bool)(hc:0≤c∧c≤255)(h:∀ x∈r,lZ x):∀ y∈gw r i j c it un,lZ y:=by
 unfold gw
 split
 · simp
 · refine pA (pA (mo _ _ h) ?_) (mo _ _ h)
   intro y hy
   obtain⟨x,hx,rfl⟩:=Ss.1 hy
   exact⟨(mo _ _ h x hx).1,hc⟩
theorem z_ (r:List Run)(i j c:Int)(it un:Bool):∀ y∈gw r i j c it un,y.text.size≠0:=by
 unfold gw
 split
 · simp
 · exact xK _
theorem sw {r q:Row} (i j c:Int)(it un:Bool)(hc:0≤c∧c≤255)(hf:r.fits)(hq:q.runs=gw r.runs i j c it un):q.fits:=by
 have hs:=B5 r.runs i j c it un
 have h4:az r.runs≤4000000:=by rw [gZ];exact hf.2.2
 have hok:=Ee i j c it un hc (fun x hx=>(hf.1 x hx).2)
 have hl:=wD _ (z_ r.runs i j c it un)
 refine⟨fun x hx=>?_,?_,?_⟩
 · rw [hq] at hx
   have:=g_ _ x hx
   exact⟨by omega,hok x hx⟩
 · rw [hq];omega
 · rw [hq,←gZ];omega
abbrev DocC.fit (d:DocC):Prop:=d.fits 4000000
def EdC.fits (x:EdC):Prop:=(i64 x.id∧i64 x.other∧i64 x.inn∧i64 x.out∧i64 x.frame∧i64 x.row∧i64 x.frm∧i64 x.til)∧(0≤x.kind∧x.kind≤255)∧(0≤x.color∧x.color≤255)∧x.name.size≤4000000∧x.text.size≤4000000∧x.reg.fits∧(∀ r∈x.rows,(∀ y∈r,y.fits)∧r.length≤4000000∧cH r≤4000000)∧x.rows.length≤4000000
theorem Ed.fits_c {x:Ed} (h:x.fits):x.c.fits:=by
 obtain⟨h0,h1,h2,h3,h4,h5,h6,h7,h8⟩:=h
 refine⟨h1,h2,h3,h4,h5,h6,fun r hr=>?_,by show(x.rows.map Row.runs).length≤_;rw [St];exact h8⟩
 obtain⟨y,hy,rfl⟩:=Ss.1 hr
 exact h7 y hy
theorem Ak:i64 0:=⟨by decide,by decide⟩
theorem zM {d:DocC} (h:d.fit):d.rep.fits:=(show d.rep.c.fits 4000000 by rw [DocC.rep_c];exact h).doc (Sj _)
theorem AR {d:DocC} (h:d.rep.fits):d.fit:=by
 have:=Doc.fits.c (n:=4000000) h h.2.2.2.2.2.2.1 h.2.2.2.2.2.2.2.2.1 h.2.2.2.2.2.2.2.2.2.2
 rwa [DocC.rep_c] at this
theorem qi {d:DocC} {e:EvC} (hd:d.fit)(he:e.fits)(h0:(putC d e).1=0):(putC d e).2.fit :=
 AR (wh (d:=d.rep) (e:=e) (zM hd) he (by rw [DocC.rep_c,DocC.rep_c]) (by rw [DocC.rep_c];exact h0))
theorem mx {d:DocC} {k:Int} (hd:d.fit)(h0:(br d k).1=0):(br d k).2.fit :=
 AR (zL (d:=d.rep) (k:=k) (zM hd) (by rw [DocC.rep_c,DocC.rep_c]) (by rw [DocC.rep_c];exact h0))
theorem kQ {l:List EvC} {x:EvC} (h:x∈de l):x∈l:=by
 unfold de at h
 exact(List.mergeSort_perm _ _).mem_iff.1 h
theorem kR (l:List EvC):(de l).length=l.length:=by unfold de;rw [List.length_mergeSort]
theorem mV {d:DocC} {e:EvC} (hd:d.fit)(he:e.fits)(h0:(insertC d e).1=0):(insertC d e).2.fit:=by
 have hE:aQ d e=0:=by
  unfold insertC at h0
  split at h0
  · exact h0
  · rename_i h;exact SG.1 h
 have hlen:d.eV.length<400:=by
  unfold aQ at hE
  simp only at hE
  repeat' split at hE
  all_goals first
   | omega
   | contradiction
 have hlast:e.id=0→d.hd.last<1099511627776:=by
  intro hid
  unfold aQ at hE
  simp only [if_pos hid] at hE
  repeat' split at hE
  all_goals first
   | omega
   | contradiction
 obtain⟨⟨q1,q2,q3,q4,q5⟩,q6,q7,q8,q9,q10,q11⟩:=hd
 unfold insertC
 rw [if_neg (fun h=>h hE)]
 split
 · rename_i hid
   have hl:=hlast hid
   have hi:i64 (d.hd.last+1):=by unfold i64 at *;omega
   refine⟨⟨q1,q2,q3,q4,hi⟩,q6,q7,fun x hx=>?_,?_,q10,q11⟩
   · rcases Sr.1 (kQ hx) with h|h
     · exact q8 x h
     · rw [Sq.1 h];exact⟨hi,he.2⟩
   · show(de _).length≤_
     rw [kR,Sw];simp;omega
 · refine⟨⟨q1,q2,q3,q4,q5⟩,q6,q7,fun x hx=>?_,?_,q10,q11⟩
   · rcases Sr.1 (kQ hx) with h|h
     · exact q8 x h
     · rw [Sq.1 h];exact he
   · show(de _).length≤_
     rw [kR,Sw];simp;omega
theorem xp {d:DocC} {fr n:Int} (hd:d.fit)(h0:(dY d fr n).1=0):(dY d fr n).2.fit:=by
 obtain⟨⟨q1,q2,q3,q4,q5⟩,q6,q7,q8,q9,q10,q11⟩:=hd
 unfold dY at h0 ⊢
 by_cases h1:cErr d≠0
 · rw [if_pos h1] at h0;exact absurd h0 h1
 · rw [if_neg h1] at h0 ⊢
   have hc:cErr d=0:=SG.1 h1
   by_cases h2:n < -5184000∨5184000<n
   · rw [if_pos h2] at h0;cases h0
   · rw [if_neg h2] at h0 ⊢
     by_cases h3:d.eV.all (eB fr n)=true
     · rw [if_pos h3]
       refine⟨⟨q1,q2,q3,q4,q5⟩,q6,q7,fun x hx=>?_,?_,q10,q11⟩
       · obtain⟨y,hy,rfl⟩:=Ss.1 (kQ hx)
         have hs:=AY hc hy
         have hf:=q8 y hy
         unfold pT
         split
         · exact hf
         · refine⟨hf.1,?_,?_,hf.2.2.2⟩
           · show i64 (y.inn+n)
             unfold i64;omega
           · show i64 (y.out+n)
             unfold i64;omega
       · show(de _).length≤_
         rw [kR,St];exact q9
     · rw [if_neg h3] at h0;cases h0
theorem dS {d:DocC} {id:Int} {f:EvC→Int × EvC} (hd:d.fit)(hf:∀ e,e.fits→(f e).1=0→(f e).2.fits)(h0:(aF d id f).1=0):(aF d id f).2.fit:=by
 unfold aF at h0 ⊢
 cases h:aT d.eV id with
 | none=>rw [h] at h0;cases h0
 | some e =>
   rw [h] at h0
   simp only at h0 ⊢
   by_cases h1:(f e).1≠0
   · rw [if_pos h1] at h0;exact absurd h0 h1
   · rw [if_neg h1] at h0 ⊢
     exact qi hd (hf e (hd.2.2.2.1 e (gT h).1) (SG.1 h1)) h0
theorem si {x:EdC} (hx:x.fits)(e:EvC)(he:e.fits):(restyle x e).2.fits:=by
 unfold restyle
 split
 · exact he
 · rename_i r hr
   split
   · exact he
   · obtain⟨p1,p2,p3,p4,p5,p6,p7,p8,p9⟩:=he
     refine⟨p1,p2,p3,p4,p5,p6,p7,fun q hq=>?_,?_⟩
     · rcases List.mem_or_eq_of_mem_set hq with h|h
       · exact p8 q h
       · subst h
         exact sw (r:=⟨none,0,r⟩) (q:=⟨none,0,_⟩) x.frm x.til x.color x.it x.un hx.2.2.1 (p8 r (Sz hr)) rfl
     · show(e.rows.set _ _).length≤_
       rw [List.length_set];exact p9
theorem xo {d:DocC} {x:EdC} (hd:d.fit)(hx:x.fits)(h0:(et d x).1=0):(et d x).2.fit:=by
 unfold et at h0 ⊢
 cases h:aT d.eV x.id with
 | none=>rw [h] at h0;cases h0
 | some e =>
   rw [h] at h0
   simp only at h0 ⊢
   have he:=hd.2.2.2.1 e (gT h).1
   have hfr:i64 x.frame:=hx.1.2.2.2.2.1
   by_cases h1:1099511627776≤d.hd.last
   · rw [if_pos h1] at h0;cases h0
   · rw [if_neg h1] at h0 ⊢
     by_cases h2:bg e x.frame x.row (d.hd.last+1)≠0
     · rw [if_pos h2] at h0;exact absurd h0 h2
     · rw [if_neg h2] at h0 ⊢
       by_cases h3:(putC d (fS e x.frame x.row)).1≠0
       · rw [if_pos h3] at h0;exact absurd h0 h3
       · rw [if_neg h3] at h0 ⊢
         obtain⟨p1,p2,p3,p4,p5,p6,p7,p8,p9⟩:=he
         refine mV (qi hd ⟨p1,p2,hfr,p4,p5,p6,p7,fun q hq=>p8 q (List.mem_of_mem_take hq),?_⟩ (SG.1 h3)) ⟨Ak,hfr,p3,p4,p5,p6,p7,fun q hq=>p8 q (List.mem_of_mem_drop hq),?_⟩ h0
         · show(e.rows.take _).length≤_
           rw [List.length_take];omega
         · show(e.rows.drop _).length≤_
           rw [List.length_drop];omega
theorem xT {a b:EvC} (ha:a.fits)(hb:b.fits)(h:bS a b=0):(og a b).fits:=by
 have h1:a.rep.c=a:=EvC.rep_c a
 have h2:b.rep.c=b:=EvC.rep_c b
 have:=sC (a:=a.rep) (b:=b.rep) (y:=(og a b).rep) ((Ev.fits_c _).1 (by rw [h1];exact ha)) ((Ev.fits_c _).1 (by rw [h2];exact hb)) (by rw [h1,h2];exact h) (by rw [h1,h2];exact EvC.rep_c _)
 have h3:=(Ev.fits_c _).2 this
 rwa [EvC.rep_c] at h3
theorem Ag {d:DocC} {x:EdC} (hd:d.fit)(h0:(gR d x).1=0):(gR d x).2.fit:=by
 unfold gR at h0 ⊢
 cases h:aT d.eV x.id with
 | none=>rw [h] at h0;cases h0
 | some a =>
   cases h':aT d.eV x.other with
   | none=>rw [h,h'] at h0;cases h0
   | some b =>
     rw [h,h'] at h0
     simp only at h0 ⊢
     have ha:=hd.2.2.2.1 a (gT h).1
     have hb:=hd.2.2.2.1 b (gT h').1
     by_cases h1:x.id=x.other
     · rw [if_pos h1] at h0;cases h0
     · rw [if_neg h1] at h0 ⊢
       by_cases h2:bS a b≠0
       · rw [if_pos h2] at h0;exact absurd h0 h2
       · rw [if_neg h2] at h0 ⊢
         by_cases h3:(br d x.other).1≠0
         · rw [if_pos h3] at h0;exact absurd h0 h3
         · rw [if_neg h3] at h0 ⊢
           exact qi (mx hd (SG.1 h3)) (xT ha hb (SG.1 h2)) h0
theorem yH {d:DocC} {id fr til:Int} {au tx:ByteArray} (hd:d.fit)(h1:i64 id)(h2:i64 fr)(h3:i64 til)(h4:au.size≤4000000)(h5:tx.size≤4000000)(h0:(fL d id fr til au tx).1=0):(fL d id fr til au tx).2.fit:=by
 have hE:bN d id fr til au tx=0:=by
  unfold fL at h0
  split at h0
  · exact h0
  · rename_i h;exact SG.1 h
 have hb:d.cM.length<64∧d.hd.last<1099511627776:=by
  unfold bN at hE
  repeat' split at hE
  all_goals first
   | omega
   | contradiction
 obtain⟨⟨q1,q2,q3,q4,q5⟩,q6,q7,q8,q9,q10,q11⟩:=hd
 have hi:i64 (d.hd.last+1):=by unfold i64 at *;omega
 unfold fL
 rw [if_neg (fun h=>h hE)]
 refine⟨⟨q1,q2,q3,q4,hi⟩,q6,q7,q8,q9,fun c hc=>?_,?_⟩
 · rcases Sr.1 hc with h|h
   · exact q10 c h
   · rw [Sq.1 h];exact⟨hi,h1,h2,h3,h4,h5⟩
 · show(d.cM++[_]).length≤_
   rw [Sw];simp;omega
theorem tw {d:DocC} {id:Int} (hd:d.fit)(h0:(bZ d id).1=0):(bZ d id).2.fit:=by
 obtain⟨q0,q6,q7,q8,q9,q10,q11⟩:=hd
 unfold bZ at h0 ⊢
 by_cases h1:cErr d≠0
 · rw [if_pos h1] at h0;exact absurd h0 h1
 · rw [if_neg h1] at h0 ⊢
   cases h:cU d.cM id with
   | none=>rw [h] at h0;cases h0
   | some c =>
     rw [h] at h0
     simp only at h0 ⊢
     split at h0
     · cases h0
     · rename_i hd'
       rw [if_neg hd']
       refine⟨q0,q6,q7,q8,q9,fun c hc=>?_,by simpa using q11⟩
       obtain⟨y,hy,rfl⟩:=Ss.1 hc
       split
       · exact q10 y hy
       · exact q10 y hy
theorem qO {d:DocC} {id:Int} (hd:d.fit)(h0:(bX d id).1=0):(bX d id).2.fit:=by
 obtain⟨q0,q6,q7,q8,q9,q10,q11⟩:=hd
 unfold bX at h0 ⊢
 by_cases h1:cErr d≠0
 · rw [if_pos h1] at h0;exact absurd h0 h1
 · rw [if_neg h1] at h0 ⊢
   split at h0
   · cases h0
   · rename_i hd'
     rw [if_neg hd']
     exact⟨q0,q6,q7,q8,q9,fun c hc=>q10 c (Sx.1 hc).1,Sk (Sv _ _) q11⟩
theorem zP {d:DocC} {x:EdC} (hd:d.fit)(hx:x.fits)(h0:(fo d x).1=0):(fo d x).2.fit:=by
 obtain⟨q0,q6,q7,q8,q9,q10,q11⟩:=hd
 have hr:=hx.2.2.2.2.2.1
 unfold fo at h0 ⊢
 simp only at h0 ⊢
 generalize (if x.op=14 then x.name else x.reg.name)=nm at *
 by_cases h1:x.op=12
 · rw [if_pos h1] at h0 ⊢
   split at h0
   · cases h0
   · rename_i g1
     rw [if_neg g1]
     split at h0
     · cases h0
     · rename_i g2
       rw [if_neg g2]
       refine⟨q0,fun r h=>?_,?_,q8,q9,q10,q11⟩
       · rcases Sr.1 h with h|h
         · exact q6 r (Sx.1 h).1
         · rcases SD.1 h with h|h
           · rw [h];exact hr
           · exact q6 r (Sx.1 h).1
       · show(_++_::_).length≤_
         have l1:=Sv (dM nm) d.rG
         have l2:=Sv (fun r=>!(dM nm r)) d.rG
         rw [Sw,SB]
         omega
 · rw [if_neg h1] at h0 ⊢
   split at h0
   · cases h0
   · rename_i g1
     rw [if_neg g1]
     by_cases h2:x.op=13
     · rw [if_pos h2] at h0 ⊢
       cases hf:d.eV.find? (fun e=>bT (d.rG.map fun r=>if eD nm r=true then x.reg else r) e != 0) with
       | some e =>
         rw [hf] at h0
         simp only at h0
         have:=List.find?_some hf
         simp only [h0] at this
         cases this
       | none =>
         simp only
         refine⟨q0,fun r h=>?_,by simpa using q7,q8,q9,q10,q11⟩
         obtain⟨y,hy,rfl⟩:=Ss.1 h
         split
         · exact hr
         · exact q6 y hy
     · rw [if_neg h2] at h0 ⊢
       split at h0
       · cases h0
       · rename_i g3
         rw [if_neg g3]
         exact⟨q0,fun r h=>q6 r (Sx.1 h).1,Sk (Sv _ _) q7,q8,q9,q10,q11⟩
theorem A5 {d:DocC} {x:EdC} (hd:d.fit)(hx:x.fits)(h0:(cj d x).1=0):(cj d x).2.fit:=by
 obtain⟨⟨x1,x2,x3,x4,x5,x6,x7,x8⟩,xk,xc,xn,xt,xg,xr,xl⟩:=id hx
 unfold cj at h0 ⊢
 by_cases h1:cErr d≠0
 · rw [if_pos h1] at h0;exact absurd h0 h1
 · rw [if_neg h1] at h0 ⊢
   by_cases h2:gE x≠0
   · rw [if_pos h2] at h0;exact absurd h0 h2
   · rw [if_neg h2] at h0 ⊢
     split at h0
     · exact mV hd ⟨Ak,x3,x4,xn,xk.1,xk.2,xt,xr,xl⟩ h0
     · exact mx hd h0
     · exact dS hd (fun e he _=>⟨he.1,x3,x4,he.2.2.2⟩) h0
     · exact dS hd (fun e he _=>⟨he.1,he.2.1,he.2.2.1,he.2.2.2.1,he.2.2.2.2.1,he.2.2.2.2.2.1,he.2.2.2.2.2.2.1,xr,xl⟩) h0
     · exact dS hd (fun e he _=>⟨he.1,he.2.1,he.2.2.1,xn,he.2.2.2.2⟩) h0
     · exact dS hd (fun e he _=>⟨he.1,he.2.1,he.2.2.1,he.2.2.2.1,xk.1,xk.2,he.2.2.2.2.2.2⟩) h0
     · exact dS hd (fun e he _=>⟨he.1,he.2.1,he.2.2.1,he.2.2.2.1,he.2.2.2.2.1,he.2.2.2.2.2.1,xn,he.2.2.2.2.2.2.2⟩) h0
     · exact dS hd (fun e he _=>si hx e he) h0
     · exact xo hd hx h0
     · exact Ag hd h0
     · exact xp hd h0
     · exact⟨⟨xt,hd.1.2⟩,hd.2⟩
     · exact⟨⟨hd.1.1,xn,hd.1.2.2⟩,hd.2⟩
     · exact yH hd x1 x7 x8 xn xt h0
     · exact tw hd h0
     · exact qO hd h0
     · exact zP hd hx h0
end Go.Proofs.YtjebaagkomejaaaGreatDoor
