/- document.Put: a document with an event in the place of another. -/
import Derived.Test.YtjebaagkomejaaaGreatDoorH19
import Derived.Test.YtjebaagkomejaaaGreatDoorH18
set_option linter.unusedVariables false
set_option linter.unusedSimpArgs false
set_option maxRecDepth 100000
set_option maxHeartbeats 12800000
open Go.Lib renaming hid→h_
open List renaming setIfInBounds_toArray→YA,getElem_cons_zero→YB,getElem_cons_succ→YC,getElem_toArray→YD,set_cons_zero→YE,set_cons_succ→YF
open Array renaming toArray_toList→YG
open Go renaming cell_of_row→Sh,wpList_store_row→Si,setRow_heap→Sj,World→Sk,yieldsIf_load_mid→Sl,below_setRow→Sm
open Go.RowKit renaming Below→Sn
open Nat renaming le_refl→Sp
open And renaming intro→Sq
open List renaming getElem?_eq_some_iff→Sr,length_set→Ss,mem_of_getElem?→St,getElem?_map→Su,mem_or_eq_of_mem_set→Sv,map_set→Sw
open Go.Value.slice renaming injEq→Sx
open Go.Value renaming int→Sy,ownBlock→Sz
namespace Go.Proofs.YtjebaagkomejaaaGreatDoor
open Go.RowKit
theorem mC (d:Doc)(x:Ev)(w:Sk)(hE:Env w)(hd:d.lies w)(hf:d.fits)(hx:x.lies w)(fx:x.fits):Calls Tryz.prog 83 #[.agg d.enc.toArray,.agg x.enc.toArray] w (aS (putC d.c x.c) w):=by
 have iK:=h_ (fun(w1:Sk) (h:Sn w.heap.size w w1)=>bR d w1 (hE.below h (Sp _)) (Doc.later hd h) hf)
 have ew:=h_ (fun(w1:Sk) (h:Sn w.heap.size w w1)=>cU d x.id w1 (Doc.later hd h).2.1 hf.2.2.2.2.2.2.2.2.1)
 have yz:=h_ (fun(w1:Sk) (h:Sn w.heap.size w w1)=>fC x d.ra d.rc d.rG w1 (hE.below h (Sp _)) (Ev.keeps _ _ _ h hx) fx (Doc.later hd h).1 hf.2.2.2.2.2.1 hf.2.2.2.2.2.2.1)
 have dq:=h_ (fun(w1:Sk) (h:Sn w.heap.size w w1)=>dy d w1 (Doc.later hd h) hf)
 have bh:=h_ (fun(q:Int) (hq:putC d.c x.c=(q,aV)) (w':Sk) (h:Sn w.heap.size w w')=>(show aS (putC d.c x.c) w (.returned (.tuple #[.agg zeD,.int .i64 q])) w' from hq▸aS.zero q h))
 have oa:bT d.c.rG x.c=fS x d.rG:=jk (EvC.rep_c _) _
 have bF:=h_ (fun(h:a_ d≠0)=>(show putC d.c x.c=(a_ d,aV) from by unfold putC;rw [if_pos (fun q=>h ((bw d).trans q)),←bw]))
 have kD:=h_ (fun(h:a_ d=0) (h2:aU d.c.eV x.id=none)=>BQ ((bw d).symm.trans h) (e:=x.c) h2)
 have jU:=h_ (fun(o:EvC) (h:a_ d=0) (h2:aU d.c.eV x.id=some o) (h3:fS x d.rG≠0)=>(show putC d.c x.c=(fS x d.rG,aV) from by
  have:=D5 ((bw d).symm.trans h) (e:=x.c) h2 (by rw [oa];exact h3)
  rw [oa] at this;exact this))
 have tw:=h_ (fun(i:Nat) (o:EvC) (h:a_ d=0) (hi:d.c.eV[i]? =some o) (h2:aU d.c.eV x.id=some o) (h3:fS x d.rG=0)=>Gb ((bw d).symm.trans h) (e:=x.c) hi h2 (by rw [oa];exact h3))
 have Dz:=h_ (fun(i:Nat) (o:EvC) (h:a_ d=0) (hi:d.c.eV[i]? =some o) (h2:aU d.c.eV x.id=some o)=>zw ((bw d).symm.trans h) (e:=x.c) hi (by have h3:o.id=x.id:=(by have:=List.find?_some h2;simpa [evAt] using this);exact h3))
 have pn:=h_ (fun(h:a_ d=0)=>vV h hf)
 have cP:=h_ (fun(d':Doc) (h:d'.c=d.c)=>bp h hf)
 have cQ:=h_ (zT w d.enc.toArray x.enc.toArray zeD)
 have hb3:∀ o1 o2 o3:Obj,Sn w.heap.size w (((w.alloc o1).alloc o2).alloc o3):=fun o1 o2 o3=>(((Sn.refl _ _).alloc (Sp _) _).alloc (by simp) _).alloc (by simp;try omega) _
 have db:∀ o1 o2 o3:Obj,(((w.alloc o1).alloc o2).alloc o3).heap.size=w.heap.size+3:=fun o1 o2 o3=>by simp
 have HX:=h_ (Sq hx fx)
 have kF:=h_ (gj d x.id)
 generalize hR:putC d.c x.c=R at *
 generalize hQ:aS R w=Q at bh ⊢
 clear hd hf hE hx fx oa
 go_enter Tryz.func83,Tryz.ntmps83
 have hr0:=ai cQ.out.1
 go_wp2_with (refine aj 27 (.tmp 2) rfl w.heap.size 0 rfl d.enc _ hr0 Tryz.underlying27 rfl ag (by rfl) ?_)
 refine(iK.out _ (hb3 _ _ _)).mono ?_
 rintro e w1 ⟨rfl,hb1⟩
 rw [db] at hb1
 have aK:Sn w.heap.size w w1:=(hb3 _ _ _).trans (hb1.mono (by omega))
 have r1:=(hb1.block w.heap.size (by omega)).trans cQ.out.1
 have x1:=(hb1.block (w.heap.size+1) (by omega)).trans cQ.out.2.1
 have z1:=(hb1.block (w.heap.size+1+1) (by omega)).trans cQ.out.2.2
 have hs1:w.heap.size+3≤w1.heap.size:=by have:=hb1.size;rw [db] at this;exact this
 clear hb1 hr0 iK cQ hb3 db
 have hr1:=ai r1
 have ce:w1.cell? ⟨w.heap.size+1,0,none⟩=some (.int .i64 x.id):=Sh _ _ 0 _ 72 (0,0) x1
 have R1:=h_ r1
 have X1:=h_ x1
 have Z1:=h_ z1
 clear r1 x1 z1
 generalize a_ d=DE at *
 by_cases h0:DE=0
 · subst h0
   clear bF
   go_wp2_with (refine aj 27 (.tmp 2) rfl w.heap.size 0 rfl d.enc _ hr1 Tryz.underlying27 rfl ag (by rfl) ?_)
   refine(ew.out w1 aK).mono ?_
   rintro e w2 ⟨rfl,hb2⟩
   have hbw2:Sn w.heap.size w w2:=aK.trans (hb2.mono aK.size)
   have r2:=(hb2.block w.heap.size (by omega)).trans R1.out
   have x2:=(hb2.block (w.heap.size+1) (by omega)).trans X1.out
   have z2:=(hb2.block (w.heap.size+1+1) (by omega)).trans Z1.out
   have hs2:w.heap.size+3≤w2.heap.size:=by have:=hb2.size;omega
   have R2:=h_ r2
   have X2:=h_ x2
   have Z2:=h_ z2
   clear hb2 hr1 ce R1 X1 Z1 ew aK r2 x2 z2 hs1
   rcases kF.out with⟨hp,hn⟩|⟨i,o,hp,hi,hn⟩
   · rw [hp]
     have mg:=h_ (kD.out (by first|rfl|trivial) hn)
     clear kF kD jU tw Dz pn cP dq yz hp hn HX
     have HE:=h_ (bh.out (6) mg.out (w2.setRow (w.heap.size+1+1) zeD) (Sm hbw2 (by omega) _))
     have z9:=Sj w2 (w.heap.size+1+1) _ zeD 27 (0,0) Z2.out
     clear mg bh
     go_wp2_with (refine Si rfl 27 (.tmp 4) (.tmp 23) rfl (w.heap.size+1+1) zeD rfl rfl 27 _ Z2.out ag rfl aO ?_)
     generalize w2.setRow (w.heap.size+1+1) zeD=w9 at *
     exact aL Tryz.results83 rfl rfl z9 rfl HE.out
   · rw [hp]
     have hci:d.c.eV[i]? =some o.c:=by show(d.eV.map Ev.c)[i]? =_;rw [Su,hi];rfl
     have Lx:=h_ (fun(h3:fS x d.rG≠0)=>jU.out o.c (by first|rfl|trivial) hn h3)
     have Lw:=h_ (fun(h3:fS x d.rG=0)=>tw.out i o.c (by first|rfl|trivial) hci hn h3)
     have yx:=h_ (Dz.out i o.c (by first|rfl|trivial) hci hn)
     have Ft:=h_ (pn.out (by first|rfl|trivial))
     have HI:=h_ hi
     have hi0:(0:Int)≤(i:Int):=by omega
     clear kF kD jU tw Dz pn hp hn hci hi
     have hr2:=ai X2.out
     have c5:w2.cell? ⟨w.heap.size,5,none⟩=some (.slice d.ra d.rG.length d.rc):=Sh _ _ 5 _ 27 (0,0) R2.out
     go_wp2_with (refine aj 72 (.tmp 3) rfl (w.heap.size+1) 0 rfl x.enc _ hr2 Tryz.underlying72 rfl aX (by rfl) ?_)
     refine(yz.out w2 hbw2).mono ?_
     rintro e w3 ⟨rfl,hb3⟩
     have cN:=hbw2.trans (hb3.mono hbw2.size)
     have r3:=(hb3.block w.heap.size (by omega)).trans R2.out
     have x3:=(hb3.block (w.heap.size+1) (by omega)).trans X2.out
     have z3:=(hb3.block (w.heap.size+1+1) (by omega)).trans Z2.out
     have hs3:w.heap.size+3≤w3.heap.size:=by have:=hb3.size;omega
     have hr3:=ai r3
     have R3:=h_ r3
     have X3:=h_ x3
     have Z3:=h_ z3
     clear hb3 hbw2 r3 x3 z3 R2 X2 Z2 hr2 c5 yz hs2
     generalize fS x d.rG=EE at *
     by_cases hE0:EE=0
     · subst hE0
       have nR:=h_ (Lw.out rfl)
       clear Lx Lw bh
       go_wp2_with (refine aj 27 (.tmp 2) rfl w.heap.size 0 rfl d.enc _ hr3 Tryz.underlying27 rfl ag (by rfl) ?_)
       refine(dq.out w3 cN).mono ?_
       rintro e w4 ⟨d',rfl,hc',hl',hu',hb4,hap,hoe,hoc,hox,hoy⟩
       have eu:=cP.out d' hc'
       have bP:Sn w.heap.size w w4:=cN.trans (hb4.mono cN.size)
       have r4:=(hb4.block w.heap.size (by omega)).trans R3.out
       have x4:=(hb4.block (w.heap.size+1) (by omega)).trans X3.out
       have z4:=(hb4.block (w.heap.size+1+1) (by omega)).trans Z3.out
       have hs4:w3.heap.size≤w4.heap.size:=hb4.size
       clear hr3 R3 X3 Z3 dq cN cP hb4
       go_upto_region 11 with(refine Si rfl 27 (.tmp 2) (.tmp 33) rfl (w.heap.size) (d'.enc.toArray) rfl rfl 27 _ r4 ag rfl aO ?_)
       have hk5:Kept (fun b=>b=w.heap.size) w4 (w4.setRow w.heap.size d'.enc.toArray):=bj w4 w.heap.size d'.enc.toArray
       have r5:=Sj w4 w.heap.size _ d'.enc.toArray 27 (0,0) r4
       generalize w4.setRow w.heap.size d'.enc.toArray=w5 at *
       have hs5:=hk5.size
       have hl5:d'.lies w5:=Doc.frame hl' hs5 fun b hb=>hk5.block b (Doc.uses_lt hl' hb) (by have:=hu' b hb;omega)
       have oe5:=aB hoe fun b q=>hk5.block b (hoe.lt b q).2 (by have:=(hoe.lt b q).1;omega)
       have oc5:=aB hoc fun b q=>hk5.block b (hoc.lt b q).2 (by have:=(hoc.lt b q).1;omega)
       have x5:=(hk5.block (w.heap.size+1) (by omega) (by omega)).trans x4
       have z5:=(hk5.block (w.heap.size+1+1) (by omega) (by omega)).trans z4
       have hb5:Sn w.heap.size w w5:=bP.trans (hk5.below (by omega) fun k hk e=>by omega)
       obtain⟨ca,ob⟩:∃ a,a=d'.ca:=⟨_,rfl⟩
       obtain⟨cc,hcc⟩:∃ a,a=d'.cc:=⟨_,rfl⟩
       have c7:w5.cell? ⟨w.heap.size,7,none⟩=some (.slice ca d'.cM.length cc):=by rw [ob,hcc];exact Sh _ _ 7 _ 27 (0,0) r5
       rw [←ob,←hcc] at oc5
       have e1:d'.eV.map Ev.c=d.eV.map Ev.c:=congrArg DocC.eV hc'
       obtain⟨o2,ho2,EG⟩:∃ o2,d'.eV[i]? =some o2∧o2.c=o.c:=by
        have h1:(d'.eV.map Ev.c)[i]? =some o.c:=by rw [e1,Su,HI.out];rfl
        rw [Su] at h1
        obtain⟨z,hz,hzc⟩:=Option.map_eq_some_iff.1 h1
        exact⟨z,hz,hzc⟩
       have hil:i<d'.eV.length:=(Sr.1 ho2).1
       have hle:d'.eV.length≤4000000:=eu.2.2.2.2.2.2.2.2.1
       have hlc:d'.cM.length≤4000000:=eu.2.2.2.2.2.2.2.2.2.2
       obtain⟨eb,ep,he⟩:=dw oe5 (by omega)
       have he1:d'.ea=some ⟨eb,0,none⟩∧d'.ec=ep:=by simp only [Sx] at he;exact⟨he.1,he.2.2⟩
       rw [he] at oe5
       have Pd:d'.eV.length≤ep:=by
        rcases oe5.2 with⟨h0,_⟩|⟨g',cap',cur,h0,_,_,hnc,_⟩
        · simp at h0
        · simp only [Sx] at h0
          obtain⟨_,_,rfl⟩:=h0
          exact hnc
       have hne:d'.eV≠[]:=fun h=>by rw [h] at hil;simp at hil
       have of2:o2.fits:=eu.2.2.2.2.2.2.2.1 o2 (St ho2)
       have HT1:=h_ (jO of2)
       have HT2:=h_ (jO HX.out.2)
       have Jg:=h_ (show d'.cM=d.cM from congrArg DocC.cM hc')
       have tj:=h_ (Sq ho2 (Sq EG of2))
       have Bb:=h_ (show R=(0,{ d.c with eV:=de ((d'.eV.set i x).map Ev.c),cM:=d'.cM.map (kL o2.c x.c) }) from by
        rw [nR.out,EG,←Jg.out.symm.trans rfl,Sw,e1];rfl)
       have Dy:=h_ (show((d'.eV.set i x).map Ev.c).Pairwise fun x y=>x.id≠y.id from by
        rw [Sw,e1];exact yx.out)
       have IC:=h_ (fun(wr:Sk) (h:Kept (fun b=>bt d'.ca d'.cM b) w5 wr)=>BR h hap hl5 hne he1.1)
       have tv:=h_ r5
       have JN:=h_ x5
       have FR:=h_ z5
       have iL:=h_ hb5
       have nT:=h_ hl5
       have HU:=h_ hu'
       have lZ:=h_ hap
       have ew:=h_ eu
       have MV:=h_ oe5
       have tD:=h_ ob
       have jf:=h_ hcc
       have wC:=h_ hc'
       have tk:=h_ (fun b (hb:b<w.heap.size+3)=>(show ¬ bt d'.ca d'.cM b from fun q=>by have:=hu' b (.inr (.inr q));omega))
       have yM:=h_ (show ¬ bt d'.ca d'.cM eb from fun q=>by
        obtain⟨t,t1,t2,t3,t4⟩:=hap
        have:=t2 eb ⟨hne,⟨eb,0,none⟩,he1.1,rfl⟩
        have:=t4 eb q;omega)
       have JG:=oe5.lt eb rfl
       have c6:w5.cell? ⟨w.heap.size,6,none⟩=some (.slice (some ⟨eb,0,none⟩) d'.eV.length ep):=by rw [←he];exact Sh _ _ 6 _ 27 (0,0) r5
       have Po:=h_ c6
       have pt:=h_ he1
       have CV:=h_ (show ∀ y∈d'.cM,_ from Jg.out.symm▸Ft.out)
       have HR1:=h_ (Sq (dN.start (kL o2.c x.c) d'.cM) (Sq oc5 (Kept.refl (fun b=>bt d'.ca d'.cM b) w5)))
       have No:w.heap.size+3≤w5.heap.size:=by omega
       have L7:w3.heap.size≤w5.heap.size:=by omega
       clear hl' r4 x4 z4 hk5 hoe hoc hox hoy bP hl5 oe5 oc5 x5 z5 hb5 hu' hap eu hc' r5 hs4 hs5 ob hcc ho2 EG of2 he he1 hne yx nR Ft HI e1 c6
       go_wp2_with fail
       go_loopw [37] (fun v wr=>∃ (j:Nat) (zs:List Cm),j≤d'.cM.length∧v=.int .i64 j∧dN (kL o2.c x.c) d'.cM zs j∧wr.ownsRow w3.heap.size 102 8 (.slice ca d'.cM.length cc) d'.cM.length (zs.flatMap Cm.enc)∧Kept (fun b=>bt d'.ca d'.cM b) w5 wr) (fun v _=>d'.cM.length-(intOf v).toNat)
       case atStart=>exact⟨0,d'.cM,by omega,rfl,HR1.out.1,HR1.out.2.1,HR1.out.2.2⟩
       case round =>
        clear HR1 c7
        obtain⟨j,zs,hj,rfl,hup,how,hkp⟩:=hrel
        have hs:=hkp.size
        have b8:=(hkp.block w.heap.size (by omega) (tk.out _ (by omega))).trans tv.out
        have x8:=(hkp.block (w.heap.size+1) (by omega) (tk.out _ (by omega))).trans JN.out
        by_cases hlt:j<d'.cM.length
        · have hx:d'.cM[j]? =some d'.cM[j]:=List.getElem?_eq_getElem hlt
          generalize d'.cM[j]=y at hx
          obtain⟨cb,cp,he⟩:=dw how (by omega)
          have he2:ca=some ⟨cb,0,none⟩∧cc=cp:=by simp only [Sx] at he;exact⟨he.1,he.2.2⟩
          obtain⟨rfl,rfl⟩:=he2
          clear he
          have qf:=hup.at_ hx
          have hlz:zs.length≤d'.cM.length:=by rw [hup.1];exact Sp _
          have GU:d'.cM.length≤zs.length:=by rw [hup.1];exact Sp _
          have Br:wr.rangeAt cb (j*8) y.enc:=fun q v hv=>by
           have hq8:q<8:=(Sr.1 hv).1
           rw [how.cellAt (j*8+q) (by omega)]
           exact cD Cm.enc 8 (fun _=>rfl) zs j y q _ qf hv
          have hcp:d'.cM.length≤cc:=by
           rcases how.2 with⟨h0,_⟩|⟨g',cap',cur,h0,_,_,hnc,_⟩
           · simp at h0
           · simp only [Sx] at h0
             obtain⟨_,_,rfl⟩:=h0
             exact hnc
          have hcb:=how.lt cb rfl
          have hal:=heap_alloc_last wr (.cells #[Sy .i64 0,.int .i64 0,.int .i64 0,.int .i64 0,.string ⟨#[]⟩,.string ⟨#[]⟩,.bool false,.bool false] 102)
          have yy:=h_ how
          have tA:=h_ hkp
          have Dr:=h_ (Sq hup hx)
          clear how hkp hup hx qf
          go_upto_block 1 with fail
          go_cut [9,10] from 39 to 60 (fun _ _ wx=>∃ zs',dN (kL o2.c x.c) d'.cM zs' (j+1)∧wx.ownsRow w3.heap.size 102 8 (.slice (some ⟨cb,0,none⟩) d'.cM.length cc) d'.cM.length (zs'.flatMap Cm.enc)∧Kept (fun b=>bt d'.ca d'.cM b) w5 wx)
          case first =>
           go_upto_region 14 with(first|(refine aj 102 (.tmp 40) rfl cb (j*8) rfl y.enc _ Br Tryz.underlying102 rfl l_ (by rfl) ?_)|(refine Si rfl 102 (.tmp 10) (.tmp 41) rfl (wr.heap.size) (y.enc.toArray) rfl rfl 102 _ hal l_ rfl (Di _) ?_))
           have hbW:Sn wr.heap.size wr ((wr.alloc (.cells #[Sy .i64 0,.int .i64 0,.int .i64 0,.int .i64 0,.string ⟨#[]⟩,.string ⟨#[]⟩,.bool false,.bool false] 102)).setRow wr.heap.size y.enc.toArray):=Sm ((Sn.refl _ _).alloc (Sp _) _) (Sp _) _
           have pW:=Sj (wr.alloc (.cells #[Sy .i64 0,.int .i64 0,.int .i64 0,.int .i64 0,.string ⟨#[]⟩,.string ⟨#[]⟩,.bool false,.bool false] 102)) wr.heap.size _ y.enc.toArray 102 (0,0) hal
           have Ch:wr.heap.size+1≤((wr.alloc (.cells #[Sy .i64 0,.int .i64 0,.int .i64 0,.int .i64 0,.string ⟨#[]⟩,.string ⟨#[]⟩,.bool false,.bool false] 102)).setRow wr.heap.size y.enc.toArray).heap.size:=by rw [size_setRow];simp
           generalize (wr.alloc (.cells #[Sy .i64 0,.int .i64 0,.int .i64 0,.int .i64 0,.string ⟨#[]⟩,.string ⟨#[]⟩,.bool false,.bool false] 102)).setRow wr.heap.size y.enc.toArray=W at *
           have Be:=h_ (aB yy.out fun b q=>hbW.block b (yy.out.lt b q).2)
           have hkW:Kept (fun b=>bt d'.ca d'.cM b) w5 W:=tA.out.trans (Kept.of_below hbW) fun i h1 h2=>by have:=hs;omega
           have F3:=h_ hkW
           have b9:=(hbW.block w.heap.size (by omega)).trans b8
           have x9:=(hbW.block (w.heap.size+1) (by omega)).trans x8
           have cy:W.cell? ⟨wr.heap.size,1,none⟩=some (.int .i64 y.ev):=Sh _ _ 1 _ 102 (0,0) pW
           have ce:W.cell? ⟨w.heap.size+1,0,none⟩=some (.int .i64 x.id):=Sh _ _ 0 _ 72 (0,0) x9
           clear b8 x8 Br hal
           have A6:=h_ (fun(hq:¬ y.ev=x.id)=>dN.skip Dr.out.1 Dr.out.2 (wU (o:=o2.c) (e:=x.c) hq))
           by_cases hq:y.ev=x.id
           · have HY:=h_ (show kL o2.c x.c y=gp y (eo (some o2.c)) (eo (some x.c)) from if_pos hq)
             have JM:=h_ (CV.out y (St Dr.out.2))
             have Ix:=h_ (show W.rangeAt eb (i*7) o2.enc from fun q v hv=>by
              have O8:q<7:=(Sr.1 hv).1
              have o9:=aB MV.out fun b q=>by
               obtain rfl:b=eb:=by simpa [Sz] using q.symm
               exact(IC.out W F3.out).1
              rw [o9.cellAt (i*7+q) (by omega)]
              exact cD Ev.enc 7 (fun _=>rfl) d'.eV i o2 q _ tj.out.1 hv)
             have yK:=h_ ((IC.out W F3.out).2.1 o2 (St tj.out.1))
             have oc:Sn w.heap.size w W:=iL.out.trans (F3.out.below (by omega) fun b hb=>tk.out b (by omega))
             have ND:w5.heap.size≤W.heap.size:=F3.out.size
             have hcn:w.heap.size≠cb∧w.heap.size+1≠cb∧eb≠cb:=by
              refine⟨by omega,by omega,fun e=>yM.out ?_⟩
              have h0:d'.cM≠[]:=fun h=>by rw [h] at hlt;simp at hlt
              exact⟨h0,⟨cb,0,none⟩,tD.out.symm,e.symm⟩
             have HV:=h_ (fun(w_:Sk) (h:Kept (fun b=>b=cb) W w_∧w_.there cb (j*8) 8)=>(show w_.cell? ⟨w.heap.size,7,none⟩=some (.slice (some ⟨cb,0,none⟩) d'.cM.length cc)∧w_.cell? ⟨w.heap.size,6,none⟩=some (.slice (some ⟨eb,0,none⟩) d'.eV.length ep)∧w_.rangeAt wr.heap.size 0 y.enc∧w_.rangeAt eb (i*7) o2.enc∧w_.rangeAt (w.heap.size+1) 0 x.enc from by
              have h1:=(h.1.block w.heap.size (by omega) hcn.1).trans b9
              refine⟨?_,?_,ai ((h.1.block wr.heap.size (by omega) (by omega)).trans pW),fun q v hv=>?_,ai ((h.1.block (w.heap.size+1) (by omega) hcn.2.1).trans x9)⟩
              · rw [tD.out,jf.out];exact Sh _ _ 7 _ 27 (0,0) h1
              · rw [←pt.out.1,←pt.out.2];exact Sh _ _ 6 _ 27 (0,0) h1
              · have:=h.1.block eb (by omega) hcn.2.2
                rw [Sk.cell?_of_block (w:=W) this];exact Ix.out q v hv))
             have ic:=h_ (fun(w_:Sk) (h:Sn W.heap.size W w_)=>(show Kept (fun b=>b=cb) W w_∧w_.there cb (j*8) 8 from⟨Kept.of_below h,mi (enc:=Cm.enc) (fun _=>rfl) (aB Be.out fun b q=>h.block b (Be.out.lt b q).2) (Nat.le_antisymm hlz GU) hlt⟩))
             have OL:=h_ (fun(w_:Sk) (h:Sn W.heap.size W w_)=>kg o2 w_ (Ev.keeps _ _ _ h yK.out) tj.out.2.2)
             have Bd:=h_ (fun(w_:Sk) (h:Sn W.heap.size W w_)=>kg x w_ (Ev.keeps _ _ _ (oc.trans (h.mono oc.size)) HX.out.1) HX.out.2)
             have OW:=h_ (fun(w_:Sk) (h:Sn W.heap.size W w_)=>mD y (eo (some o2.c)) (eo (some x.c)) w_ JM.out.2 HT1.out HT2.out)
             have HOWN:=h_ (fun(w_:Sk) (h:Sn W.heap.size W w_)=>uf (enc:=Cm.enc) (fun _=>rfl) (gp y (eo (some o2.c)) (eo (some x.c))) (aB Be.out fun b q=>h.block b (Be.out.lt b q).2) (Nat.lt_of_lt_of_le hlt GU))
             generalize gp y (eo (some o2.c)) (eo (some x.c))=Y at *
             generalize eo (some o2.c)=s1 at *
             generalize eo (some x.c)=s2 at *
             have bA:=h_ oc
             have wu:=h_ hbW
             clear oc hbW b9 x9 pW hkW yK Ix
             have Du:=h_ (fun(wx:Sk) (hown:wx.ownsRow w3.heap.size 102 8 (.slice (some ⟨cb,0,none⟩) d'.cM.length cc) d'.cM.length ((zs.set j Y).flatMap Cm.enc)) (hkx:Kept (fun b=>b=cb) W wx)=>(show ∃ zs',dN (kL o2.c x.c) d'.cM zs' (j+1)∧wx.ownsRow w3.heap.size 102 8 (.slice (some ⟨cb,0,none⟩) d'.cM.length cc) d'.cM.length (zs'.flatMap Cm.enc)∧Kept (fun b=>bt d'.ca d'.cM b) w5 wx from⟨_,(HY.out▸Dr.out.1.step Dr.out.2:dN (kL o2.c x.c) d'.cM (zs.set j Y) (j+1)),hown,F3.out.trans hkx fun i _ h=>by
              subst h
              have h0:d'.cM≠[]:=fun h=>by rw [h] at hlt;simp at hlt
              exact⟨h0,⟨i,0,none⟩,tD.out.symm,rfl⟩⟩))
             clear HY Dr A6 tv JN FR IC
             go_upto_region 15 with fail
             clear cy ce
             have hd0:Sn W.heap.size W W.drew:=(Sn.refl _ _).drew
             refine wp_region_held_drew (S:=fun w'=>Kept (fun b=>b=cb) W w'∧w'.there cb (j*8) 8) (by kernel_rfl) (ic.out _ hd0) (fun _=>?_)
             refine ab 0 (.pointer (some ⟨w.heap.size,7,none⟩)) (ic.out _ hd0) ?_
             refine ab 1 (.slice (some ⟨cb,0,none⟩) d'.cM.length cc) (ic.out _ hd0) ?_ (hy:=.inl ⟨by rfl,fun w_ aH=>by have q_:=HV.out w_ aH;have q7:=q_.1;have q6:=q_.2.1;go_simp⟩)
             refine ab 2 (.int .i64 j) (ic.out _ hd0) ?_
             refine ab 3 (.agg y.enc.toArray) (ic.out _ hd0) ?_ (hy:=Sl (by rfl) 102 (.tmp 10) rfl (wr.heap.size) (0) rfl y.enc _ (fun w_ h_=>(HV.out w_ h_).2.2.1) Tryz.underlying102 rfl l_)
             refine ab 4 (.pointer (some ⟨w.heap.size,6,none⟩)) (ic.out _ hd0) ?_
             refine ab 5 (.slice (some ⟨eb,0,none⟩) d'.eV.length ep) (ic.out _ hd0) ?_ (hy:=.inl ⟨by rfl,fun w_ aH=>by have q_:=HV.out w_ aH;have q7:=q_.1;have q6:=q_.2.1;go_simp⟩)
             refine ab 6 (.int .i64 i) (ic.out _ hd0) ?_
             refine ab 7 (.pointer (some ⟨eb,i*7,none⟩)) (ic.out _ hd0) ?_
             refine ab 8 (.agg o2.enc.toArray) (ic.out _ hd0) ?_ (hy:=Sl (by rfl) 72 (.tmp 54) rfl (eb) (i*7) rfl o2.enc _ (fun w_ h_=>(HV.out w_ h_).2.2.2.1) Tryz.underlying72 rfl aX)
             refine ab 10 (.agg x.enc.toArray) (ic.out _ hd0) ?_ (hy:=Sl (by rfl) 72 (.tmp 3) rfl (w.heap.size+1) (0) rfl x.enc _ (fun w_ h_=>(HV.out w_ h_).2.2.2.2) Tryz.underlying72 rfl aX)
             refine aq 9 (fun K hK=>?_)
             go_simp
             refine(OL.out _ hd0).mono ?_
             rintro e v1 ⟨rfl,ar⟩
             have hv1:=ak hd0 ar
             clear ar
             go_wp2_with fail
             refine goOn hK (ic.out _ hv1) ?_
             clear hK
             refine aq 11 (fun K hK=>?_)
             go_simp
             refine(Bd.out _ hv1).mono ?_
             rintro e v2 ⟨rfl,ar⟩
             have hv2:=ak hv1 ar
             clear ar
             go_wp2_with fail
             refine goOn hK (ic.out _ hv2) ?_
             clear hK
             refine aq 12 (fun K hK=>?_)
             go_simp
             refine(OW.out _ hv2).mono ?_
             rintro e v3 ⟨rfl,ar⟩
             have hv3:=ak hv2 ar
             clear ar
             go_wp2_with fail
             refine goOn hK (ic.out _ hv3) ?_
             clear hK
             refine ab 13 (.pointer (some ⟨cb,j*8,none⟩)) (ic.out _ hv3) ?_
             refine aq 14 (fun K hK=>?_)
             rw [if_pos (by rfl)]
             refine wp_store_mid 102 (.tmp 60) (.tmp 59) rfl cb (j*8) Y.enc.toArray rfl rfl ((ic.out _ hv3)).2 l_ (Di _) ?_
             have h5:Kept (fun b=>b=cb) W (v3.setCells cb (j*8) Y.enc)∧(v3.setCells cb (j*8) Y.enc).there cb (j*8) 8:=⟨j8 (may:=fun b=>b=cb) rfl _ _ _ ((ic.out _ hv3)).1,Sk.there_setCells ((ic.out _ hv3)).2 _ _ _⟩
             refine goOn hK h5 ?_
             clear hK
             refine wpAnyH_done (by kernel_rfl) ?_ _
             go_wp2_with fail
             go_meet
             exact Du.out _ (HOWN.out _ hv3) h5.1
           · have HE:=h_ (A6.out hq)
             clear A6 Dr CV tv JN FR IC
             go_wp2_with fail
             go_meet
             exact⟨zs,HE.out,Be.out,F3.out⟩
          case rest =>
           obtain⟨zs',h1,h2,h3⟩:=hcut
           have Du:=h_ (Sq h1 (Sq h2 h3))
           clear h1 h2 h3 Dr CV b8 x8 Br hal yy tA
           go_wp2_with fail
           go_roundw
           case rel=>exact⟨j+1,_,by omega,by go_num,Du.out.1,Du.out.2.1,Du.out.2.2⟩
           case measure=>simp [intOf];omega
        · skip
          obtain rfl:j=d'.cM.length:=by omega
          obtain rfl:=hup.all
          have z8:=(hkp.block (w.heap.size+1+1) (by omega) (tk.out _ (by omega))).trans FR.out
          have hpk:=IC.out wr hkp
          have oe8:=aB MV.out fun b q=>by
           obtain rfl:b=eb:=by simpa [Sz] using q.symm
           exact hpk.1
          have nN:=ai x8
          have c6:wr.cell? ⟨w.heap.size,6,none⟩=some (.slice (some ⟨eb,0,none⟩) d'.eV.length ep):=by
           rw [←pt.out.1,←pt.out.2];exact Sh _ _ 6 _ 27 (0,0) b8
          have z_:=mi (enc:=Ev.enc) (fun _=>rfl) oe8 rfl hil
          have o9:=uf (enc:=Ev.enc) (fun _=>rfl) x oe8 hil
          have fh:Kept (fun b=>b=eb) wr (wr.setCells eb (i*7) x.enc):=j8 (may:=fun b=>b=eb) rfl _ _ _ (Kept.refl _ _)
          have tA:=h_ hkp
          have HOW:=h_ how
          have Dv:=h_ hpk.2
          have B8:=h_ b8
          have Z8:=h_ z8
          clear hup how hkp z8 b8 oe8 hpk CV x8
          go_upto_region 18 with(first|(refine aj 72 (.tmp 3) rfl (w.heap.size+1) 0 rfl x.enc _ nN Tryz.underlying72 rfl aX (by rfl) ?_)|(refine wpList_store_mid rfl 72 (.tmp 66) (.tmp 65) rfl eb (i*7) x.enc.toArray rfl rfl z_ aX (mH _) ?_))
          generalize wr.setCells eb (i*7) x.enc=W at *
          have uD:=fh.size
          have b9:=(fh.block w.heap.size (by omega) (by omega)).trans B8.out
          have z9:=(fh.block (w.heap.size+1+1) (by omega) (by omega)).trans Z8.out
          have c69:W.cell? ⟨w.heap.size,6,none⟩=some (.slice (some ⟨eb,0,none⟩) d'.eV.length ep):=by
           rw [←pt.out.1,←pt.out.2];exact Sh _ _ 6 _ 27 (0,0) b9
          have hlx:∀ z∈d'.eV.set i x,z.lies W:=fun z hz=>by
           rcases Sv hz with h|rfl
           · have hzl:=Dv.out.1 z h
             exact Ev.frame hzl uD fun b hb=>fh.block b (Ev.uses_lt hzl hb) fun q=>by
              obtain⟨t,t1,t2,t3,t4⟩:=lZ.out
              have h3:=t3 z h b hb
              have h2:=t2 eb ⟨fun h0=>by rw [h0] at hil;simp at hil,⟨eb,0,none⟩,pt.out.1,rfl⟩
              rw [q] at h3;omega
           · have hzl:z.lies wr:=Ev.keeps _ _ _ (iL.out.trans (tA.out.below (by omega) fun b hb=>tk.out b (by omega))) HX.out.1
             exact Ev.frame hzl uD fun b hb=>fh.block b (Ev.uses_lt hzl hb) fun q=>by
              have:=Ev.uses_lt HX.out.1 hb;omega
          obtain⟨ta0,tc0,hv0,hS⟩:=aA (k:=7) (enc:=Ev.enc) (Ok:=Ev.lies) (xs:=d'.eV.set i x) (fun _=>rfl) (by rw [Ss];exact o9) hlx
          rw [Ss] at hv0
          simp only [Sx] at hv0
          obtain⟨rfl, -,rfl⟩:=hv0
          have lL:=h_ (iE (some ⟨eb,0,none⟩) ep (d'.eV.set i x) W hS (fun z hz=>by
           rcases Sv hz with h|rfl
           · exact ew.out.2.2.2.2.2.2.2.1 z h
           · exact HX.out.2) (by rw [Ss];exact hle))
          rw [Ss] at lL
          have B9:=h_ b9
          have Z9:=h_ z9
          have lO:=h_ fh
          have hwr2:w3.heap.size≤wr.heap.size:=by omega
          clear o9 z_ hlx hS b9 z9 fh c6 nN JN
          go_wp2_with fail
          refine lL.out.mono ?_
          rintro e w8 ⟨v,ys,rfl,hgr,hperm,hsrt⟩
          obtain⟨ta,tc,hv,Dp⟩:=aA (k:=7) (enc:=Ev.enc) (Ok:=Ev.lies) (fun _=>rfl) hgr.1 (fun z hz=>(hgr.2.1 z hz).1)
          subst hv
          have gP:=hgr.2.2
          have JC:=gP.size
          have r8:=(gP.block w.heap.size (by omega)).trans B9.out
          have z8:=(gP.block (w.heap.size+1+1) (by omega)).trans Z9.out
          have f8:∀ j,w8.frozen? ⟨w.heap.size,j,none⟩=false:=fun j=>by simp [Sk.frozen?,r8]
          have c8':∀ j,w8.cell? ⟨w.heap.size,j,none⟩=_:=fun j=>Sh _ _ j _ 27 (0,0) r8
          obtain⟨D2,hD2⟩:∃ D2:Doc,D2={ d' with ea:=ta,ec:=tc,eV:=ys,cM:=d'.cM.map (kL o2.c x.c) }:=⟨_,rfl⟩
          have r9:=heap_setCell_same w8 w.heap.size 6 _ 27 (.slice ta ys.length tc) r8
          rw [show d'.enc.toArray.setIfInBounds 6 (.slice ta ys.length tc)=D2.enc.toArray from by rw [hD2];simp [Doc.enc]] at r9
          have fh:Kept (fun b=>b=w.heap.size) w8 (w8.setCell ⟨w.heap.size,6,none⟩ (.slice ta ys.length tc)):=bH (Kept.refl _ _) 6 _
          have R9:=h_ r9
          have IQ:=h_ fh
          have Z8':=h_ z8
          have A_:=h_ Dp
          have lP:=h_ hgr
          have Bc:=h_ (Sq hperm hsrt)
          have HD2:=h_ hD2
          clear r9 fh z8 Dp hgr hperm hsrt hD2 r8 gP lL c69
          go_upto_region 19 with fail
          generalize w8.setCell ⟨w.heap.size,6,none⟩ (.slice ta ys.length tc)=w9 at *
          clear f8 c8'
          have uD:=IQ.out.size
          have nN:=ai R9.out
          have z9:=(IQ.out.block (w.heap.size+1+1) (by omega) (by omega)).trans Z8'.out
          have hk10:Kept (fun b=>b=w.heap.size+1+1) w9 (w9.setRow (w.heap.size+1+1) D2.enc.toArray):=bj _ _ _
          have r10:=Sj w9 (w.heap.size+1+1) _ D2.enc.toArray 27 (0,0) z9
          go_wp2_with (first|(refine aj 27 (.tmp 2) rfl w.heap.size 0 rfl D2.enc _ nN Tryz.underlying27 rfl ag (by rfl) ?_)|(refine Si rfl 27 (.tmp 4) (.tmp 71) rfl (w.heap.size+1+1) (D2.enc.toArray) rfl rfl 27 _ z9 ag rfl aO ?_))
          generalize w9.setRow (w.heap.size+1+1) D2.enc.toArray=w10 at *
          have lY:=h_ (show Q (.returned (.tuple #[.agg D2.enc.toArray,.int .i64 0])) w10 from by
           have hc:=wC.out
           have xI:=lP.out.2.2
           have hge:∀ b,iQ ta ys b→W.heap.size≤b:=fun b hb=>by
            rcases hb with⟨_,ad,e,rfl⟩|⟨z,hz,hu⟩
            · exact(lP.out.1.lt ad.block (by rw [e];rfl)).1
            · exact((lP.out.2.1 z hz).2 b hu).2
           have hup:∀ b,b<W.heap.size→w.heap.size+3≤b→w10.heap[b]? =W.heap[b]?:=fun b h1 h2=>by
            rw [hk10.block b (by omega) (by omega),IQ.out.block b (by omega) (by omega),xI.block b (by omega)]
           have hsz:w9.heap.size≤w10.heap.size:=hk10.size
           have hs:=kI Bc.out.1 Bc.out.2 Dy.out
           obtain⟨t,t1,t2,t3,t4⟩:=lZ.out
           have oa:bt d'.ea d'.eV eb:=⟨fun h0=>by rw [h0] at hil;simp at hil,⟨eb,0,none⟩,pt.out.1,rfl⟩
           have htb:=t2 eb oa
           have Hi:ah 8 Cm.enc Flat wr ca (d'.cM.map (kL o2.c x.c)):=by
            obtain⟨a1,c1,h1,h2⟩:=aA (k:=8) (enc:=Cm.enc) (Ok:=Flat) (xs:=d'.cM.map (kL o2.c x.c)) (fun _=>rfl) (by rw [List.length_map];exact HOW.out) (fun _ _=>trivial)
            simp only [Sx] at h1
            rw [h1.1];exact h2
           have K3:∀ b,bt ca (d'.cM.map (kL o2.c x.c)) b→bt d'.ca d'.cM b:=fun b hb=>⟨fun e=>hb.1 (by rw [e];rfl),tD.out▸hb.2⟩
           have hrg:=Dv.out.2
           rw [←hQ,Bb.out]
           refine⟨D2,rfl,?_,⟨?_,?_,?_⟩,?_,?_⟩
           · rw [HD2.out,←hs,←hc];rfl
           · rw [HD2.out]
             refine ah.frame hrg (by omega) (fun b hb=>?_) (fun _ _ _=>trivial)
             have h1:=aP hrg hb
             have h2:=HU.out b (.inl hb)
             rw [hup b (by omega) (by omega),lO.out.block b h1 (fun q=>by have:=t1 b hb;rw [q] at this;omega)]
           · rw [HD2.out]
             refine dG.frame A_.out (by omega) fun b hb=>?_
             have h1:=el A_.out hb
             have h2:=hge b hb
             rw [hk10.block b (by omega) (by omega),IQ.out.block b (by omega) (by omega)]
           · rw [HD2.out]
             show ah 8 Cm.enc Flat w10 d'.ca _
             rw [←tD.out]
             refine ah.frame Hi (by omega) (fun b hb=>?_) (fun _ _ _=>trivial)
             have h1:=aP Hi hb
             have h2:=HU.out b (.inr (.inr (K3 b hb)))
             have h4:=t4 b (K3 b hb)
             rw [hup b (by omega) (by omega),lO.out.block b h1 (fun q=>by rw [q] at h4;omega)]
           · rw [HD2.out]
             intro b hb
             rcases hb with hb|hb|hb
             · have:=HU.out b (.inl hb);omega
             · have:=hge b hb;omega
             · have:=HU.out b (.inr (.inr (K3 b (tD.out▸hb))));omega
           · exact(((iL.out.trans (tA.out.below (by omega) fun b hb=>tk.out b (by omega))).trans (lO.out.below (by omega) fun b hb e=>by omega)).trans (xI.mono (by omega))).trans ((IQ.out.below (by omega) fun b hb e=>by omega).trans (hk10.below (by omega) fun b hb e=>by omega)))
          clear hk10 z9 HD2 wC lP A_ lO Bc Dy Bb lZ nT Dv HOW tA
          exact aL Tryz.results83 rfl rfl r10 rfl lY.out
     · have hne:(EE != 0)=true:=by simpa using hE0
       have HE:=h_ (bh.out (EE) (Lx.out hE0) (w3.setRow (w.heap.size+1+1) zeD) (Sm cN (by omega) _))
       have z9:=Sj w3 (w.heap.size+1+1) _ zeD 27 (0,0) Z3.out
       clear Lx Lw yx Ft HI cP dq bh hr3 HX
       go_wp2_with (refine Si rfl 27 (.tmp 4) (.tmp 30) rfl (w.heap.size+1+1) zeD rfl rfl 27 _ Z3.out ag rfl aO ?_)
       generalize w3.setRow (w.heap.size+1+1) zeD=w9 at *
       exact aL Tryz.results83 rfl rfl z9 rfl HE.out
 · have hne:(DE != 0)=true:=by simpa using h0
   have HE:=h_ (bh.out (DE) (bF.out h0) (w1.setRow (w.heap.size+1+1) zeD) (Sm aK (by omega) _))
   have z9:=Sj w1 (w.heap.size+1+1) _ zeD 27 (0,0) Z1.out
   clear bF kD jU tw Dz pn cP dq yz bh hr1 HX ce
   go_wp2_with (refine Si rfl 27 (.tmp 4) (.tmp 15) rfl (w.heap.size+1+1) zeD rfl rfl 27 _ Z1.out ag rfl aO ?_)
   generalize w1.setRow (w.heap.size+1+1) zeD=w9 at *
   exact aL Tryz.results83 rfl rfl z9 rfl HE.out
end Go.Proofs.YtjebaagkomejaaaGreatDoor
