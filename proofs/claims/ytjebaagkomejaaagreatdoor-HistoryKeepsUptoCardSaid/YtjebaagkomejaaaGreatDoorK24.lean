/- document.Put: a document with an event in the place of another. edit.changed: a document with an event changed. -/
import Derived.Test.YtjebaagkomejaaaGreatDoorK21
set_option linter.unusedVariables false
set_option linter.unusedSimpArgs false
set_option maxRecDepth 100000
set_option maxHeartbeats 12800000
open Go.Lib renaming hid→h_
open List renaming setIfInBounds_toArray→YA,getElem_cons_zero→YB,getElem_cons_succ→YC,getElem_toArray→YD,set_cons_zero→YE,set_cons_succ→YF
open Array renaming toArray_toList→YG
open Go renaming wpList_store_row→Sj,cell_of_row→Sk,setRow_heap→Sl,below_setRow→Sm,World→Sn,yieldsIf_load_mid→Sp,heap_alloc_last→Sq
open Go.RowKit renaming Below→Sr
open Nat renaming le_refl→Ss
open And renaming intro→St
open List renaming getElem?_eq_some_iff→Su,mem_of_getElem?→Sv,length_set→Sw,getElem?_map→Sx,mem_or_eq_of_mem_set→Sy,map_set→Sz
open Go.Value.slice renaming injEq→SA
open Go.Value renaming int→SB,ownBlock→SC
namespace Go.Proofs.YtjebaagkomejaaaGreatDoor
open Go.RowKit
theorem mF (d:Doc)(x:Ev)(w:Sn)(hE:Env w)(hd:d.lies w)(hf:d.fits)(hx:x.lies w)(fx:x.fits):Calls Tryz.prog 83 #[.agg d.enc.toArray,.agg x.enc.toArray] w (aS (putC d.c x.c) w):=by
 have jb:=h_ (fun(w1:Sn) (h:Sr w.heap.size w w1)=>b_ d w1 (hE.below h (Ss _)) (Doc.later hd h) hf)
 have eP:=h_ (fun(w1:Sn) (h:Sr w.heap.size w w1)=>cW d x.id w1 (Doc.later hd h).2.1 hf.2.2.2.2.2.2.2.2.1)
 have tX:=h_ (fun(w1:Sn) (h:Sr w.heap.size w w1)=>fw x d.ra d.rc d.rG w1 (hE.below h (Ss _)) (Ev.keeps _ _ _ h hx) fx (Doc.later hd h).1 hf.2.2.2.2.2.1 hf.2.2.2.2.2.2.1)
 have dA:=h_ (fun(w1:Sn) (h:Sr w.heap.size w w1)=>dx d w1 (Doc.later hd h) hf)
 have bh:=h_ (fun(q:Int) (hq:putC d.c x.c=(q,aU)) (w':Sn) (h:Sr w.heap.size w w')=>(show aS (putC d.c x.c) w (.returned (.tuple #[.agg zeD,.int .i64 q])) w' from hq▸aS.zero q h))
 have rI:bT d.c.rG x.c=fK x d.rG:=ji (EvC.rep_c _) _
 have bD:=h_ (fun(h:a_ d≠0)=>(show putC d.c x.c=(a_ d,aU) from by unfold putC;rw [if_pos (fun q=>h ((bA d).trans q)),←bA]))
 have jF:=h_ (fun(h:a_ d=0) (h2:aT d.c.eV x.id=none)=>BU ((bA d).symm.trans h) (e:=x.c) h2)
 have jW:=h_ (fun(o:EvC) (h:a_ d=0) (h2:aT d.c.eV x.id=some o) (h3:fK x d.rG≠0)=>(show putC d.c x.c=(fK x d.rG,aU) from by
  have:=Ea ((bA d).symm.trans h) (e:=x.c) h2 (by rw [rI];exact h3)
  rw [rI] at this;exact this))
 have tU:=h_ (fun(i:Nat) (o:EvC) (h:a_ d=0) (hi:d.c.eV[i]? =some o) (h2:aT d.c.eV x.id=some o) (h3:fK x d.rG=0)=>Gh ((bA d).symm.trans h) (e:=x.c) hi h2 (by rw [rI];exact h3))
 have DA:=h_ (fun(i:Nat) (o:EvC) (h:a_ d=0) (hi:d.c.eV[i]? =some o) (h2:aT d.c.eV x.id=some o)=>zQ ((bA d).symm.trans h) (e:=x.c) hi (by have h3:o.id=x.id:=(by have:=List.find?_some h2;simpa [evAt] using this);exact h3))
 have pG:=h_ (fun(h:a_ d=0)=>wG h hf)
 have cT:=h_ (fun(d':Doc) (h:d'.c=d.c)=>bn h hf)
 have dp:=h_ (Ai w d.enc.toArray x.enc.toArray zeD)
 have hb3:∀ o1 o2 o3:Obj,Sr w.heap.size w (((w.alloc o1).alloc o2).alloc o3):=fun o1 o2 o3=>(((Sr.refl _ _).alloc (Ss _) _).alloc (by simp) _).alloc (by simp;try omega) _
 have dv:∀ o1 o2 o3:Obj,(((w.alloc o1).alloc o2).alloc o3).heap.size=w.heap.size+3:=fun o1 o2 o3=>by simp
 have HX:=h_ (St hx fx)
 have kC:=h_ (fU d x.id)
 generalize hR:putC d.c x.c=R at *
 generalize hQ:aS R w=Q at bh ⊢
 clear hd hf hE hx fx rI
 go_enter Tryz.func83,Tryz.ntmps83
 have hr0:=ai dp.out.1
 go_wp2_with (refine aj 27 (.tmp 2) rfl w.heap.size 0 rfl d.enc _ hr0 Tryz.underlying27 rfl ag (by rfl) ?_)
 refine(jb.out _ (hb3 _ _ _)).mono ?_
 rintro e w1 ⟨rfl,hb1⟩
 rw [dv] at hb1
 have aM:Sr w.heap.size w w1:=(hb3 _ _ _).trans (hb1.mono (by omega))
 have r1:=(hb1.block w.heap.size (by omega)).trans dp.out.1
 have x1:=(hb1.block (w.heap.size+1) (by omega)).trans dp.out.2.1
 have z1:=(hb1.block (w.heap.size+1+1) (by omega)).trans dp.out.2.2
 have hs1:w.heap.size+3≤w1.heap.size:=by have:=hb1.size;rw [dv] at this;exact this
 clear hb1 hr0 jb dp hb3 dv
 have hr1:=ai r1
 have ce:w1.cell? ⟨w.heap.size+1,0,none⟩=some (.int .i64 x.id):=Sk _ _ 0 _ 72 (0,0) x1
 have R1:=h_ r1
 have X1:=h_ x1
 have Z1:=h_ z1
 clear r1 x1 z1
 generalize a_ d=DE at *
 by_cases h0:DE=0
 · subst h0
   clear bD
   go_wp2_with (refine aj 27 (.tmp 2) rfl w.heap.size 0 rfl d.enc _ hr1 Tryz.underlying27 rfl ag (by rfl) ?_)
   refine(eP.out w1 aM).mono ?_
   rintro e w2 ⟨rfl,hb2⟩
   have hbw2:Sr w.heap.size w w2:=aM.trans (hb2.mono aM.size)
   have r2:=(hb2.block w.heap.size (by omega)).trans R1.out
   have x2:=(hb2.block (w.heap.size+1) (by omega)).trans X1.out
   have z2:=(hb2.block (w.heap.size+1+1) (by omega)).trans Z1.out
   have hs2:w.heap.size+3≤w2.heap.size:=by have:=hb2.size;omega
   have R2:=h_ r2
   have X2:=h_ x2
   have Z2:=h_ z2
   clear hb2 hr1 ce R1 X1 Z1 eP aM r2 x2 z2 hs1
   rcases kC.out with⟨hp,hn⟩|⟨i,o,hp,hi,hn⟩
   · rw [hp]
     have mg:=h_ (jF.out (by first|rfl|trivial) hn)
     clear kC jF jW tU DA pG cT dA tX hp hn HX
     have HE:=h_ (bh.out (6) mg.out (w2.setRow (w.heap.size+1+1) zeD) (Sm hbw2 (by omega) _))
     have z9:=Sl w2 (w.heap.size+1+1) _ zeD 27 (0,0) Z2.out
     clear mg bh
     go_wp2_with (refine Sj rfl 27 (.tmp 4) (.tmp 23) rfl (w.heap.size+1+1) zeD rfl rfl 27 _ Z2.out ag rfl aO ?_)
     generalize w2.setRow (w.heap.size+1+1) zeD=w9 at *
     exact aL Tryz.results83 rfl rfl z9 rfl HE.out
   · rw [hp]
     have hci:d.c.eV[i]? =some o.c:=by show(d.eV.map Ev.c)[i]? =_;rw [Sx,hi];rfl
     have Lj:=h_ (fun(h3:fK x d.rG≠0)=>jW.out o.c (by first|rfl|trivial) hn h3)
     have Li:=h_ (fun(h3:fK x d.rG=0)=>tU.out i o.c (by first|rfl|trivial) hci hn h3)
     have yS:=h_ (DA.out i o.c (by first|rfl|trivial) hci hn)
     have Fv:=h_ (pG.out (by first|rfl|trivial))
     have HI:=h_ hi
     have hi0:(0:Int)≤(i:Int):=by omega
     clear kC jF jW tU DA pG hp hn hci hi
     have hr2:=ai X2.out
     have c5:w2.cell? ⟨w.heap.size,5,none⟩=some (.slice d.ra d.rG.length d.rc):=Sk _ _ 5 _ 27 (0,0) R2.out
     go_wp2_with (refine aj 72 (.tmp 3) rfl (w.heap.size+1) 0 rfl x.enc _ hr2 Tryz.underlying72 rfl aV (by rfl) ?_)
     refine(tX.out w2 hbw2).mono ?_
     rintro e w3 ⟨rfl,hb3⟩
     have cR:=hbw2.trans (hb3.mono hbw2.size)
     have r3:=(hb3.block w.heap.size (by omega)).trans R2.out
     have x3:=(hb3.block (w.heap.size+1) (by omega)).trans X2.out
     have z3:=(hb3.block (w.heap.size+1+1) (by omega)).trans Z2.out
     have hs3:w.heap.size+3≤w3.heap.size:=by have:=hb3.size;omega
     have hr3:=ai r3
     have R3:=h_ r3
     have X3:=h_ x3
     have Z3:=h_ z3
     clear hb3 hbw2 r3 x3 z3 R2 X2 Z2 hr2 c5 tX hs2
     generalize fK x d.rG=EE at *
     by_cases hE0:EE=0
     · subst hE0
       have nZ:=h_ (Li.out rfl)
       clear Lj Li bh
       go_wp2_with (refine aj 27 (.tmp 2) rfl w.heap.size 0 rfl d.enc _ hr3 Tryz.underlying27 rfl ag (by rfl) ?_)
       refine(dA.out w3 cR).mono ?_
       rintro e w4 ⟨d',rfl,hc',hl',hu',hb4,hap,hoe,hoc,hox,hoy⟩
       have eo:=cT.out d' hc'
       have bQ:Sr w.heap.size w w4:=cR.trans (hb4.mono cR.size)
       have r4:=(hb4.block w.heap.size (by omega)).trans R3.out
       have x4:=(hb4.block (w.heap.size+1) (by omega)).trans X3.out
       have z4:=(hb4.block (w.heap.size+1+1) (by omega)).trans Z3.out
       have hs4:w3.heap.size≤w4.heap.size:=hb4.size
       clear hr3 R3 X3 Z3 dA cR cT hb4
       go_upto_region 11 with(refine Sj rfl 27 (.tmp 2) (.tmp 33) rfl (w.heap.size) (d'.enc.toArray) rfl rfl 27 _ r4 ag rfl aO ?_)
       have hk5:Kept (fun b=>b=w.heap.size) w4 (w4.setRow w.heap.size d'.enc.toArray):=bj w4 w.heap.size d'.enc.toArray
       have r5:=Sl w4 w.heap.size _ d'.enc.toArray 27 (0,0) r4
       generalize w4.setRow w.heap.size d'.enc.toArray=w5 at *
       have hs5:=hk5.size
       have hl5:d'.lies w5:=Doc.frame hl' hs5 fun b hb=>hk5.block b (Doc.uses_lt hl' hb) (by have:=hu' b hb;omega)
       have oe5:=aB hoe fun b q=>hk5.block b (hoe.lt b q).2 (by have:=(hoe.lt b q).1;omega)
       have oc5:=aB hoc fun b q=>hk5.block b (hoc.lt b q).2 (by have:=(hoc.lt b q).1;omega)
       have x5:=(hk5.block (w.heap.size+1) (by omega) (by omega)).trans x4
       have z5:=(hk5.block (w.heap.size+1+1) (by omega) (by omega)).trans z4
       have hb5:Sr w.heap.size w w5:=bQ.trans (hk5.below (by omega) fun k hk e=>by omega)
       obtain⟨ca,oq⟩:∃ a,a=d'.ca:=⟨_,rfl⟩
       obtain⟨cc,hcc⟩:∃ a,a=d'.cc:=⟨_,rfl⟩
       have c7:w5.cell? ⟨w.heap.size,7,none⟩=some (.slice ca d'.cM.length cc):=by rw [oq,hcc];exact Sk _ _ 7 _ 27 (0,0) r5
       rw [←oq,←hcc] at oc5
       have e1:d'.eV.map Ev.c=d.eV.map Ev.c:=congrArg DocC.eV hc'
       obtain⟨o2,ho2,EL⟩:∃ o2,d'.eV[i]? =some o2∧o2.c=o.c:=by
        have h1:(d'.eV.map Ev.c)[i]? =some o.c:=by rw [e1,Sx,HI.out];rfl
        rw [Sx] at h1
        obtain⟨z,hz,hzc⟩:=Option.map_eq_some_iff.1 h1
        exact⟨z,hz,hzc⟩
       have hil:i<d'.eV.length:=(Su.1 ho2).1
       have hle:d'.eV.length≤4000000:=eo.2.2.2.2.2.2.2.2.1
       have hlc:d'.cM.length≤4000000:=eo.2.2.2.2.2.2.2.2.2.2
       obtain⟨eb,ep,he⟩:=dD oe5 (by omega)
       have he1:d'.ea=some ⟨eb,0,none⟩∧d'.ec=ep:=by simp only [SA] at he;exact⟨he.1,he.2.2⟩
       rw [he] at oe5
       have Pk:d'.eV.length≤ep:=by
        rcases oe5.2 with⟨h0,_⟩|⟨g',cap',cur,h0,_,_,hnc,_⟩
        · simp at h0
        · simp only [SA] at h0
          obtain⟨_,_,rfl⟩:=h0
          exact hnc
       have hne:d'.eV≠[]:=fun h=>by rw [h] at hil;simp at hil
       have of2:o2.fits:=eo.2.2.2.2.2.2.2.1 o2 (Sv ho2)
       have HT1:=h_ (jS of2)
       have HT2:=h_ (jS HX.out.2)
       have IY:=h_ (show d'.cM=d.cM from congrArg DocC.cM hc')
       have tK:=h_ (St ho2 (St EL of2))
       have Bi:=h_ (show R=(0,{ d.c with eV:=de ((d'.eV.set i x).map Ev.c),cM:=d'.cM.map (kH o2.c x.c) }) from by
        rw [nZ.out,EL,←IY.out.symm.trans rfl,Sz,e1];rfl)
       have Dz:=h_ (show((d'.eV.set i x).map Ev.c).Pairwise fun x y=>x.id≠y.id from by
        rw [Sz,e1];exact yS.out)
       have Iy:=h_ (fun(wr:Sn) (h:Kept (fun b=>bp d'.ca d'.cM b) w5 wr)=>BV h hap hl5 hne he1.1)
       have tT:=h_ r5
       have Jr:=h_ x5
       have FX:=h_ z5
       have iG:=h_ hb5
       have n_:=h_ hl5
       have HU:=h_ hu'
       have oR:=h_ hap
       have eP:=h_ eo
       have MK:=h_ oe5
       have tZ:=h_ oq
       have jc:=h_ hcc
       have xf:=h_ hc'
       have tL:=h_ (fun b (hb:b<w.heap.size+3)=>(show ¬ bp d'.ca d'.cM b from fun q=>by have:=hu' b (.inr (.inr q));omega))
       have zj:=h_ (show ¬ bp d'.ca d'.cM eb from fun q=>by
        obtain⟨t,t1,t2,t3,t4⟩:=hap
        have:=t2 eb ⟨hne,⟨eb,0,none⟩,he1.1,rfl⟩
        have:=t4 eb q;omega)
       have Jl:=oe5.lt eb rfl
       have c6:w5.cell? ⟨w.heap.size,6,none⟩=some (.slice (some ⟨eb,0,none⟩) d'.eV.length ep):=by rw [←he];exact Sk _ _ 6 _ 27 (0,0) r5
       have Pv:=h_ c6
       have nQ:=h_ he1
       have CT:=h_ (show ∀ y∈d'.cM,_ from IY.out.symm▸Fv.out)
       have HR1:=h_ (St (dK.start (kH o2.c x.c) d'.cM) (St oc5 (Kept.refl (fun b=>bp d'.ca d'.cM b) w5)))
       have Nn:w.heap.size+3≤w5.heap.size:=by omega
       have LP:w3.heap.size≤w5.heap.size:=by omega
       clear hl' r4 x4 z4 hk5 hoe hoc hox hoy bQ hl5 oe5 oc5 x5 z5 hb5 hu' hap eo hc' r5 hs4 hs5 oq hcc ho2 EL of2 he he1 hne yS nZ Fv HI e1 c6
       go_wp2_with fail
       go_loopw [37] (fun v wr=>∃ (j:Nat) (zs:List Cm),j≤d'.cM.length∧v=.int .i64 j∧dK (kH o2.c x.c) d'.cM zs j∧wr.ownsRow w3.heap.size 102 8 (.slice ca d'.cM.length cc) d'.cM.length (zs.flatMap Cm.enc)∧Kept (fun b=>bp d'.ca d'.cM b) w5 wr) (fun v _=>d'.cM.length-(intOf v).toNat)
       case atStart=>exact⟨0,d'.cM,by omega,rfl,HR1.out.1,HR1.out.2.1,HR1.out.2.2⟩
       case round =>
        clear HR1 c7
        obtain⟨j,zs,hj,rfl,hup,how,hkp⟩:=hrel
        have hs:=hkp.size
        have b8:=(hkp.block w.heap.size (by omega) (tL.out _ (by omega))).trans tT.out
        have x8:=(hkp.block (w.heap.size+1) (by omega) (tL.out _ (by omega))).trans Jr.out
        by_cases hlt:j<d'.cM.length
        · have hx:d'.cM[j]? =some d'.cM[j]:=List.getElem?_eq_getElem hlt
          generalize d'.cM[j]=y at hx
          obtain⟨cb,cp,he⟩:=dD how (by omega)
          have he2:ca=some ⟨cb,0,none⟩∧cc=cp:=by simp only [SA] at he;exact⟨he.1,he.2.2⟩
          obtain⟨rfl,rfl⟩:=he2
          clear he
          have qu:=hup.at_ hx
          have hlz:zs.length≤d'.cM.length:=by rw [hup.1];exact Ss _
          have GW:d'.cM.length≤zs.length:=by rw [hup.1];exact Ss _
          have EC:wr.rangeAt cb (j*8) y.enc:=fun q v hv=>by
           have hq8:q<8:=(Su.1 hv).1
           rw [how.cellAt (j*8+q) (by omega)]
           exact cK Cm.enc 8 (fun _=>rfl) zs j y q _ qu hv
          have hcp:d'.cM.length≤cc:=by
           rcases how.2 with⟨h0,_⟩|⟨g',cap',cur,h0,_,_,hnc,_⟩
           · simp at h0
           · simp only [SA] at h0
             obtain⟨_,_,rfl⟩:=h0
             exact hnc
          have hcb:=how.lt cb rfl
          have hal:=Sq wr (.cells #[SB .i64 0,.int .i64 0,.int .i64 0,.int .i64 0,.string ⟨#[]⟩,.string ⟨#[]⟩,.bool false,.bool false] 102)
          have DB:=h_ how
          have tV:=h_ hkp
          have Dn:=h_ (St hup hx)
          clear how hkp hup hx qu
          go_upto_block 1 with fail
          go_cut [9,10] from 39 to 60 (fun _ _ wx=>∃ zs',dK (kH o2.c x.c) d'.cM zs' (j+1)∧wx.ownsRow w3.heap.size 102 8 (.slice (some ⟨cb,0,none⟩) d'.cM.length cc) d'.cM.length (zs'.flatMap Cm.enc)∧Kept (fun b=>bp d'.ca d'.cM b) w5 wx)
          case first =>
           go_upto_region 14 with(first|(refine aj 102 (.tmp 40) rfl cb (j*8) rfl y.enc _ EC Tryz.underlying102 rfl l_ (by rfl) ?_)|(refine Sj rfl 102 (.tmp 10) (.tmp 41) rfl (wr.heap.size) (y.enc.toArray) rfl rfl 102 _ hal l_ rfl (Dg _) ?_))
           have hbW:Sr wr.heap.size wr ((wr.alloc (.cells #[SB .i64 0,.int .i64 0,.int .i64 0,.int .i64 0,.string ⟨#[]⟩,.string ⟨#[]⟩,.bool false,.bool false] 102)).setRow wr.heap.size y.enc.toArray):=Sm ((Sr.refl _ _).alloc (Ss _) _) (Ss _) _
           have pW:=Sl (wr.alloc (.cells #[SB .i64 0,.int .i64 0,.int .i64 0,.int .i64 0,.string ⟨#[]⟩,.string ⟨#[]⟩,.bool false,.bool false] 102)) wr.heap.size _ y.enc.toArray 102 (0,0) hal
           have Cl:wr.heap.size+1≤((wr.alloc (.cells #[SB .i64 0,.int .i64 0,.int .i64 0,.int .i64 0,.string ⟨#[]⟩,.string ⟨#[]⟩,.bool false,.bool false] 102)).setRow wr.heap.size y.enc.toArray).heap.size:=by rw [size_setRow];simp
           generalize (wr.alloc (.cells #[SB .i64 0,.int .i64 0,.int .i64 0,.int .i64 0,.string ⟨#[]⟩,.string ⟨#[]⟩,.bool false,.bool false] 102)).setRow wr.heap.size y.enc.toArray=W at *
           have Bl:=h_ (aB DB.out fun b q=>hbW.block b (DB.out.lt b q).2)
           have hkW:Kept (fun b=>bp d'.ca d'.cM b) w5 W:=tV.out.trans (Kept.of_below hbW) fun i h1 h2=>by have:=hs;omega
           have F9:=h_ hkW
           have b9:=(hbW.block w.heap.size (by omega)).trans b8
           have x9:=(hbW.block (w.heap.size+1) (by omega)).trans x8
           have cy:W.cell? ⟨wr.heap.size,1,none⟩=some (.int .i64 y.ev):=Sk _ _ 1 _ 102 (0,0) pW
           have ce:W.cell? ⟨w.heap.size+1,0,none⟩=some (.int .i64 x.id):=Sk _ _ 0 _ 72 (0,0) x9
           clear b8 x8 EC hal
           have Fo:=h_ (fun(hq:¬ y.ev=x.id)=>dK.skip Dn.out.1 Dn.out.2 (xH (o:=o2.c) (e:=x.c) hq))
           by_cases hq:y.ev=x.id
           · have HY:=h_ (show kH o2.c x.c y=fZ y (ek (some o2.c)) (ek (some x.c)) from if_pos hq)
             have Jq:=h_ (CT.out y (Sv Dn.out.2))
             have Ir:=h_ (show W.rangeAt eb (i*7) o2.enc from fun q v hv=>by
              have Pe:q<7:=(Su.1 hv).1
              have o9:=aB MK.out fun b q=>by
               obtain rfl:b=eb:=by simpa [SC] using q.symm
               exact(Iy.out W F9.out).1
              rw [o9.cellAt (i*7+q) (by omega)]
              exact cK Ev.enc 7 (fun _=>rfl) d'.eV i o2 q _ tK.out.1 hv)
             have FB:=h_ ((Iy.out W F9.out).2.1 o2 (Sv tK.out.1))
             have ot:Sr w.heap.size w W:=iG.out.trans (F9.out.below (by omega) fun b hb=>tL.out b (by omega))
             have NF:w5.heap.size≤W.heap.size:=F9.out.size
             have hcn:w.heap.size≠cb∧w.heap.size+1≠cb∧eb≠cb:=by
              refine⟨by omega,by omega,fun e=>zj.out ?_⟩
              have h0:d'.cM≠[]:=fun h=>by rw [h] at hlt;simp at hlt
              exact⟨h0,⟨cb,0,none⟩,tZ.out.symm,e.symm⟩
             have HV:=h_ (fun(w_:Sn) (h:Kept (fun b=>b=cb) W w_∧w_.there cb (j*8) 8)=>(show w_.cell? ⟨w.heap.size,7,none⟩=some (.slice (some ⟨cb,0,none⟩) d'.cM.length cc)∧w_.cell? ⟨w.heap.size,6,none⟩=some (.slice (some ⟨eb,0,none⟩) d'.eV.length ep)∧w_.rangeAt wr.heap.size 0 y.enc∧w_.rangeAt eb (i*7) o2.enc∧w_.rangeAt (w.heap.size+1) 0 x.enc from by
              have h1:=(h.1.block w.heap.size (by omega) hcn.1).trans b9
              refine⟨?_,?_,ai ((h.1.block wr.heap.size (by omega) (by omega)).trans pW),fun q v hv=>?_,ai ((h.1.block (w.heap.size+1) (by omega) hcn.2.1).trans x9)⟩
              · rw [tZ.out,jc.out];exact Sk _ _ 7 _ 27 (0,0) h1
              · rw [←nQ.out.1,←nQ.out.2];exact Sk _ _ 6 _ 27 (0,0) h1
              · have:=h.1.block eb (by omega) hcn.2.2
                rw [Sn.cell?_of_block (w:=W) this];exact Ir.out q v hv))
             have gW:=h_ (fun(w_:Sn) (h:Sr W.heap.size W w_)=>(show Kept (fun b=>b=cb) W w_∧w_.there cb (j*8) 8 from⟨Kept.of_below h,mi (enc:=Cm.enc) (fun _=>rfl) (aB Bl.out fun b q=>h.block b (Bl.out.lt b q).2) (Nat.le_antisymm hlz GW) hlt⟩))
             have OR:=h_ (fun(w_:Sn) (h:Sr W.heap.size W w_)=>kg o2 w_ (Ev.keeps _ _ _ h FB.out) tK.out.2.2)
             have Bk:=h_ (fun(w_:Sn) (h:Sr W.heap.size W w_)=>kg x w_ (Ev.keeps _ _ _ (ot.trans (h.mono ot.size)) HX.out.1) HX.out.2)
             have O3:=h_ (fun(w_:Sn) (h:Sr W.heap.size W w_)=>mG y (ek (some o2.c)) (ek (some x.c)) w_ Jq.out.2 HT1.out HT2.out)
             have HOWN:=h_ (fun(w_:Sn) (h:Sr W.heap.size W w_)=>uJ (enc:=Cm.enc) (fun _=>rfl) (fZ y (ek (some o2.c)) (ek (some x.c))) (aB Bl.out fun b q=>h.block b (Bl.out.lt b q).2) (Nat.lt_of_lt_of_le hlt GW))
             generalize fZ y (ek (some o2.c)) (ek (some x.c))=Y at *
             generalize ek (some o2.c)=s1 at *
             generalize ek (some x.c)=s2 at *
             have bE:=h_ ot
             have rq:=h_ hbW
             clear ot hbW b9 x9 pW hkW FB Ir
             have Ds:=h_ (fun(wx:Sn) (hown:wx.ownsRow w3.heap.size 102 8 (.slice (some ⟨cb,0,none⟩) d'.cM.length cc) d'.cM.length ((zs.set j Y).flatMap Cm.enc)) (hkx:Kept (fun b=>b=cb) W wx)=>(show ∃ zs',dK (kH o2.c x.c) d'.cM zs' (j+1)∧wx.ownsRow w3.heap.size 102 8 (.slice (some ⟨cb,0,none⟩) d'.cM.length cc) d'.cM.length (zs'.flatMap Cm.enc)∧Kept (fun b=>bp d'.ca d'.cM b) w5 wx from⟨_,(HY.out▸Dn.out.1.step Dn.out.2:dK (kH o2.c x.c) d'.cM (zs.set j Y) (j+1)),hown,F9.out.trans hkx fun i _ h=>by
              subst h
              have h0:d'.cM≠[]:=fun h=>by rw [h] at hlt;simp at hlt
              exact⟨h0,⟨i,0,none⟩,tZ.out.symm,rfl⟩⟩))
             clear HY Dn Fo tT Jr FX Iy
             go_upto_region 15 with fail
             clear cy ce
             have hd0:Sr W.heap.size W W.drew:=(Sr.refl _ _).drew
             refine wp_region_held_drew (S:=fun w'=>Kept (fun b=>b=cb) W w'∧w'.there cb (j*8) 8) (by kernel_rfl) (gW.out _ hd0) (fun _=>?_)
             refine ab 0 (.pointer (some ⟨w.heap.size,7,none⟩)) (gW.out _ hd0) ?_
             refine ab 1 (.slice (some ⟨cb,0,none⟩) d'.cM.length cc) (gW.out _ hd0) ?_ (hy:=.inl ⟨by rfl,fun w_ aH=>by have q_:=HV.out w_ aH;have q7:=q_.1;have q6:=q_.2.1;go_simp⟩)
             refine ab 2 (.int .i64 j) (gW.out _ hd0) ?_
             refine ab 3 (.agg y.enc.toArray) (gW.out _ hd0) ?_ (hy:=Sp (by rfl) 102 (.tmp 10) rfl (wr.heap.size) (0) rfl y.enc _ (fun w_ h_=>(HV.out w_ h_).2.2.1) Tryz.underlying102 rfl l_)
             refine ab 4 (.pointer (some ⟨w.heap.size,6,none⟩)) (gW.out _ hd0) ?_
             refine ab 5 (.slice (some ⟨eb,0,none⟩) d'.eV.length ep) (gW.out _ hd0) ?_ (hy:=.inl ⟨by rfl,fun w_ aH=>by have q_:=HV.out w_ aH;have q7:=q_.1;have q6:=q_.2.1;go_simp⟩)
             refine ab 6 (.int .i64 i) (gW.out _ hd0) ?_
             refine ab 7 (.pointer (some ⟨eb,i*7,none⟩)) (gW.out _ hd0) ?_
             refine ab 8 (.agg o2.enc.toArray) (gW.out _ hd0) ?_ (hy:=Sp (by rfl) 72 (.tmp 54) rfl (eb) (i*7) rfl o2.enc _ (fun w_ h_=>(HV.out w_ h_).2.2.2.1) Tryz.underlying72 rfl aV)
             refine ab 10 (.agg x.enc.toArray) (gW.out _ hd0) ?_ (hy:=Sp (by rfl) 72 (.tmp 3) rfl (w.heap.size+1) (0) rfl x.enc _ (fun w_ h_=>(HV.out w_ h_).2.2.2.2) Tryz.underlying72 rfl aV)
             refine aq 9 (fun K hK=>?_)
             go_simp
             refine(OR.out _ hd0).mono ?_
             rintro e v1 ⟨rfl,ar⟩
             have hv1:=ak hd0 ar
             clear ar
             go_wp2_with fail
             refine goOn hK (gW.out _ hv1) ?_
             clear hK
             refine aq 11 (fun K hK=>?_)
             go_simp
             refine(Bk.out _ hv1).mono ?_
             rintro e v2 ⟨rfl,ar⟩
             have hv2:=ak hv1 ar
             clear ar
             go_wp2_with fail
             refine goOn hK (gW.out _ hv2) ?_
             clear hK
             refine aq 12 (fun K hK=>?_)
             go_simp
             refine(O3.out _ hv2).mono ?_
             rintro e v3 ⟨rfl,ar⟩
             have hv3:=ak hv2 ar
             clear ar
             go_wp2_with fail
             refine goOn hK (gW.out _ hv3) ?_
             clear hK
             refine ab 13 (.pointer (some ⟨cb,j*8,none⟩)) (gW.out _ hv3) ?_
             refine aq 14 (fun K hK=>?_)
             rw [if_pos (by rfl)]
             refine wp_store_mid 102 (.tmp 60) (.tmp 59) rfl cb (j*8) Y.enc.toArray rfl rfl ((gW.out _ hv3)).2 l_ (Dg _) ?_
             have h5:Kept (fun b=>b=cb) W (v3.setCells cb (j*8) Y.enc)∧(v3.setCells cb (j*8) Y.enc).there cb (j*8) 8:=⟨j8 (may:=fun b=>b=cb) rfl _ _ _ ((gW.out _ hv3)).1,Sn.there_setCells ((gW.out _ hv3)).2 _ _ _⟩
             refine goOn hK h5 ?_
             clear hK
             refine wpAnyH_done (by kernel_rfl) ?_ _
             go_wp2_with fail
             go_meet
             exact Ds.out _ (HOWN.out _ hv3) h5.1
           · have HE:=h_ (Fo.out hq)
             clear Fo Dn CT tT Jr FX Iy
             go_wp2_with fail
             go_meet
             exact⟨zs,HE.out,Bl.out,F9.out⟩
          case rest =>
           obtain⟨zs',h1,h2,h3⟩:=hcut
           have Ds:=h_ (St h1 (St h2 h3))
           clear h1 h2 h3 Dn CT b8 x8 EC hal DB tV
           go_wp2_with fail
           go_roundw
           case rel=>exact⟨j+1,_,by omega,by go_num,Ds.out.1,Ds.out.2.1,Ds.out.2.2⟩
           case measure=>simp [intOf];omega
        · skip
          obtain rfl:j=d'.cM.length:=by omega
          obtain rfl:=hup.all
          have z8:=(hkp.block (w.heap.size+1+1) (by omega) (tL.out _ (by omega))).trans FX.out
          have hpk:=Iy.out wr hkp
          have oe8:=aB MK.out fun b q=>by
           obtain rfl:b=eb:=by simpa [SC] using q.symm
           exact hpk.1
          have nV:=ai x8
          have c6:wr.cell? ⟨w.heap.size,6,none⟩=some (.slice (some ⟨eb,0,none⟩) d'.eV.length ep):=by
           rw [←nQ.out.1,←nQ.out.2];exact Sk _ _ 6 _ 27 (0,0) b8
          have An:=mi (enc:=Ev.enc) (fun _=>rfl) oe8 rfl hil
          have o9:=uJ (enc:=Ev.enc) (fun _=>rfl) x oe8 hil
          have eX:Kept (fun b=>b=eb) wr (wr.setCells eb (i*7) x.enc):=j8 (may:=fun b=>b=eb) rfl _ _ _ (Kept.refl _ _)
          have tV:=h_ hkp
          have HOW:=h_ how
          have Dt:=h_ hpk.2
          have B8:=h_ b8
          have Z8:=h_ z8
          clear hup how hkp z8 b8 oe8 hpk CT x8
          go_upto_region 18 with(first|(refine aj 72 (.tmp 3) rfl (w.heap.size+1) 0 rfl x.enc _ nV Tryz.underlying72 rfl aV (by rfl) ?_)|(refine wpList_store_mid rfl 72 (.tmp 66) (.tmp 65) rfl eb (i*7) x.enc.toArray rfl rfl An aV (mL _) ?_))
          generalize wr.setCells eb (i*7) x.enc=W at *
          have vd:=eX.size
          have b9:=(eX.block w.heap.size (by omega) (by omega)).trans B8.out
          have z9:=(eX.block (w.heap.size+1+1) (by omega) (by omega)).trans Z8.out
          have c69:W.cell? ⟨w.heap.size,6,none⟩=some (.slice (some ⟨eb,0,none⟩) d'.eV.length ep):=by
           rw [←nQ.out.1,←nQ.out.2];exact Sk _ _ 6 _ 27 (0,0) b9
          have hlx:∀ z∈d'.eV.set i x,z.lies W:=fun z hz=>by
           rcases Sy hz with h|rfl
           · have hzl:=Dt.out.1 z h
             exact Ev.frame hzl vd fun b hb=>eX.block b (Ev.uses_lt hzl hb) fun q=>by
              obtain⟨t,t1,t2,t3,t4⟩:=oR.out
              have h3:=t3 z h b hb
              have h2:=t2 eb ⟨fun h0=>by rw [h0] at hil;simp at hil,⟨eb,0,none⟩,nQ.out.1,rfl⟩
              rw [q] at h3;omega
           · have hzl:z.lies wr:=Ev.keeps _ _ _ (iG.out.trans (tV.out.below (by omega) fun b hb=>tL.out b (by omega))) HX.out.1
             exact Ev.frame hzl vd fun b hb=>eX.block b (Ev.uses_lt hzl hb) fun q=>by
              have:=Ev.uses_lt HX.out.1 hb;omega
          obtain⟨ta0,tc0,hv0,hS⟩:=aA (k:=7) (enc:=Ev.enc) (Ok:=Ev.lies) (xs:=d'.eV.set i x) (fun _=>rfl) (by rw [Sw];exact o9) hlx
          rw [Sw] at hv0
          simp only [SA] at hv0
          obtain⟨rfl, -,rfl⟩:=hv0
          have lI:=h_ (ix (some ⟨eb,0,none⟩) ep (d'.eV.set i x) W hS (fun z hz=>by
           rcases Sy hz with h|rfl
           · exact eP.out.2.2.2.2.2.2.2.1 z h
           · exact HX.out.2) (by rw [Sw];exact hle))
          rw [Sw] at lI
          have B9:=h_ b9
          have Z9:=h_ z9
          have lL:=h_ eX
          have hwr2:w3.heap.size≤wr.heap.size:=by omega
          clear o9 An hlx hS b9 z9 eX c6 nV Jr
          go_wp2_with fail
          refine lI.out.mono ?_
          rintro e w8 ⟨v,ys,rfl,hgr,hperm,hsrt⟩
          obtain⟨ta,tc,hv,Dk⟩:=aA (k:=7) (enc:=Ev.enc) (Ok:=Ev.lies) (fun _=>rfl) hgr.1 (fun z hz=>(hgr.2.1 z hz).1)
          subst hv
          have iF:=hgr.2.2
          have Ki:=iF.size
          have r8:=(iF.block w.heap.size (by omega)).trans B9.out
          have z8:=(iF.block (w.heap.size+1+1) (by omega)).trans Z9.out
          have f8:∀ j,w8.frozen? ⟨w.heap.size,j,none⟩=false:=fun j=>by simp [Sn.frozen?,r8]
          have c8':∀ j,w8.cell? ⟨w.heap.size,j,none⟩=_:=fun j=>Sk _ _ j _ 27 (0,0) r8
          obtain⟨D2,hD2⟩:∃ D2:Doc,D2={ d' with ea:=ta,ec:=tc,eV:=ys,cM:=d'.cM.map (kH o2.c x.c) }:=⟨_,rfl⟩
          have r9:=heap_setCell_same w8 w.heap.size 6 _ 27 (.slice ta ys.length tc) r8
          rw [show d'.enc.toArray.setIfInBounds 6 (.slice ta ys.length tc)=D2.enc.toArray from by rw [hD2];simp [Doc.enc]] at r9
          have eX:Kept (fun b=>b=w.heap.size) w8 (w8.setCell ⟨w.heap.size,6,none⟩ (.slice ta ys.length tc)):=bG (Kept.refl _ _) 6 _
          have R9:=h_ r9
          have IJ:=h_ eX
          have Z8':=h_ z8
          have Bg:=h_ Dk
          have lM:=h_ hgr
          have Bj:=h_ (St hperm hsrt)
          have HD2:=h_ hD2
          clear r9 eX z8 Dk hgr hperm hsrt hD2 r8 iF lI c69
          go_upto_region 19 with fail
          generalize w8.setCell ⟨w.heap.size,6,none⟩ (.slice ta ys.length tc)=w9 at *
          clear f8 c8'
          have vd:=IJ.out.size
          have nV:=ai R9.out
          have z9:=(IJ.out.block (w.heap.size+1+1) (by omega) (by omega)).trans Z8'.out
          have hk10:Kept (fun b=>b=w.heap.size+1+1) w9 (w9.setRow (w.heap.size+1+1) D2.enc.toArray):=bj _ _ _
          have r10:=Sl w9 (w.heap.size+1+1) _ D2.enc.toArray 27 (0,0) z9
          go_wp2_with (first|(refine aj 27 (.tmp 2) rfl w.heap.size 0 rfl D2.enc _ nV Tryz.underlying27 rfl ag (by rfl) ?_)|(refine Sj rfl 27 (.tmp 4) (.tmp 71) rfl (w.heap.size+1+1) (D2.enc.toArray) rfl rfl 27 _ z9 ag rfl aO ?_))
          generalize w9.setRow (w.heap.size+1+1) D2.enc.toArray=w10 at *
          have l6:=h_ (show Q (.returned (.tuple #[.agg D2.enc.toArray,.int .i64 0])) w10 from by
           have hc:=xf.out
           have ye:=lM.out.2.2
           have hge:∀ b,gi ta ys b→W.heap.size≤b:=fun b hb=>by
            rcases hb with⟨_,ad,e,rfl⟩|⟨z,hz,hu⟩
            · exact(lM.out.1.lt ad.block (by rw [e];rfl)).1
            · exact((lM.out.2.1 z hz).2 b hu).2
           have hup:∀ b,b<W.heap.size→w.heap.size+3≤b→w10.heap[b]? =W.heap[b]?:=fun b h1 h2=>by
            rw [hk10.block b (by omega) (by omega),IJ.out.block b (by omega) (by omega),ye.block b (by omega)]
           have hsz:w9.heap.size≤w10.heap.size:=hk10.size
           have hs:=kF Bj.out.1 Bj.out.2 Dz.out
           obtain⟨t,t1,t2,t3,t4⟩:=oR.out
           have rI:bp d'.ea d'.eV eb:=⟨fun h0=>by rw [h0] at hil;simp at hil,⟨eb,0,none⟩,nQ.out.1,rfl⟩
           have htb:=t2 eb rI
           have Hi:ah 8 Cm.enc Flat wr ca (d'.cM.map (kH o2.c x.c)):=by
            obtain⟨a1,c1,h1,h2⟩:=aA (k:=8) (enc:=Cm.enc) (Ok:=Flat) (xs:=d'.cM.map (kH o2.c x.c)) (fun _=>rfl) (by rw [List.length_map];exact HOW.out) (fun _ _=>trivial)
            simp only [SA] at h1
            rw [h1.1];exact h2
           have FU:∀ b,bp ca (d'.cM.map (kH o2.c x.c)) b→bp d'.ca d'.cM b:=fun b hb=>⟨fun e=>hb.1 (by rw [e];rfl),tZ.out▸hb.2⟩
           have hrg:=Dt.out.2
           rw [←hQ,Bi.out]
           refine⟨D2,rfl,?_,⟨?_,?_,?_⟩,?_,?_⟩
           · rw [HD2.out,←hs,←hc];rfl
           · rw [HD2.out]
             refine ah.frame hrg (by omega) (fun b hb=>?_) (fun _ _ _=>trivial)
             have h1:=aP hrg hb
             have h2:=HU.out b (.inl hb)
             rw [hup b (by omega) (by omega),lL.out.block b h1 (fun q=>by have:=t1 b hb;rw [q] at this;omega)]
           · rw [HD2.out]
             refine dy.frame Bg.out (by omega) fun b hb=>?_
             have h1:=ej Bg.out hb
             have h2:=hge b hb
             rw [hk10.block b (by omega) (by omega),IJ.out.block b (by omega) (by omega)]
           · rw [HD2.out]
             show ah 8 Cm.enc Flat w10 d'.ca _
             rw [←tZ.out]
             refine ah.frame Hi (by omega) (fun b hb=>?_) (fun _ _ _=>trivial)
             have h1:=aP Hi hb
             have h2:=HU.out b (.inr (.inr (FU b hb)))
             have h4:=t4 b (FU b hb)
             rw [hup b (by omega) (by omega),lL.out.block b h1 (fun q=>by rw [q] at h4;omega)]
           · rw [HD2.out]
             intro b hb
             rcases hb with hb|hb|hb
             · have:=HU.out b (.inl hb);omega
             · have:=hge b hb;omega
             · have:=HU.out b (.inr (.inr (FU b (tZ.out▸hb))));omega
           · exact(((iG.out.trans (tV.out.below (by omega) fun b hb=>tL.out b (by omega))).trans (lL.out.below (by omega) fun b hb e=>by omega)).trans (ye.mono (by omega))).trans ((IJ.out.below (by omega) fun b hb e=>by omega).trans (hk10.below (by omega) fun b hb e=>by omega)))
          clear hk10 z9 HD2 xf lM Bg lL Bj Dz Bi oR n_ Dt HOW tV
          exact aL Tryz.results83 rfl rfl r10 rfl l6.out
     · have hne:(EE != 0)=true:=by simpa using hE0
       have HE:=h_ (bh.out (EE) (Lj.out hE0) (w3.setRow (w.heap.size+1+1) zeD) (Sm cR (by omega) _))
       have z9:=Sl w3 (w.heap.size+1+1) _ zeD 27 (0,0) Z3.out
       clear Lj Li yS Fv HI cT dA bh hr3 HX
       go_wp2_with (refine Sj rfl 27 (.tmp 4) (.tmp 30) rfl (w.heap.size+1+1) zeD rfl rfl 27 _ Z3.out ag rfl aO ?_)
       generalize w3.setRow (w.heap.size+1+1) zeD=w9 at *
       exact aL Tryz.results83 rfl rfl z9 rfl HE.out
 · have hne:(DE != 0)=true:=by simpa using h0
   have HE:=h_ (bh.out (DE) (bD.out h0) (w1.setRow (w.heap.size+1+1) zeD) (Sm aM (by omega) _))
   have z9:=Sl w1 (w.heap.size+1+1) _ zeD 27 (0,0) Z1.out
   clear bD jF jW tU DA pG cT dA tX bh hr1 HX ce
   go_wp2_with (refine Sj rfl 27 (.tmp 4) (.tmp 15) rfl (w.heap.size+1+1) zeD rfl rfl 27 _ Z1.out ag rfl aO ?_)
   generalize w1.setRow (w.heap.size+1+1) zeD=w9 at *
   exact aL Tryz.results83 rfl rfl z9 rfl HE.out
theorem ko (N:Nat)(caps:Array Value)(f:EvC→Int × EvC)(d:Doc)(id:Int)(w:Sn)(hE:Env w)(hd:d.lies w)(hf:d.fits)(hfn:fC N caps f w)(hcf:∀ (args:Array Value)(w1:Sn),(callFunc N args).run Tryz.prog w1=.ok (.enter N args) w1) :
 Calls Tryz.prog 29 #[.agg d.enc.toArray,.int .i64 id,.func (.func N) #[] caps] w (aS (aF d.c id f) w):=by
 have eP:=h_ (fun(w1:Sn) (h:Sr w.heap.size w w1)=>cW d id w1 (Doc.later hd h).2.1 hf.2.2.2.2.2.2.2.2.1)
 have dA:=h_ (fun(o:Ev) (w1:Sn) (hl:o.lies w1) (hfo:o.fits)=>gD o w1 hl (fun r hr=>(hfo.2.2.2.2.2.2.2.1 r hr).2.1) hfo.2.2.2.2.2.2.2.2)
 have zh:=h_ (fun(y:Ev) (w1:Sn) (h:Sr w.heap.size w w1) (hy:y.lies w1) (fy:y.fits)=>mF d y w1 (hE.below h (Ss _)) (Doc.later hd h) hf hy fy)
 have aY:=h_ (St hd (St hf hfn))
 have kC:=h_ (fU d id)
 have bh:=h_ (fun(q:Int) (hq:aF d.c id f=(q,aU)) (w':Sn) (h:Sr w.heap.size w w')=>(show aS (aF d.c id f) w (.returned (.tuple #[.agg zeD,.int .i64 q])) w' from by rw [hq];exact aS.zero q h))
 have C3:=h_ (fun(h:aT d.c.eV id=none)=>(show aF d.c id f=(6,aU) from by unfold aF;rw [h]))
 have pG:=h_ (fun(o:Ev) (h:aT d.c.eV id=some o.c)=>(show aF d.c id f=if (f o.c).1≠0 then ((f o.c).1,aU) else putC d.c (f o.c).2 from by unfold aF;rw [h]))
 have bD:=h_ (fun(r:Int × DocC) (hr:aF d.c id f=r) (B:Nat) (D:Doc) (w':Sn) (h:D.c=r.2∧D.lies w'∧(∀ b,D.uses b→w.heap.size≤b)∧Sr w.heap.size w w')=>(show aS (aF d.c id f) w (.returned (.tuple #[.agg D.enc.toArray,.int .i64 r.1])) w' from⟨D,by rw [hr],by rw [hr];exact h.1,h.2.1,h.2.2.1,h.2.2.2⟩))
 have dp:=h_ (o_ w d.enc.toArray zeD)
 have hb2:∀ o1 o2:Obj,Sr w.heap.size w ((w.alloc o1).alloc o2):=fun o1 o2=>((Sr.refl _ _).alloc (Ss _) _).alloc (by simp) _
 have hsz2:∀ o1 o2:Obj,w.heap.size+2≤((w.alloc o1).alloc o2).heap.size:=fun o1 o2=>by simp
 generalize hQ:aS (aF d.c id f) w=Q at *
 clear hd hf hE hfn
 go_enter Tryz.func29,Tryz.ntmps29
 go_upto_region 1 with fail
 have h0:=dp.out.1
 have h1:=dp.out.2
 have hbw:=hb2 (.cells d.enc.toArray 27) (.cells zeD 27)
 have hsz:=hsz2 (.cells d.enc.toArray 27) (.cells zeD 27)
 clear dp hb2 hsz2
 generalize (w.alloc (.cells d.enc.toArray 27)).alloc (.cells zeD 27)=W0 at *
 have hr0:=ai h0
 have IT:=h_ (eP.out W0 hbw)
 go_wp2_with (refine aj 27 (.tmp 3) rfl w.heap.size 0 rfl d.enc _ hr0 Tryz.underlying27 rfl ag (by rfl) ?_)
 refine IT.out.mono ?_
 rintro e w1 ⟨rfl,hb1⟩
 have hs1:=hb1.size
 have aM:=hbw.trans (hb1.mono (by omega))
 have r1:=(hb1.block w.heap.size (by omega)).trans h0
 have z1:=(hb1.block (w.heap.size+1) (by omega)).trans h1
 have R1:=h_ r1
 have Z1:=h_ z1
 have jV:=h_ aM
 clear eP IT hb1 hbw h0 h1 hr0 r1 z1
 rcases kC.out with⟨hp,hn⟩|⟨i,o,hp,hi,hn⟩
 · have wY:=h_ (C3.out hn)
   generalize posOf (iu id) d.eV=FI at *
   subst hp
   clear kC C3 pG dA zh aY bD hn
   have HE:=h_ (bh.out (6) wY.out (w1.setRow (w.heap.size+1) zeD) (Sm jV.out (by omega) _))
   have z9:=Sl w1 (w.heap.size+1) _ zeD 27 (0,0) Z1.out
   clear bh R1 aM wY
   go_wp2_with (refine Sj rfl 27 (.tmp 6) (.tmp 16) rfl (w.heap.size+1) zeD rfl rfl 27 _ Z1.out ag rfl aO ?_)
   generalize w1.setRow (w.heap.size+1) zeD=w9 at *
   exact aL Tryz.results29 rfl rfl z9 rfl HE.out
 · have HS:=h_ (pG.out o hn)
   generalize posOf (iu id) d.eV=FI at *
   subst hp
   have hi0:(0:Int)≤(i:Int):=by omega
   have hil:i<d.eV.length:=(Su.1 hi).1
   have hld:=Doc.later aY.out.1 aM
   obtain⟨b0,off,o',ha,hb0,hx2,hcx,hol⟩:=ah.at_ hld.2.1 hil
   rw [hi] at hx2
   obtain rfl:=Option.some.inj hx2
   have c6:w1.cell? ⟨w.heap.size,6,none⟩=some (.slice (some ⟨b0,off,none⟩) d.eV.length d.ec):=by rw [←ha];exact Sk _ _ 6 _ 27 (0,0) R1.out
   have hro:w1.rangeAt b0 (off+i*7) o.enc:=fun q v hv=>hcx q v hv
   have hle:d.eV.length≤4000000:=aY.out.2.1.2.2.2.2.2.2.2.2.1
   have hfo:o.fits:=aY.out.2.1.2.2.2.2.2.2.2.1 o (Sv hi)
   have HC:=h_ (dA.out o w1 hol hfo)
   have MX:=h_ hfo
   clear kC C3 pG dA hn hld hcx hol hfo ha hx2 aM
   go_wp2_with (refine aj 72 (.tmp 20) rfl b0 (off+i*7) rfl o.enc _ hro Tryz.underlying72 rfl aV (by rfl) ?_)
   refine HC.out.mono ?_
   rintro e w2 ⟨y,rfl,ff,hyl,hyu,rF,hyp,hb2⟩
   have hs2:=hb2.size
   have r2:=(hb2.block w.heap.size (by omega)).trans R1.out
   have z2:=(hb2.block (w.heap.size+1) (by omega)).trans Z1.out
   have hbw2:=jV.out.trans (hb2.mono (by omega))
   have hal:=Sq w2 (.cells zeE 72)
   clear HC hb2 R1 Z1 jV hro c6
   go_upto_region 5 with(refine Sj rfl 72 (.tmp 9) (.tmp 22) rfl (w2.heap.size) (y.enc.toArray) rfl rfl 72 _ hal aV rfl (mL _) ?_)
   have pW:=Sl (w2.alloc (.cells zeE 72)) w2.heap.size _ y.enc.toArray 72 (0,0) hal
   have hbW:Sr w2.heap.size w2 ((w2.alloc (.cells zeE 72)).setRow w2.heap.size y.enc.toArray):=Sm ((Sr.refl _ _).alloc (Ss _) _) (Ss _) _
   have Cl:w2.heap.size+1≤((w2.alloc (.cells zeE 72)).setRow w2.heap.size y.enc.toArray).heap.size:=by rw [size_setRow];simp
   generalize (w2.alloc (.cells zeE 72)).setRow w2.heap.size y.enc.toArray=W at *
   obtain⟨g,hg⟩:∃ g,g=w2.heap.size:=⟨_,rfl⟩
   rw [←hg] at pW Cl ⊢
   have hgg:w1.heap.size≤g:=by omega
   have mY:y.fits:=(Ev.fits_c y).1 (by rw [ff];exact(Ev.fits_c o).2 MX.out)
   have MY:=h_ (aY.out.2.2 g w1.heap.size y W (hbw2.trans (hbW.mono (by omega))) (by omega) hgg (Ev.keeps _ _ _ hbW hyl) (fun k h=>⟨hyu k h,by have:=Ev.uses_lt hyl h;omega⟩) (mY.2.2.2.2.2.2.2.1) mY pW (aI rF hbW) hyp)
   have rW:=(hbW.block w.heap.size (by omega)).trans r2
   have zW:=(hbW.block (w.heap.size+1) (by omega)).trans z2
   have bE:=h_ (hbw2.trans (hbW.mono (by omega)))
   rw [←ff] at HS
   clear hyl hyu rF hyp ff hal hbW hbw2 r2 z2 pW hg MX mY
   go_wp2_with fail
   refine MY.out.mono ?_
   rintro e w3 ⟨y2,rfl,hok,hb3⟩
   have hs3:=hb3.size
   have r3:=(hb3.block w.heap.size (by omega)).trans rW
   have z3:=(hb3.block (w.heap.size+1) (by omega)).trans zW
   have cR:=bE.out.trans (hb3.mono (show w.heap.size≤w1.heap.size by omega))
   have lJ:=h_ hok
   clear MY hb3 rW zW bE hok
   generalize f y.c=fy at *
   obtain⟨q,c2⟩:=fy
   simp only at HS lJ
   by_cases hq:q=0
   · subst hq
     obtain⟨hc2,hl2,hf2,hg2⟩:=lJ.out rfl
     have HS2:=h_ (HS.out.trans (if_neg (by intro h;exact h rfl)))
     have hr3:=ai r3
     have hrg:=ai hg2
     have HP:=h_ (zh.out y2 w3 cR hl2 hf2)
     have LH:=h_ cR
     rw [hc2] at HP
     generalize putC d.c c2=pq at *
     obtain⟨pe,pc⟩:=pq
     clear zh aY bh lJ HS r3 hl2 hf2 hg2 cR hc2 hcf
     go_wp2_with (first|(refine aj 27 (.tmp 3) rfl w.heap.size 0 rfl d.enc _ hr3 Tryz.underlying27 rfl ag (by rfl) ?_)|(refine aj 72 (.tmp 9) rfl g 0 rfl y2.enc _ hrg Tryz.underlying72 rfl aV (by rfl) ?_))
     refine HP.out.mono ?_
     rintro e w4 ⟨D,rfl,bq,hDl,bP,hb4⟩
     have hs4:=hb4.size
     have z4:=(hb4.block (w.heap.size+1) (by omega)).trans z3
     have bQ:=LH.out.trans (hb4.mono (by omega))
     simp only at bq
     have r9:=Sl w4 (w.heap.size+1) _ D.enc.toArray 27 (0,0) z4
     have HF:=h_ (bD.out (pe,pc) HS2.out 0 D (w4.setRow (w.heap.size+1) D.enc.toArray) ⟨bq,Doc.frame hDl (by rw [size_setRow];exact Ss _) (fun b hb=>aK _ _ _ _ (by have:=bP b hb;omega)),fun b hb=>by have:=bP b hb;omega,Sm bQ (by omega) _⟩)
     clear HP bq hDl bP hb4 bQ HS2 bD hr3 hrg z3
     go_wp2_with (refine Sj rfl 27 (.tmp 6) (.tmp 32) rfl (w.heap.size+1) (D.enc.toArray) rfl rfl 27 _ z4 ag rfl aO ?_)
     generalize w4.setRow (w.heap.size+1) D.enc.toArray=w9 at *
     clear z4
     go_wp2_with fail
     exact aL Tryz.results29 rfl rfl r9 rfl HF.out
   · have hne:(q != 0)=true:=by simpa using hq
     have HS2:=h_ (HS.out.trans (if_pos hq))
     have HE:=h_ (bh.out (q) HS2.out (w3.setRow (w.heap.size+1) zeD) (Sm cR (by omega) _))
     have z9:=Sl w3 (w.heap.size+1) _ zeD 27 (0,0) z3
     clear bh HS HS2 lJ zh aY bD cR hq hcf
     go_wp2_with (refine Sj rfl 27 (.tmp 6) (.tmp 27) rfl (w.heap.size+1) zeD rfl rfl 27 _ z3 ag rfl aO ?_)
     generalize w3.setRow (w.heap.size+1) zeD=w9 at *
     exact aL Tryz.results29 rfl rfl z9 rfl HE.out
end Go.Proofs.YtjebaagkomejaaaGreatDoor
