/- document.Remove: a document without an event. style.Slice: the characters of a row from one place up to another. style.Mark: characters of a row in another style. -/
import Derived.Test.YtjebaagkomejaaaGreatDoorK22
import Derived.Test.YtjebaagkomejaaaGreatDoorK21
set_option linter.unusedVariables false
set_option linter.unusedSimpArgs false
set_option maxRecDepth 100000
set_option maxHeartbeats 12800000
open Go.Lib renaming hid→h_
open List renaming setIfInBounds_toArray→YA,getElem_cons_zero→YB,getElem_cons_succ→YC,getElem_toArray→YD,set_cons_zero→YE,set_cons_succ→YF
open Array renaming toArray_toList→YG
open Go renaming cell_of_row→Sj,World→Sk,wpList_store_row→Sl,bodyPost_ret→Sm,setRow_heap→Sn,Calls→Sp,Value→Sq,heap_alloc_last→Sr
open Go.RowKit renaming Below→Ss
open Nat renaming le_refl→St,le_trans→Su
open Go.RowKit.Below renaming refl→Sv,heap_setCell→Sw
open List renaming length_map→Sx,getElem?_eq_some_iff→Sy,getElem?_eq_getElem→Sz
open Go.Value.slice renaming injEq→SA
open Go.World renaming frozen?→SB,ownsRow_nil→SC
open Go.Value renaming slice→SD,ownBlock→SF
open Go.IntKind renaming wrap_i64→SG,i64→SH
namespace Go.Proofs.YtjebaagkomejaaaGreatDoor
open Go.RowKit
theorem lj (d:Doc)(id:Int)(w:Sk)(hE:Env w)(hd:d.lies w)(hf:d.fits):Sp Tryz.prog 32 #[.agg d.enc.toArray,.int .i64 id] w (aS (br d.c id) w):=by
 have jb:=h_ (fun(w1:Sk) (h:Ss w.heap.size w w1)=>b_ d w1 (hE.below h (St _)) (Doc.later hd h) hf)
 have eP:=h_ (fun(w1:Sk) (h:Ss w.heap.size w w1)=>cW d id w1 (Doc.later hd h).2.1 hf.2.2.2.2.2.2.2.2.1)
 have dA:=h_ (fun(w1:Sk) (h:Ss w.heap.size w w1)=>bJ d w1 (Doc.later hd h) hf)
 have bh:=h_ (fun(q:Int) (hq:br d.c id=(q,aU)) (w':Sk) (h:Ss w.heap.size w w')=>(show aS (br d.c id) w (.returned (.tuple #[.agg zeD,.int .i64 q])) w' from hq▸aS.zero q h))
 have bD:=h_ (fun(h:a_ d≠0)=>(show br d.c id=(a_ d,aU) from by unfold br;rw [if_pos (fun q=>h ((bA d).trans q)),←bA]))
 have jF:=h_ (fun(h:a_ d=0) (h2:aT d.c.eV id=none)=>(show br d.c id=(6,aU) from by unfold br;rw [if_neg (fun q=>q ((bA d).symm.trans h)),h2];rfl))
 have jW:=h_ (fun(d':Doc) (k:Nat) (x:Ev) (h0:a_ d=0) (hc:d'.c=d.c) (hx:d.eV[k]? =some x) (hf:aT d.c.eV id=some x.c)=>BO (d:=d) (d':=d') (id:=id) (k:=k) (x:=x) h0 hc hx hf)
 have kC:=h_ (fU d id)
 have cT:=h_ (fun(d':Doc) (h:d'.c=d.c)=>bn h hf)
 have dp:=h_ (o_ w d.enc.toArray zeD)
 have hb2:∀ o1 o2:Obj,Ss w.heap.size w ((w.alloc o1).alloc o2):=fun o1 o2=>((Sv _ _).alloc (St _) _).alloc (by simp) _
 have hsz2:∀ o1 o2:Obj,((w.alloc o1).alloc o2).heap.size=w.heap.size+2:=fun o1 o2=>by simp
 have js:=h_ (rfl:br d.c id=br d.c id)
 generalize hR:br d.c id=R at bh bD jF jW js ⊢
 have O5:=h_ (rfl:aS R w=aS R w)
 generalize hQ:aS R w=Q at bh ⊢
 clear hd hf hE O5 js
 go_enter Tryz.func32,Tryz.ntmps32
 have hr0:=ai dp.out.1
 go_wp2_with (refine aj 27 (.tmp 2) rfl w.heap.size 0 rfl d.enc _ hr0 Tryz.underlying27 rfl ag (by rfl) ?_)
 refine(jb.out _ (hb2 _ _)).mono ?_
 rintro e w1 ⟨rfl,hb1⟩
 rw [hsz2] at hb1
 have aM:Ss w.heap.size w w1:=(hb2 _ _).trans (hb1.mono (by omega))
 have r1:=(hb1.block w.heap.size (by omega)).trans dp.out.1
 have z1:=(hb1.block (w.heap.size+1) (by omega)).trans dp.out.2
 have hs1:w.heap.size+2≤w1.heap.size:=by have:=hb1.size;rw [hsz2] at this;exact this
 clear hb1 hr0 jb dp hb2 hsz2
 have hr1:=ai r1
 have R1:=h_ r1
 have Z1:=h_ z1
 clear r1 z1
 by_cases h0:a_ d=0
 · rw [h0]
   clear bD
   go_wp2_with (refine aj 27 (.tmp 2) rfl w.heap.size 0 rfl d.enc _ hr1 Tryz.underlying27 rfl ag (by rfl) ?_)
   refine(eP.out w1 aM).mono ?_
   rintro e w2 ⟨rfl,hb2⟩
   have hbw2:Ss w.heap.size w w2:=aM.trans (hb2.mono aM.size)
   have r2:=(hb2.block w.heap.size (by omega)).trans R1.out
   have z2:=(hb2.block (w.heap.size+1) (by omega)).trans Z1.out
   have hs2:w.heap.size+2≤w2.heap.size:=by have:=hb2.size;omega
   clear hb2 hr1 R1 Z1 eP aM hs1
   have hr2:=ai r2
   have R2:=h_ r2
   have Z2:=h_ z2
   clear r2 z2
   rcases kC.out with⟨hp,hn⟩|⟨k,x,hp,hx,hx2⟩
   · rw [hp]
     have HE:=h_ (bh.out 6 (jF.out h0 hn) (w2.setRow (w.heap.size+1) zeD) (below_setRow hbw2 (by omega) _))
     have z3:=Sn w2 (w.heap.size+1) _ zeD 27 (0,0) Z2.out
     clear jF jW kC cT dA bh hr2 hp hn h0
     go_wp2_with (refine Sl rfl 27 (.tmp 4) (.tmp 21) rfl (w.heap.size+1) zeD rfl rfl 27 _ Z2.out ag rfl aO ?_)
     generalize w2.setRow (w.heap.size+1) zeD=w9 at *
     exact aL Tryz.results32 rfl rfl z3 rfl HE.out
   · rw [hp]
     have hk0:(0:Int)≤(k:Int):=by omega
     have hkd:k<d.eV.length:=(Sy.1 hx).1
     have nZ:=h_ (fun(d':Doc) (hc:d'.c=d.c)=>jW.out d' k x h0 hc hx hx2)
     clear jF jW kC bh hp hx hx2 h0
     go_wp2_with (refine aj 27 (.tmp 2) rfl w.heap.size 0 rfl d.enc _ hr2 Tryz.underlying27 rfl ag (by rfl) ?_)
     refine(dA.out w2 hbw2).mono ?_
     rintro e w4 ⟨d',rfl,hc',hl',hu',hb4,hap,hoe,hoc⟩
     have eo:=cT.out d' hc'
     have hlen:d'.eV.length=d.eV.length:=by
      have:d'.eV.map Ev.c=d.eV.map Ev.c:=congrArg DocC.eV hc'
      exact jh this
     have Iv:=h_ (nZ.out d' hc')
     have bQ:Ss w.heap.size w w4:=hbw2.trans (hb4.mono hbw2.size)
     have r4:=(hb4.block w.heap.size (by omega)).trans R2.out
     have z4:=(hb4.block (w.heap.size+1) (by omega)).trans Z2.out
     have hs4:w2.heap.size≤w4.heap.size:=hb4.size
     clear hr2 R2 Z2 dA hbw2 nZ cT hb4 hc'
     go_upto_region 8 with(refine Sl rfl 27 (.tmp 2) (.tmp 23) rfl w.heap.size d'.enc.toArray rfl rfl 27 _ r4 ag rfl aO ?_)
     have hk5:Kept (fun b=>b=w.heap.size) w4 (w4.setRow w.heap.size d'.enc.toArray):=bj w4 w.heap.size d'.enc.toArray
     have r5:=Sn w4 w.heap.size _ d'.enc.toArray 27 (0,0) r4
     generalize w4.setRow w.heap.size d'.enc.toArray=w5 at *
     have hs5:=hk5.size
     have hl5:d'.lies w5:=Doc.frame hl' hs5 fun b hb=>hk5.block b (Doc.uses_lt hl' hb) (by have:=hu' b hb;omega)
     have oe5:=aB hoe fun b q=>hk5.block b (hoe.lt b q).2 (by have:=(hoe.lt b q).1;omega)
     have oc5:=aB hoc fun b q=>hk5.block b (hoc.lt b q).2 (by have:=(hoc.lt b q).1;omega)
     have z5:=(hk5.block (w.heap.size+1) (by omega) (by omega)).trans z4
     have hb5:Ss w.heap.size w w5:=bQ.trans (hk5.below (by omega) fun k hk e=>by omega)
     have x_:k<d'.eV.length:=by omega
     have hle:d'.eV.length≤4000000:=eo.2.2.2.2.2.2.2.2.1
     have hlc:d'.cM.length≤4000000:=eo.2.2.2.2.2.2.2.2.2.2
     obtain⟨eb,cap,he⟩:=dD oe5 (by omega)
     have he1:d'.ea=some ⟨eb,0,none⟩∧d'.ec=cap:=by simp only [SA] at he;exact⟨he.1,he.2.2⟩
     rw [he] at oe5
     have Jl:=oe5.lt eb rfl
     have hcap:d'.eV.length≤cap:=by
      rcases oe5.2 with⟨h0,_⟩|⟨g',cap',cur,h0,_,_,hnc,_⟩
      · simp at h0
      · simp only [SA] at h0
        obtain⟨_,_,rfl⟩:=h0
        exact hnc
     have tN:=h_ (vt w2.heap.size eb cap k d'.eV w5 oe5 x_ hle)
     have c6:w5.cell? ⟨w.heap.size,6,none⟩=some (.slice (some ⟨eb,0,none⟩) d'.eV.length cap):=by
      rw [←he];exact Sj _ _ 6 _ 27 (0,0) r5
     have f6:∀ w':Sk,Kept (fun b=>b=eb) w5 w'→(∀ j,w'.frozen? ⟨w.heap.size,j,none⟩=false)∧w'.heap[w.heap.size]? =some (.cells d'.enc.toArray 27 (0,0)):=fun w' h=>by
      have hb:=(h.block w.heap.size (by omega) (by omega)).trans r5
      exact⟨fun j=>by simp [SB,hb],hb⟩
     have fP:=h_ (Ge d' k eb cap he1 x_)
     have fR:=h_ (Gd (id:=id) (k:=k) (eb:=eb) (cap:=cap) hl5 hu' hap he1 x_)
     have Bi:=h_ Iv.out
     have OC5:=h_ oc5
     have HU:=h_ hu'
     have oR:=h_ hap
     have Lw:=h_ eo.2.2.2.2.2.2.2.2.2.1
     have iG:=h_ hb5
     have Z5:=h_ z5
     have Ch:w.heap.size+2≤w5.heap.size:=by omega
     have wy:(d'.eV.length:Int)≤4000000:=by omega
     clear bQ r4 z4 hk5 hl5 oe5 oc5 z5 hb5 hoe hoc hap eo hl' hu' hs4 hs5 Iv hlen hkd r5 he
     go_wp2_with fail
     refine tN.out.mono ?_
     rintro e w6 ⟨rfl,yj,_,sN⟩
     have ⟨fz6,b6⟩:=f6 w6 sN
     have c6':∀ j,w6.cell? ⟨w.heap.size,j,none⟩=_:=fun j=>Sj _ _ j _ 27 (0,0) b6
     have Dq:=h_ yj
     have jn:=h_ sN
     have B6:=h_ b6
     clear tN f6 c6 yj sN b6
     go_upto_region 9 with fail
     have b7:=heap_setCell_same w6 w.heap.size 6 _ 27 (.slice (some ⟨eb,0,none⟩) (d'.eV.length-1) cap) B6.out
     rw [fP.out] at b7
     have ir:Kept (fun b=>b=w.heap.size) w6 (w6.setCell ⟨w.heap.size,6,none⟩ (.slice (some ⟨eb,0,none⟩) (d'.eV.length-1) cap)):=bG (Kept.refl _ _) 6 _
     generalize w6.setCell ⟨w.heap.size,6,none⟩ (.slice (some ⟨eb,0,none⟩) (d'.eV.length-1) cap)=w7 at *
     clear c6' fz6 fP B6
     have hs6:=jn.out.size
     have hs7:=ir.size
     have hnc:∀ b,bp d'.ca d'.cM b→b≠eb∧b≠w.heap.size:=fun b q=>by
      obtain⟨t,_,t2,_,t4⟩:=oR.out
      have h4:=t4 b q
      refine⟨fun e=>?_,by have:=HU.out b (.inr (.inr q));omega⟩
      have:=t2 eb ⟨fun e=>by rw [e] at x_;simp at x_,⟨eb,0,none⟩,he1.1,rfl⟩
      rw [e] at h4;omega
     have oc7:d'.cM≠[]→w7.ownsRow w2.heap.size 102 8 (.slice d'.ca d'.cM.length d'.cc) d'.cM.length (d'.cM.flatMap Cm.enc):=fun hc0=>by
      refine aB OC5.out fun b q=>?_
      have hu2:bp d'.ca d'.cM b:=⟨hc0,by
       cases oq:d'.ca with
       | none=>rw [oq] at q;simp [SF] at q
       | some ad=>rw [oq] at q;exact⟨ad,rfl,by simpa [SF] using q⟩⟩
      have hlt:=(OC5.out.lt b q).2
      exact(ir.block b (by omega) (hnc b hu2).2).trans (jn.out.block b hlt (hnc b hu2).1)
     have z7:=(ir.block (w.heap.size+1) (by omega) (by omega)).trans ((jn.out.block (w.heap.size+1) (by omega) (by omega)).trans Z5.out)
     have jr:Ss w.heap.size w w7:=(iG.out.trans (jn.out.below (by omega) fun b hb e=>by omega)).trans (ir.below (by omega) fun b hb e=>by omega)
     have tL:=h_ (fun b (hb:b<w.heap.size+2)=>(show ¬ bp d'.ca d'.cM b from fun q=>by have:=HU.out b (.inr (.inr q));omega))
     have HR1:=h_ (And.intro (dK.start (dQ id) d'.cM) (And.intro oc7 (Kept.refl (fun b=>bp d'.ca d'.cM b) w7)))
     have B7:=h_ b7
     have Z7:=h_ z7
     have BF:=h_ jr
     have DG:=h_ (fun w8 w9=>fR.out w6 w7 w8 w9 Dq.out jn.out w.heap.size (by omega) ir)
     have c7:w7.cell? ⟨w.heap.size,7,none⟩=some (.slice d'.ca d'.cM.length d'.cc):=Sj _ _ 7 _ 27 (0,0) b7
     have No:w.heap.size+2≤w7.heap.size:=by omega
     clear hnc oc7 b7 z7 jr ir fR Dq jn OC5 iG Z5 oR hs6 hs7 Ch wy x_ hle Jl hcap
     go_wp2_with fail
     go_loopw [34] (fun i wr=>∃ (k:Nat) (zs:List Cm),k≤d'.cM.length∧i=.int .i64 k∧dK (dQ id) d'.cM zs k∧(d'.cM≠[]→wr.ownsRow w2.heap.size 102 8 (.slice d'.ca d'.cM.length d'.cc) d'.cM.length (zs.flatMap Cm.enc))∧Kept (fun b=>bp d'.ca d'.cM b) w7 wr) (fun i _=>d'.cM.length-(intOf i).toNat)
     case atStart=>exact⟨0,d'.cM,by omega,rfl,HR1.out.1,HR1.out.2.1,HR1.out.2.2⟩
     case round =>
      clear HR1 c7
      obtain⟨j,zs,hj,rfl,hup,how,hkp⟩:=hrel
      have hs:=hkp.size
      have b8:=(hkp.block w.heap.size (by omega) (tL.out _ (by omega))).trans B7.out
      have c8:wr.cell? ⟨w.heap.size,7,none⟩=some (.slice d'.ca d'.cM.length d'.cc):=Sj _ _ 7 _ 27 (0,0) b8
      by_cases hlt:j<d'.cM.length
      · have hx:d'.cM[j]? =some d'.cM[j]:=Sz hlt
        generalize d'.cM[j]=y at hx
        replace how:=how (fun h=>by rw [h] at hlt;simp at hlt)
        obtain⟨cb,cp,he⟩:=dD how (by omega)
        have he2:d'.ca=some ⟨cb,0,none⟩:=by simp only [SA] at he;exact he.1
        have qu:=hup.at_ hx
        rw [he] at how c8
        have hlz:zs.length=d'.cM.length:=hup.1
        have hcs:∀ q v,y.enc[q]? =some v→q<8→wr.cell? ⟨cb,j*8+q,none⟩=some v:=fun q v hv hq8=>by
         rw [how.cellAt (j*8+q) (by omega)]
         exact cK Cm.enc 8 (fun _=>rfl) zs j y q _ qu hv
        have hcell:wr.cell? ⟨cb,j*8+1,none⟩=some (.int .i64 y.ev):=hcs 1 _ rfl (by decide)
        have hcell2:wr.cell? ⟨cb,j*8+2,none⟩=some (.int .i64 y.frm):=hcs 2 _ rfl (by decide)
        have KQ:wr.cell? ⟨cb,j*8+3,none⟩=some (.int .i64 y.til):=hcs 3 _ rfl (by decide)
        have KP:wr.cell? ⟨cb,j*8+7,none⟩=some (.bool y.lost):=hcs 7 _ rfl (by decide)
        clear hcs
        have hcp:d'.cM.length≤cp:=by
         rcases how.2 with⟨h0,_⟩|⟨g',cap',cur,h0,_,_,hnc,_⟩
         · simp at h0
         · simp only [SA] at h0
           obtain⟨_,_,rfl⟩:=h0
           exact hnc
        have fz:=fun j=>how.frozenAt (j:=j)
        have HN:=h_ (fun(hq:y.ev=id)=>D4 (id:=id) hup how hkp hx he2 hq)
        have HS:=h_ (fun(hq:¬ y.ev=id)=>dK.skip hup hx (uO hq))
        have HOW:=h_ how
        have tV:=h_ hkp
        rw [←he] at HN HOW
        clear b8 qu how hup hkp hx he he2
        by_cases hq:y.ev=id
        · have HE:=h_ (HN.out hq)
          have hq2:(y.ev==id)=true:=by simpa using hq
          clear HN HS HOW tV hq
          go_wp2_with fail
          go_roundw
          case rel=>exact⟨j+1,_,by omega,by go_num,HE.out.1,fun _=>HE.out.2.1,HE.out.2.2⟩
          case measure=>simp [intOf];omega
        · have HE:=h_ (HS.out hq)
          have hq2:(y.ev==id)=false:=by simpa using hq
          clear HN HS hq
          go_wp2_with fail
          go_roundw
          case rel=>exact⟨j+1,_,by omega,by go_num,HE.out,fun _=>HOW.out,tV.out⟩
          case measure=>simp [intOf];omega
      · obtain rfl:j=d'.cM.length:=by omega
        obtain rfl:=hup.all
        have nV:=ai b8
        have z8:=(hkp.block (w.heap.size+1) (by omega) (tL.out _ (by omega))).trans Z7.out
        generalize hD:({ d' with eV:=bI d'.eV k }:Doc)=D2 at *
        have r9:=Sn wr (w.heap.size+1) _ D2.enc.toArray 27 (0,0) z8
        have eX:Kept (fun b=>b=w.heap.size+1) wr (wr.setRow (w.heap.size+1) D2.enc.toArray):=bj _ _ _
        have kW:=h_ (DG.out wr (wr.setRow (w.heap.size+1) D2.enc.toArray) hkp (fun hc=>⟨_,how hc⟩) (w.heap.size+1) (by omega) eX)
        have kX:=h_ (show Ss w.heap.size w (wr.setRow (w.heap.size+1) D2.enc.toArray) from(BF.out.trans (hkp.below (by omega) fun b hb=>tL.out b (by omega))).trans (eX.below (by omega) fun b hb e=>by omega))
        clear DG BF hkp how eX B7 Z7 tL Lw c8 HU
        go_wp2_with (first|(refine aj 27 (.tmp 2) rfl w.heap.size 0 rfl D2.enc _ nV Tryz.underlying27 rfl ag (by rfl) ?_)|(refine Sl rfl 27 (.tmp 4) (.tmp 57) rfl (w.heap.size+1) D2.enc.toArray rfl rfl 27 _ z8 ag rfl aO ?_))
        generalize wr.setRow (w.heap.size+1) D2.enc.toArray=w9 at *
        have yQ:=h_ (show Q (.returned (.tuple #[.agg D2.enc.toArray,.int .i64 0])) w9 from by
         rw [←hQ,Bi.out]
         subst hD
         exact⟨({ d' with eV:=bI d'.eV k,cM:=d'.cM.map (dQ id) }:Doc),by simp [Doc.enc],rfl,kW.out.1,fun b hb=>Su (by omega) (kW.out.2 b hb),kX.out⟩)
        clear kW kX Bi hD
        exact aL Tryz.results32 rfl rfl r9 rfl yQ.out
 · have HE:=h_ (bh.out (a_ d) (bD.out h0) (w1.setRow (w.heap.size+1) zeD) (below_setRow aM (by omega) _))
   have hne:(a_ d != 0)=true:=by simpa using h0
   have z2:=Sn w1 (w.heap.size+1) _ zeD 27 (0,0) Z1.out
   generalize a_ d=DE at *
   clear bD jF jW kC cT eP dA bh hr1
   go_wp2_with (refine Sl rfl 27 (.tmp 4) (.tmp 14) rfl (w.heap.size+1) zeD rfl rfl 27 _ Z1.out ag rfl aO ?_)
   generalize w1.setRow (w.heap.size+1) zeD=w9 at *
   exact aL Tryz.results32 rfl rfl z2 rfl HE.out
theorem lO (r:Row)(i j:Int)(w:Sk)(hE:Env w)(hr:r.lies w)(hf:r.fits):Sp Tryz.prog 137 #[.agg r.enc.toArray,.int .i64 i,.int .i64 j] w (bY (bR r.runs i j) w):=by
 have lK:=h_ (fun(w1:Sk) (h:Ss w.heap.size w w1)=>eQ r w1 (hE.below h (St _)) (Row.keeps _ _ _ h hr) hf)
 have HR:=h_ (fun(w1:Sk) (h:Ss w.heap.size w w1)=>(show Runs w1 r.at_ r.runs from Row.keeps _ _ _ h hr))
 have jo:=h_ hf
 have hrl:-1≤rowLen r.runs∧rowLen r.runs≤4000000:=o7 hf
 have Jk:r.runs.length≤4000000:=hf.2.1
 have By:=h_ (show rowLen r.runs<0→bR r.runs i j=[] from fun h=>by unfold bR;rw [if_pos h])
 have Bh:=h_ (show ¬ rowLen r.runs<0→bR r.runs i j=cN (sliceAt (limA (rowLen r.runs) i) (limB (rowLen r.runs) i j) 0 r.runs) from fun h=>by unfold bR;rw [if_neg h])
 have HQ:=h_ (fun(R:List Run) (hR:R=bR r.runs i j) (y:Row) (B:Nat) (w':Sk) (h:y.runs=R) (hB:w.heap.size≤B) (ho:w'.ownsRow B 77 5 (.slice y.at_ y.runs.length y.cap) y.runs.length (y.runs.flatMap Run.enc)) (hb:Ss w.heap.size w w')=>(show bY (bR r.runs i j) w (.returned (.agg y.enc.toArray)) w' from⟨y,rfl,h.trans hR,kT ho hB,hb⟩))
 have i_:=h_ (fun(zs:List Run) (I J:Int) (he:sliceAt I J 0 r.runs=zs) (v:Sq) (B:Nat) (w1:Sk) (ho:w1.ownsRow B 77 5 v zs.length (zs.flatMap Run.enc))=>(show ∃ c:Option Addr × Nat,v=.slice c.1 zs.length c.2∧Sp Tryz.prog 190 #[.slice c.1 zs.length c.2] w1 (bY (cN zs) w1) from by
  obtain⟨a,c,he',hS⟩:=aA (k:=5) (enc:=Run.enc) (Ok:=Flat) (fun _=>rfl) ho (fun _ _=>trivial)
  refine⟨(a,c),he',pf a c zs w1 hS (by rw [←he,jJ];omega) ?_⟩
  have h1:=jI I J r.runs 0
  have h2:=hf.2.2
  rw [gZ r.runs] at h1
  rw [←he];omega))
 have hb2:∀ o1 o2:Obj,Ss w.heap.size w ((w.alloc o1).alloc o2):=fun o1 o2=>((Sv _ _).alloc (St _) _).alloc (by simp) _
 have hsz2:∀ o1 o2:Obj,w.heap.size+2≤((w.alloc o1).alloc o2).heap.size:=fun o1 o2=>by simp
 have dp:=h_ (D5 w #[.slice r.at_ r.runs.length r.cap] #[.slice none 0 0])
 obtain⟨j0,hj,hy0,hy1,hy2⟩:=info_parts Tryz.info77
 have JI:=h_ hj;have J0:=h_ hy0;have J1:=h_ hy1;have J2:=h_ hy2
 clear hj hy0 hy1 hy2
 generalize bY (bR r.runs i j) w=Q at *
 clear hr hf
 obtain⟨ra0,rc0,xs⟩:=r
 simp only at *
 show Sp Tryz.prog 137 #[.agg #[.slice ra0 xs.length rc0],.int .i64 i,.int .i64 j] w Q
 go_enter Tryz.func137,Tryz.ntmps137
 go_upto_region 1 with fail
 have h0:=dp.out.1
 have h1:=dp.out.2
 have hbw:=hb2 (.cells #[.slice ra0 xs.length rc0] 75) (.cells #[.slice none 0 0] 75)
 have hsz:=hsz2 (.cells #[.slice ra0 xs.length rc0] 75) (.cells #[.slice none 0 0] 75)
 clear dp hb2 hsz2
 generalize (w.alloc (.cells #[.slice ra0 xs.length rc0] 75)).alloc (.cells #[.slice none 0 0] 75)=W0 at *
 have c0:W0.cell? ⟨w.heap.size,0,none⟩=some (.slice ra0 xs.length rc0):=Sj _ _ 0 _ 75 (0,0) h0
 have II:=h_ (lK.out W0 hbw)
 have H0:=h_ h0
 have H1:=h_ h1
 have bE:=h_ hbw
 clear h0 h1 hbw
 generalize KW:rowLen xs=RL at *
 go_wp2_with fail
 refine II.out.mono ?_
 rintro e w1 ⟨rfl,hb1⟩
 have hs1:=hb1.size
 have aM:=bE.out.trans (hb1.mono (by omega))
 have g0:=(hb1.block w.heap.size (by omega)).trans H0.out
 have g1:=(hb1.block (w.heap.size+1) (by omega)).trans H1.out
 have G0:=h_ g0
 have G1:=h_ g1
 clear II hb1 bE H0 H1 c0 g1
 go_wp2_with fail
 refine(jM _ i j w1).mono ?_
 rintro e w_ ⟨rfl,bm⟩
 rw [bm]
 clear bm w_
 have Dy:=h_ (lK.out w1 aM)
 have g01:w1.cell? ⟨w.heap.size,0,none⟩=some (.slice ra0 xs.length rc0):=Sj _ _ 0 _ 75 (0,0) g0
 clear g0 lK
 have On:max RL 0=RL∨RL<0:=by omega
 generalize hI:limA (max RL 0) i=I at *
 generalize hJ:limB (max RL 0) i j=J at *
 go_wp2_with fail
 refine Dy.out.mono ?_
 rintro e w2 ⟨rfl,hb2⟩
 have hs2:=hb2.size
 have hbw2:=aM.trans (hb2.mono (by omega))
 have g0:=(hb2.block w.heap.size (by omega)).trans G0.out
 have g1:=(hb2.block (w.heap.size+1) (by omega)).trans G1.out
 clear Dy hb2 G0 G1 g01 aM
 by_cases hneg:RL<0
 · have c1:w2.cell? ⟨w.heap.size+1,0,none⟩=some (.slice none 0 0):=Sj _ _ 0 _ 75 (0,0) g1
   have f1:w2.frozen? ⟨w.heap.size+1,0,none⟩=false:=by simp [SB,g1]
   have HF:=h_ (HQ.out [] (By.out hneg).symm ⟨none,0,[]⟩ w.heap.size (w2.setCell ⟨w.heap.size+1,0,none⟩ (.slice none 0 0)) rfl (St _) (SC _ _ _ _) (hbw2.setCell (by simp) _))
   have r9:=heap_setCell_same w2 (w.heap.size+1) 0 _ 75 (.slice none 0 0) g1
   clear HQ i_ By Bh HR jo hbw2 g0 g1
   go_wp2_with fail
   generalize w2.setCell ⟨w.heap.size+1,0,none⟩ (.slice none 0 0)=w9 at *
   have fin4:∀ j,w9.cell? ⟨w.heap.size+1,j,none⟩=_:=fun j=>Sj _ _ j _ 75 (0,0) r9
   refine Sm (v:=.agg #[.slice none 0 0]) (by simp [results,Tryz.results137,go_sem,fin4]) rfl ?_
   exact HF.out
 · have hpos:0≤RL:=by omega
   have hmx:max RL 0=RL:=by omega
   rw [hmx] at hI hJ
   have HS2:=h_ (Bh.out (by omega))
   rw [hI,hJ] at HS2
   have Ot:0≤I∧I≤4000000:=by subst hI;simp only [limA];omega
   have Oq:0≤J∧J≤4000000:=by subst hJ;simp only [limB,limA];omega
   have yN:=h_ (show kr ⟨ra0,rc0,xs⟩ I J w 0 0 (.slice none 0 0) w2 from⟨[],by simp,rfl,by rw [List.drop_zero];rfl,by omega,by omega,SC _ _ _ _,g0,g1,hbw2⟩)
   have c2:w2.cell? ⟨w.heap.size,0,none⟩=some (.slice ra0 xs.length rc0):=Sj _ _ 0 _ 75 (0,0) g0
   have Ds:=h_ KW
   clear g0 g1 hbw2 By Bh hmx On hI hJ hneg KW
   go_wp2_with fail
   go_loopw [7,8,30] (fun v av kv wr=>∃ (k:Nat) (A:Int),k≤xs.length∧kv=.int .i64 k∧av=.int .i64 A∧kr ⟨ra0,rc0,xs⟩ I J w k A v wr) (fun _ _ kv _=>xs.length-(intOf kv).toNat)
   case atStart=>exact⟨0,0,by omega,rfl,rfl,yN.out⟩
   case round =>
    clear yN
    obtain⟨k,A,hk,rfl,rfl,hrel⟩:=hrel
    obtain⟨zs,e1,e2,e3,e4,e5,e6,e7,e8,e9⟩:=hrel
    simp only at e1 e3 e7
    by_cases hlt:k<xs.length
    · obtain⟨b,off,x,rfl,hbl,hx,hc,_⟩:=ah.at_ (HR.out wr e9) hlt
      have hfx:=jo.out.1 x (List.mem_of_getElem? hx)
      have h0:0≤lenB x.text:=by
       rcases Int.lt_or_le (lenB x.text) 0 with h|h
       · have hq:=e3
         rw [ck xs k x hx,cV,if_pos h,Ds.out] at hq
         omega
       · exact h
      have hll:=mR x.text
      have oO:=h_ (fun(w2 w3:Sk) (v':Sq) (cs:Array Sq) (hcs:cs.toList=(j2 I J A x).enc) (hb:Ss wr.heap.size wr w2) (hown:w3.ownsRow (w.heap.size+2) 77 5 v' (zs.length+1) (zs.flatMap Run.enc++cs.toList)) (hg:(w2.alloc (.cells cs 77)).grownBy w3 u7.ownBlock)=>kr.step (r:=⟨some ⟨b,off,none⟩,rc0,xs⟩) hx h0 hfx.1 hcs e1 e2 e3 e4 e5 e6 e7 e8 e9 hb hown hg)
      have HOW:=h_ e6
      have EZ:=e9
      have hsw:=e9.size
      have hzl:zs.length≤4000000:=by omega
      have l7:=aR e7
      have l8:=aR e8
      obtain⟨t,c,i,u,ru⟩:=x
      have d0:=hc 0 _ rfl;have d1:=hc 1 _ rfl;have d2:=hc 2 _ rfl;have d3:=hc 3 _ rfl;have d4:=hc 4 _ rfl
      simp only [Nat.add_zero,Run.enc] at d0 d1 d2 d3 d4 hfx h0 hll
      have F7:=h_ (fun(w1:Sk) (h:Ss w.heap.size w w1)=>sy t w1 hfx.1 (hE.below h (St _)))
      clear e1 e2 e3 e6 e7 e8 e9 hc hx
      go_upto_region 9 with fail
      have hbW:Ss wr.heap.size wr (wr.alloc (.cells #[.string t,.int .u8 c,.bool i,.bool u,.string ru] 77)):=(Sv _ _).alloc (St _) _
      have pW:=Sr wr (.cells #[.string t,.int .u8 c,.bool i,.bool u,.string ru] 77)
      have Cl:wr.heap.size+1≤(wr.alloc (.cells #[.string t,.int .u8 c,.bool i,.bool u,.string ru] 77)).heap.size:=by simp
      generalize wr.alloc (.cells #[.string t,.int .u8 c,.bool i,.bool u,.string ru] 77)=W at *
      obtain⟨gx,hgx⟩:∃ g,g=wr.heap.size:=⟨_,rfl⟩
      rw [←hgx] at pW ⊢
      have hg1:wr.heap.size≤gx:=by omega
      have x0:W.cell? ⟨gx,0,none⟩=some (.string t):=Sj _ _ 0 _ 77 (0,0) pW
      have IG:=h_ (F7.out W (EZ.trans (hbW.mono hsw)))
      have PW:=h_ pW
      have bE:=h_ hbW
      clear d0 d1 d2 d3 d4 hgx pW hbW F7
      have hL4:lenB t≤4000000:=by have:=hfx.1;simp only at this;omega
      generalize hL:lenB t=L at *
      go_wp2_with fail
      refine IG.out.mono ?_
      rintro e V ⟨rfl,hb1⟩
      have p1:=(hb1.block gx (aR PW.out)).trans PW.out
      have yW:=bE.out.trans (hb1.mono (by omega))
      have NG:=hb1.size
      have hw1:SH.wrap (I-A)=I-A:=by rw [SG];omega
      have hw2:SH.wrap (J-A)=J-A:=by rw [SG];omega
      have P1:=h_ p1
      have BE:=h_ yW
      clear x0 IG hb1 p1 yW PW bE
      go_wp2_with fail
      refine(jM L (I-A) (J-A) V).mono ?_
      rintro e w_ ⟨rfl,bm⟩
      rw [bm]
      clear bm w_ hw1 hw2
      have CV:=h_ (show j2 I J A ⟨t,c,i,u,ru⟩=⟨dO t (limA L (I-A)) (limB L (I-A) (J-A)),c,i,u,if limB L (I-A) (J-A)-limA L (I-A)<L then uN else ru⟩ from by rw [←hL];rfl)
      have hA1:0≤limA L (I-A)∧limA L (I-A)≤L:=by simp only [limA];omega
      have hB1:limA L (I-A)≤limB L (I-A) (J-A)∧limB L (I-A) (J-A)≤L:=by simp only [limB,limA];omega
      clear hL
      generalize limA L (I-A)=A1 at *
      generalize limB L (I-A) (J-A)=B1 at *
      have hw3:SH.wrap (B1-A1)=B1-A1:=by rw [SG];omega
      by_cases Kl:B1-A1<L
      · have tH:=h_ (fun(w2 w3:Sk) (v':Sq) (hb:Ss wr.heap.size wr w2)=>oO.out w2 w3 v' #[.string (dO t A1 B1),.int .u8 c,.bool i,.bool u,.string uN] (by rw [CV.out,if_pos Kl];rfl) hb)
        clear oO CV
        have v4:V.cell? ⟨gx,4,none⟩=some (.string ru):=Sj _ _ 4 _ 77 (0,0) P1.out
        have f4:V.frozen? ⟨gx,4,none⟩=false:=by simp [SB,P1.out]
        go_upto_region 13 with fail
        have pV0:=heap_setCell_same V gx 4 _ 77 (.string ⟨#[]⟩) P1.out
        simp only [YA,YE,YF] at pV0
        have Hk:Ss wr.heap.size wr (V.setCell ⟨gx,4,none⟩ (.string ⟨#[]⟩)):=BE.out.setCell (by simp;omega) _
        clear v4 f4 BE P1 hw3
        generalize V.setCell ⟨gx,4,none⟩ (.string ⟨#[]⟩)=V' at *
        obtain⟨V,hV⟩:∃ x,x=V':=⟨_,rfl⟩
        subst hV
        have pV:V.heap[gx]? =some (.cells #[.string t,.int .u8 c,.bool i,.bool u,.string uN] 77 (0,0)):=pV0
        have yW:=Hk
        clear pV0 Hk
        have Ji:=yW.size
        have v0:V.cell? ⟨gx,0,none⟩=some (.string t):=Sj _ _ 0 _ 77 (0,0) pV
        have hbv:Ss w.heap.size w V:=EZ.trans (yW.mono hsw)
        have Bu:=h_ (kp t A1 B1 V hfx.1 (hE.below hbv (St _)))
        have PV:=h_ pV
        have BE:=h_ yW
        clear pV yW hbv
        go_wp2_with fail
        refine Bu.out.mono ?_
        rintro e V1 ⟨rfl,hb1⟩
        have hs1:=hb1.size
        have p1:=(hb1.block gx (aR PV.out)).trans PV.out
        have AE:=BE.out.trans (hb1.mono Ji)
        have fz:V1.frozen? ⟨gx,0,none⟩=false:=by simp [SB,p1]
        have v10:V1.cell? ⟨gx,0,none⟩=some (.string t):=Sj _ _ 0 _ 77 (0,0) p1
        have p2:=heap_setCell_same V1 gx 0 _ 77 (.string (dO t A1 B1)) p1
        simp only [YA,YE] at p2
        have hb2:Ss wr.heap.size wr (V1.setCell ⟨gx,0,none⟩ (.string (dO t A1 B1))):=AE.setCell (by simp;omega) _
        clear v0 Bu hb1 AE BE PV p1
        generalize dO t A1 B1=T at *
        go_upto_region 14 with fail
        generalize V1.setCell ⟨gx,0,none⟩ (.string T)=V2 at *
        have hs2:=hb2.size
        have y0:V2.cell? ⟨gx,0,none⟩=some (.string T):=Sj _ _ 0 _ 77 (0,0) p2
        have y1:V2.cell? ⟨gx,1,none⟩=some (.int .u8 c):=Sj _ _ 1 _ 77 (0,0) p2
        have y2:V2.cell? ⟨gx,2,none⟩=some (.bool i):=Sj _ _ 2 _ 77 (0,0) p2
        have y3:V2.cell? ⟨gx,3,none⟩=some (.bool u):=Sj _ _ 3 _ 77 (0,0) p2
        have y4:V2.cell? ⟨gx,4,none⟩=some (.string uN):=Sj _ _ 4 _ 77 (0,0) p2
        have HOWN:=h_ (aI HOW.out hb2)
        have lM:=h_ (fun(v':Sq) (w3:Sk)=>tH.out V2 w3 v' hb2)
        clear v10 fz p2 hb2 tH HOW
        go_wp2_with (at_builtin;refine aX _ _ rfl (.tmp 60) (.tmp 62) 73 rfl (w.heap.size+2) 77 j0 _ 5 40 Tryz.underlying73 JI.out J0.out J1.out J2.out rfl (by decide) _ _ _ rfl HOWN.out _ rfl rfl rfl ?h1 ?h63 ?hb ?hbase ?_)
        case h1=>exact⟨rfl,rfl,rfl,rfl,rfl⟩
        case h63=>unfold maxLen;omega
        case hb=>omega
        case hbase=>omega
        intro v' w3 hown' hgrow
        have R:=lM.out v' w3 hown' hgrow
        have J6:SH.wrap (A+L)=A+L:=by rw [SG];omega
        clear hown' hgrow lM HOWN y0 y1 y2 y3 y4
        go_wp2_with fail
        go_roundw
        case rel=>exact⟨k+1,A+L,by omega,by go_num,(by first|rfl|rw [J6]),R⟩
        case measure=>simp [intOf];omega
      · have NI:L≤B1-A1:=by omega
        have tH:=h_ (fun(w2 w3:Sk) (v':Sq) (hb:Ss wr.heap.size wr w2)=>oO.out w2 w3 v' #[.string (dO t A1 B1),.int .u8 c,.bool i,.bool u,.string ru] (by rw [CV.out,if_neg Kl];rfl) hb)
        clear oO CV Kl
        have pV:=P1.out
        have yW:=BE.out
        clear P1 BE
        go_upto_region 13 with fail
        have Ji:=yW.size
        have v0:V.cell? ⟨gx,0,none⟩=some (.string t):=Sj _ _ 0 _ 77 (0,0) pV
        have hbv:Ss w.heap.size w V:=EZ.trans (yW.mono hsw)
        have Bu:=h_ (kp t A1 B1 V hfx.1 (hE.below hbv (St _)))
        have PV:=h_ pV
        have BE:=h_ yW
        clear pV yW hbv
        go_wp2_with fail
        refine Bu.out.mono ?_
        rintro e V1 ⟨rfl,hb1⟩
        have hs1:=hb1.size
        have p1:=(hb1.block gx (aR PV.out)).trans PV.out
        have AE:=BE.out.trans (hb1.mono Ji)
        have fz:V1.frozen? ⟨gx,0,none⟩=false:=by simp [SB,p1]
        have v10:V1.cell? ⟨gx,0,none⟩=some (.string t):=Sj _ _ 0 _ 77 (0,0) p1
        have p2:=heap_setCell_same V1 gx 0 _ 77 (.string (dO t A1 B1)) p1
        simp only [YA,YE] at p2
        have hb2:Ss wr.heap.size wr (V1.setCell ⟨gx,0,none⟩ (.string (dO t A1 B1))):=AE.setCell (by simp;omega) _
        clear v0 Bu hb1 AE BE PV p1
        generalize dO t A1 B1=T at *
        go_upto_region 14 with fail
        generalize V1.setCell ⟨gx,0,none⟩ (.string T)=V2 at *
        have hs2:=hb2.size
        have y0:V2.cell? ⟨gx,0,none⟩=some (.string T):=Sj _ _ 0 _ 77 (0,0) p2
        have y1:V2.cell? ⟨gx,1,none⟩=some (.int .u8 c):=Sj _ _ 1 _ 77 (0,0) p2
        have y2:V2.cell? ⟨gx,2,none⟩=some (.bool i):=Sj _ _ 2 _ 77 (0,0) p2
        have y3:V2.cell? ⟨gx,3,none⟩=some (.bool u):=Sj _ _ 3 _ 77 (0,0) p2
        have y4:V2.cell? ⟨gx,4,none⟩=some (.string ru):=Sj _ _ 4 _ 77 (0,0) p2
        have HOWN:=h_ (aI HOW.out hb2)
        have lM:=h_ (fun(v':Sq) (w3:Sk)=>tH.out V2 w3 v' hb2)
        clear v10 fz p2 hb2 tH HOW
        go_wp2_with (at_builtin;refine aX _ _ rfl (.tmp 60) (.tmp 62) 73 rfl (w.heap.size+2) 77 j0 _ 5 40 Tryz.underlying73 JI.out J0.out J1.out J2.out rfl (by decide) _ _ _ rfl HOWN.out _ rfl rfl rfl ?h1 ?h63 ?hb ?hbase ?_)
        case h1=>exact⟨rfl,rfl,rfl,rfl,rfl⟩
        case h63=>unfold maxLen;omega
        case hb=>omega
        case hbase=>omega
        intro v' w3 hown' hgrow
        have R:=lM.out v' w3 hown' hgrow
        have J6:SH.wrap (A+L)=A+L:=by rw [SG];omega
        clear hown' hgrow lM HOWN y0 y1 y2 y3 y4
        go_wp2_with fail
        go_roundw
        case rel=>exact⟨k+1,A+L,by omega,by go_num,(by first|rfl|rw [J6]),R⟩
        case measure=>simp [intOf];omega
    · obtain rfl:k=xs.length:=by omega
      rw [List.drop_length,sliceAt,List.append_nil] at e1
      obtain⟨⟨va,vc⟩,hv,hnn⟩:=i_.out zs I J e1 _ _ wr e6
      subst hv
      have zi:=h_ hnn
      have HZ:=h_ (show cN zs=bR xs i j from by rw [HS2.out,e1])
      have G1:=h_ e8
      have hbe:=e9
      have hse:=e9.size
      have l8:=aR e8
      simp only at zi
      clear hnn e1 e2 e3 e4 e5 e6 e7 e8 e9 i_ HS2 Ds c2 HR jo
      go_wp2_with fail
      refine zi.out.mono ?_
      rintro e w3 ⟨⟨ra,rc,rr⟩,rfl,hr3,hor,hb3⟩
      have z3:=(hb3.block (w.heap.size+1) (by omega)).trans G1.out
      have cR:=hbe.trans (hb3.mono hse)
      have f3:w3.frozen? ⟨w.heap.size+1,0,none⟩=false:=by simp [SB,z3]
      have c3:w3.cell? ⟨w.heap.size+1,0,none⟩=some (.slice none 0 0):=Sj _ _ 0 _ 75 (0,0) z3
      have r9:=heap_setCell_same w3 (w.heap.size+1) 0 _ 75 (.slice ra rr.length rc) z3
      simp only at hr3 hor
      have Av:=aB (w':=w3.setCell ⟨w.heap.size+1,0,none⟩ (.slice ra rr.length rc)) hor fun b e=>Sw _ _ _ _ (by have:=(hor.lt b e).1;simp;omega)
      have HF:=h_ (HQ.out (cN zs) HZ.out ⟨ra,rc,rr⟩ _ (w3.setCell ⟨w.heap.size+1,0,none⟩ (.slice ra rr.length rc)) hr3 (by omega) Av (cR.setCell (by simp) _))
      clear hr3 hor Av hb3 cR hbe z3 zi HQ HZ G1
      simp only [Row.enc] at *
      go_wp2_with fail
      generalize w3.setCell ⟨w.heap.size+1,0,none⟩ (.slice ra rr.length rc)=w9 at *
      have fin4:∀ j,w9.cell? ⟨w.heap.size+1,j,none⟩=_:=fun j=>Sj _ _ j _ 75 (0,0) r9
      refine Sm (v:=.agg #[.slice ra rr.length rc]) (by simp [results,Tryz.results137,go_sem,fin4]) rfl ?_
      exact HF.out
theorem xL (r:Row)(i j c:Int)(it un:Bool)(w:Sk)(hE:Env w)(hr:r.lies w)(hf:r.fits):Sp Tryz.prog 89 #[.agg r.enc.toArray,.int .i64 i,.int .i64 j,.agg #[.int .u8 c,.bool it,.bool un]] w (bY (gw r.runs i j c it un) w):=by
 have lK:=h_ (fun(w1:Sk) (h:Ss w.heap.size w w1)=>eQ r w1 (hE.below h (St _)) (Row.keeps _ _ _ h hr) hf)
 have CU:=h_ (fun(i j:Int) (w1:Sk) (h:Ss w.heap.size w w1)=>lO r i j w1 (hE.below h (St _)) (Row.keeps _ _ _ h hr) hf)
 have hrl:-1≤rowLen r.runs∧rowLen r.runs≤4000000:=o7 hf
 have Jk:r.runs.length≤4000000:=hf.2.1
 have htx:az r.runs≤4000000:=by rw [gZ];exact hf.2.2
 have IC:=h_ (show rowLen r.runs<0→gw r.runs i j c it un=[] from fun h=>by unfold gw;rw [if_pos h])
 have Dx:=h_ (show ¬ rowLen r.runs<0→gw r.runs i j c it un=cZ (cZ (bR r.runs 0 (limA (rowLen r.runs) i)) ((bR r.runs (limA (rowLen r.runs) i) (limB (rowLen r.runs) i j)).map (ew c it un))) (bR r.runs (limB (rowLen r.runs) i j) (rowLen r.runs)) from fun h=>by unfold gw;rw [if_neg h];rfl)
 have HQ:=h_ (fun(y:Row) (B:Nat) (w':Sk) (h:y.runs=gw r.runs i j c it un) (hB:w.heap.size≤B) (ho:w'.ownsRow B 77 5 (.slice y.at_ y.runs.length y.cap) y.runs.length (y.runs.flatMap Run.enc)) (hb:Ss w.heap.size w w')=>(show bY (gw r.runs i j c it un) w (.returned (.agg y.enc.toArray)) w' from⟨y,rfl,h,kT ho hB,hb⟩))
 have dp:=h_ (box3 w #[.slice r.at_ r.runs.length r.cap] #[.int .u8 c,.bool it,.bool un] #[.slice none 0 0] 75 34 75)
 have hb3:∀ o1 o2 o3:Obj,Ss w.heap.size w (((w.alloc o1).alloc o2).alloc o3):=fun o1 o2 o3=>(((Sv _ _).alloc (St _) _).alloc (by simp) _).alloc (by simp;try omega) _
 have dv:∀ o1 o2 o3:Obj,w.heap.size+3≤(((w.alloc o1).alloc o2).alloc o3).heap.size:=fun o1 o2 o3=>by simp
 generalize bY (gw r.runs i j c it un) w=Q at *
 clear hr hf
 obtain⟨ra0,rc0,xs⟩:=r
 simp only at *
 show Sp Tryz.prog 89 #[.agg #[.slice ra0 xs.length rc0],.int .i64 i,.int .i64 j,.agg #[.int .u8 c,.bool it,.bool un]] w Q
 go_enter Tryz.func89,Tryz.ntmps89
 go_upto_region 1 with fail
 have h0:=dp.out.1
 have h1:=dp.out.2.1
 have h2:=dp.out.2.2
 have hbw:=hb3 (.cells #[.slice ra0 xs.length rc0] 75) (.cells #[.int .u8 c,.bool it,.bool un] 34) (.cells #[.slice none 0 0] 75)
 have hsz:=dv (.cells #[.slice ra0 xs.length rc0] 75) (.cells #[.int .u8 c,.bool it,.bool un] 34) (.cells #[.slice none 0 0] 75)
 clear dp hb3 dv
 generalize ((w.alloc (.cells #[.slice ra0 xs.length rc0] 75)).alloc (.cells #[.int .u8 c,.bool it,.bool un] 34)).alloc (.cells #[.slice none 0 0] 75)=W0 at *
 have c0:W0.cell? ⟨w.heap.size,0,none⟩=some (.slice ra0 xs.length rc0):=Sj _ _ 0 _ 75 (0,0) h0
 have II:=h_ (lK.out W0 hbw)
 have H0:=h_ h0
 have H1:=h_ h1
 have H2:=h_ h2
 have bE:=h_ hbw
 clear h0 h1 h2 hbw lK
 generalize KW:rowLen xs=RL at *
 go_wp2_with fail
 refine II.out.mono ?_
 rintro e w1 ⟨rfl,hb1⟩
 have hs1:=hb1.size
 have aM:=bE.out.trans (hb1.mono (by omega))
 have g0:=(hb1.block w.heap.size (by omega)).trans H0.out
 have g1:=(hb1.block (w.heap.size+1) (by omega)).trans H1.out
 have g2:=(hb1.block (w.heap.size+1+1) (by omega)).trans H2.out
 clear II hb1 bE H0 H1 H2 c0
 by_cases hneg:RL<0
 · have c1:w1.cell? ⟨w.heap.size+1+1,0,none⟩=some (.slice none 0 0):=Sj _ _ 0 _ 75 (0,0) g2
   have f1:w1.frozen? ⟨w.heap.size+1+1,0,none⟩=false:=by simp [SB,g2]
   have HF:=h_ (HQ.out ⟨none,0,[]⟩ w.heap.size (w1.setCell ⟨w.heap.size+1+1,0,none⟩ (.slice none 0 0)) (IC.out hneg).symm (St _) (SC _ _ _ _) (aM.setCell (by simp;omega) _))
   have r9:=heap_setCell_same w1 (w.heap.size+1+1) 0 _ 75 (.slice none 0 0) g2
   clear HQ IC Dx CU aM g0 g1 g2
   go_wp2_with fail
   generalize w1.setCell ⟨w.heap.size+1+1,0,none⟩ (.slice none 0 0)=w9 at *
   have fin4:∀ j,w9.cell? ⟨w.heap.size+1+1,j,none⟩=_:=fun j=>Sj _ _ j _ 75 (0,0) r9
   refine Sm (v:=.agg #[.slice none 0 0]) (by simp [results,Tryz.results89,go_sem,fin4]) rfl ?_
   exact HF.out
 · have hpos:0≤RL:=by omega
   have FC:=h_ (Dx.out (by omega))
   have G0:=h_ g0
   have G1:=h_ g1
   have G2:=h_ g2
   have jV:=h_ aM
   clear IC Dx g0 g1 g2 aM hneg
   go_wp2_with fail
   refine(jM RL i j w1).mono ?_
   rintro e w_ ⟨rfl,bm⟩
   rw [bm]
   clear bm w_
   have Ot:0≤limA RL i∧limA RL i≤RL:=by simp only [limA];omega
   have Oq:limA RL i≤limB RL i j∧limB RL i j≤RL:=by simp only [limB,limA];omega
   have Bh:=h_ (CU.out (limA RL i) (limB RL i j) w1 jV.out)
   generalize limA RL i=I at *
   generalize limB RL i j=J at *
   have c1:w1.cell? ⟨w.heap.size,0,none⟩=some (.slice ra0 xs.length rc0):=Sj _ _ 0 _ 75 (0,0) G0.out
   go_wp2_with fail
   refine Bh.out.mono ?_
   rintro e w2 ⟨⟨ma,mc,ms⟩,rfl,hms,hmo,hb2⟩
   simp only at hms hmo
   have Jy:=h_ hms
   have NT:ms.length≤4000000:=by rw [hms];exact Su (jf _ _ _) Jk
   clear Bh c1 hms
   have hs2:=hb2.size
   have hbw2:=jV.out.trans (hb2.mono (by omega))
   have g0:=(hb2.block w.heap.size (by omega)).trans G0.out
   have g1:=(hb2.block (w.heap.size+1) (by omega)).trans G1.out
   have g2:=(hb2.block (w.heap.size+1+1) (by omega)).trans G2.out
   clear G0 G1 G2 jV hb2
   simp only [Row.enc]
   go_upto_region 6 with fail
   have fW:Ss w2.heap.size w2 (w2.alloc (.cells #[.slice ma ms.length mc] 75)):=(Sv _ _).alloc (St _) _
   have hA:=Sr w2 (.cells #[.slice ma ms.length mc] 75)
   have hlA:w2.heap.size<(w2.alloc (.cells #[.slice ma ms.length mc] 75)).heap.size:=by simp
   generalize w2.alloc (.cells #[.slice ma ms.length mc] 75)=W at *
   obtain⟨gm,hgm⟩:∃ g,g=w2.heap.size:=⟨_,rfl⟩
   rw [←hgm] at hA hlA ⊢
   have N6:w2.heap.size≤gm:=by omega
   clear hgm
   have Cl:=fW.size
   have c0:W.cell? ⟨gm,0,none⟩=some (.slice ma ms.length mc):=Sj _ _ 0 _ 75 (0,0) hA
   have MO:=h_ (aI hmo fW)
   have FB:=h_ (fun b (e:(SD ma ms.length mc).ownBlock=some b)=>(show w1.heap.size≤b∧b<w2.heap.size from hmo.lt b e))
   have p0:=(fW.block w.heap.size (by omega)).trans g0
   have p1:=(fW.block (w.heap.size+1) (by omega)).trans g1
   have p2:=(fW.block (w.heap.size+1+1) (by omega)).trans g2
   have ot:=hbw2.trans (fW.mono (by omega))
   have P0:=h_ p0
   have P1:=h_ p1
   have P2:=h_ p2
   have PM:=h_ hA
   have bE:=h_ ot
   clear g0 g1 g2 hbw2 fW hA p0 p1 p2 ot hmo
   go_wp2_with fail
   go_loopw [31] (fun kv wr=>∃ (k:Nat) (zs:List Run),k≤ms.length∧kv=.int .i64 k∧dK (ew c it un) ms zs k∧wr.ownsRow w1.heap.size 77 5 (.slice ma ms.length mc) ms.length (zs.flatMap Run.enc)∧Kept (fun b=>(SD ma ms.length mc).ownBlock=some b) W wr) (fun kv _=>ms.length-(intOf kv).toNat)
   case atStart=>exact⟨0,ms,by omega,rfl,dK.start _ _,MO.out,Kept.refl _ _⟩
   case round =>
    clear MO c0
    obtain⟨k,zs,hk,rfl,hup,how,hkp⟩:=hrel
    have hsk:=hkp.size
    have hnb:∀ b,b<w1.heap.size→¬ (SD ma ms.length mc).ownBlock=some b:=fun b hb e=>by have:=FB.out b e;omega
    have cm:wr.cell? ⟨gm,0,none⟩=some (.slice ma ms.length mc):=Sj _ _ 0 _ 75 (0,0) ((hkp.block gm (by omega) (fun e=>by have:=FB.out gm e;omega)).trans PM.out)
    by_cases hlt:k<ms.length
    · have q1:=(hkp.block (w.heap.size+1) (by omega) (hnb _ (by omega))).trans P1.out
      have e0:wr.cell? ⟨w.heap.size+1,0,none⟩=some (.int .u8 c):=Sj _ _ 0 _ 34 (0,0) q1
      have e1:wr.cell? ⟨w.heap.size+1,1,none⟩=some (.bool it):=Sj _ _ 1 _ 34 (0,0) q1
      have e2:wr.cell? ⟨w.heap.size+1,2,none⟩=some (.bool un):=Sj _ _ 2 _ 34 (0,0) q1
      obtain⟨gb,cp,he⟩:=dD how (by omega)
      simp only [SA,true_and] at he
      obtain⟨rfl,rfl⟩:=he
      have hx:ms[k]? =some ms[k]:=Sz hlt
      generalize ms[k]=x at hx
      have qu:=hup.at_ hx
      have hgb:=how.lt gb rfl
      have ff:∀ j v,x.enc[j]? =some v→wr.cell? ⟨gb,k*5+j,none⟩=some v:=fun j v hv=>by
       have hj:j<5:=(Sy.1 hv).1
       rw [how.cellAt (k*5+j) (by omega)]
       exact cK Run.enc 5 (fun _=>rfl) zs k x j _ qu hv
      have z1:=ff 1 _ rfl;have z2:=ff 2 _ rfl;have z3:=ff 3 _ rfl
      have fz:∀ j,wr.frozen? ⟨gb,j,none⟩=false:=fun j=>how.frozenAt j
      have R:=h_ (show ∃ zs',dK (ew c it un) ms zs' (k+1)∧(((wr.setCell ⟨gb,k*5+1,none⟩ (.int .u8 c)).setCell ⟨gb,k*5+2,none⟩ (.bool it)).setCell ⟨gb,k*5+3,none⟩ (.bool un)).ownsRow w1.heap.size 77 5 (.slice (some ⟨gb,0,none⟩) ms.length mc) ms.length (zs'.flatMap Run.enc)∧Kept (fun b=>(SD (some ⟨gb,0,none⟩) ms.length mc).ownBlock=some b) W (((wr.setCell ⟨gb,k*5+1,none⟩ (.int .u8 c)).setCell ⟨gb,k*5+2,none⟩ (.bool it)).setCell ⟨gb,k*5+3,none⟩ (.bool un)) from
       ⟨_,hup.step hx,zS c it un how qu,((hkp.setCell (p:=⟨gb,k*5+1,none⟩) (.inr rfl) _).setCell (p:=⟨gb,k*5+2,none⟩) (.inr rfl) _).setCell (p:=⟨gb,k*5+3,none⟩) (.inr rfl) _⟩)
      clear hup how hkp ff hx qu q1
      go_wp2_with fail
      obtain⟨zs',q1,q2,q3⟩:=R.out
      exact⟨⟨k+1,zs',by omega,by go_num,q1,q2,q3⟩,by simp [intOf];omega⟩
    · obtain rfl:k=ms.length:=by omega
      obtain rfl:=hup.all
      have MP:=h_ (fun(v:Sk) (h:Ss wr.heap.size wr v)=>(show Runs v ma (ms.map (ew c it un)) from by
       have h2:=aI how h
       obtain⟨a',c',he,hS⟩:=aA (k:=5) (enc:=Run.enc) (Ok:=Flat) (xs:=ms.map (ew c it un)) (fun _=>rfl) (by rw [Sx];exact h2) (fun _ _=>trivial)
       simp only [SA] at he
       obtain⟨rfl,_,_⟩:=he
       exact hS))
      have r0:=(hkp.block w.heap.size (by omega) (hnb _ (by omega))).trans P0.out
      have r2:=(hkp.block (w.heap.size+1+1) (by omega) (hnb _ (by omega))).trans P2.out
      have pJ:=h_ (bE.out.trans (hkp.below (by omega) fun b hb=>hnb b (by omega)))
      have hse:=pJ.out.size
      have c0:wr.cell? ⟨w.heap.size,0,none⟩=some (.slice ra0 xs.length rc0):=Sj _ _ 0 _ 75 (0,0) r0
      have Z3:=h_ r2
      have Fw:=h_ (fun(p q:Int) (v:Sk) (h:Ss wr.heap.size wr v)=>(show Sp Tryz.prog 137 #[.agg #[.slice ra0 xs.length rc0],.int .i64 p,.int .i64 q] v (bY (bR xs p q) v) from CU.out p q v (pJ.out.trans (h.mono hse))))
      have O9:=h_ (fun(ya:Option Addr) (yc:Nat) (ys:List Run) (v:Sk) (h:Ss wr.heap.size wr v) (hl:Runs v ya ys) (hr:ys=bR xs 0 I)=>(show Sp Tryz.prog 138 #[.agg #[.slice ya ys.length yc],.agg #[.slice ma ms.length mc]] v (bY (cZ ys (ms.map (ew c it un))) v) from by
       have q1:=jf xs 0 I
       have q2:=gJ xs 0 I
       have q3:=gJ xs I J
       have:=kn ⟨ya,yc,ys⟩ ⟨ma,mc,ms.map (ew c it un)⟩ v hl (MP.out v h) (by show ys.length≤_;rw [hr];omega) (by show(ms.map _).length≤_;rw [Sx];omega) (by show az ys+az (ms.map _)≤_;rw [ik,hr,Jy.out];omega)
       simp only [Row.enc,Sx] at this
       exact this))
      have FM:=h_ (fun(ya:Option Addr) (yc:Nat) (ys:List Run) (za:Option Addr) (zc:Nat) (zs:List Run) (v:Sk) (h:Ss wr.heap.size wr v) (hl:Runs v ya ys) (hl2:Runs v za zs) (hr:ys=cZ (bR xs 0 I) (ms.map (ew c it un))) (hz:zs=bR xs J RL)=>(show Sp Tryz.prog 138 #[.agg #[.slice ya ys.length yc],.agg #[.slice za zs.length zc]] v (bY (cZ ys zs) v) from by
       have q1:=jf xs 0 I
       have q2:=gJ xs 0 I
       have q3:=gJ xs I J
       have q4:=jf xs J RL
       have q5:=gJ xs J RL
       have q6:=vv (bR xs 0 I) (ms.map (ew c it un))
       have q7:=jT (bR xs 0 I) (ms.map (ew c it un))
       rw [Sx] at q6
       rw [ik,Jy.out] at q7
       exact kn ⟨ya,yc,ys⟩ ⟨za,zc,zs⟩ v hl hl2 (by show ys.length≤_;rw [hr];omega) (by show zs.length≤_;rw [hz];omega) (by show az ys+az zs≤_;rw [hz,hr,Jy.out,q7];omega)))
      have gW:=h_ (fun(v:Sk) (h:Ss wr.heap.size wr v)=>(show Kept (fun b=>b=w.heap.size+1+1) wr v from Kept.of_below h))
      have gY:=h_ (fun(v:Sk) (h:Kept (fun b=>b=w.heap.size+1+1) wr v)=>(show v.cell? ⟨w.heap.size,0,none⟩=some (.slice ra0 xs.length rc0)∧v.cell? ⟨gm,0,none⟩=some (.slice ma ms.length mc) from
       ⟨Sj _ _ 0 _ 75 (0,0) ((h.block w.heap.size (by omega) (by omega)).trans r0),Sj _ _ 0 _ 75 (0,0) ((h.block gm (by omega) (by omega)).trans ((hkp.block gm (by omega) (fun e=>by have:=FB.out gm e;omega)).trans PM.out))⟩))
      clear how hkp hnb r0 r2 hup CU P0 P1 P2 PM bE FB MP
      go_upto_region 11 with fail
      clear cm c0
      have hd0:Ss wr.heap.size wr wr.drew:=(Sv _ _).drew
      refine wp_region_held_drew (S:=fun w'=>Kept (fun b=>b=w.heap.size+1+1) wr w') (by kernel_rfl) (gW.out _ hd0) (fun _=>?_)
      generalize wr.drew=v0 at *
      refine ab 0 (.agg #[.slice ra0 xs.length rc0]) (gW.out _ hd0) ?_ (hy:=.inl ⟨by rfl,fun w_ aH=>by have q_:=(gY.out w_ aH).1;go_simp⟩)
      refine ab 1 (.int .i64 I) (gW.out _ hd0) ?_
      refine ab 3 (.agg #[.slice ma ms.length mc]) (gW.out _ hd0) ?_ (hy:=.inl ⟨by rfl,fun w_ aH=>by have q_:=(gY.out w_ aH).2;go_simp⟩)
      refine ab 5 (.agg #[.slice ra0 xs.length rc0]) (gW.out _ hd0) ?_ (hy:=.inl ⟨by rfl,fun w_ aH=>by have q_:=(gY.out w_ aH).1;go_simp⟩)
      refine ab 6 (.int .i64 J) (gW.out _ hd0) ?_
      refine ab 7 (.int .i64 RL) (gW.out _ hd0) ?_
      refine aq 2 (fun K hK=>?_)
      go_simp
      refine(Fw.out 0 I v0 hd0).mono ?_
      rintro e_ v1 ⟨⟨y1a,y1c,y1s⟩,rfl,Es,GB,ar⟩
      simp only at Es GB
      have hv1:Ss wr.heap.size wr v1:=ak hd0 ar
      have hs1:=hv1.size
      have hl1:=mJ GB
      clear ar
      have K9:=h_ Es
      clear Es
      simp only [Row.enc]
      go_wp2_with fail
      refine goOn hK (gW.out _ hv1) ?_
      clear hK
      refine aq 4 (fun K hK=>?_)
      go_simp
      refine(O9.out y1a y1c y1s v1 hv1 hl1 K9.out).mono ?_
      rintro e_ v2 ⟨⟨y2a,y2c,y2s⟩,rfl,Er,GA,ar⟩
      simp only at Er GA
      have hv2:Ss wr.heap.size wr v2:=ak hv1 ar
      have hs2:=hv2.size
      have hl2:=mJ GA
      clear ar
      have Mw:=h_ Er
      clear Er
      simp only [Row.enc]
      go_wp2_with fail
      refine goOn hK (gW.out _ hv2) ?_
      clear hK
      refine aq 8 (fun K hK=>?_)
      go_simp
      refine(Fw.out J RL v2 hv2).mono ?_
      rintro e_ v3 ⟨⟨y3a,y3c,y3s⟩,rfl,Ep,Gz,ar⟩
      simp only at Ep Gz
      have hv3:Ss wr.heap.size wr v3:=ak hv2 ar
      have hs3:=hv3.size
      have hl3:=mJ Gz
      replace hl2:=Runs.later hl2 ar
      clear ar
      have Mv:=h_ Ep
      clear Ep
      simp only [Row.enc]
      go_wp2_with fail
      refine goOn hK (gW.out _ hv3) ?_
      clear hK
      refine aq 9 (fun K hK=>?_)
      go_simp
      refine(FM.out y2a y2c y2s y3a y3c y3s v3 hv3 hl2 hl3 (by rw [Mw.out,K9.out]) Mv.out).mono ?_
      rintro e_ v4 ⟨⟨y4a,y4c,y4s⟩,rfl,En,Eo,ar⟩
      simp only at En Eo
      have hv4:Ss wr.heap.size wr v4:=ak hv3 ar
      have hs4:=hv4.size
      clear ar
      have OK:=h_ En
      clear En
      simp only [Row.enc]
      go_wp2_with fail
      refine goOn hK (gW.out _ hv4) ?_
      clear hK
      refine aq 10 (fun K hK=>?_)
      have z4:=((hv4).block (w.heap.size+1+1) (by omega)).trans Z3.out
      have c4:v4.cell? ⟨w.heap.size+1+1,0,none⟩=some (.slice none 0 0):=Sj _ _ 0 _ 75 (0,0) z4
      have f4:v4.frozen? ⟨w.heap.size+1+1,0,none⟩=false:=by simp [SB,z4]
      go_simp
      have hst:Kept (fun b=>b=w.heap.size+1+1) wr (v4.setCell ⟨w.heap.size+1+1,0,none⟩ (.slice y4a y4s.length y4c)):=(gW.out _ hv4).setCell (p:=⟨w.heap.size+1+1,0,none⟩) (.inr rfl) _
      refine goOn hK hst ?_
      clear hK
      refine wpAnyH_done (by kernel_rfl) ?_ _
      have r9:=heap_setCell_same v4 (w.heap.size+1+1) 0 _ 75 (.slice y4a y4s.length y4c) z4
      have Dj:=aB (w':=v4.setCell ⟨w.heap.size+1+1,0,none⟩ (.slice y4a y4s.length y4c)) Eo fun b e=>Sw _ _ _ _ (by have:=(Eo.lt b e).1;simp;omega)
      have HF:=h_ (HQ.out ⟨y4a,y4c,y4s⟩ _ _ (by rw [FC.out];show y4s=_;rw [OK.out,Mw.out,K9.out,Mv.out,Jy.out]) (by omega) Dj ((pJ.out.trans (hv4.mono (by omega))).setCell (by simp;omega) _))
      clear hst c4 f4 Dj z4 HQ gY
      generalize v4.setCell ⟨w.heap.size+1+1,0,none⟩ (.slice y4a y4s.length y4c)=w9 at *
      simp only [Row.enc] at HF
      have fin4:∀ j,w9.cell? ⟨w.heap.size+1+1,j,none⟩=_:=fun j=>Sj _ _ j _ 75 (0,0) r9
      go_wp2_with fail
      refine Sm (v:=.agg #[.slice y4a y4s.length y4c]) (by simp [results,Tryz.results89,go_sem,fin4]) rfl ?_
      exact HF.out
end Go.Proofs.YtjebaagkomejaaaGreatDoor
