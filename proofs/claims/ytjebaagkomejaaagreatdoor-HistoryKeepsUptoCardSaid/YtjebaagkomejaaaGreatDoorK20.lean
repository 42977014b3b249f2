/- document.Insert: a document with one event more. -/
import Derived.Test.YtjebaagkomejaaaGreatDoorK17
import Derived.Test.YtjebaagkomejaaaGreatDoorK16
set_option linter.unusedVariables false
set_option linter.unusedSimpArgs false
set_option maxRecDepth 100000
set_option maxHeartbeats 12800000
open Go.Lib renaming hid→h_
open List renaming setIfInBounds_toArray→YA,getElem_cons_zero→YB,getElem_cons_succ→YC,getElem_toArray→YD,set_cons_zero→YE,set_cons_succ→YF
open Array renaming toArray_toList→YG
open Go renaming cell_of_row→Sj,wpList_store_row→Sk,setRow_heap→Sl,bodyPost_ret→Sm,World→Sn,below_setRow→Sp
open Go.RowKit renaming Below→Sq
open Nat renaming le_refl→Sr,le_trans→Ss
open And renaming intro→St
namespace Go.Proofs.YtjebaagkomejaaaGreatDoor
open Go.RowKit
theorem lr (d:Doc)(x:Ev)(w:Sn)(hE:Env w)(hd:d.lies w)(hf:d.fits)(hx:x.lies w)(fx:x.fits):Calls Tryz.prog 31 #[.agg d.enc.toArray,.agg x.enc.toArray] w (jl d.c x.c w):=by
 have jb:=h_ (fun(w1:Sn) (h:Sq w.heap.size w w1)=>b_ d w1 (hE.below h (Sr _)) (Doc.later hd h) hf)
 have Dp:=h_ (fun(w1:Sn) (h:Sq w.heap.size w w1)=>ud d x.id w1 (Doc.later hd h) hf)
 have dA:=h_ (fun(w1:Sn) (h:Sq w.heap.size w w1)=>dx d w1 (Doc.later hd h) hf)
 have tX:=h_ (fun(w1:Sn) (h:Sq w.heap.size w w1) (hl:(insX d x).lies w1) (hfx:(insX d x).fits)=>fw (insX d x) d.ra d.rc d.rG w1 (hE.below h (Sr _)) hl hfx (Doc.later hd h).1 hf.2.2.2.2.2.1 hf.2.2.2.2.2.2.1)
 have bh:=h_ (fun(q:Int) (hq:aQ d.c x.c=q) (h0:q≠0) (w':Sn) (h:Sq w.heap.size w w')=>(show jl d.c x.c w (.returned (.tuple #[.agg zeD,.int .i64 0,.int .i64 q])) w' from jl.bad hq h0 h))
 have cT:=h_ (fun(d':Doc) (h:d'.c=d.c)=>bn h hf)
 have dp:=h_ (Ai w d.enc.toArray x.enc.toArray zeD)
 have hb3:∀ o1 o2 o3:Obj,Sq w.heap.size w (((w.alloc o1).alloc o2).alloc o3):=fun o1 o2 o3=>(((Sq.refl _ _).alloc (Sr _) _).alloc (by simp) _).alloc (by simp;try omega) _
 have dv:∀ o1 o2 o3:Obj,(((w.alloc o1).alloc o2).alloc o3).heap.size=w.heap.size+3:=fun o1 o2 o3=>by simp
 have aY:=h_ (St (St hd hf) (St hx fx))
 have Mr:=sD d.c x.c
 have Po:d.c.hd.last=d.last:=rfl
 have AA:=bA d
 have HI:=h_ Mr
 generalize hQ:jl d.c x.c w=Q at bh ⊢
 have hq0:insQ d.c x.c=if a_ d≠0 then a_ d else if x.id=0 then (if 1099511627776≤d.last then 9 else 0) else if x.id<1∨d.last<x.id then 2 else if ju d.c x.id=true then 7 else 0:=by rw [AA];rfl
 have fQ:=h_ hq0
 have i64x:i64 x.id:=fx.1
 have i64d:i64 d.last:=hf.2.2.2.2.1
 unfold i64 at i64x i64d
 clear hd hf hE hx fx Mr hq0 AA
 go_enter Tryz.func31,Tryz.ntmps31
 have hr0:=ai dp.out.1
 go_wp2_with (refine aj 27 (.tmp 2) rfl w.heap.size 0 rfl d.enc _ hr0 Tryz.underlying27 rfl ag (by rfl) ?_)
 refine(jb.out _ (hb3 _ _ _)).mono ?_
 rintro e w1 ⟨rfl,hb1⟩
 rw [dv] at hb1
 have aM:Sq w.heap.size w w1:=(hb3 _ _ _).trans (hb1.mono (by omega))
 have r1:=(hb1.block w.heap.size (by omega)).trans dp.out.1
 have x1:=(hb1.block (w.heap.size+1) (by omega)).trans dp.out.2.1
 have z1:=(hb1.block (w.heap.size+1+1) (by omega)).trans dp.out.2.2
 have hs1:w.heap.size+3≤w1.heap.size:=by have:=hb1.size;rw [dv] at this;exact this
 clear hb1 hr0 jb dp hb3 dv
 have hr1:=ai r1
 have c4:w1.cell? ⟨w.heap.size,4,none⟩=some (.int .i64 d.last):=Sj _ _ 4 _ 27 (0,0) r1
 have ce:w1.cell? ⟨w.heap.size+1,0,none⟩=some (.int .i64 x.id):=Sj _ _ 0 _ 72 (0,0) x1
 have ze:w1.frozen? ⟨w.heap.size+1,0,none⟩=false:=by simp [Sn.frozen?,x1]
 have R1:=h_ r1
 have X1:=h_ x1
 have Z1:=h_ z1
 clear r1 x1 z1
 have vN:=h_ (bA d)
 generalize a_ d=DE at *
 go_upto_block 0 with fail
 go_cut [7,8] from 13 to 48 (fun t7 t8 wx=>t7=.int .i64 (insQ d.c x.c)∧(insQ d.c x.c=0→t8=.int .i64 (insL d.c x.c)∧wx.heap[w.heap.size+1]? =some (.cells (insX d x).enc.toArray 72 (0,0)))∧Sq w.heap.size w wx∧wx.heap[w.heap.size]? =some (.cells d.enc.toArray 27 (0,0))∧wx.heap[w.heap.size+1+1]? =some (.cells zeD 27 (0,0))∧w.heap.size+3≤wx.heap.size)
 case first =>
  clear tX dA bh cT aY hr1
  by_cases h0:DE=0
  · subst h0
    rw [if_neg (fun h=>h rfl)] at fQ
    by_cases hi:x.id=0
    · rw [if_pos hi] at fQ
      have hlz:insL d.c x.c=d.last+1:=if_pos hi
      have hxz:(insX d x).enc.toArray=x.enc.toArray.setIfInBounds 0 (.int .i64 (d.last+1)):=by unfold insX;rw [if_pos hi];rfl
      rw [hi] at ce
      by_cases hl:1099511627776≤d.last
      · rw [if_pos hl] at fQ
        have HE:=h_ (show insQ d.c x.c=9 from fQ.out)
        clear fQ Dp hlz hxz
        go_wp2_with fail
        go_meet
        exact⟨by rw [HE.out],fun h=>absurd (HE.out.symm.trans h) (by decide),aM,R1.out,Z1.out,hs1⟩
      · rw [if_neg hl] at fQ
        have HE:=h_ (show insQ d.c x.c=0 from fQ.out)
        have CP:=h_ (heap_setCell_same w1 (w.heap.size+1) 0 _ 72 (.int .i64 (d.last+1)) X1.out)
        rw [←hxz] at CP
        have hk:Kept (fun b=>b=w.heap.size+1) w1 (w1.setCell ⟨w.heap.size+1,0,none⟩ (.int .i64 (d.last+1))):=bG (Kept.refl _ _) 0 _
        have HB2:=h_ (St (aM.trans (hk.below (by omega) fun b hb e=>by omega)) (St ((hk.block w.heap.size (by omega) (by omega)).trans R1.out) (St ((hk.block (w.heap.size+1+1) (by omega) (by omega)).trans Z1.out) (Ss hs1 hk.size))))
        have Lo:=h_ hlz
        clear fQ Dp hxz hk hlz
        go_wp2_with fail
        go_meet
        exact⟨by rw [HE.out],fun _=>⟨by rw [Lo.out],CP.out⟩,HB2.out.1,HB2.out.2.1,HB2.out.2.2.1,HB2.out.2.2.2⟩
    · rw [if_neg hi] at fQ
      have hlz:insL d.c x.c=d.last:=if_neg hi
      have hxz:insX d x=x:=if_neg hi
      by_cases hl:x.id<1∨d.last<x.id
      · rw [if_pos hl] at fQ
        have HE:=h_ (show insQ d.c x.c=2 from fQ.out)
        clear fQ Dp hlz hxz
        rcases hl with hl|hl
        · go_wp2_with fail
          go_meet
          exact⟨by rw [HE.out],fun h=>absurd (HE.out.symm.trans h) (by decide),aM,R1.out,Z1.out,hs1⟩
        · have hl1:1≤x.id∨x.id<1:=by omega
          rcases hl1 with hl1|hl1
          · go_wp2_with fail
            go_meet
            exact⟨by rw [HE.out],fun h=>absurd (HE.out.symm.trans h) (by decide),aM,R1.out,Z1.out,hs1⟩
          · go_wp2_with fail
            go_meet
            exact⟨by rw [HE.out],fun h=>absurd (HE.out.symm.trans h) (by decide),aM,R1.out,Z1.out,hs1⟩
      · rw [if_neg hl] at fQ
        have hl1:1≤x.id:=by omega
        have hl2:x.id≤d.last:=by omega
        have hr1:=ai R1.out
        have Lo:=h_ hlz
        have ON:=h_ hxz
        clear hl hi hlz hxz
        go_wp2_with (refine aj 27 (.tmp 2) rfl w.heap.size 0 rfl d.enc _ hr1 Tryz.underlying27 rfl ag (by rfl) ?_)
        refine(Dp.out w1 aM).mono ?_
        rintro e w2 ⟨rfl,hb2⟩
        have HB2:=h_ (St (aM.trans (hb2.mono aM.size)) (St ((hb2.block w.heap.size (by omega)).trans R1.out) (St ((hb2.block (w.heap.size+1+1) (by omega)).trans Z1.out) (Ss hs1 hb2.size))))
        have CP:=h_ ((hb2.block (w.heap.size+1) (by omega)).trans X1.out)
        have Mj:∀ b,ju d.c x.id=b→insQ d.c x.c=if b=true then 7 else 0:=fun b h=>by rw [←h];exact fQ.out
        clear Dp hb2 hr1 fQ
        generalize ju d.c x.id=TB at *
        have Ju:=h_ (Mj TB rfl)
        clear Mj
        cases TB with
        | true =>
          have HE:=h_ (show insQ d.c x.c=7 from Ju.out)
          clear Ju
          go_wp2_with fail
          go_meet
          exact⟨by rw [HE.out],fun h=>absurd (HE.out.symm.trans h) (by decide),HB2.out.1,HB2.out.2.1,HB2.out.2.2.1,HB2.out.2.2.2⟩
        | false =>
          have HE:=h_ (show insQ d.c x.c=0 from Ju.out)
          clear Ju
          go_wp2_with fail
          go_meet
          exact⟨by rw [HE.out],fun _=>⟨by rw [Lo.out],by rw [ON.out];exact CP.out⟩,HB2.out.1,HB2.out.2.1,HB2.out.2.2.1,HB2.out.2.2.2⟩
  · rw [if_pos h0] at fQ
    have hne:(DE != 0)=true:=by simpa using h0
    have HE:=h_ (show insQ d.c x.c=DE from fQ.out)
    have HN:=h_ h0
    clear fQ Dp h0
    go_wp2_with fail
    go_meet
    exact⟨by rw [HE.out],fun h=>absurd (HE.out.symm.trans h) HN.out,aM,R1.out,Z1.out,hs1⟩
 case rest =>
  obtain⟨rfl,hok,hbw2,r2,z2,hs2⟩:=hcut
  have Lt:=h_ (fun(h:insQ d.c x.c≠0)=>(HI.out.trans (if_pos h):aQ d.c x.c=insQ d.c x.c))
  have Lu:=h_ (fun(h:insQ d.c x.c=0)=>(HI.out.trans (if_neg (fun k=>k h)):aQ d.c x.c=_))
  have wU:=h_ (show insQ d.c x.c=0→x.id=0→d.last<1099511627776 from fun h hi=>by
   rw [fQ.out] at h
   by_cases hd:DE≠0
   · rw [if_pos hd] at h;exact absurd h hd
   · rw [if_neg hd,if_pos hi] at h
     by_cases hl:1099511627776≤d.last
     · rw [if_pos hl] at h;exact absurd h (by decide)
     · omega)
  have HD0:=h_ (show insQ d.c x.c=0→DE=0 from fun h=>by
   rw [fQ.out] at h
   by_cases hd:DE≠0
   · rw [if_pos hd] at h;exact h
   · exact Classical.not_not.1 hd)
  clear HI fQ R1 X1 Z1 aM hs1 hr1 c4 ce ze
  generalize insQ d.c x.c=q at *
  have R2:=h_ r2
  have Z2:=h_ z2
  clear r2 z2
  by_cases h0:q=0
  · subst h0
    obtain⟨rfl,hx2⟩:=hok rfl
    have hie:=Lu.out rfl
    have ff:=Gx d x
    have hyl:(insX d x).lies w:=by
     show bx w (insX d x).at_ (insX d x).rows
     have:(insX d x).at_=x.at_∧(insX d x).rows=x.rows:=by unfold insX;split<;>exact⟨rfl,rfl⟩
     rw [this.1,this.2];exact aY.out.2.1
    have mY:(insX d x).fits:=by
     have h:=aY.out.2.2
     have hl:=wU.out rfl
     unfold insX
     split
     · rename_i hi
       have:=hl hi
       exact⟨⟨by show _≤d.last+1;omega,by show d.last+1≤_;omega⟩,h.2⟩
     · exact h
    rw [←ff] at hie
    have hr2:=ai hx2
    have c5:wc.cell? ⟨w.heap.size,5,none⟩=some (.slice d.ra d.rG.length d.rc):=Sj _ _ 5 _ 27 (0,0) R2.out
    have wZ:=h_ (tX.out wc hbw2 (Ev.keeps _ _ _ hbw2 hyl) mY)
    have rI:bT d.c.rG (insX d x).c=fK (insX d x) d.rG:=ji (EvC.rep_c _) _
    rw [rI] at hie
    have C8:=h_ hie
    have X2:=h_ hx2
    have HY:=h_ (St ff (St hyl mY))
    have lK:=h_ (show insL d.c x.c=if x.id=0 then d.last+1 else d.last from rfl)
    clear tX hok ff hyl mY hie rI Lt Lu wU hx2 Dp
    go_wp2_with (refine aj 72 (.tmp 3) rfl (w.heap.size+1) 0 rfl (insX d x).enc _ hr2 Tryz.underlying72 rfl aV (by rfl) ?_)
    refine wZ.out.mono ?_
    rintro e w3 ⟨rfl,hb3⟩
    have cR:=hbw2.trans (hb3.mono hbw2.size)
    have r3:=(hb3.block w.heap.size (by omega)).trans R2.out
    have x3:=(hb3.block (w.heap.size+1) (by omega)).trans X2.out
    have z3:=(hb3.block (w.heap.size+1+1) (by omega)).trans Z2.out
    have hs3:w.heap.size+3≤w3.heap.size:=by have:=hb3.size;omega
    have R3:=h_ r3
    have X3:=h_ x3
    have Z3:=h_ z3
    clear hb3 hbw2 r3 x3 z3 R2 X2 Z2 hr2 c5 wZ hs2
    generalize fK (insX d x) d.rG=EE at *
    have c6:w3.cell? ⟨w.heap.size,6,none⟩=some (.slice d.ea d.eV.length d.ec):=Sj _ _ 6 _ 27 (0,0) R3.out
    have hle:d.eV.length≤4000000:=aY.out.1.2.2.2.2.2.2.2.2.2.1
    by_cases hE0:EE=0
    · subst hE0
      by_cases hfull:400≤d.eV.length
      · have HE:=h_ (bh.out 9 (by rw [C8.out,if_neg (fun h=>h rfl),show d.c.eV.length=d.eV.length from List.length_map ..];exact if_pos hfull) (by decide) (w3.setRow (w.heap.size+1+1) zeD) (Sp cR (by omega) _))
        have z9:=Sl w3 (w.heap.size+1+1) _ zeD 27 (0,0) Z3.out
        have Az:(400:Int)≤(d.eV.length:Int):=by omega
        clear dA bh cT aY vN C8 HY lK
        go_wp2_with (refine Sk rfl 27 (.tmp 4) (.tmp 65) rfl (w.heap.size+1+1) zeD rfl rfl 27 _ Z3.out ag rfl aO ?_)
        generalize w3.setRow (w.heap.size+1+1) zeD=w9 at *
        have fin4:∀ j,w9.cell? ⟨w.heap.size+1+1,j,none⟩=_:=fun j=>Sj _ _ j _ 27 (0,0) z9
        refine Sm (v:=.tuple #[.agg zeD,.int .i64 0,.int .i64 9]) (by simp [results,Tryz.results31,go_sem,fin4]) rfl ?_
        exact HE.out
      · have Az:(d.eV.length:Int)<400:=by omega
        have ER:¬ (400:Int)≤(d.eV.length:Int):=by omega
        have hie:aQ d.c x.c=0:=by rw [C8.out,if_neg (fun h=>h rfl),show d.c.eV.length=d.eV.length from List.length_map ..];exact if_neg hfull
        go_upto_region 19 with fail
        have hr3:=ai R3.out
        go_wp2_with (refine aj 27 (.tmp 2) rfl w.heap.size 0 rfl d.enc _ hr3 Tryz.underlying27 rfl ag (by rfl) ?_)
        refine(dA.out w3 cR).mono ?_
        rintro e w4 ⟨d',rfl,hc',hl',hu',hb4,hap,hoe,hoc,hox, -⟩
        have eo:=cT.out d' hc'
        have Ll:=h_ hox
        clear hox
        have bQ:Sq w.heap.size w w4:=cR.trans (hb4.mono cR.size)
        have r4:=(hb4.block w.heap.size (by omega)).trans R3.out
        have x4:=(hb4.block (w.heap.size+1) (by omega)).trans X3.out
        have z4:=(hb4.block (w.heap.size+1+1) (by omega)).trans Z3.out
        have hs4:w3.heap.size≤w4.heap.size:=hb4.size
        have hlen:d'.eV.length=d.eV.length:=by
         have:d'.eV.map Ev.c=d.eV.map Ev.c:=congrArg DocC.eV hc'
         exact jh this
        have OG:d'.eV.length<400:=by omega
        clear hr3 R3 X3 Z3 dA cR cT hb4 c6 bh C8 hfull Az ER hlen
        go_upto_region 20 with(refine Sk rfl 27 (.tmp 2) (.tmp 68) rfl (w.heap.size) (d'.enc.toArray) rfl rfl 27 _ r4 ag rfl aO ?_)
        have hk5:Kept (fun b=>b=w.heap.size) w4 (w4.setRow w.heap.size d'.enc.toArray):=bj w4 w.heap.size d'.enc.toArray
        have r5:=Sl w4 w.heap.size _ d'.enc.toArray 27 (0,0) r4
        generalize w4.setRow w.heap.size d'.enc.toArray=w5 at *
        have hs5:=hk5.size
        have hl5:d'.lies w5:=Doc.frame hl' hs5 fun b hb=>hk5.block b (Doc.uses_lt hl' hb) (by have:=hu' b hb;omega)
        have oe5:=aB hoe fun b q=>hk5.block b (hoe.lt b q).2 (by have:=(hoe.lt b q).1;omega)
        have x5:=(hk5.block (w.heap.size+1) (by omega) (by omega)).trans x4
        have z5:=(hk5.block (w.heap.size+1+1) (by omega) (by omega)).trans z4
        have hb5:Sq w.heap.size w w5:=bQ.trans (hk5.below (by omega) fun k hk e=>by omega)
        clear hl' r4 x4 z4 hk5 hoe hoc bQ
        have f5:∀ j,w5.frozen? ⟨w.heap.size,j,none⟩=false:=fun j=>by simp [Sn.frozen?,r5]
        have c5:∀ j,w5.cell? ⟨w.heap.size,j,none⟩=_:=fun j=>Sj _ _ j _ 27 (0,0) r5
        obtain⟨D1,hD1⟩:∃ D1:Doc,D1={ d' with last:=insL d.c x.c }:=⟨_,rfl⟩
        have r6:=heap_setCell_same w5 w.heap.size 4 _ 27 (.int .i64 (insL d.c x.c)) r5
        rw [show d'.enc.toArray.setIfInBounds 4 (.int .i64 (insL d.c x.c))=D1.enc.toArray from by rw [hD1];rfl] at r6
        have sN:Kept (fun b=>b=w.heap.size) w5 (w5.setCell ⟨w.heap.size,4,none⟩ (.int .i64 (insL d.c x.c))):=bG (Kept.refl _ _) 4 _
        have R6:=h_ r6
        have jn:=h_ sN
        have n_:=h_ hl5
        have OE5:=h_ oe5
        have X5:=h_ x5
        have Z5:=h_ z5
        have iG:=h_ hb5
        have HU:=h_ hu'
        have oR:=h_ hap
        have eP:=h_ eo
        have xf:=h_ hc'
        have HD1:=h_ hD1
        clear r6 sN hl5 oe5 x5 z5 hb5 hu' hap eo hc' r5
        generalize insL d.c x.c=L at *
        go_upto_region 21 with fail
        generalize w5.setCell ⟨w.heap.size,4,none⟩ (.int .i64 L)=w6 at *
        clear f5 c5
        have hs6:=jn.out.size
        have wy:d'.lies w6:=Doc.frame n_.out hs6 fun b hb=>jn.out.block b (Doc.uses_lt n_.out hb) (by have:=HU.out b hb;omega)
        have hle2:d'.eV.length≤4000000:=eP.out.2.2.2.2.2.2.2.2.1
        have oe6:=aB OE5.out fun b q=>jn.out.block b (OE5.out.lt b q).2 (by have:=(OE5.out.lt b q).1;omega)
        have x6:=(jn.out.block (w.heap.size+1) (by omega) (by omega)).trans X5.out
        have z6:=(jn.out.block (w.heap.size+1+1) (by omega) (by omega)).trans Z5.out
        have hb6:Sq w.heap.size w w6:=iG.out.trans (jn.out.below (by omega) fun b hb e=>by omega)
        have Mb:∀ z∈d'.eV,z.fits:=eP.out.2.2.2.2.2.2.2.1
        have c6:w6.cell? ⟨w.heap.size,6,none⟩=some (.slice d'.ea d'.eV.length d'.ec):=by
         have h:=Sj _ _ 6 _ 27 (0,0) R6.out
         rw [HD1.out] at h
         exact h
        obtain⟨j0,hj,hy0,hy1,hy2⟩:=info_parts Tryz.info72
        have JI:=h_ hj
        have J0:=h_ hy0
        have J1:=h_ hy1
        have J2:=h_ hy2
        have OE6:=h_ oe6
        have O4:=h_ Mb
        have C7:=h_ wy
        have Z6:=h_ z6
        have Db:=h_ hb6
        have X6:=h_ x6
        have Nl:w.heap.size+3≤w3.heap.size:=hs3
        have Kj:w3.heap.size≤w6.heap.size:=by omega
        have F1:=h_ (fun(w7:Sn) (v':Value) (cs:Array Value) hcs hown hg hat=>Cd (d:=d') (y:=insX d x) (w:=w) (w6:=w6) (w7:=w7) (v':=v') (cs:=cs) (B:=w3.heap.size) wy HU.out oR.out oe6 HY.out.2.1 hb6 (by omega) hcs hown hg hat)
        clear hj hy0 hy1 hy2 oe6 x6 z6 hb6 Mb wy eP iG Z5 X5 OE5 n_ jn hs6 hs5
        have Gy:=HY.out.1
        have mY:=HY.out.2.2
        generalize insX d x=y at *
        have Fp:=h_ Gy
        have FY:=h_ mY
        clear Gy mY HY
        have fe:∀ j,w6.cell? ⟨w.heap.size+1,j,none⟩=_:=fun j=>Sj _ _ j _ 72 (0,0) X6.out
        have Il:=h_ (fun(a:Option Addr) (c:Nat) (w7:Sn) (hS:dy w7 a (d'.eV++[y]))=>ix a c (d'.eV++[y]) w7 hS (fun z hz=>by
         rcases List.mem_append.1 hz with h|h
         · exact O4.out z h
         · rw [List.mem_singleton.1 h];exact FY.out) (by simp;omega))
        obtain⟨yid,yin,yout,yreg,ykind,ysp,ya,ycap,yrows⟩:=y
        simp only [Ev.enc] at fe F1
        go_wp2_with (at_builtin;refine eY _ _ rfl (.tmp 72) (.tmp 74) 24 rfl w3.heap.size 72 j0 _ 7 88 Tryz.underlying24 JI.out J0.out J1.out J2.out rfl (by decide) _ _ _ rfl OE6.out _ rfl rfl rfl ?h1 ?h63 ?hb ?hbase ?_)
        case h1=>first|exact⟨rfl,rfl,rfl,rfl,rfl,rfl,rfl⟩|(intro u hu;simp at hu;rcases hu with rfl|rfl|rfl|rfl|rfl|rfl|rfl<;>rfl)
        case h63=>unfold maxLen;omega
        case hb=>omega
        case hbase=>omega
        intro v' w7 hown' hgrow hat
        obtain⟨sa,sc,rfl,hS,ir⟩:=F1.out w7 v' _ rfl hown' hgrow hat
        have hnb:∀ b,b<w.heap.size+3→¬ (Value.slice d'.ea d'.eV.length d'.ec).ownBlock=some b:=fun b hb e=>by have:=(OE6.out.lt b e).1;omega
        have r7:=(ir.block w.heap.size (by omega) (hnb _ (by omega))).trans R6.out
        have x7:=(ir.block (w.heap.size+1) (by omega) (hnb _ (by omega))).trans X6.out
        have z7:=(ir.block (w.heap.size+1+1) (by omega) (hnb _ (by omega))).trans Z6.out
        have jr:Sq w.heap.size w w7:=Db.out.trans (ir.below (by omega) fun k hk=>hnb k (by omega))
        have hs7:=ir.size
        have lI:=Il.out sa sc w7 hS
        rw [show ∀ q:Ev,(d'.eV++[q]).length=d'.eV.length+1 from fun q=>by simp] at lI
        have Ik:=h_ lI
        have OX:=h_ (fun(w8:Sn) (h:Kept (fun b=>(Value.slice d'.ea d'.eV.length d'.ec).ownBlock=some b∨w7.heap.size≤b) w6 w8)=>h)
        have R7:=h_ r7
        have X7:=h_ x7
        have Z7:=h_ z7
        have BF:=h_ jr
        have IK:=h_ ir
        clear r7 x7 z7 jr lI hown' hgrow hat F1 hnb fe c6 X6 Z6 Il OX hS ir
        go_wp2_with fail
        refine Ik.out.mono ?_
        rintro e w8 ⟨v,ys,rfl,hgr,hperm,hsrt⟩
        obtain⟨ta,tc,hv,Dk⟩:=aA (k:=7) (enc:=Ev.enc) (Ok:=Ev.lies) (fun _=>rfl) hgr.1 (fun z hz=>(hgr.2.1 z hz).1)
        subst hv
        have iF:=hgr.2.2
        have Ki:=iF.size
        have r8:=(iF.block w.heap.size (by omega)).trans R7.out
        have x8:=(iF.block (w.heap.size+1) (by omega)).trans X7.out
        have z8:=(iF.block (w.heap.size+1+1) (by omega)).trans Z7.out
        have AG:Sq w.heap.size w w8:=BF.out.trans (iF.mono (by omega))
        have f8:∀ j,w8.frozen? ⟨w.heap.size,j,none⟩=false:=fun j=>by simp [Sn.frozen?,r8]
        have c8:∀ j,w8.cell? ⟨w.heap.size,j,none⟩=_:=fun j=>Sj _ _ j _ 27 (0,0) r8
        obtain⟨D2,hD2⟩:∃ D2:Doc,D2={ D1 with ea:=ta,ec:=tc,eV:=ys }:=⟨_,rfl⟩
        have r9:=heap_setCell_same w8 w.heap.size 6 _ 27 (.slice ta ys.length tc) r8
        rw [show D1.enc.toArray.setIfInBounds 6 (.slice ta ys.length tc)=D2.enc.toArray from by rw [hD2];rfl] at r9
        have eX:Kept (fun b=>b=w.heap.size) w8 (w8.setCell ⟨w.heap.size,6,none⟩ (.slice ta ys.length tc)):=bG (Kept.refl _ _) 6 _
        have R9:=h_ r9
        have lL:=h_ eX
        have X8:=h_ x8
        have Z8:=h_ z8
        have LJ:=h_ AG
        have Bg:=h_ Dk
        have lM:=h_ hgr
        have Bj:=h_ (St hperm hsrt)
        have HD2:=h_ hD2
        clear r9 eX x8 z8 AG Dk hgr hperm hsrt hD2 r8 iF R7 X7 Z7 BF Ik
        go_upto_region 22 with fail
        generalize w8.setCell ⟨w.heap.size,6,none⟩ (.slice ta ys.length tc)=w9 at *
        clear f8 c8
        have vd:=lL.out.size
        have x9:=(lL.out.block (w.heap.size+1) (by omega) (by omega)).trans X8.out
        have z9:=(lL.out.block (w.heap.size+1+1) (by omega) (by omega)).trans Z8.out
        have gY:=h_ (fun(w':Sn) (q:Kept (fun b=>b=w.heap.size+1+1) w9 w')=>ai ((q.block w.heap.size (by omega) (by omega)).trans R9.out))
        have fy:∀ w',Kept (fun b=>b=w.heap.size+1+1) w9 w'→w'.cell? ⟨w.heap.size+1,0,none⟩=some (.int .i64 yid):=fun w' q=>Sj _ _ 0 _ 72 (0,0) ((q.block (w.heap.size+1) (by omega) (by omega)).trans x9)
        have hd0:Kept (fun b=>b=w.heap.size+1+1) w9 w9.drew:=Kept.of_below ((Sq.refl _ _).drew)
        have z9':w9.drew.heap[w.heap.size+1+1]? =some (.cells zeD 27 (0,0)):=z9
        refine wp_region_held_drew (S:=fun w'=>Kept (fun b=>b=w.heap.size+1+1) w9 w') (by kernel_rfl) hd0 (fun _=>?_)
        refine ab 0 (.agg D2.enc.toArray) hd0 ?_ (hy:=yieldsIf_load_mid (by rfl) 27 (.tmp 2) rfl w.heap.size 0 rfl D2.enc _ (fun w_ h_=>gY.out w_ h_) Tryz.underlying27 rfl ag)
        refine ab 1 (.pointer (some ⟨w.heap.size+1,0,none⟩)) hd0 ?_
        refine ab 2 (.int .i64 yid) hd0 ?_ (hy:=.inl ⟨by rfl,fun w_ aH=>by have q_:=fy _ aH;go_simp⟩)
        refine aq 3 (fun K hK=>?_)
        rw [if_pos (by rfl)]
        refine wp_store_row 27 (.tmp 4) (.tmp 78) rfl (w.heap.size+1+1) D2.enc.toArray rfl rfl 27 _ z9' ag rfl aO ?_
        have hk10:Kept (fun b=>b=w.heap.size+1+1) w9 (w9.drew.setRow (w.heap.size+1+1) D2.enc.toArray):=hd0.trans (bj _ _ _) fun i _ e=>e
        refine goOn hK hk10 ?_
        clear hK
        refine ab 4 (.int .i64 yid) hk10 ?_
        refine ab 5 (.int .i64 0) hk10 ?_
        refine wpAnyH_done (by kernel_rfl) ?_ _
        have r10:=Sl w9.drew (w.heap.size+1+1) _ D2.enc.toArray 27 (0,0) z9'
        generalize w9.drew.setRow (w.heap.size+1+1) D2.enc.toArray=w10 at *
        have l6:=h_ (show Q (.returned (.tuple #[.agg D2.enc.toArray,.int .i64 yid,.int .i64 0])) w10 from by
         have hc:=xf.out
         have ye:=lM.out.2.2
         have hge:∀ b,gi ta ys b→w7.heap.size≤b:=fun b hb=>by
          rcases hb with⟨_,ad,e,rfl⟩|⟨z,hz,hu⟩
          · exact(lM.out.1.lt ad.block (by rw [e];rfl)).1
          · exact((lM.out.2.1 z hz).2 b hu).2
         have hold:∀ b,b<w6.heap.size→w.heap.size+3≤b→¬ (Value.slice d'.ea d'.eV.length d'.ec).ownBlock=some b→w10.heap[b]? =w6.heap[b]?:=fun b h1 h2 h3=>by
          rw [hk10.block b (by omega) (by omega),lL.out.block b (by omega) (by omega),ye.block b (by omega),IK.out.block b h1 h3]
         have hsz:w9.heap.size≤w10.heap.size:=hk10.size
         have hs:ys.map Ev.c=de (d.c.eV++[insE d.c x.c]):=by
          have e1:d'.eV.map Ev.c=d.c.eV:=congrArg DocC.eV hc
          have hi:=Ei hie
          rw [←e1,←Fp.out] at hi ⊢
          have:=kF Bj.out.1 Bj.out.2 (by rw [List.map_append];exact hi)
          rw [this,List.map_append]
          rfl
         rw [←hQ]
         refine⟨D2,?_,?_,⟨?_,?_,?_⟩,?_,?_⟩
         · rw [if_pos hie,hie,←show yid=(insE d.c x.c).id from congrArg EvC.id Fp.out]
         · rw [qq,if_neg (fun h=>h hie),←hs,←show L=insL d.c x.c from lK.out,←hc,HD2.out,HD1.out]
           rfl
         · rw [HD2.out,HD1.out]
           refine ah.frame C7.out.1 (by omega) (fun b hb=>?_) (fun _ _ _=>trivial)
           have h1:=aP C7.out.1 hb
           have h2:=HU.out b (.inl hb)
           exact hold b h1 (by omega) (fun e=>(Ll.out b e).1 hb)
         · rw [HD2.out,HD1.out]
           refine dy.frame Bg.out (by omega) fun b hb=>?_
           have h1:=ej Bg.out hb
           have h2:=hge b hb
           rw [hk10.block b (by omega) (by omega),lL.out.block b (by omega) (by omega)]
         · rw [HD2.out,HD1.out]
           refine ah.frame C7.out.2.2 (by omega) (fun b hb=>?_) (fun _ _ _=>trivial)
           have h1:=aP C7.out.2.2 hb
           have h2:=HU.out b (.inr (.inr hb))
           exact hold b h1 (by omega) (fun e=>(Ll.out b e).2 hb)
         · rw [HD2.out,HD1.out]
           intro b hb
           rcases hb with hb|hb|hb
           · have:=HU.out b (.inl hb);omega
           · have:=hge b hb;omega
           · have:=HU.out b (.inr (.inr hb));omega
         · exact(LJ.out.trans (lL.out.below (by omega) fun b hb e=>by omega)).trans (hk10.below (by omega) fun b hb e=>by omega))
        clear hk10 z9 z9' x9 fy hd0 gY HD2 HD1 xf lM Bg IK lL Bj Fp FY aY
        obtain⟨dt,dl,dr,dd,dla,dra,drc,dregs,dea,dec,devs,dca,dcc,dcms⟩:=D2
        simp only [Doc.enc] at r10 l6
        have fin4:∀ j,w10.cell? ⟨w.heap.size+1+1,j,none⟩=_:=fun j=>Sj _ _ j _ 27 (0,0) r10
        go_wp2_with fail
        refine Sm (v:=.tuple #[.agg #[.string dt,.string dl,.int .u8 dr,.bool dd,.int .i64 dla,.slice dra dregs.length drc,.slice dea devs.length dec,.slice dca dcms.length dcc],.int .i64 yid,.int .i64 0]) (by simp [results,Tryz.results31,go_sem,fin4]) rfl ?_
        exact l6.out
    · have HE:=h_ (bh.out EE (by rw [C8.out,if_pos hE0]) hE0 (w3.setRow (w.heap.size+1+1) zeD) (Sp cR (by omega) _))
      have z9:=Sl w3 (w.heap.size+1+1) _ zeD 27 (0,0) Z3.out
      have hne:(EE==0)=false:=by simpa using hE0
      have hne2:(EE != 0)=true:=by simpa using hE0
      clear dA bh cT aY vN C8 HY lK
      go_wp2_with (refine Sk rfl 27 (.tmp 4) (.tmp 65) rfl (w.heap.size+1+1) zeD rfl rfl 27 _ Z3.out ag rfl aO ?_)
      generalize w3.setRow (w.heap.size+1+1) zeD=w9 at *
      have fin4:∀ j,w9.cell? ⟨w.heap.size+1+1,j,none⟩=_:=fun j=>Sj _ _ j _ 27 (0,0) z9
      refine Sm (v:=.tuple #[.agg zeD,.int .i64 0,.int .i64 EE]) (by simp [results,Tryz.results31,go_sem,fin4]) rfl ?_
      exact HE.out
  · have HE:=h_ (bh.out q (Lt.out h0) h0 (wc.setRow (w.heap.size+1+1) zeD) (Sp hbw2 (by omega) _))
    have z9:=Sl wc (w.heap.size+1+1) _ zeD 27 (0,0) Z2.out
    have hne:(q==0)=false:=by simpa using h0
    have hne2:(q != 0)=true:=by simpa using h0
    clear tX dA bh cT aY Lt Lu hok Dp vN
    go_wp2_with (refine Sk rfl 27 (.tmp 4) (.tmp 65) rfl (w.heap.size+1+1) zeD rfl rfl 27 _ Z2.out ag rfl aO ?_)
    generalize wc.setRow (w.heap.size+1+1) zeD=w9 at *
    have fin4:∀ j,w9.cell? ⟨w.heap.size+1+1,j,none⟩=_:=fun j=>Sj _ _ j _ 27 (0,0) z9
    refine Sm (v:=.tuple #[.agg zeD,.int .i64 0,.int .i64 q]) (by simp [results,Tryz.results31,go_sem,fin4]) rfl ?_
    exact HE.out
end Go.Proofs.YtjebaagkomejaaaGreatDoor
