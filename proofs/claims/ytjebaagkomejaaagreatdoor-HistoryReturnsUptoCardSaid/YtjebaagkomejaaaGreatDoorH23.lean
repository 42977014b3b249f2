/- document.Insert: a document with one event more. comment.Add: a document with one comment more. -/
import Derived.Test.YtjebaagkomejaaaGreatDoorH19
import Derived.Test.YtjebaagkomejaaaGreatDoorH18
set_option linter.unusedVariables false
set_option linter.unusedSimpArgs false
set_option maxRecDepth 100000
set_option maxHeartbeats 12800000
open Go.Lib renaming hid→h_
open List renaming setIfInBounds_toArray→YA,getElem_cons_zero→YB,getElem_cons_succ→YC,getElem_toArray→YD,set_cons_zero→YE,set_cons_succ→YF
open Array renaming toArray_toList→YG
open Go renaming cell_of_row→Sh,wpList_store_row→Si,setRow_heap→Sj,bodyPost_ret→Sk,World→Sl,below_setRow→Sm,decide_eq_emptyBytes→Sn,wp_region_held_drew→Sp,yieldsIf_load_mid→Sq
open Go.RowKit renaming Below→Sr
open Nat renaming le_refl→Ss,le_trans→St
open Go.RowKit.Below renaming refl→Su
open And renaming intro→Sv
open Go.World renaming frozen?→Sw
open Go.Value renaming slice→Sx
namespace Go.Proofs.YtjebaagkomejaaaGreatDoor
open Go.RowKit
theorem lv (d:Doc)(x:Ev)(w:Sl)(hE:Env w)(hd:d.lies w)(hf:d.fits)(hx:x.lies w)(fx:x.fits):Calls Tryz.prog 31 #[.agg d.enc.toArray,.agg x.enc.toArray] w (jn d.c x.c w):=by
 have iK:=h_ (fun(w1:Sl) (h:Sr w.heap.size w w1)=>bR d w1 (hE.below h (Ss _)) (Doc.later hd h) hf)
 have Ds:=h_ (fun(w1:Sl) (h:Sr w.heap.size w w1)=>tE d x.id w1 (Doc.later hd h) hf)
 have dq:=h_ (fun(w1:Sl) (h:Sr w.heap.size w w1)=>dy d w1 (Doc.later hd h) hf)
 have yz:=h_ (fun(w1:Sl) (h:Sr w.heap.size w w1) (hl:(insX d x).lies w1) (hfx:(insX d x).fits)=>fC (insX d x) d.ra d.rc d.rG w1 (hE.below h (Ss _)) hl hfx (Doc.later hd h).1 hf.2.2.2.2.2.1 hf.2.2.2.2.2.2.1)
 have bh:=h_ (fun(q:Int) (hq:aQ d.c x.c=q) (h0:q≠0) (w':Sl) (h:Sr w.heap.size w w')=>(show jn d.c x.c w (.returned (.tuple #[.agg zeD,.int .i64 0,.int .i64 q])) w' from jn.bad hq h0 h))
 have cP:=h_ (fun(d':Doc) (h:d'.c=d.c)=>bp h hf)
 have cQ:=h_ (zT w d.enc.toArray x.enc.toArray zeD)
 have hb3:∀ o1 o2 o3:Obj,Sr w.heap.size w (((w.alloc o1).alloc o2).alloc o3):=fun o1 o2 o3=>(((Su _ _).alloc (Ss _) _).alloc (by simp) _).alloc (by simp;try omega) _
 have db:∀ o1 o2 o3:Obj,(((w.alloc o1).alloc o2).alloc o3).heap.size=w.heap.size+3:=fun o1 o2 o3=>by simp
 have aZ:=h_ (Sv (Sv hd hf) (Sv hx fx))
 have ME:=sj d.c x.c
 have Pf:d.c.hd.last=d.last:=rfl
 have Ao:=bw d
 have HI:=h_ ME
 generalize hQ:jn d.c x.c w=Q at bh ⊢
 have hq0:insQ d.c x.c=if a_ d≠0 then a_ d else if x.id=0 then (if 1099511627776≤d.last then 9 else 0) else if x.id<1∨d.last<x.id then 2 else if ju d.c x.id=true then 7 else 0:=by rw [Ao];rfl
 have fI:=h_ hq0
 have i64x:i64 x.id:=fx.1
 have i64d:i64 d.last:=hf.2.2.2.2.1
 unfold i64 at i64x i64d
 clear hd hf hE hx fx ME hq0 Ao
 go_enter Tryz.func31,Tryz.ntmps31
 have hr0:=ai cQ.out.1
 go_wp2_with (refine aj 27 (.tmp 2) rfl w.heap.size 0 rfl d.enc _ hr0 Tryz.underlying27 rfl ag (by rfl) ?_)
 refine(iK.out _ (hb3 _ _ _)).mono ?_
 rintro e w1 ⟨rfl,hb1⟩
 rw [db] at hb1
 have aK:Sr w.heap.size w w1:=(hb3 _ _ _).trans (hb1.mono (by omega))
 have r1:=(hb1.block w.heap.size (by omega)).trans cQ.out.1
 have x1:=(hb1.block (w.heap.size+1) (by omega)).trans cQ.out.2.1
 have z1:=(hb1.block (w.heap.size+1+1) (by omega)).trans cQ.out.2.2
 have hs1:w.heap.size+3≤w1.heap.size:=by have:=hb1.size;rw [db] at this;exact this
 clear hb1 hr0 iK cQ hb3 db
 have hr1:=ai r1
 have c4:w1.cell? ⟨w.heap.size,4,none⟩=some (.int .i64 d.last):=Sh _ _ 4 _ 27 (0,0) r1
 have ce:w1.cell? ⟨w.heap.size+1,0,none⟩=some (.int .i64 x.id):=Sh _ _ 0 _ 72 (0,0) x1
 have ze:w1.frozen? ⟨w.heap.size+1,0,none⟩=false:=by simp [Sw,x1]
 have R1:=h_ r1
 have X1:=h_ x1
 have Z1:=h_ z1
 clear r1 x1 z1
 have vo:=h_ (bw d)
 generalize a_ d=DE at *
 go_upto_block 0 with fail
 go_cut [7,8] from 13 to 48 (fun t7 t8 wx=>t7=.int .i64 (insQ d.c x.c)∧(insQ d.c x.c=0→t8=.int .i64 (insL d.c x.c)∧wx.heap[w.heap.size+1]? =some (.cells (insX d x).enc.toArray 72 (0,0)))∧Sr w.heap.size w wx∧wx.heap[w.heap.size]? =some (.cells d.enc.toArray 27 (0,0))∧wx.heap[w.heap.size+1+1]? =some (.cells zeD 27 (0,0))∧w.heap.size+3≤wx.heap.size)
 case first =>
  clear yz dq bh cP aZ hr1
  by_cases h0:DE=0
  · subst h0
    rw [if_neg (fun h=>h rfl)] at fI
    by_cases hi:x.id=0
    · rw [if_pos hi] at fI
      have hlz:insL d.c x.c=d.last+1:=if_pos hi
      have hxz:(insX d x).enc.toArray=x.enc.toArray.setIfInBounds 0 (.int .i64 (d.last+1)):=by unfold insX;rw [if_pos hi];rfl
      rw [hi] at ce
      by_cases hl:1099511627776≤d.last
      · rw [if_pos hl] at fI
        have HE:=h_ (show insQ d.c x.c=9 from fI.out)
        clear fI Ds hlz hxz
        go_wp2_with fail
        go_meet
        exact⟨by rw [HE.out],fun h=>absurd (HE.out.symm.trans h) (by decide),aK,R1.out,Z1.out,hs1⟩
      · rw [if_neg hl] at fI
        have HE:=h_ (show insQ d.c x.c=0 from fI.out)
        have CO:=h_ (heap_setCell_same w1 (w.heap.size+1) 0 _ 72 (.int .i64 (d.last+1)) X1.out)
        rw [←hxz] at CO
        have hk:Kept (fun b=>b=w.heap.size+1) w1 (w1.setCell ⟨w.heap.size+1,0,none⟩ (.int .i64 (d.last+1))):=bH (Kept.refl _ _) 0 _
        have HB2:=h_ (Sv (aK.trans (hk.below (by omega) fun b hb e=>by omega)) (Sv ((hk.block w.heap.size (by omega) (by omega)).trans R1.out) (Sv ((hk.block (w.heap.size+1+1) (by omega) (by omega)).trans Z1.out) (St hs1 hk.size))))
        have LF:=h_ hlz
        clear fI Ds hxz hk hlz
        go_wp2_with fail
        go_meet
        exact⟨by rw [HE.out],fun _=>⟨by rw [LF.out],CO.out⟩,HB2.out.1,HB2.out.2.1,HB2.out.2.2.1,HB2.out.2.2.2⟩
    · rw [if_neg hi] at fI
      have hlz:insL d.c x.c=d.last:=if_neg hi
      have hxz:insX d x=x:=if_neg hi
      by_cases hl:x.id<1∨d.last<x.id
      · rw [if_pos hl] at fI
        have HE:=h_ (show insQ d.c x.c=2 from fI.out)
        clear fI Ds hlz hxz
        rcases hl with hl|hl
        · go_wp2_with fail
          go_meet
          exact⟨by rw [HE.out],fun h=>absurd (HE.out.symm.trans h) (by decide),aK,R1.out,Z1.out,hs1⟩
        · have hl1:1≤x.id∨x.id<1:=by omega
          rcases hl1 with hl1|hl1
          · go_wp2_with fail
            go_meet
            exact⟨by rw [HE.out],fun h=>absurd (HE.out.symm.trans h) (by decide),aK,R1.out,Z1.out,hs1⟩
          · go_wp2_with fail
            go_meet
            exact⟨by rw [HE.out],fun h=>absurd (HE.out.symm.trans h) (by decide),aK,R1.out,Z1.out,hs1⟩
      · rw [if_neg hl] at fI
        have hl1:1≤x.id:=by omega
        have hl2:x.id≤d.last:=by omega
        have hr1:=ai R1.out
        have LF:=h_ hlz
        have OH:=h_ hxz
        clear hl hi hlz hxz
        go_wp2_with (refine aj 27 (.tmp 2) rfl w.heap.size 0 rfl d.enc _ hr1 Tryz.underlying27 rfl ag (by rfl) ?_)
        refine(Ds.out w1 aK).mono ?_
        rintro e w2 ⟨rfl,hb2⟩
        have HB2:=h_ (Sv (aK.trans (hb2.mono aK.size)) (Sv ((hb2.block w.heap.size (by omega)).trans R1.out) (Sv ((hb2.block (w.heap.size+1+1) (by omega)).trans Z1.out) (St hs1 hb2.size))))
        have CO:=h_ ((hb2.block (w.heap.size+1) (by omega)).trans X1.out)
        have Mw:∀ b,ju d.c x.id=b→insQ d.c x.c=if b=true then 7 else 0:=fun b h=>by rw [←h];exact fI.out
        clear Ds hb2 hr1 fI
        generalize ju d.c x.id=TB at *
        have JQ:=h_ (Mw TB rfl)
        clear Mw
        cases TB with
        | true =>
          have HE:=h_ (show insQ d.c x.c=7 from JQ.out)
          clear JQ
          go_wp2_with fail
          go_meet
          exact⟨by rw [HE.out],fun h=>absurd (HE.out.symm.trans h) (by decide),HB2.out.1,HB2.out.2.1,HB2.out.2.2.1,HB2.out.2.2.2⟩
        | false =>
          have HE:=h_ (show insQ d.c x.c=0 from JQ.out)
          clear JQ
          go_wp2_with fail
          go_meet
          exact⟨by rw [HE.out],fun _=>⟨by rw [LF.out],by rw [OH.out];exact CO.out⟩,HB2.out.1,HB2.out.2.1,HB2.out.2.2.1,HB2.out.2.2.2⟩
  · rw [if_pos h0] at fI
    have hne:(DE != 0)=true:=by simpa using h0
    have HE:=h_ (show insQ d.c x.c=DE from fI.out)
    have HN:=h_ h0
    clear fI Ds h0
    go_wp2_with fail
    go_meet
    exact⟨by rw [HE.out],fun h=>absurd (HE.out.symm.trans h) HN.out,aK,R1.out,Z1.out,hs1⟩
 case rest =>
  obtain⟨rfl,hok,hbw2,r2,z2,hs2⟩:=hcut
  have LK:=h_ (fun(h:insQ d.c x.c≠0)=>(HI.out.trans (if_pos h):aQ d.c x.c=insQ d.c x.c))
  have LL:=h_ (fun(h:insQ d.c x.c=0)=>(HI.out.trans (if_neg (fun k=>k h)):aQ d.c x.c=_))
  have wo:=h_ (show insQ d.c x.c=0→x.id=0→d.last<1099511627776 from fun h hi=>by
   rw [fI.out] at h
   by_cases hd:DE≠0
   · rw [if_pos hd] at h;exact absurd h hd
   · rw [if_neg hd,if_pos hi] at h
     by_cases hl:1099511627776≤d.last
     · rw [if_pos hl] at h;exact absurd h (by decide)
     · omega)
  have HD0:=h_ (show insQ d.c x.c=0→DE=0 from fun h=>by
   rw [fI.out] at h
   by_cases hd:DE≠0
   · rw [if_pos hd] at h;exact h
   · exact Classical.not_not.1 hd)
  clear HI fI R1 X1 Z1 aK hs1 hr1 c4 ce ze
  generalize insQ d.c x.c=q at *
  have R2:=h_ r2
  have Z2:=h_ z2
  clear r2 z2
  by_cases h0:q=0
  · subst h0
    obtain⟨rfl,hx2⟩:=hok rfl
    have hie:=LL.out rfl
    have fP:=Gr d x
    have hyl:(insX d x).lies w:=by
     show bN w (insX d x).at_ (insX d x).rows
     have:(insX d x).at_=x.at_∧(insX d x).rows=x.rows:=by unfold insX;split<;>exact⟨rfl,rfl⟩
     rw [this.1,this.2];exact aZ.out.2.1
    have tq:(insX d x).fits:=by
     have h:=aZ.out.2.2
     have hl:=wo.out rfl
     unfold insX
     split
     · rename_i hi
       have:=hl hi
       exact⟨⟨by show _≤d.last+1;omega,by show d.last+1≤_;omega⟩,h.2⟩
     · exact h
    rw [←fP] at hie
    have hr2:=ai hx2
    have c5:wc.cell? ⟨w.heap.size,5,none⟩=some (.slice d.ra d.rG.length d.rc):=Sh _ _ 5 _ 27 (0,0) R2.out
    have wB:=h_ (yz.out wc hbw2 (Ev.keeps _ _ _ hbw2 hyl) tq)
    have oa:bT d.c.rG (insX d x).c=fS (insX d x) d.rG:=jk (EvC.rep_c _) _
    rw [oa] at hie
    have C_:=h_ hie
    have X2:=h_ hx2
    have HY:=h_ (Sv fP (Sv hyl tq))
    have lN:=h_ (show insL d.c x.c=if x.id=0 then d.last+1 else d.last from rfl)
    clear yz hok fP hyl tq hie oa LK LL wo hx2 Ds
    go_wp2_with (refine aj 72 (.tmp 3) rfl (w.heap.size+1) 0 rfl (insX d x).enc _ hr2 Tryz.underlying72 rfl aX (by rfl) ?_)
    refine wB.out.mono ?_
    rintro e w3 ⟨rfl,hb3⟩
    have cN:=hbw2.trans (hb3.mono hbw2.size)
    have r3:=(hb3.block w.heap.size (by omega)).trans R2.out
    have x3:=(hb3.block (w.heap.size+1) (by omega)).trans X2.out
    have z3:=(hb3.block (w.heap.size+1+1) (by omega)).trans Z2.out
    have hs3:w.heap.size+3≤w3.heap.size:=by have:=hb3.size;omega
    have R3:=h_ r3
    have X3:=h_ x3
    have Z3:=h_ z3
    clear hb3 hbw2 r3 x3 z3 R2 X2 Z2 hr2 c5 wB hs2
    generalize fS (insX d x) d.rG=EE at *
    have c6:w3.cell? ⟨w.heap.size,6,none⟩=some (.slice d.ea d.eV.length d.ec):=Sh _ _ 6 _ 27 (0,0) R3.out
    have hle:d.eV.length≤4000000:=aZ.out.1.2.2.2.2.2.2.2.2.2.1
    by_cases hE0:EE=0
    · subst hE0
      by_cases hfull:400≤d.eV.length
      · have HE:=h_ (bh.out 9 (by rw [C_.out,if_neg (fun h=>h rfl),show d.c.eV.length=d.eV.length from List.length_map ..];exact if_pos hfull) (by decide) (w3.setRow (w.heap.size+1+1) zeD) (Sm cN (by omega) _))
        have z9:=Sj w3 (w.heap.size+1+1) _ zeD 27 (0,0) Z3.out
        have An:(400:Int)≤(d.eV.length:Int):=by omega
        clear dq bh cP aZ vo C_ HY lN
        go_wp2_with (refine Si rfl 27 (.tmp 4) (.tmp 65) rfl (w.heap.size+1+1) zeD rfl rfl 27 _ Z3.out ag rfl aO ?_)
        generalize w3.setRow (w.heap.size+1+1) zeD=w9 at *
        have fin4:∀ j,w9.cell? ⟨w.heap.size+1+1,j,none⟩=_:=fun j=>Sh _ _ j _ 27 (0,0) z9
        refine Sk (v:=.tuple #[.agg zeD,.int .i64 0,.int .i64 9]) (by simp [results,Tryz.results31,go_sem,fin4]) rfl ?_
        exact HE.out
      · have An:(d.eV.length:Int)<400:=by omega
        have EM:¬ (400:Int)≤(d.eV.length:Int):=by omega
        have hie:aQ d.c x.c=0:=by rw [C_.out,if_neg (fun h=>h rfl),show d.c.eV.length=d.eV.length from List.length_map ..];exact if_neg hfull
        go_upto_region 19 with fail
        have hr3:=ai R3.out
        go_wp2_with (refine aj 27 (.tmp 2) rfl w.heap.size 0 rfl d.enc _ hr3 Tryz.underlying27 rfl ag (by rfl) ?_)
        refine(dq.out w3 cN).mono ?_
        rintro e w4 ⟨d',rfl,hc',hl',hu',hb4,hap,hoe,hoc,hox, -⟩
        have eu:=cP.out d' hc'
        have LA:=h_ hox
        clear hox
        have bP:Sr w.heap.size w w4:=cN.trans (hb4.mono cN.size)
        have r4:=(hb4.block w.heap.size (by omega)).trans R3.out
        have x4:=(hb4.block (w.heap.size+1) (by omega)).trans X3.out
        have z4:=(hb4.block (w.heap.size+1+1) (by omega)).trans Z3.out
        have hs4:w3.heap.size≤w4.heap.size:=hb4.size
        have hlen:d'.eV.length=d.eV.length:=by
         have:d'.eV.map Ev.c=d.eV.map Ev.c:=congrArg DocC.eV hc'
         exact j7 this
        have OB:d'.eV.length<400:=by omega
        clear hr3 R3 X3 Z3 dq cN cP hb4 c6 bh C_ hfull An EM hlen
        go_upto_region 20 with(refine Si rfl 27 (.tmp 2) (.tmp 68) rfl (w.heap.size) (d'.enc.toArray) rfl rfl 27 _ r4 ag rfl aO ?_)
        have hk5:Kept (fun b=>b=w.heap.size) w4 (w4.setRow w.heap.size d'.enc.toArray):=bj w4 w.heap.size d'.enc.toArray
        have r5:=Sj w4 w.heap.size _ d'.enc.toArray 27 (0,0) r4
        generalize w4.setRow w.heap.size d'.enc.toArray=w5 at *
        have hs5:=hk5.size
        have hl5:d'.lies w5:=Doc.frame hl' hs5 fun b hb=>hk5.block b (Doc.uses_lt hl' hb) (by have:=hu' b hb;omega)
        have oe5:=aB hoe fun b q=>hk5.block b (hoe.lt b q).2 (by have:=(hoe.lt b q).1;omega)
        have x5:=(hk5.block (w.heap.size+1) (by omega) (by omega)).trans x4
        have z5:=(hk5.block (w.heap.size+1+1) (by omega) (by omega)).trans z4
        have hb5:Sr w.heap.size w w5:=bP.trans (hk5.below (by omega) fun k hk e=>by omega)
        clear hl' r4 x4 z4 hk5 hoe hoc bP
        have f5:∀ j,w5.frozen? ⟨w.heap.size,j,none⟩=false:=fun j=>by simp [Sw,r5]
        have c5:∀ j,w5.cell? ⟨w.heap.size,j,none⟩=_:=fun j=>Sh _ _ j _ 27 (0,0) r5
        obtain⟨D1,hD1⟩:∃ D1:Doc,D1={ d' with last:=insL d.c x.c }:=⟨_,rfl⟩
        have r6:=heap_setCell_same w5 w.heap.size 4 _ 27 (.int .i64 (insL d.c x.c)) r5
        rw [show d'.enc.toArray.setIfInBounds 4 (.int .i64 (insL d.c x.c))=D1.enc.toArray from by rw [hD1];rfl] at r6
        have ts:Kept (fun b=>b=w.heap.size) w5 (w5.setCell ⟨w.heap.size,4,none⟩ (.int .i64 (insL d.c x.c))):=bH (Kept.refl _ _) 4 _
        have R6:=h_ r6
        have jr:=h_ ts
        have nT:=h_ hl5
        have OE5:=h_ oe5
        have X5:=h_ x5
        have Z5:=h_ z5
        have iL:=h_ hb5
        have HU:=h_ hu'
        have lZ:=h_ hap
        have ew:=h_ eu
        have wC:=h_ hc'
        have HD1:=h_ hD1
        clear r6 ts hl5 oe5 x5 z5 hb5 hu' hap eu hc' r5
        generalize insL d.c x.c=L at *
        go_upto_region 21 with fail
        generalize w5.setCell ⟨w.heap.size,4,none⟩ (.int .i64 L)=w6 at *
        clear f5 c5
        have hs6:=jr.out.size
        have vQ:d'.lies w6:=Doc.frame nT.out hs6 fun b hb=>jr.out.block b (Doc.uses_lt nT.out hb) (by have:=HU.out b hb;omega)
        have hle2:d'.eV.length≤4000000:=ew.out.2.2.2.2.2.2.2.2.1
        have oe6:=aB OE5.out fun b q=>jr.out.block b (OE5.out.lt b q).2 (by have:=(OE5.out.lt b q).1;omega)
        have x6:=(jr.out.block (w.heap.size+1) (by omega) (by omega)).trans X5.out
        have z6:=(jr.out.block (w.heap.size+1+1) (by omega) (by omega)).trans Z5.out
        have hb6:Sr w.heap.size w w6:=iL.out.trans (jr.out.below (by omega) fun b hb e=>by omega)
        have Mo:∀ z∈d'.eV,z.fits:=ew.out.2.2.2.2.2.2.2.1
        have c6:w6.cell? ⟨w.heap.size,6,none⟩=some (.slice d'.ea d'.eV.length d'.ec):=by
         have h:=Sh _ _ 6 _ 27 (0,0) R6.out
         rw [HD1.out] at h
         exact h
        obtain⟨j0,hj,hy0,hy1,hy2⟩:=info_parts Tryz.info72
        have JI:=h_ hj
        have J0:=h_ hy0
        have J1:=h_ hy1
        have J2:=h_ hy2
        have OE6:=h_ oe6
        have OX:=h_ Mo
        have C9:=h_ vQ
        have Z6:=h_ z6
        have Dd:=h_ hb6
        have X6:=h_ x6
        have Nn:w.heap.size+3≤w3.heap.size:=hs3
        have Kz:w3.heap.size≤w6.heap.size:=by omega
        have FU:=h_ (fun(w7:Sl) (v':Value) (cs:Array Value) hcs hown hg hat=>Ca (d:=d') (y:=insX d x) (w:=w) (w6:=w6) (w7:=w7) (v':=v') (cs:=cs) (B:=w3.heap.size) vQ HU.out lZ.out oe6 HY.out.2.1 hb6 (by omega) hcs hown hg hat)
        clear hj hy0 hy1 hy2 oe6 x6 z6 hb6 Mo vQ ew iL Z5 X5 OE5 nT jr hs6 hs5
        have Gv:=HY.out.1
        have tq:=HY.out.2.2
        generalize insX d x=y at *
        have Fl:=h_ Gv
        have FT:=h_ tq
        clear Gv tq HY
        have fe:∀ j,w6.cell? ⟨w.heap.size+1,j,none⟩=_:=fun j=>Sh _ _ j _ 72 (0,0) X6.out
        have Ir:=h_ (fun(a:Option Addr) (c:Nat) (w7:Sl) (hS:dG w7 a (d'.eV++[y]))=>iE a c (d'.eV++[y]) w7 hS (fun z hz=>by
         rcases List.mem_append.1 hz with h|h
         · exact OX.out z h
         · rw [List.mem_singleton.1 h];exact FT.out) (by simp;omega))
        obtain⟨yid,yin,yout,yreg,ykind,ysp,ya,ycap,yrows⟩:=y
        simp only [Ev.enc] at fe FU
        go_wp2_with (at_builtin;refine fi _ _ rfl (.tmp 72) (.tmp 74) 24 rfl w3.heap.size 72 j0 _ 7 88 Tryz.underlying24 JI.out J0.out J1.out J2.out rfl (by decide) _ _ _ rfl OE6.out _ rfl rfl rfl ?h1 ?h63 ?hb ?hbase ?_)
        case h1=>first|exact⟨rfl,rfl,rfl,rfl,rfl,rfl,rfl⟩|(intro u hu;simp at hu;rcases hu with rfl|rfl|rfl|rfl|rfl|rfl|rfl<;>rfl)
        case h63=>unfold maxLen;omega
        case hb=>omega
        case hbase=>omega
        intro v' w7 hown' hgrow hat
        obtain⟨sa,sc,rfl,hS,iA⟩:=FU.out w7 v' _ rfl hown' hgrow hat
        have hnb:∀ b,b<w.heap.size+3→¬ (Sx d'.ea d'.eV.length d'.ec).ownBlock=some b:=fun b hb e=>by have:=(OE6.out.lt b e).1;omega
        have r7:=(iA.block w.heap.size (by omega) (hnb _ (by omega))).trans R6.out
        have x7:=(iA.block (w.heap.size+1) (by omega) (hnb _ (by omega))).trans X6.out
        have z7:=(iA.block (w.heap.size+1+1) (by omega) (hnb _ (by omega))).trans Z6.out
        have iP:Sr w.heap.size w w7:=Dd.out.trans (iA.below (by omega) fun k hk=>hnb k (by omega))
        have hs7:=iA.size
        have lL:=Ir.out sa sc w7 hS
        rw [show ∀ q:Ev,(d'.eV++[q]).length=d'.eV.length+1 from fun q=>by simp] at lL
        have Iq:=h_ lL
        have OP:=h_ (fun(w8:Sl) (h:Kept (fun b=>(Sx d'.ea d'.eV.length d'.ec).ownBlock=some b∨w7.heap.size≤b) w6 w8)=>h)
        have R7:=h_ r7
        have X7:=h_ x7
        have Z7:=h_ z7
        have FM:=h_ iP
        have IS:=h_ iA
        clear r7 x7 z7 iP lL hown' hgrow hat FU hnb fe c6 X6 Z6 Ir OP hS iA
        go_wp2_with fail
        refine Iq.out.mono ?_
        rintro e w8 ⟨v,ys,rfl,hgr,hperm,hsrt⟩
        obtain⟨ta,tc,hv,Dp⟩:=aA (k:=7) (enc:=Ev.enc) (Ok:=Ev.lies) (fun _=>rfl) hgr.1 (fun z hz=>(hgr.2.1 z hz).1)
        subst hv
        have gP:=hgr.2.2
        have JC:=gP.size
        have r8:=(gP.block w.heap.size (by omega)).trans R7.out
        have x8:=(gP.block (w.heap.size+1) (by omega)).trans X7.out
        have z8:=(gP.block (w.heap.size+1+1) (by omega)).trans Z7.out
        have Av:Sr w.heap.size w w8:=FM.out.trans (gP.mono (by omega))
        have f8:∀ j,w8.frozen? ⟨w.heap.size,j,none⟩=false:=fun j=>by simp [Sw,r8]
        have c8:∀ j,w8.cell? ⟨w.heap.size,j,none⟩=_:=fun j=>Sh _ _ j _ 27 (0,0) r8
        obtain⟨D2,hD2⟩:∃ D2:Doc,D2={ D1 with ea:=ta,ec:=tc,eV:=ys }:=⟨_,rfl⟩
        have r9:=heap_setCell_same w8 w.heap.size 6 _ 27 (.slice ta ys.length tc) r8
        rw [show D1.enc.toArray.setIfInBounds 6 (.slice ta ys.length tc)=D2.enc.toArray from by rw [hD2];rfl] at r9
        have fh:Kept (fun b=>b=w.heap.size) w8 (w8.setCell ⟨w.heap.size,6,none⟩ (.slice ta ys.length tc)):=bH (Kept.refl _ _) 6 _
        have R9:=h_ r9
        have lO:=h_ fh
        have X8:=h_ x8
        have Z8:=h_ z8
        have L4:=h_ Av
        have A_:=h_ Dp
        have lP:=h_ hgr
        have Bc:=h_ (Sv hperm hsrt)
        have HD2:=h_ hD2
        clear r9 fh x8 z8 Av Dp hgr hperm hsrt hD2 r8 gP R7 X7 Z7 FM Iq
        go_upto_region 22 with fail
        generalize w8.setCell ⟨w.heap.size,6,none⟩ (.slice ta ys.length tc)=w9 at *
        clear f8 c8
        have uD:=lO.out.size
        have x9:=(lO.out.block (w.heap.size+1) (by omega) (by omega)).trans X8.out
        have z9:=(lO.out.block (w.heap.size+1+1) (by omega) (by omega)).trans Z8.out
        have jo:=h_ (fun(w':Sl) (q:Kept (fun b=>b=w.heap.size+1+1) w9 w')=>ai ((q.block w.heap.size (by omega) (by omega)).trans R9.out))
        have fy:∀ w',Kept (fun b=>b=w.heap.size+1+1) w9 w'→w'.cell? ⟨w.heap.size+1,0,none⟩=some (.int .i64 yid):=fun w' q=>Sh _ _ 0 _ 72 (0,0) ((q.block (w.heap.size+1) (by omega) (by omega)).trans x9)
        have hd0:Kept (fun b=>b=w.heap.size+1+1) w9 w9.drew:=Kept.of_below ((Su _ _).drew)
        have z9':w9.drew.heap[w.heap.size+1+1]? =some (.cells zeD 27 (0,0)):=z9
        refine Sp (S:=fun w'=>Kept (fun b=>b=w.heap.size+1+1) w9 w') (by kernel_rfl) hd0 (fun _=>?_)
        refine ab 0 (.agg D2.enc.toArray) hd0 ?_ (hy:=Sq (by rfl) 27 (.tmp 2) rfl w.heap.size 0 rfl D2.enc _ (fun w_ h_=>jo.out w_ h_) Tryz.underlying27 rfl ag)
        refine ab 1 (.pointer (some ⟨w.heap.size+1,0,none⟩)) hd0 ?_
        refine ab 2 (.int .i64 yid) hd0 ?_ (hy:=.inl ⟨by rfl,fun w_ aH=>by have q_:=fy _ aH;go_simp⟩)
        refine aq 3 (fun K hK=>?_)
        rw [if_pos (by rfl)]
        refine wp_store_row 27 (.tmp 4) (.tmp 78) rfl (w.heap.size+1+1) D2.enc.toArray rfl rfl 27 _ z9' ag rfl aO ?_
        have hk10:Kept (fun b=>b=w.heap.size+1+1) w9 (w9.drew.setRow (w.heap.size+1+1) D2.enc.toArray):=hd0.trans (bj _ _ _) fun i _ e=>e
        refine goOn hK hk10 ?_
        clear hK
        refine ab 4 (.int .i64 yid) hk10 ?_
        refine ab 5 (.int .i64 0) hk10 ?_
        refine wpAnyH_done (by kernel_rfl) ?_ _
        have r10:=Sj w9.drew (w.heap.size+1+1) _ D2.enc.toArray 27 (0,0) z9'
        generalize w9.drew.setRow (w.heap.size+1+1) D2.enc.toArray=w10 at *
        have lY:=h_ (show Q (.returned (.tuple #[.agg D2.enc.toArray,.int .i64 yid,.int .i64 0])) w10 from by
         have hc:=wC.out
         have xI:=lP.out.2.2
         have hge:∀ b,iQ ta ys b→w7.heap.size≤b:=fun b hb=>by
          rcases hb with⟨_,ad,e,rfl⟩|⟨z,hz,hu⟩
          · exact(lP.out.1.lt ad.block (by rw [e];rfl)).1
          · exact((lP.out.2.1 z hz).2 b hu).2
         have hold:∀ b,b<w6.heap.size→w.heap.size+3≤b→¬ (Sx d'.ea d'.eV.length d'.ec).ownBlock=some b→w10.heap[b]? =w6.heap[b]?:=fun b h1 h2 h3=>by
          rw [hk10.block b (by omega) (by omega),lO.out.block b (by omega) (by omega),xI.block b (by omega),IS.out.block b h1 h3]
         have hsz:w9.heap.size≤w10.heap.size:=hk10.size
         have hs:ys.map Ev.c=de (d.c.eV++[insE d.c x.c]):=by
          have e1:d'.eV.map Ev.c=d.c.eV:=congrArg DocC.eV hc
          have hi:=Eb hie
          rw [←e1,←Fl.out] at hi ⊢
          have:=kI Bc.out.1 Bc.out.2 (by rw [List.map_append];exact hi)
          rw [this,List.map_append]
          rfl
         rw [←hQ]
         refine⟨D2,?_,?_,⟨?_,?_,?_⟩,?_,?_⟩
         · rw [if_pos hie,hie,←show yid=(insE d.c x.c).id from congrArg EvC.id Fl.out]
         · rw [qd,if_neg (fun h=>h hie),←hs,←show L=insL d.c x.c from lN.out,←hc,HD2.out,HD1.out]
           rfl
         · rw [HD2.out,HD1.out]
           refine ah.frame C9.out.1 (by omega) (fun b hb=>?_) (fun _ _ _=>trivial)
           have h1:=aP C9.out.1 hb
           have h2:=HU.out b (.inl hb)
           exact hold b h1 (by omega) (fun e=>(LA.out b e).1 hb)
         · rw [HD2.out,HD1.out]
           refine dG.frame A_.out (by omega) fun b hb=>?_
           have h1:=el A_.out hb
           have h2:=hge b hb
           rw [hk10.block b (by omega) (by omega),lO.out.block b (by omega) (by omega)]
         · rw [HD2.out,HD1.out]
           refine ah.frame C9.out.2.2 (by omega) (fun b hb=>?_) (fun _ _ _=>trivial)
           have h1:=aP C9.out.2.2 hb
           have h2:=HU.out b (.inr (.inr hb))
           exact hold b h1 (by omega) (fun e=>(LA.out b e).2 hb)
         · rw [HD2.out,HD1.out]
           intro b hb
           rcases hb with hb|hb|hb
           · have:=HU.out b (.inl hb);omega
           · have:=hge b hb;omega
           · have:=HU.out b (.inr (.inr hb));omega
         · exact(L4.out.trans (lO.out.below (by omega) fun b hb e=>by omega)).trans (hk10.below (by omega) fun b hb e=>by omega))
        clear hk10 z9 z9' x9 fy hd0 jo HD2 HD1 wC lP A_ IS lO Bc Fl FT aZ
        obtain⟨dt,dl,dr,dd,dla,dra,drc,dregs,dea,dec,devs,dca,dcc,dcms⟩:=D2
        simp only [Doc.enc] at r10 lY
        have fin4:∀ j,w10.cell? ⟨w.heap.size+1+1,j,none⟩=_:=fun j=>Sh _ _ j _ 27 (0,0) r10
        go_wp2_with fail
        refine Sk (v:=.tuple #[.agg #[.string dt,.string dl,.int .u8 dr,.bool dd,.int .i64 dla,.slice dra dregs.length drc,.slice dea devs.length dec,.slice dca dcms.length dcc],.int .i64 yid,.int .i64 0]) (by simp [results,Tryz.results31,go_sem,fin4]) rfl ?_
        exact lY.out
    · have HE:=h_ (bh.out EE (by rw [C_.out,if_pos hE0]) hE0 (w3.setRow (w.heap.size+1+1) zeD) (Sm cN (by omega) _))
      have z9:=Sj w3 (w.heap.size+1+1) _ zeD 27 (0,0) Z3.out
      have hne:(EE==0)=false:=by simpa using hE0
      have hne2:(EE != 0)=true:=by simpa using hE0
      clear dq bh cP aZ vo C_ HY lN
      go_wp2_with (refine Si rfl 27 (.tmp 4) (.tmp 65) rfl (w.heap.size+1+1) zeD rfl rfl 27 _ Z3.out ag rfl aO ?_)
      generalize w3.setRow (w.heap.size+1+1) zeD=w9 at *
      have fin4:∀ j,w9.cell? ⟨w.heap.size+1+1,j,none⟩=_:=fun j=>Sh _ _ j _ 27 (0,0) z9
      refine Sk (v:=.tuple #[.agg zeD,.int .i64 0,.int .i64 EE]) (by simp [results,Tryz.results31,go_sem,fin4]) rfl ?_
      exact HE.out
  · have HE:=h_ (bh.out q (LK.out h0) h0 (wc.setRow (w.heap.size+1+1) zeD) (Sm hbw2 (by omega) _))
    have z9:=Sj wc (w.heap.size+1+1) _ zeD 27 (0,0) Z2.out
    have hne:(q==0)=false:=by simpa using h0
    have hne2:(q != 0)=true:=by simpa using h0
    clear yz dq bh cP aZ LK LL hok Ds vo
    go_wp2_with (refine Si rfl 27 (.tmp 4) (.tmp 65) rfl (w.heap.size+1+1) zeD rfl rfl 27 _ Z2.out ag rfl aO ?_)
    generalize wc.setRow (w.heap.size+1+1) zeD=w9 at *
    have fin4:∀ j,w9.cell? ⟨w.heap.size+1+1,j,none⟩=_:=fun j=>Sh _ _ j _ 27 (0,0) z9
    refine Sk (v:=.tuple #[.agg zeD,.int .i64 0,.int .i64 q]) (by simp [results,Tryz.results31,go_sem,fin4]) rfl ?_
    exact HE.out
theorem u9 (d:Doc)(id fr til:Int)(au tx:ByteArray)(w:Sl)(hE:Env w)(hd:d.lies w)(hf:d.fits)(ha:au.size≤4000000)(ht:tx.size≤4000000) :
 Calls Tryz.prog 42 #[.agg d.enc.toArray,.int .i64 id,.int .i64 fr,.int .i64 til,.string au,.string tx] w (k_ d.c id fr til au tx w):=by
 have iK:=h_ (fun(w1:Sl) (h:Sr w.heap.size w w1)=>bR d w1 (hE.below h (Ss _)) (Doc.later hd h) hf)
 have ew:=h_ (fun(w1:Sl) (h:Sr w.heap.size w w1)=>cU d id w1 (Doc.later hd h).2.1 hf.2.2.2.2.2.2.2.2.1)
 have lN:=h_ (fun(o:Ev) (w1:Sl) (h:Sr w.heap.size w w1) (hl:o.lies w1) (hfo:o.fits)=>nk o w1 (hE.below h (Ss _)) hl hfo)
 have jd:=h_ (fun(w1:Sl)=>eK au w1 ha)
 have nG:=h_ (fun(w1:Sl) (h:Sr w.heap.size w w1)=>dM tx w1 ht (hE.below h (Ss _)))
 have dq:=h_ (fun(w1:Sl) (h:Sr w.heap.size w w1)=>dy d w1 (Doc.later hd h) hf)
 have bh:=h_ (fun(q:Int) (hq:bO d.c id fr til au tx=q∧q≠0) (w':Sl) (h:Sr w.heap.size w w')=>(show k_ d.c id fr til au tx w (.returned (.tuple #[.agg zeD,.int .i64 0,.int .i64 q])) w' from k_.bad hq.1 hq.2 h))
 have cP:=h_ (fun(d':Doc) (h:d'.c=d.c)=>bp h hf)
 have cQ:=h_ (oT w d.enc.toArray zeD)
 have hb2:∀ o1 o2:Obj,Sr w.heap.size w ((w.alloc o1).alloc o2):=fun o1 o2=>((Su _ _).alloc (Ss _) _).alloc (by simp) _
 have hsz2:∀ o1 o2:Obj,((w.alloc o1).alloc o2).heap.size=w.heap.size+2:=fun o1 o2=>by simp
 have aZ:=h_ (Sv hd hf)
 have kF:=h_ (gj d id)
 have Ao:=bw d
 have bF:=h_ (fun(h:a_ d≠0)=>(show bO d.c id fr til au tx=a_ d from by unfold bO;rw [if_pos (fun q=>h (Ao.trans q)),←Ao]))
 have C5:=h_ (fun(h:a_ d=0) (h2:aU d.c.eV id=none)=>(show bO d.c id fr til au tx=6 from by unfold bO;rw [if_neg (fun q=>q (Ao.symm.trans h)),h2]))
 have tC:=h_ (fun(o:Ev) (h:a_ d=0) (h2:aU d.c.eV id=some o.c)=>(show bO d.c id fr til au tx=if fr<0∨til≤fr∨gK o.rows<til then 2 else if c_ au=false then 5 else if bB tx=false then 10 else if tx.size=0 then 4
  else if 400<tx.size∨64≤d.cM.length∨1099511627776≤d.last then 9 else 0 from by
  unfold bO
  rw [if_neg (fun q=>q (Ao.symm.trans h)),h2]
  show(if fr<0∨til≤fr∨AP o.c<til then _ else _)=_
  rw [CF];rfl))
 have C7:=h_ (show bO d.c id fr til au tx=0→d.last<1099511627776 from fun h=>by
  by_cases h3:1099511627776≤d.last
  · exfalso
    unfold bO at h
    split at h
    · rename_i hn;exact hn h
    · split at h
      · cases h
      · repeat (split at h;· cases h)
        rename_i hn
        exact hn (.inr (.inr h3))
  · omega)
 have i64d:i64 d.last:=hf.2.2.2.2.1
 unfold i64 at i64d
 generalize Oj:bO d.c id fr til au tx=QE at *
 generalize hQ:k_ d.c id fr til au tx w=Q at bh ⊢
 clear hd hf hE Ao ha ht
 go_enter Tryz.func42,Tryz.ntmps42
 have hr0:=ai cQ.out.1
 go_wp2_with (refine aj 27 (.tmp 6) rfl w.heap.size 0 rfl d.enc _ hr0 Tryz.underlying27 rfl ag (by rfl) ?_)
 refine(iK.out _ (hb2 _ _)).mono ?_
 rintro e w1 ⟨rfl,hb1⟩
 rw [hsz2] at hb1
 have aK:Sr w.heap.size w w1:=(hb2 _ _).trans (hb1.mono (by omega))
 have r1:=(hb1.block w.heap.size (by omega)).trans cQ.out.1
 have z1:=(hb1.block (w.heap.size+1) (by omega)).trans cQ.out.2
 have hs1:w.heap.size+2≤w1.heap.size:=by have:=hb1.size;rw [hsz2] at this;exact this
 clear hb1 hr0 iK cQ hb2 hsz2
 have hr1:=ai r1
 have R1:=h_ r1
 have Z1:=h_ z1
 clear r1 z1
 generalize a_ d=DE at *
 by_cases h0:DE=0
 · subst h0
   clear bF
   go_wp2_with (refine aj 27 (.tmp 6) rfl w.heap.size 0 rfl d.enc _ hr1 Tryz.underlying27 rfl ag (by rfl) ?_)
   refine(ew.out w1 aK).mono ?_
   rintro e w2 ⟨rfl,hb2⟩
   have hbw2:Sr w.heap.size w w2:=aK.trans (hb2.mono aK.size)
   have r2:=(hb2.block w.heap.size (by omega)).trans R1.out
   have z2:=(hb2.block (w.heap.size+1) (by omega)).trans Z1.out
   have hs2:w.heap.size+2≤w2.heap.size:=by have:=hb2.size;omega
   have c6:w2.cell? ⟨w.heap.size,6,none⟩=some (.slice d.ea d.eV.length d.ec):=Sh _ _ 6 _ 27 (0,0) r2
   have c7:w2.cell? ⟨w.heap.size,7,none⟩=some (.slice d.ca d.cM.length d.cc):=Sh _ _ 7 _ 27 (0,0) r2
   have c4:w2.cell? ⟨w.heap.size,4,none⟩=some (.int .i64 d.last):=Sh _ _ 4 _ 27 (0,0) r2
   have R2:=h_ r2
   have Z2:=h_ z2
   clear hb2 hr1 R1 Z1 ew aK r2 z2 hs1
   have wB:=h_ Oj
   generalize posOf (iB id) d.eV=FI at *
   have hr2:=ai R2.out
   go_upto_block 0 with fail
   go_cut [17] from 27 to 73 (fun t17 wx=>t17=.int .i64 QE∧Sr w2.heap.size w2 wx)
   case first =>
    clear dq bh cP hr2
    rcases kF.out with⟨hp,hn⟩|⟨i,o,hp,hi,hn⟩
    · subst hp
      have hqe:=C5.out (by first|rfl|trivial) hn
      have HE:=h_ (show QE=6 from hqe)
      clear kF C5 tC lN jd nG hqe hn c6 c7 c4 aZ wB
      go_wp2_with fail
      go_meet
      exact⟨by rw [HE.out],Su _ _⟩
    · subst hp
      have hqe:=tC.out o (by first|rfl|trivial) hn
      have hi0:(0:Int)≤(i:Int):=by omega
      have hil:i<d.eV.length:=(List.getElem?_eq_some_iff.1 hi).1
      have hld:=Doc.later aZ.out.1 hbw2
      obtain⟨b0,off,o',ha,_,hx2,hcx,hol⟩:=ah.at_ hld.2.1 hil
      rw [hi] at hx2
      obtain rfl:=Option.some.inj hx2
      rw [ha] at c6
      have hro:w2.rangeAt b0 (off+i*7) o.enc:=fun q v hv=>hcx q v hv
      have hle:d.eV.length≤4000000:=aZ.out.2.2.2.2.2.2.2.2.2.1
      have hfo:o.fits:=aZ.out.2.2.2.2.2.2.2.2.1 o (List.mem_of_getElem? hi)
      have vl:=h_ (lN.out o w2 hbw2 hol hfo)
      clear kF C5 tC lN hn hi hld hcx hol hfo ha hx2 aZ
      generalize gK o.rows=L at *
      by_cases hA:fr<0
      · rw [if_pos (.inl hA)] at hqe
        have HE:=h_ (show QE=2 from hqe)
        clear jd nG vl hqe hro c6 c7 c4
        go_wp2_with fail
        go_meet
        exact⟨by rw [HE.out],Su _ _⟩
      · have hA2:0≤fr:=by omega
        by_cases hB:til≤fr
        · rw [if_pos (.inr (.inl hB))] at hqe
          have HE:=h_ (show QE=2 from hqe)
          clear jd nG vl hqe hro c6 c7 c4
          go_wp2_with fail
          go_meet
          exact⟨by rw [HE.out],Su _ _⟩
        · have hB2:fr<til:=by omega
          have th:=h_ hqe
          clear hqe
          go_wp2_with (refine aj 72 (.tmp 43) rfl b0 (off+i*7) rfl o.enc _ hro Tryz.underlying72 rfl aX (by rfl) ?_)
          refine vl.out.mono ?_
          rintro e w3 ⟨rfl,hb3⟩
          have c73:w3.cell? ⟨w.heap.size,7,none⟩=some (.slice d.ca d.cM.length d.cc):=(hb3.cell (p:=⟨w.heap.size,7,none⟩) (by simp only;omega)).trans c7
          have c43:w3.cell? ⟨w.heap.size,4,none⟩=some (.int .i64 d.last):=(hb3.cell (p:=⟨w.heap.size,4,none⟩) (by simp only;omega)).trans c4
          have hqe:=th.out
          clear vl hro c6 c7 c4 th
          by_cases hC:L<til
          · rw [if_pos (.inr (.inr hC))] at hqe
            have HE:=h_ (show QE=2 from hqe)
            clear jd nG hqe c73 c43
            go_wp2_with fail
            go_meet
            exact⟨by rw [HE.out],hb3⟩
          · have hC2:til≤L:=by omega
            rw [if_neg (fun h=>by omega)] at hqe
            have cN:=hbw2.trans (hb3.mono hbw2.size)
            have th:=h_ hqe
            have Fo:=h_ (nG.out w3 cN)
            have IF:=h_ (jd.out w3)
            clear hqe jd nG
            go_wp2_with fail
            refine IF.out.mono ?_
            rintro e w_ ⟨rfl,rfl⟩
            have hqe:=th.out
            clear th IF
            generalize c_ au=NA at *
            cases NA with
            | false =>
              rw [if_pos rfl] at hqe
              have HE:=h_ (show QE=5 from hqe)
              clear Fo hqe c73 c43
              go_wp2_with fail
              go_meet
              exact⟨by rw [HE.out],hb3⟩
            | true =>
              rw [if_neg (fun h=>absurd h (by decide))] at hqe
              have th:=h_ hqe
              clear hqe
              go_wp2_with fail
              refine Fo.out.mono ?_
              rintro e w4 ⟨rfl,hb4⟩
              have hB4:Sr w2.heap.size w2 w4:=hb3.trans (hb4.mono hb3.size)
              have c74:w4.cell? ⟨w.heap.size,7,none⟩=some (.slice d.ca d.cM.length d.cc):=(hb4.cell (p:=⟨w.heap.size,7,none⟩) (by have:=hb3.size;simp only;omega)).trans c73
              have c44:w4.cell? ⟨w.heap.size,4,none⟩=some (.int .i64 d.last):=(hb4.cell (p:=⟨w.heap.size,4,none⟩) (by have:=hb3.size;simp only;omega)).trans c43
              have hqe:=th.out
              clear th Fo c73 c43 hb4
              generalize bB tx=VA at *
              cases VA with
              | false =>
                rw [if_pos rfl] at hqe
                have HE:=h_ (show QE=10 from hqe)
                clear hqe c74 c44
                go_wp2_with fail
                go_meet
                exact⟨by rw [HE.out],hB4⟩
              | true =>
                rw [if_neg (fun h=>absurd h (by decide))] at hqe
                by_cases ht:tx=ByteArray.empty
                · have htn:tx.toList.isEmpty=true:=by rw [ht,←Sn];exact decide_eq_true rfl
                  rw [if_pos (show tx.size=0 from by rw [ht];rfl)] at hqe
                  have HE:=h_ (show QE=4 from hqe)
                  clear hqe c74 c44 ht
                  go_wp2_with fail
                  go_meet
                  exact⟨by rw [HE.out],hB4⟩
                · have htn:tx.toList.isEmpty=false:=by
                   rw [←Sn];exact decide_eq_false ht
                  rw [if_neg (fun h=>ht (by obtain⟨a⟩:=tx;have:a=#[]:=Array.eq_empty_of_size_eq_zero h;rw [this];rfl))] at hqe
                  by_cases h1:400<tx.size
                  · rw [if_pos (.inl h1)] at hqe
                    have h1':(400:Int)<(tx.size:Int):=by omega
                    have HE:=h_ (show QE=9 from hqe)
                    clear hqe c74 c44
                    go_wp2_with fail
                    go_meet
                    exact⟨by rw [HE.out],hB4⟩
                  · have h1':(tx.size:Int)≤400:=by omega
                    have h1'':¬ (400:Int)<(tx.size:Int):=by omega
                    by_cases h2:64≤d.cM.length
                    · rw [if_pos (.inr (.inl h2))] at hqe
                      have h2':(64:Int)≤(d.cM.length:Int):=by omega
                      have HE:=h_ (show QE=9 from hqe)
                      clear hqe
                      go_wp2_with (refine eh (.tmp 65) 25 rfl d.ca d.cM.length d.cc rfl Tryz.underlying25 (by rfl) ?_)
                      go_meet
                      exact⟨by rw [HE.out],hB4⟩
                    · have h2':(d.cM.length:Int)<64:=by omega
                      have h2'':¬ (64:Int)≤(d.cM.length:Int):=by omega
                      by_cases h3:1099511627776≤d.last
                      · rw [if_pos (.inr (.inr h3))] at hqe
                        have HE:=h_ (show QE=9 from hqe)
                        clear hqe
                        go_wp2_with (refine eh (.tmp 65) 25 rfl d.ca d.cM.length d.cc rfl Tryz.underlying25 (by rfl) ?_)
                        go_meet
                        exact⟨by rw [HE.out],hB4⟩
                      · rw [if_neg (fun h=>by omega)] at hqe
                        have HE:=h_ (show QE=0 from hqe)
                        clear hqe
                        go_wp2_with (refine eh (.tmp 65) 25 rfl d.ca d.cM.length d.cc rfl Tryz.underlying25 (by rfl) ?_)
                        go_meet
                        exact⟨by rw [HE.out],hB4⟩
   case rest =>
    obtain⟨rfl,hbc⟩:=hcut
    have cN:=hbw2.trans (hbc.mono hbw2.size)
    have r3:=(hbc.block w.heap.size (by omega)).trans R2.out
    have z3:=(hbc.block (w.heap.size+1) (by omega)).trans Z2.out
    have hs3:w.heap.size+2≤wc.heap.size:=by have:=hbc.size;omega
    have R3:=h_ r3
    have Z3:=h_ z3
    clear kF C5 tC lN jd nG c6 c7 c4 R2 Z2 hbw2 r3 z3 hbc hr2
    by_cases hq:QE=0
    · subst hq
      have hl0:=C7.out rfl
      clear bh C7
      have hr3:=ai R3.out
      go_wp2_with (refine aj 27 (.tmp 6) rfl w.heap.size 0 rfl d.enc _ hr3 Tryz.underlying27 rfl ag (by rfl) ?_)
      refine(dq.out wc cN).mono ?_
      rintro e w4 ⟨d',rfl,hc',hl',hu',hb4,hap,hoe,hoc,hox,hoy⟩
      have eu:=cP.out d' hc'
      have bP:Sr w.heap.size w w4:=cN.trans (hb4.mono cN.size)
      have r4:=(hb4.block w.heap.size (by omega)).trans R3.out
      have z4:=(hb4.block (w.heap.size+1) (by omega)).trans Z3.out
      have hs4:wc.heap.size≤w4.heap.size:=hb4.size
      clear hr3 R3 Z3 dq cN cP hb4
      go_upto_region 21 with(refine Si rfl 27 (.tmp 6) (.tmp 79) rfl (w.heap.size) (d'.enc.toArray) rfl rfl 27 _ r4 ag rfl aO ?_)
      have hk5:Kept (fun b=>b=w.heap.size) w4 (w4.setRow w.heap.size d'.enc.toArray):=bj w4 w.heap.size d'.enc.toArray
      have r5:=Sj w4 w.heap.size _ d'.enc.toArray 27 (0,0) r4
      generalize w4.setRow w.heap.size d'.enc.toArray=w5 at *
      have hs5:=hk5.size
      have hl5:d'.lies w5:=Doc.frame hl' hs5 fun b hb=>hk5.block b (Doc.uses_lt hl' hb) (by have:=hu' b hb;omega)
      have oc5:=aB hoc fun b q=>hk5.block b (hoc.lt b q).2 (by have:=(hoc.lt b q).1;omega)
      have z5:=(hk5.block (w.heap.size+1) (by omega) (by omega)).trans z4
      have hb5:Sr w.heap.size w w5:=bP.trans (hk5.below (by omega) fun k hk e=>by omega)
      clear hl' r4 z4 hk5 hoe hoc bP
      have f5:∀ j,w5.frozen? ⟨w.heap.size,j,none⟩=false:=fun j=>by simp [Sw,r5]
      have hlast:d'.last=d.last:=congrArg (fun q=>q.hd.last) hc'
      have c5:∀ j,w5.cell? ⟨w.heap.size,j,none⟩=_:=fun j=>Sh _ _ j _ 27 (0,0) r5
      have c54:w5.cell? ⟨w.heap.size,4,none⟩=some (.int .i64 d.last):=by rw [←hlast];exact c5 4
      have wr1:IntKind.i64.wrap (d.last+1)=d.last+1:=by rw [IntKind.wrap_i64];omega
      obtain⟨D1,hD1⟩:∃ D1:Doc,D1={ d' with last:=d.last+1 }:=⟨_,rfl⟩
      have r6:=heap_setCell_same w5 w.heap.size 4 _ 27 (.int .i64 (d.last+1)) r5
      rw [show d'.enc.toArray.setIfInBounds 4 (.int .i64 (d.last+1))=D1.enc.toArray from by rw [hD1];rfl] at r6
      have ts:Kept (fun b=>b=w.heap.size) w5 (w5.setCell ⟨w.heap.size,4,none⟩ (.int .i64 (d.last+1))):=bH (Kept.refl _ _) 4 _
      have R6:=h_ r6
      have jr:=h_ ts
      have nT:=h_ hl5
      have OC5:=h_ oc5
      have Z5:=h_ z5
      have iL:=h_ hb5
      have HU:=h_ hu'
      have lZ:=h_ hap
      have ew:=h_ eu
      have wC:=h_ hc'
      have MU:=h_ hoy
      have HD1:=h_ hD1
      clear r6 ts hl5 oc5 z5 hb5 hu' hap eu hc' r5 hox hoy hD1 hlast c5
      go_upto_region 22 with fail
      generalize w5.setCell ⟨w.heap.size,4,none⟩ (.int .i64 (d.last+1))=w6 at *
      clear f5 c54
      have hs6:=jr.out.size
      have vQ:d'.lies w6:=Doc.frame nT.out hs6 fun b hb=>jr.out.block b (Doc.uses_lt nT.out hb) (by have:=HU.out b hb;omega)
      have hle2:d'.cM.length≤4000000:=ew.out.2.2.2.2.2.2.2.2.2.2
      have oc6:=aB OC5.out fun b q=>jr.out.block b (OC5.out.lt b q).2 (by have:=(OC5.out.lt b q).1;omega)
      have z6:=(jr.out.block (w.heap.size+1) (by omega) (by omega)).trans Z5.out
      have hb6:Sr w.heap.size w w6:=iL.out.trans (jr.out.below (by omega) fun b hb e=>by omega)
      have c7:w6.cell? ⟨w.heap.size,7,none⟩=some (.slice d'.ca d'.cM.length d'.cc):=by
       have h:=Sh _ _ 7 _ 27 (0,0) R6.out
       rw [HD1.out] at h
       exact h
      have c4:w6.cell? ⟨w.heap.size,4,none⟩=some (.int .i64 (d.last+1)):=by
       have h:=Sh _ _ 4 _ 27 (0,0) R6.out
       rw [HD1.out] at h
       exact h
      obtain⟨j0,hj,hy0,hy1,hy2⟩:=info_parts Tryz.info102
      have JI:=h_ hj
      have J0:=h_ hy0
      have J1:=h_ hy1
      have J2:=h_ hy2
      have OC6:=h_ oc6
      have C9:=h_ vQ
      have Z6:=h_ z6
      have Dd:=h_ hb6
      have Kz:wc.heap.size≤w6.heap.size:=by omega
      have FU:=h_ (fun(o:Obj) (w7:Sl) (v':Value) (cs:Array Value) hcs hown hg=>Fa (d:=d') (y:=⟨d.last+1,id,fr,til,au,tx,false,false⟩) (w6:=w6) (w7:=w7) (v':=v') (cs:=cs) (B:=wc.heap.size) (o:=o) hcs hown hg)
      clear hj hy0 hy1 hy2 oc6 z6 hb6 vQ ew iL Z5 OC5 nT jr hs6 hs5
      go_wp2_with (at_builtin;refine fi _ _ rfl (.tmp 85) (.tmp 94) 25 rfl wc.heap.size 102 j0 _ 8 72 Tryz.underlying25 JI.out J0.out J1.out J2.out rfl (by decide) _ _ _ rfl OC6.out _ rfl rfl rfl ?h1 ?h63 ?hb ?hbase ?_)
      case h1=>first|exact⟨rfl,rfl,rfl,rfl,rfl,rfl,rfl,rfl⟩|exact⟨rfl,rfl,rfl,rfl,rfl,rfl,rfl⟩|(intro u hu;simp at hu;rcases hu with rfl|rfl|rfl|rfl|rfl|rfl|rfl|rfl<;>rfl)|(intro u hu;simp at hu;rcases hu with rfl|rfl|rfl|rfl|rfl|rfl|rfl<;>rfl)
      case h63=>unfold maxLen;omega
      case hb=>omega
      case hbase=>omega
      intro v' w7 hown' hgrow hat
      obtain⟨sa,sc,rfl,hS,iA,Mx⟩:=FU.out _ w7 v' _ rfl hown' hgrow
      have hnb:∀ b,b<w.heap.size+2→¬ (Sx d'.ca d'.cM.length d'.cc).ownBlock=some b:=fun b hb e=>by have:=(OC6.out.lt b e).1;omega
      have r7:=(iA.block w.heap.size (by omega) (hnb _ (by omega))).trans R6.out
      have z7:=(iA.block (w.heap.size+1) (by omega) (hnb _ (by omega))).trans Z6.out
      have iP:Sr w.heap.size w w7:=Dd.out.trans (iA.below (by omega) fun k hk=>hnb k (by omega))
      have hs7:=iA.size
      have f7:∀ j,w7.frozen? ⟨w.heap.size,j,none⟩=false:=fun j=>by simp [Sw,r7]
      have c8:∀ j,w7.cell? ⟨w.heap.size,j,none⟩=_:=fun j=>Sh _ _ j _ 27 (0,0) r7
      obtain⟨D2,hD2⟩:∃ D2:Doc,D2={ D1 with ca:=sa,cc:=sc,cM:=d'.cM++[⟨d.last+1,id,fr,til,au,tx,false,false⟩] }:=⟨_,rfl⟩
      have r9:=heap_setCell_same w7 w.heap.size 7 _ 27 (.slice sa (d'.cM.length+1) sc) r7
      rw [show D1.enc.toArray.setIfInBounds 7 (.slice sa (d'.cM.length+1) sc)=D2.enc.toArray from by rw [hD2];simp [Doc.enc]] at r9
      have fh:Kept (fun b=>b=w.heap.size) w7 (w7.setCell ⟨w.heap.size,7,none⟩ (.slice sa (d'.cM.length+1) sc)):=bH (Kept.refl _ _) 7 _
      have R9:=h_ r9
      have lO:=h_ fh
      have Z7:=h_ z7
      have FM:=h_ iP
      have IS:=h_ iA
      have HS:=h_ (Sv hS Mx)
      have HD2:=h_ hD2
      clear r9 fh z7 iP iA hS Mx hD2 r7 hown' hgrow hat FU hnb c7 c4 Z6
      go_upto_region 23 with fail
      generalize w7.setCell ⟨w.heap.size,7,none⟩ (.slice sa (d'.cM.length+1) sc)=w9 at *
      clear f7 c8
      have uD:=lO.out.size
      have z9:=(lO.out.block (w.heap.size+1) (by omega) (by omega)).trans Z7.out
      have jo:=h_ (fun(w':Sl) (q:Kept (fun b=>b=w.heap.size+1) w9 w')=>ai ((q.block w.heap.size (by omega) (by omega)).trans R9.out))
      have hdl:D2.last=d.last+1:=by rw [HD2.out,HD1.out]
      have fy:∀ w',Kept (fun b=>b=w.heap.size+1) w9 w'→w'.cell? ⟨w.heap.size,4,none⟩=some (.int .i64 (d.last+1)):=fun w' q=>by
       have:=Sh w' w.heap.size 4 _ 27 (0,0) ((q.block w.heap.size (by omega) (by omega)).trans R9.out)
       rw [←hdl];exact this
      have hd0:Kept (fun b=>b=w.heap.size+1) w9 w9.drew:=Kept.of_below ((Su _ _).drew)
      have z9':w9.drew.heap[w.heap.size+1]? =some (.cells zeD 27 (0,0)):=z9
      refine Sp (S:=fun w'=>Kept (fun b=>b=w.heap.size+1) w9 w') (by kernel_rfl) hd0 (fun _=>?_)
      refine ab 0 (.agg D2.enc.toArray) hd0 ?_ (hy:=Sq (by rfl) 27 (.tmp 6) rfl w.heap.size 0 rfl D2.enc _ (fun w_ h_=>jo.out w_ h_) Tryz.underlying27 rfl ag)
      refine ab 1 (.pointer (some ⟨w.heap.size,4,none⟩)) hd0 ?_
      refine ab 2 (.int .i64 (d.last+1)) hd0 ?_ (hy:=.inl ⟨by rfl,fun w_ aH=>by have q_:=fy _ aH;go_simp⟩)
      refine aq 3 (fun K hK=>?_)
      rw [if_pos (by rfl)]
      refine wp_store_row 27 (.tmp 12) (.tmp 97) rfl (w.heap.size+1) D2.enc.toArray rfl rfl 27 _ z9' ag rfl aO ?_
      have hk10:Kept (fun b=>b=w.heap.size+1) w9 (w9.drew.setRow (w.heap.size+1) D2.enc.toArray):=hd0.trans (bj _ _ _) fun i _ e=>e
      refine goOn hK hk10 ?_
      clear hK
      refine ab 4 (.int .i64 (d.last+1)) hk10 ?_
      refine ab 5 (.int .i64 0) hk10 ?_
      refine wpAnyH_done (by kernel_rfl) ?_ _
      have r10:=Sj w9.drew (w.heap.size+1) _ D2.enc.toArray 27 (0,0) z9'
      generalize w9.drew.setRow (w.heap.size+1) D2.enc.toArray=w10 at *
      have lY:=h_ (show Q (.returned (.tuple #[.agg D2.enc.toArray,.int .i64 (d.last+1),.int .i64 0])) w10 from by
       have hc:=wC.out
       have hold:∀ b,b<w6.heap.size→w.heap.size+2≤b→¬ (Sx d'.ca d'.cM.length d'.cc).ownBlock=some b→w10.heap[b]? =w6.heap[b]?:=fun b h1 h2 h3=>by
        rw [hk10.block b (by omega) (by omega),lO.out.block b (by omega) (by omega),IS.out.block b h1 h3]
       have hnew:∀ b,b<w7.heap.size→w.heap.size+2≤b→w10.heap[b]? =w7.heap[b]?:=fun b h1 h2=>by
        rw [hk10.block b (by omega) (by omega),lO.out.block b (by omega) (by omega)]
       have hsz:w9.heap.size≤w10.heap.size:=hk10.size
       have hE0:bO d.c id fr til au tx=0:=wB.out
       rw [←hQ]
       refine⟨D2,?_,?_,⟨?_,?_,?_⟩,?_,?_⟩
       · rw [if_pos hE0,hE0];rfl
       · unfold fT
         rw [if_neg (fun h=>h hE0),HD2.out,HD1.out]
         show({ { d'.c with hd:={ d'.c.hd with last:=d.last+1 } } with cM:=d'.c.cM++[⟨d.last+1,id,fr,til,au,tx,false,false⟩] }:DocC)=_
         rw [hc];rfl
       · rw [HD2.out,HD1.out]
         refine ah.frame C9.out.1 (by omega) (fun b hb=>?_) (fun _ _ _=>trivial)
         have h1:=aP C9.out.1 hb
         have h2:=HU.out b (.inl hb)
         exact hold b h1 (by omega) (fun e=>(MU.out b e).1 hb)
       · rw [HD2.out,HD1.out]
         refine dG.frame C9.out.2.1 (by omega) fun b hb=>?_
         have h1:=el C9.out.2.1 hb
         have h2:=HU.out b (.inr (.inl hb))
         exact hold b h1 (by omega) (fun e=>(MU.out b e).2 hb)
       · rw [HD2.out,HD1.out]
         refine ah.frame HS.out.1 (by omega) (fun b hb=>?_) (fun _ _ _=>trivial)
         have h1:=aP HS.out.1 hb
         have h2:=HS.out.2 b hb
         exact hnew b h1 (by omega)
       · rw [HD2.out,HD1.out]
         intro b hb
         rcases hb with hb|hb|hb
         · have:=HU.out b (.inl hb);omega
         · have:=HU.out b (.inr (.inl hb));omega
         · have:=HS.out.2 b hb;omega
       · exact(FM.out.trans (lO.out.below (by omega) fun b hb e=>by omega)).trans (hk10.below (by omega) fun b hb e=>by omega))
      clear hk10 z9 z9' fy hd0 jo HD2 HD1 wC HS IS lO aZ hdl
      obtain⟨dt,dl,dr,dd,dla,dra,drc,dregs,dea,dec,devs,dca,dcc,dcms⟩:=D2
      simp only [Doc.enc] at r10 lY
      have fin4:∀ j,w10.cell? ⟨w.heap.size+1,j,none⟩=_:=fun j=>Sh _ _ j _ 27 (0,0) r10
      go_wp2_with fail
      refine Sk (v:=.tuple #[.agg #[.string dt,.string dl,.int .u8 dr,.bool dd,.int .i64 dla,.slice dra dregs.length drc,.slice dea devs.length dec,.slice dca dcms.length dcc],.int .i64 (d.last+1),.int .i64 0]) (by simp [results,Tryz.results42,go_sem,fin4]) rfl ?_
      exact lY.out
    · have hne:(QE != 0)=true:=by simpa using hq
      have HE:=h_ (bh.out (QE) ⟨(by first|rfl|trivial),hq⟩ (wc.setRow (w.heap.size+1) zeD) (Sm cN (by omega) _))
      have z9:=Sj wc (w.heap.size+1) _ zeD 27 (0,0) Z3.out
      clear cP dq bh aZ C7
      go_wp2_with (refine Si rfl 27 (.tmp 12) (.tmp 76) rfl (w.heap.size+1) zeD rfl rfl 27 _ Z3.out ag rfl aO ?_)
      generalize wc.setRow (w.heap.size+1) zeD=w9 at *
      have fin4:∀ j,w9.cell? ⟨w.heap.size+1,j,none⟩=_:=fun j=>Sh _ _ j _ 27 (0,0) z9
      refine Sk (v:=.tuple #[.agg zeD,.int .i64 0,.int .i64 (QE)]) (by simp [results,Tryz.results42,go_sem,fin4]) rfl ?_
      exact HE.out
 · have hne:(DE != 0)=true:=by simpa using h0
   have HE:=h_ (bh.out (DE) ⟨bF.out h0,h0⟩ (w1.setRow (w.heap.size+1) zeD) (Sm aK (by omega) _))
   have z9:=Sj w1 (w.heap.size+1) _ zeD 27 (0,0) Z1.out
   clear bF C5 tC lN jd nG cP dq bh aZ C7 hr1 ew kF
   go_wp2_with (refine Si rfl 27 (.tmp 12) (.tmp 22) rfl (w.heap.size+1) zeD rfl rfl 27 _ Z1.out ag rfl aO ?_)
   generalize w1.setRow (w.heap.size+1) zeD=w9 at *
   have fin4:∀ j,w9.cell? ⟨w.heap.size+1,j,none⟩=_:=fun j=>Sh _ _ j _ 27 (0,0) z9
   refine Sk (v:=.tuple #[.agg zeD,.int .i64 0,.int .i64 (DE)]) (by simp [results,Tryz.results42,go_sem,fin4]) rfl ?_
   exact HE.out
end Go.Proofs.YtjebaagkomejaaaGreatDoor
