/- document.Same of any two documents: whether their contents are equal. comment.Add: a document with one comment more. comment.Add: a document with one comment more. history: Doc, Depth, Saved, Save, New. history: Do and Replace. -/
import Derived.Test.YtjebaagkomejaaaGreatDoorK22
import Derived.Test.YtjebaagkomejaaaGreatDoorK23
set_option linter.unusedVariables false
set_option linter.unusedSimpArgs false
set_option maxRecDepth 100000
set_option maxHeartbeats 12800000
open Go.Lib renaming hid→h_
open List renaming setIfInBounds_toArray→YA,getElem_cons_zero→YB,getElem_cons_succ→YC,getElem_toArray→YD,set_cons_zero→YE,set_cons_succ→YF
open Array renaming toArray_toList→YG
open Go.Lib renaming allEq→Sj
open Bool renaming and_eq_true→Sk
open List renaming map_id→Sl
open Go renaming cell_of_row→Sm,World→Sn,bodyPost_ret→Sp,wpList_store_row→Sq,setRow_heap→Sr,below_setRow→Ss,Calls→St,decide_eq_emptyBytes→Su,wp_region_held_drew→Sv
open Go.RowKit renaming Below→Sw
open Go.Value renaming slice→Sx
open Nat renaming le_refl→Sy
open Go.RowKit.Below renaming refl→Sz
namespace Go.Proofs.YtjebaagkomejaaaGreatDoor
open Go.RowKit
attribute [local go_sem ↓] Go.wp_at_zero Go.wp_at_succ
def oz (d d':Doc):Bool:=hdEq d.hd d'.hd&&(Sj gO d.rG d'.rG&&(Sj evEq d.eV d'.eV&&Sj cmEq d.cM d'.cM))
theorem kq {α β:Type} {eq:α→α→Bool} {f:α→β} (h:∀ x y,eq x y=true↔f x=f y):∀ xs ys:List α,Sj eq xs ys=true↔xs.map f=ys.map f
 | [],[]=>by simp [Sj]
 | [],y::l=>by simp [Sj]
 | x::l,[]=>by simp [Sj]
 | x::l,y::m=>by
   simp only [Sj,Sk,List.map_cons,List.cons.injEq,h,kq h l m]
theorem nz (d d':Doc):oz d d'=true↔d.c=d'.c:=by
 unfold oz
 rw [Sk,Sk,Sk]
 rw [kq (f:=id) (eq:=gO) fun x y=>⟨Gg,fun e=>(show x=y from e)▸pb _⟩,kq (f:=Ev.c) (eq:=evEq) fun x y=>⟨K6,Dl x y⟩,kq (f:=id) (eq:=cmEq) fun x y=>⟨K8,fun e=>(show x=y from e)▸tu _⟩,Sl,Sl,Sl,Sl]
 unfold Doc.c
 rw [DocC.mk.injEq]
 refine and_congr_left fun _=>⟨KO,fun e=>e▸sQ _⟩
end Go.Proofs.YtjebaagkomejaaaGreatDoor
namespace Go.Proofs.YtjebaagkomejaaaGreatDoor
open Go.RowKit
def kY (d:DocC)(id fr til:Int)(au tx:ByteArray)(w:Sn)(e:Ending)(w':Sn):Prop:=∃ d2:Doc,e=.returned (.tuple #[.agg d2.enc.toArray,.int .i64 (if bN d id fr til au tx=0 then d.hd.last+1 else 0),.int .i64 (bN d id fr til au tx)])∧d2.c=(fL d id fr til au tx).2∧d2.lies w'∧(∀ b,d2.uses b→w.heap.size≤b)∧Sw w.heap.size w w'
theorem kY.bad {d:DocC} {id fr til:Int} {au tx:ByteArray} {w w':Sn} {q:Int} (hq:bN d id fr til au tx=q)(h0:q≠0)(h:Sw w.heap.size w w'):kY d id fr til au tx w (.returned (.tuple #[.agg zDoc.enc.toArray,.int .i64 0,.int .i64 q])) w':=by
 subst hq
 exact⟨zDoc,by rw [if_neg h0],by unfold fL;rw [if_pos h0];rfl,jZ w',fun b=>jY b _,h⟩
theorem CI (x:Ev):A0 x.c=gC x.rows:=pz (congrArg EvC.rows (EvC.rep_c x.c))
theorem Fe {d:Doc} {y:Cm} {w6 w7:Sn} {v':Value} {cs:Array Value} {B:Nat} {o:Obj}
 (hcs:cs.toList=y.enc) (hown:w7.ownsRow B 102 8 v' (d.cM.length+1) (d.cM.flatMap Cm.enc++cs.toList)) (hg:(w6.alloc o).grownBy w7 (Sx d.ca d.cM.length d.cc).ownBlock) :
 ∃ a c,v'=.slice a (d.cM.length+1) c∧ah 8 Cm.enc Flat w7 a (d.cM++[y])∧Kept (fun b=>(Sx d.ca d.cM.length d.cc).ownBlock=some b) w6 w7∧(∀ b,bp a (d.cM++[y]) b→B≤b):=by
 obtain⟨a,c,hv,hS⟩:=aA (k:=8) (enc:=Cm.enc) (Ok:=Flat) (xs:=d.cM++[y]) (fun _=>rfl) (by simpa [hcs] using hown) (fun _ _=>trivial)
 have hk1:Kept (fun b=>(Sx d.ca d.cM.length d.cc).ownBlock=some b) w6 (w6.alloc o):=(Kept.refl _ _).alloc _
 refine⟨a,c,by rw [hv];simp,hS,hk1.andGrown hg fun k hk _=>hk,fun b hb=>?_⟩
 obtain⟨_,ad,e,rfl⟩:=hb
 refine(hown.lt ad.block ?_).1
 rw [hv,e];rfl
theorem vz (d:Doc)(id fr til:Int)(au tx:ByteArray)(w:Sn)(hE:Env w)(hd:d.lies w)(hf:d.fits)(ha:au.size≤4000000)(ht:tx.size≤4000000) :
 St Tryz.prog 42 #[.agg d.enc.toArray,.int .i64 id,.int .i64 fr,.int .i64 til,.string au,.string tx] w (kY d.c id fr til au tx w):=by
 have jb:=h_ (fun(w1:Sn) (h:Sw w.heap.size w w1)=>b_ d w1 (hE.below h (Sy _)) (Doc.later hd h) hf)
 have eP:=h_ (fun(w1:Sn) (h:Sw w.heap.size w w1)=>cW d id w1 (Doc.later hd h).2.1 hf.2.2.2.2.2.2.2.2.1)
 have lK:=h_ (fun(o:Ev) (w1:Sn) (h:Sw w.heap.size w w1) (hl:o.lies w1) (hfo:o.fits)=>nu o w1 (hE.below h (Sy _)) hl hfo)
 have i_:=h_ (fun(w1:Sn)=>eG au w1 ha)
 have nN:=h_ (fun(w1:Sn) (h:Sw w.heap.size w w1)=>dJ tx w1 ht (hE.below h (Sy _)))
 have dA:=h_ (fun(w1:Sn) (h:Sw w.heap.size w w1)=>dx d w1 (Doc.later hd h) hf)
 have bh:=h_ (fun(q:Int) (hq:bN d.c id fr til au tx=q∧q≠0) (w':Sn) (h:Sw w.heap.size w w')=>(show kY d.c id fr til au tx w (.returned (.tuple #[.agg zeD,.int .i64 0,.int .i64 q])) w' from kY.bad hq.1 hq.2 h))
 have cT:=h_ (fun(d':Doc) (h:d'.c=d.c)=>bn h hf)
 have dp:=h_ (o_ w d.enc.toArray zeD)
 have hb2:∀ o1 o2:Obj,Sw w.heap.size w ((w.alloc o1).alloc o2):=fun o1 o2=>((Sz _ _).alloc (Sy _) _).alloc (by simp) _
 have hsz2:∀ o1 o2:Obj,((w.alloc o1).alloc o2).heap.size=w.heap.size+2:=fun o1 o2=>by simp
 have aY:=h_ (And.intro hd hf)
 have kC:=h_ (fU d id)
 have AA:=bA d
 have bD:=h_ (fun(h:a_ d≠0)=>(show bN d.c id fr til au tx=a_ d from by unfold bN;rw [if_pos (fun q=>h (AA.trans q)),←AA]))
 have C3:=h_ (fun(h:a_ d=0) (h2:aT d.c.eV id=none)=>(show bN d.c id fr til au tx=6 from by unfold bN;rw [if_neg (fun q=>q (AA.symm.trans h)),h2]))
 have tY:=h_ (fun(o:Ev) (h:a_ d=0) (h2:aT d.c.eV id=some o.c)=>(show bN d.c id fr til au tx=if fr<0∨til≤fr∨gC o.rows<til then 2 else if da au=false then 5 else if bw tx=false then 10 else if tx.size=0 then 4
  else if 400<tx.size∨64≤d.cM.length∨1099511627776≤d.last then 9 else 0 from by
  unfold bN
  rw [if_neg (fun q=>q (AA.symm.trans h)),h2]
  show(if fr<0∨til≤fr∨A0 o.c<til then _ else _)=_
  rw [CI];rfl))
 have C5:=h_ (show bN d.c id fr til au tx=0→d.last<1099511627776 from fun h=>by
  by_cases h3:1099511627776≤d.last
  · exfalso
    unfold bN at h
    split at h
    · rename_i hn;exact hn h
    · split at h
      · cases h
      · repeat (split at h;· cases h)
        rename_i hn
        exact hn (.inr (.inr h3))
  · omega)
 have i64d:i64 d.last:=hf.2.2.2.2.1
 unfold i64 at i64d
 generalize Oo:bN d.c id fr til au tx=QE at *
 generalize hQ:kY d.c id fr til au tx w=Q at bh ⊢
 clear hd hf hE AA ha ht
 go_enter Tryz.func42,Tryz.ntmps42
 have hr0:=ai dp.out.1
 go_wp2_with (refine aj 27 (.tmp 6) rfl w.heap.size 0 rfl d.enc _ hr0 Tryz.underlying27 rfl ag (by rfl) ?_)
 refine(jb.out _ (hb2 _ _)).mono ?_
 rintro e w1 ⟨rfl,hb1⟩
 rw [hsz2] at hb1
 have aM:Sw w.heap.size w w1:=(hb2 _ _).trans (hb1.mono (by omega))
 have r1:=(hb1.block w.heap.size (by omega)).trans dp.out.1
 have z1:=(hb1.block (w.heap.size+1) (by omega)).trans dp.out.2
 have hs1:w.heap.size+2≤w1.heap.size:=by have:=hb1.size;rw [hsz2] at this;exact this
 clear hb1 hr0 jb dp hb2 hsz2
 have hr1:=ai r1
 have R1:=h_ r1
 have Z1:=h_ z1
 clear r1 z1
 generalize a_ d=DE at *
 by_cases h0:DE=0
 · subst h0
   clear bD
   go_wp2_with (refine aj 27 (.tmp 6) rfl w.heap.size 0 rfl d.enc _ hr1 Tryz.underlying27 rfl ag (by rfl) ?_)
   refine(eP.out w1 aM).mono ?_
   rintro e w2 ⟨rfl,hb2⟩
   have hbw2:Sw w.heap.size w w2:=aM.trans (hb2.mono aM.size)
   have r2:=(hb2.block w.heap.size (by omega)).trans R1.out
   have z2:=(hb2.block (w.heap.size+1) (by omega)).trans Z1.out
   have hs2:w.heap.size+2≤w2.heap.size:=by have:=hb2.size;omega
   have c6:w2.cell? ⟨w.heap.size,6,none⟩=some (.slice d.ea d.eV.length d.ec):=Sm _ _ 6 _ 27 (0,0) r2
   have c7:w2.cell? ⟨w.heap.size,7,none⟩=some (.slice d.ca d.cM.length d.cc):=Sm _ _ 7 _ 27 (0,0) r2
   have c4:w2.cell? ⟨w.heap.size,4,none⟩=some (.int .i64 d.last):=Sm _ _ 4 _ 27 (0,0) r2
   have R2:=h_ r2
   have Z2:=h_ z2
   clear hb2 hr1 R1 Z1 eP aM r2 z2 hs1
   have wZ:=h_ Oo
   generalize posOf (iu id) d.eV=FI at *
   have hr2:=ai R2.out
   go_upto_block 0 with fail
   go_cut [17] from 27 to 73 (fun t17 wx=>t17=.int .i64 QE∧Sw w2.heap.size w2 wx)
   case first =>
    clear dA bh cT hr2
    rcases kC.out with⟨hp,hn⟩|⟨i,o,hp,hi,hn⟩
    · subst hp
      have hqe:=C3.out (by first|rfl|trivial) hn
      have HE:=h_ (show QE=6 from hqe)
      clear kC C3 tY lK i_ nN hqe hn c6 c7 c4 aY wZ
      go_wp2_with fail
      go_meet
      exact⟨by rw [HE.out],Sz _ _⟩
    · subst hp
      have hqe:=tY.out o (by first|rfl|trivial) hn
      have hi0:(0:Int)≤(i:Int):=by omega
      have hil:i<d.eV.length:=(List.getElem?_eq_some_iff.1 hi).1
      have hld:=Doc.later aY.out.1 hbw2
      obtain⟨b0,off,o',ha,_,hx2,hcx,hol⟩:=ah.at_ hld.2.1 hil
      rw [hi] at hx2
      obtain rfl:=Option.some.inj hx2
      rw [ha] at c6
      have hro:w2.rangeAt b0 (off+i*7) o.enc:=fun q v hv=>hcx q v hv
      have hle:d.eV.length≤4000000:=aY.out.2.2.2.2.2.2.2.2.2.1
      have hfo:o.fits:=aY.out.2.2.2.2.2.2.2.2.1 o (List.mem_of_getElem? hi)
      have vL:=h_ (lK.out o w2 hbw2 hol hfo)
      clear kC C3 tY lK hn hi hld hcx hol hfo ha hx2 aY
      generalize gC o.rows=L at *
      by_cases hA:fr<0
      · rw [if_pos (.inl hA)] at hqe
        have HE:=h_ (show QE=2 from hqe)
        clear i_ nN vL hqe hro c6 c7 c4
        go_wp2_with fail
        go_meet
        exact⟨by rw [HE.out],Sz _ _⟩
      · have hA2:0≤fr:=by omega
        by_cases hB:til≤fr
        · rw [if_pos (.inr (.inl hB))] at hqe
          have HE:=h_ (show QE=2 from hqe)
          clear i_ nN vL hqe hro c6 c7 c4
          go_wp2_with fail
          go_meet
          exact⟨by rw [HE.out],Sz _ _⟩
        · have hB2:fr<til:=by omega
          have tG:=h_ hqe
          clear hqe
          go_wp2_with (refine aj 72 (.tmp 43) rfl b0 (off+i*7) rfl o.enc _ hro Tryz.underlying72 rfl aV (by rfl) ?_)
          refine vL.out.mono ?_
          rintro e w3 ⟨rfl,hb3⟩
          have c73:w3.cell? ⟨w.heap.size,7,none⟩=some (.slice d.ca d.cM.length d.cc):=(hb3.cell (p:=⟨w.heap.size,7,none⟩) (by simp only;omega)).trans c7
          have c43:w3.cell? ⟨w.heap.size,4,none⟩=some (.int .i64 d.last):=(hb3.cell (p:=⟨w.heap.size,4,none⟩) (by simp only;omega)).trans c4
          have hqe:=tG.out
          clear vL hro c6 c7 c4 tG
          by_cases hC:L<til
          · rw [if_pos (.inr (.inr hC))] at hqe
            have HE:=h_ (show QE=2 from hqe)
            clear i_ nN hqe c73 c43
            go_wp2_with fail
            go_meet
            exact⟨by rw [HE.out],hb3⟩
          · have hC2:til≤L:=by omega
            rw [if_neg (fun h=>by omega)] at hqe
            have cR:=hbw2.trans (hb3.mono hbw2.size)
            have tG:=h_ hqe
            have Fq:=h_ (nN.out w3 cR)
            have IA:=h_ (i_.out w3)
            clear hqe i_ nN
            go_wp2_with fail
            refine IA.out.mono ?_
            rintro e w_ ⟨rfl,rfl⟩
            have hqe:=tG.out
            clear tG IA
            generalize da au=NA at *
            cases NA with
            | false =>
              rw [if_pos rfl] at hqe
              have HE:=h_ (show QE=5 from hqe)
              clear Fq hqe c73 c43
              go_wp2_with fail
              go_meet
              exact⟨by rw [HE.out],hb3⟩
            | true =>
              rw [if_neg (fun h=>absurd h (by decide))] at hqe
              have tG:=h_ hqe
              clear hqe
              go_wp2_with fail
              refine Fq.out.mono ?_
              rintro e w4 ⟨rfl,hb4⟩
              have hB4:Sw w2.heap.size w2 w4:=hb3.trans (hb4.mono hb3.size)
              have c74:w4.cell? ⟨w.heap.size,7,none⟩=some (.slice d.ca d.cM.length d.cc):=(hb4.cell (p:=⟨w.heap.size,7,none⟩) (by have:=hb3.size;simp only;omega)).trans c73
              have c44:w4.cell? ⟨w.heap.size,4,none⟩=some (.int .i64 d.last):=(hb4.cell (p:=⟨w.heap.size,4,none⟩) (by have:=hb3.size;simp only;omega)).trans c43
              have hqe:=tG.out
              clear tG Fq c73 c43 hb4
              generalize bw tx=VA at *
              cases VA with
              | false =>
                rw [if_pos rfl] at hqe
                have HE:=h_ (show QE=10 from hqe)
                clear hqe c74 c44
                go_wp2_with fail
                go_meet
                exact⟨by rw [HE.out],hB4⟩
              | true =>
                rw [if_neg (fun h=>absurd h (by decide))] at hqe
                by_cases ht:tx=ByteArray.empty
                · have htn:tx.toList.isEmpty=true:=by rw [ht,←Su];exact decide_eq_true rfl
                  rw [if_pos (show tx.size=0 from by rw [ht];rfl)] at hqe
                  have HE:=h_ (show QE=4 from hqe)
                  clear hqe c74 c44 ht
                  go_wp2_with fail
                  go_meet
                  exact⟨by rw [HE.out],hB4⟩
                · have htn:tx.toList.isEmpty=false:=by
                   rw [←Su];exact decide_eq_false ht
                  rw [if_neg (fun h=>ht (by obtain⟨a⟩:=tx;have:a=#[]:=Array.eq_empty_of_size_eq_zero h;rw [this];rfl))] at hqe
                  by_cases h1:400<tx.size
                  · rw [if_pos (.inl h1)] at hqe
                    have h1':(400:Int)<(tx.size:Int):=by omega
                    have HE:=h_ (show QE=9 from hqe)
                    clear hqe c74 c44
                    go_wp2_with fail
                    go_meet
                    exact⟨by rw [HE.out],hB4⟩
                  · have h1':(tx.size:Int)≤400:=by omega
                    have h1'':¬ (400:Int)<(tx.size:Int):=by omega
                    by_cases h2:64≤d.cM.length
                    · rw [if_pos (.inr (.inl h2))] at hqe
                      have h2':(64:Int)≤(d.cM.length:Int):=by omega
                      have HE:=h_ (show QE=9 from hqe)
                      clear hqe
                      go_wp2_with (refine dL (.tmp 65) 25 rfl d.ca d.cM.length d.cc rfl Tryz.underlying25 (by rfl) ?_)
                      go_meet
                      exact⟨by rw [HE.out],hB4⟩
                    · have h2':(d.cM.length:Int)<64:=by omega
                      have h2'':¬ (64:Int)≤(d.cM.length:Int):=by omega
                      by_cases h3:1099511627776≤d.last
                      · rw [if_pos (.inr (.inr h3))] at hqe
                        have HE:=h_ (show QE=9 from hqe)
                        clear hqe
                        go_wp2_with (refine dL (.tmp 65) 25 rfl d.ca d.cM.length d.cc rfl Tryz.underlying25 (by rfl) ?_)
                        go_meet
                        exact⟨by rw [HE.out],hB4⟩
                      · rw [if_neg (fun h=>by omega)] at hqe
                        have HE:=h_ (show QE=0 from hqe)
                        clear hqe
                        go_wp2_with (refine dL (.tmp 65) 25 rfl d.ca d.cM.length d.cc rfl Tryz.underlying25 (by rfl) ?_)
                        go_meet
                        exact⟨by rw [HE.out],hB4⟩
   case rest =>
    obtain⟨rfl,hbc⟩:=hcut
    have cR:=hbw2.trans (hbc.mono hbw2.size)
    have r3:=(hbc.block w.heap.size (by omega)).trans R2.out
    have z3:=(hbc.block (w.heap.size+1) (by omega)).trans Z2.out
    have hs3:w.heap.size+2≤wc.heap.size:=by have:=hbc.size;omega
    have R3:=h_ r3
    have Z3:=h_ z3
    clear kC C3 tY lK i_ nN c6 c7 c4 R2 Z2 hbw2 r3 z3 hbc hr2
    by_cases hq:QE=0
    · subst hq
      have hl0:=C5.out rfl
      clear bh C5
      have hr3:=ai R3.out
      go_wp2_with (refine aj 27 (.tmp 6) rfl w.heap.size 0 rfl d.enc _ hr3 Tryz.underlying27 rfl ag (by rfl) ?_)
      refine(dA.out wc cR).mono ?_
      rintro e w4 ⟨d',rfl,hc',hl',hu',hb4,hap,hoe,hoc,hox,hoy⟩
      have eo:=cT.out d' hc'
      have bQ:Sw w.heap.size w w4:=cR.trans (hb4.mono cR.size)
      have r4:=(hb4.block w.heap.size (by omega)).trans R3.out
      have z4:=(hb4.block (w.heap.size+1) (by omega)).trans Z3.out
      have hs4:wc.heap.size≤w4.heap.size:=hb4.size
      clear hr3 R3 Z3 dA cR cT hb4
      go_upto_region 21 with(refine Sq rfl 27 (.tmp 6) (.tmp 79) rfl (w.heap.size) (d'.enc.toArray) rfl rfl 27 _ r4 ag rfl aO ?_)
      have hk5:Kept (fun b=>b=w.heap.size) w4 (w4.setRow w.heap.size d'.enc.toArray):=bj w4 w.heap.size d'.enc.toArray
      have r5:=Sr w4 w.heap.size _ d'.enc.toArray 27 (0,0) r4
      generalize w4.setRow w.heap.size d'.enc.toArray=w5 at *
      have hs5:=hk5.size
      have hl5:d'.lies w5:=Doc.frame hl' hs5 fun b hb=>hk5.block b (Doc.uses_lt hl' hb) (by have:=hu' b hb;omega)
      have oc5:=aB hoc fun b q=>hk5.block b (hoc.lt b q).2 (by have:=(hoc.lt b q).1;omega)
      have z5:=(hk5.block (w.heap.size+1) (by omega) (by omega)).trans z4
      have hb5:Sw w.heap.size w w5:=bQ.trans (hk5.below (by omega) fun k hk e=>by omega)
      clear hl' r4 z4 hk5 hoe hoc bQ
      have f5:∀ j,w5.frozen? ⟨w.heap.size,j,none⟩=false:=fun j=>by simp [Sn.frozen?,r5]
      have hlast:d'.last=d.last:=congrArg (fun q=>q.hd.last) hc'
      have c5:∀ j,w5.cell? ⟨w.heap.size,j,none⟩=_:=fun j=>Sm _ _ j _ 27 (0,0) r5
      have c54:w5.cell? ⟨w.heap.size,4,none⟩=some (.int .i64 d.last):=by rw [←hlast];exact c5 4
      have wr1:IntKind.i64.wrap (d.last+1)=d.last+1:=by rw [IntKind.wrap_i64];omega
      obtain⟨D1,hD1⟩:∃ D1:Doc,D1={ d' with last:=d.last+1 }:=⟨_,rfl⟩
      have r6:=heap_setCell_same w5 w.heap.size 4 _ 27 (.int .i64 (d.last+1)) r5
      rw [show d'.enc.toArray.setIfInBounds 4 (.int .i64 (d.last+1))=D1.enc.toArray from by rw [hD1];rfl] at r6
      have sN:Kept (fun b=>b=w.heap.size) w5 (w5.setCell ⟨w.heap.size,4,none⟩ (.int .i64 (d.last+1))):=bG (Kept.refl _ _) 4 _
      have R6:=h_ r6
      have jn:=h_ sN
      have n_:=h_ hl5
      have OC5:=h_ oc5
      have Z5:=h_ z5
      have iG:=h_ hb5
      have HU:=h_ hu'
      have oR:=h_ hap
      have eP:=h_ eo
      have xf:=h_ hc'
      have MJ:=h_ hoy
      have HD1:=h_ hD1
      clear r6 sN hl5 oc5 z5 hb5 hu' hap eo hc' r5 hox hoy hD1 hlast c5
      go_upto_region 22 with fail
      generalize w5.setCell ⟨w.heap.size,4,none⟩ (.int .i64 (d.last+1))=w6 at *
      clear f5 c54
      have hs6:=jn.out.size
      have wy:d'.lies w6:=Doc.frame n_.out hs6 fun b hb=>jn.out.block b (Doc.uses_lt n_.out hb) (by have:=HU.out b hb;omega)
      have hle2:d'.cM.length≤4000000:=eP.out.2.2.2.2.2.2.2.2.2.2
      have oc6:=aB OC5.out fun b q=>jn.out.block b (OC5.out.lt b q).2 (by have:=(OC5.out.lt b q).1;omega)
      have z6:=(jn.out.block (w.heap.size+1) (by omega) (by omega)).trans Z5.out
      have hb6:Sw w.heap.size w w6:=iG.out.trans (jn.out.below (by omega) fun b hb e=>by omega)
      have c7:w6.cell? ⟨w.heap.size,7,none⟩=some (.slice d'.ca d'.cM.length d'.cc):=by
       have h:=Sm _ _ 7 _ 27 (0,0) R6.out
       rw [HD1.out] at h
       exact h
      have c4:w6.cell? ⟨w.heap.size,4,none⟩=some (.int .i64 (d.last+1)):=by
       have h:=Sm _ _ 4 _ 27 (0,0) R6.out
       rw [HD1.out] at h
       exact h
      obtain⟨j0,hj,hy0,hy1,hy2⟩:=info_parts Tryz.info102
      have JI:=h_ hj
      have J0:=h_ hy0
      have J1:=h_ hy1
      have J2:=h_ hy2
      have OC6:=h_ oc6
      have C7:=h_ wy
      have Z6:=h_ z6
      have Db:=h_ hb6
      have Kj:wc.heap.size≤w6.heap.size:=by omega
      have F1:=h_ (fun(o:Obj) (w7:Sn) (v':Value) (cs:Array Value) hcs hown hg=>Fe (d:=d') (y:=⟨d.last+1,id,fr,til,au,tx,false,false⟩) (w6:=w6) (w7:=w7) (v':=v') (cs:=cs) (B:=wc.heap.size) (o:=o) hcs hown hg)
      clear hj hy0 hy1 hy2 oc6 z6 hb6 wy eP iG Z5 OC5 n_ jn hs6 hs5
      go_wp2_with (at_builtin;refine eY _ _ rfl (.tmp 85) (.tmp 94) 25 rfl wc.heap.size 102 j0 _ 8 72 Tryz.underlying25 JI.out J0.out J1.out J2.out rfl (by decide) _ _ _ rfl OC6.out _ rfl rfl rfl ?h1 ?h63 ?hb ?hbase ?_)
      case h1=>first|exact⟨rfl,rfl,rfl,rfl,rfl,rfl,rfl,rfl⟩|exact⟨rfl,rfl,rfl,rfl,rfl,rfl,rfl⟩|(intro u hu;simp at hu;rcases hu with rfl|rfl|rfl|rfl|rfl|rfl|rfl|rfl<;>rfl)|(intro u hu;simp at hu;rcases hu with rfl|rfl|rfl|rfl|rfl|rfl|rfl<;>rfl)
      case h63=>unfold maxLen;omega
      case hb=>omega
      case hbase=>omega
      intro v' w7 hown' hgrow hat
      obtain⟨sa,sc,rfl,hS,ir,Mk⟩:=F1.out _ w7 v' _ rfl hown' hgrow
      have hnb:∀ b,b<w.heap.size+2→¬ (Sx d'.ca d'.cM.length d'.cc).ownBlock=some b:=fun b hb e=>by have:=(OC6.out.lt b e).1;omega
      have r7:=(ir.block w.heap.size (by omega) (hnb _ (by omega))).trans R6.out
      have z7:=(ir.block (w.heap.size+1) (by omega) (hnb _ (by omega))).trans Z6.out
      have jr:Sw w.heap.size w w7:=Db.out.trans (ir.below (by omega) fun k hk=>hnb k (by omega))
      have hs7:=ir.size
      have f7:∀ j,w7.frozen? ⟨w.heap.size,j,none⟩=false:=fun j=>by simp [Sn.frozen?,r7]
      have c8:∀ j,w7.cell? ⟨w.heap.size,j,none⟩=_:=fun j=>Sm _ _ j _ 27 (0,0) r7
      obtain⟨D2,hD2⟩:∃ D2:Doc,D2={ D1 with ca:=sa,cc:=sc,cM:=d'.cM++[⟨d.last+1,id,fr,til,au,tx,false,false⟩] }:=⟨_,rfl⟩
      have r9:=heap_setCell_same w7 w.heap.size 7 _ 27 (.slice sa (d'.cM.length+1) sc) r7
      rw [show D1.enc.toArray.setIfInBounds 7 (.slice sa (d'.cM.length+1) sc)=D2.enc.toArray from by rw [hD2];simp [Doc.enc]] at r9
      have eX:Kept (fun b=>b=w.heap.size) w7 (w7.setCell ⟨w.heap.size,7,none⟩ (.slice sa (d'.cM.length+1) sc)):=bG (Kept.refl _ _) 7 _
      have R9:=h_ r9
      have lL:=h_ eX
      have Z7:=h_ z7
      have BF:=h_ jr
      have IK:=h_ ir
      have HS:=h_ (And.intro hS Mk)
      have HD2:=h_ hD2
      clear r9 eX z7 jr ir hS Mk hD2 r7 hown' hgrow hat F1 hnb c7 c4 Z6
      go_upto_region 23 with fail
      generalize w7.setCell ⟨w.heap.size,7,none⟩ (.slice sa (d'.cM.length+1) sc)=w9 at *
      clear f7 c8
      have vd:=lL.out.size
      have z9:=(lL.out.block (w.heap.size+1) (by omega) (by omega)).trans Z7.out
      have gY:=h_ (fun(w':Sn) (q:Kept (fun b=>b=w.heap.size+1) w9 w')=>ai ((q.block w.heap.size (by omega) (by omega)).trans R9.out))
      have hdl:D2.last=d.last+1:=by rw [HD2.out,HD1.out]
      have fy:∀ w',Kept (fun b=>b=w.heap.size+1) w9 w'→w'.cell? ⟨w.heap.size,4,none⟩=some (.int .i64 (d.last+1)):=fun w' q=>by
       have:=Sm w' w.heap.size 4 _ 27 (0,0) ((q.block w.heap.size (by omega) (by omega)).trans R9.out)
       rw [←hdl];exact this
      have hd0:Kept (fun b=>b=w.heap.size+1) w9 w9.drew:=Kept.of_below ((Sz _ _).drew)
      have z9':w9.drew.heap[w.heap.size+1]? =some (.cells zeD 27 (0,0)):=z9
      refine Sv (S:=fun w'=>Kept (fun b=>b=w.heap.size+1) w9 w') (by kernel_rfl) hd0 (fun _=>?_)
      refine ab 0 (.agg D2.enc.toArray) hd0 ?_ (hy:=yieldsIf_load_mid (by rfl) 27 (.tmp 6) rfl w.heap.size 0 rfl D2.enc _ (fun w_ h_=>gY.out w_ h_) Tryz.underlying27 rfl ag)
      refine ab 1 (.pointer (some ⟨w.heap.size,4,none⟩)) hd0 ?_
      refine ab 2 (.int .i64 (d.last+1)) hd0 ?_ (hy:=.inl ⟨by rfl,fun w_ aH=>by have q_:=fy _ aH;go_simp⟩)
      refine aq 3 (fun K hK=>?_)
      rw [if_pos (by rfl)]
      refine wp_store_row 27 (.tmp 12) (.tmp 97) rfl (w.heap.size+1) D2.enc.toArray rfl rfl 27 _ z9' ag rfl aO ?_
      have hk10:Kept (fun b=>b=w.heap.size+1) w9 (w9.drew.setRow (w.heap.size+1) D2.enc.toArray):=hd0.trans (bj _ _ _) fun i _ e=>e
      refine goOn hK hk10 ?_
      clear hK
      refine ab 4 (.int .i64 (d.last+1)) hk10 ?_
      refine ab 5 (.int .i64 0) hk10 ?_
      refine wpAnyH_done (by kernel_rfl) ?_ _
      have r10:=Sr w9.drew (w.heap.size+1) _ D2.enc.toArray 27 (0,0) z9'
      generalize w9.drew.setRow (w.heap.size+1) D2.enc.toArray=w10 at *
      have l6:=h_ (show Q (.returned (.tuple #[.agg D2.enc.toArray,.int .i64 (d.last+1),.int .i64 0])) w10 from by
       have hc:=xf.out
       have hold:∀ b,b<w6.heap.size→w.heap.size+2≤b→¬ (Sx d'.ca d'.cM.length d'.cc).ownBlock=some b→w10.heap[b]? =w6.heap[b]?:=fun b h1 h2 h3=>by
        rw [hk10.block b (by omega) (by omega),lL.out.block b (by omega) (by omega),IK.out.block b h1 h3]
       have hnew:∀ b,b<w7.heap.size→w.heap.size+2≤b→w10.heap[b]? =w7.heap[b]?:=fun b h1 h2=>by
        rw [hk10.block b (by omega) (by omega),lL.out.block b (by omega) (by omega)]
       have hsz:w9.heap.size≤w10.heap.size:=hk10.size
       have hE0:bN d.c id fr til au tx=0:=wZ.out
       rw [←hQ]
       refine⟨D2,?_,?_,⟨?_,?_,?_⟩,?_,?_⟩
       · rw [if_pos hE0,hE0];rfl
       · unfold fL
         rw [if_neg (fun h=>h hE0),HD2.out,HD1.out]
         show({ { d'.c with hd:={ d'.c.hd with last:=d.last+1 } } with cM:=d'.c.cM++[⟨d.last+1,id,fr,til,au,tx,false,false⟩] }:DocC)=_
         rw [hc];rfl
       · rw [HD2.out,HD1.out]
         refine ah.frame C7.out.1 (by omega) (fun b hb=>?_) (fun _ _ _=>trivial)
         have h1:=aP C7.out.1 hb
         have h2:=HU.out b (.inl hb)
         exact hold b h1 (by omega) (fun e=>(MJ.out b e).1 hb)
       · rw [HD2.out,HD1.out]
         refine dy.frame C7.out.2.1 (by omega) fun b hb=>?_
         have h1:=ej C7.out.2.1 hb
         have h2:=HU.out b (.inr (.inl hb))
         exact hold b h1 (by omega) (fun e=>(MJ.out b e).2 hb)
       · rw [HD2.out,HD1.out]
         refine ah.frame HS.out.1 (by omega) (fun b hb=>?_) (fun _ _ _=>trivial)
         have h1:=aP HS.out.1 hb
         have h2:=HS.out.2 b hb
         exact hnew b h1 (by omega)
       · rw [HD2.out,HD1.out]
         intro b hb
         rcases hb with hb|hb|hb
         · have:=HU.out b (.inl hb);omega
         · have:=HU.out b (.inr (.inl hb));omega
         · have:=HS.out.2 b hb;omega
       · exact(BF.out.trans (lL.out.below (by omega) fun b hb e=>by omega)).trans (hk10.below (by omega) fun b hb e=>by omega))
      clear hk10 z9 z9' fy hd0 gY HD2 HD1 xf HS IK lL aY hdl
      obtain⟨dt,dl,dr,dd,dla,dra,drc,dregs,dea,dec,devs,dca,dcc,dcms⟩:=D2
      simp only [Doc.enc] at r10 l6
      have fin4:∀ j,w10.cell? ⟨w.heap.size+1,j,none⟩=_:=fun j=>Sm _ _ j _ 27 (0,0) r10
      go_wp2_with fail
      refine Sp (v:=.tuple #[.agg #[.string dt,.string dl,.int .u8 dr,.bool dd,.int .i64 dla,.slice dra dregs.length drc,.slice dea devs.length dec,.slice dca dcms.length dcc],.int .i64 (d.last+1),.int .i64 0]) (by simp [results,Tryz.results42,go_sem,fin4]) rfl ?_
      exact l6.out
    · have hne:(QE != 0)=true:=by simpa using hq
      have HE:=h_ (bh.out (QE) ⟨(by first|rfl|trivial),hq⟩ (wc.setRow (w.heap.size+1) zeD) (Ss cR (by omega) _))
      have z9:=Sr wc (w.heap.size+1) _ zeD 27 (0,0) Z3.out
      clear cT dA bh aY C5
      go_wp2_with (refine Sq rfl 27 (.tmp 12) (.tmp 76) rfl (w.heap.size+1) zeD rfl rfl 27 _ Z3.out ag rfl aO ?_)
      generalize wc.setRow (w.heap.size+1) zeD=w9 at *
      have fin4:∀ j,w9.cell? ⟨w.heap.size+1,j,none⟩=_:=fun j=>Sm _ _ j _ 27 (0,0) z9
      refine Sp (v:=.tuple #[.agg zeD,.int .i64 0,.int .i64 (QE)]) (by simp [results,Tryz.results42,go_sem,fin4]) rfl ?_
      exact HE.out
 · have hne:(DE != 0)=true:=by simpa using h0
   have HE:=h_ (bh.out (DE) ⟨bD.out h0,h0⟩ (w1.setRow (w.heap.size+1) zeD) (Ss aM (by omega) _))
   have z9:=Sr w1 (w.heap.size+1) _ zeD 27 (0,0) Z1.out
   clear bD C3 tY lK i_ nN cT dA bh aY C5 hr1 eP kC
   go_wp2_with (refine Sq rfl 27 (.tmp 12) (.tmp 22) rfl (w.heap.size+1) zeD rfl rfl 27 _ Z1.out ag rfl aO ?_)
   generalize w1.setRow (w.heap.size+1) zeD=w9 at *
   have fin4:∀ j,w9.cell? ⟨w.heap.size+1,j,none⟩=_:=fun j=>Sm _ _ j _ 27 (0,0) z9
   refine Sp (v:=.tuple #[.agg zeD,.int .i64 0,.int .i64 (DE)]) (by simp [results,Tryz.results42,go_sem,fin4]) rfl ?_
   exact HE.out
def xi (c:DocC)(w:Sn)(e:Ending)(w':Sn):Prop:=∃ D:Doc,e=.returned (.agg D.enc.toArray)∧D.c=c∧D.lies w'∧D.fits∧(∀ k,D.uses k→w.heap.size≤k)∧Sw w.heap.size w w'
def vS (c:DocC)(w:Sn)(e:Ending)(w':Sn):Prop:=∃ D:Doc,e=.returned (.agg D.enc.toArray)∧D.c=c∧D.lies w'∧D.fits∧(∀ k,D.uses k→w.heap.size≤k)∧Sw w.heap.size w w'∧∀ x∈D.eV,∀ r∈x.rows,∀ b,r.uses b→fk w' b
theorem iR (w:Sn)(o:Obj):(w.alloc o).heap[w.heap.size]? =some o∧Sw w.heap.size w (w.alloc o)∧w.heap.size+1≤(w.alloc o).heap.size:=⟨heap_alloc_last _ _,(Sz _ _).alloc (Sy _) _,by simp⟩
theorem lu (b:Nat)(h:Hs)(w:Sn)(H:HsAt b h w):St Tryz.prog 9 #[.pointer (some ⟨b,0,none⟩)] w (vS h.doc.c w):=by
 have hdo:=H.docs h.doc (by simp [Hs.docs])
 have hbl:=iQ H.at_
 have HB:=h_ (iR w (.cells zeD 27))
 have HAT:=h_ H.at_
 have dA:=h_ (fun(w1:Sn) (hb:Sw w.heap.size w w1)=>iT h.doc w1 (Doc.later hdo.1 hb) hdo.2.1)
 have rz:=h_ (fun(D:Doc) (e:D.c=h.doc.c)=>bn e hdo.2.1)
 have HQ:=h_ (fun(D:Doc) (w':Sn) (h1:D.c=h.doc.c) (h2:D.lies w') (h3:∀ k,D.uses k→w.heap.size≤k) (h4:Sw w.heap.size w w') (h5:∀ x∈D.eV,∀ r∈x.rows,∀ b,r.uses b→fk w' b)=>(show vS h.doc.c w (.returned (.agg D.enc.toArray)) w' from⟨D,rfl,h1,h2,rz.out D h1,h3,h4,h5⟩))
 generalize vS h.doc.c w=Q at *
 clear H hdo rz
 go_enter Tryz.func9,Tryz.ntmps9
 go_upto_region 1 with fail
 have z0:=HB.out.1
 have hb0:=HB.out.2.1
 have hs0:=HB.out.2.2
 clear HB
 generalize w.alloc (.cells zeD 27)=W0 at *
 have r0:=(hb0.block b hbl).trans HAT.out
 have hr0:=(bH r0).1
 have HC:=h_ (dA.out W0 hb0)
 have Z0:=h_ z0
 have HB0:=h_ hb0
 clear dA HAT r0 z0 hb0
 go_wp2_with (refine aj 27 (.tmp 8) rfl b 0 rfl h.doc.enc _ hr0 Tryz.underlying27 rfl ag (by rfl) ?_)
 refine HC.out.mono ?_
 rintro e w1 ⟨D,rfl,bq,hDl,bP,hb1,_,_,_,_,_,_,_,hDe⟩
 have hs1:=hb1.size
 have z1:=(hb1.block w.heap.size (by omega)).trans Z0.out
 have aM:=HB0.out.trans (hb1.mono (by omega))
 have r9:=Sr w1 w.heap.size _ D.enc.toArray 27 (0,0) z1
 have HF:=h_ (HQ.out D (w1.setRow w.heap.size D.enc.toArray) bq (Doc.frame hDl (by rw [size_setRow];exact Sy _) (fun b hb=>aK _ _ _ _ (by have:=bP b hb;omega))) (fun b hb=>by have:=bP b hb;omega) (Ss aM (Sy _) _) (fun x hx r hr b hb=>(hDe x hx r hr b hb).kept (aK _ _ _ _ (by have:=bP b (.inr (.inl (.inr ⟨x,hx,.inr ⟨r,hr,hb⟩⟩)));omega))))
 clear HC hr0 Z0 HB0 bq hDl bP hDe hb1 aM HQ
 go_wp2_with (refine Sq rfl 27 (.tmp 2) (.tmp 10) rfl (w.heap.size) (D.enc.toArray) rfl rfl 27 _ z1 ag rfl aO ?_)
 generalize w1.setRow w.heap.size D.enc.toArray=w9 at *
 obtain⟨dt,dl,dr,dd,dla,dra,drc,dregs,dea,dec,devs,dca,dcc,dcms⟩:=D
 simp only [Doc.enc] at r9 HF
 have fin4:∀ j,w9.cell? ⟨w.heap.size,j,none⟩=_:=fun j=>Sm _ _ j _ 27 (0,0) r9
 refine Sp (v:=.agg #[.string dt,.string dl,.int .u8 dr,.bool dd,.int .i64 dla,.slice dra dregs.length drc,.slice dea devs.length dec,.slice dca dcms.length dcc]) (by simp [results,Tryz.results9,go_sem,fin4]) rfl ?_
 exact HF.out
theorem nf (b:Nat)(h:Hs)(w:Sn)(H:HsAt b h w):St Tryz.prog 9 #[.pointer (some ⟨b,0,none⟩)] w (xi h.doc.c w) :=
 (lu b h w H).mono fun e w' ⟨D,h1,h2,h3,h4,h5,h6,_⟩=>⟨D,h1,h2,h3,h4,h5,h6⟩
theorem oo (w:Sn):St Tryz.prog 9 #[.pointer none] w (xi aU w):=by
 have HB:=h_ (iR w (.cells zeD 27))
 have HQ:=h_ (fun(w':Sn) (h4:Sw w.heap.size w w')=>(show xi aU w (.returned (.agg zeD)) w' from⟨zDoc,rfl,rfl,jZ w',(zm 4000000).doc (Sy _),fun b=>jY b _,h4⟩))
 generalize xi aU w=Q at *
 go_enter Tryz.func9,Tryz.ntmps9
 go_upto_region 1 with fail
 have z0:=HB.out.1
 have hb0:=HB.out.2.1
 clear HB
 generalize w.alloc (.cells zeD 27)=W0 at *
 have r9:=Sr W0 w.heap.size _ zeD 27 (0,0) z0
 have HF:=h_ (HQ.out (W0.setRow w.heap.size zeD) (Ss hb0 (Sy _) _))
 clear HQ hb0
 go_wp2_with (refine Sq rfl 27 (.tmp 2) (.tmp 5) rfl (w.heap.size) zeD rfl rfl 27 _ z0 ag rfl aO ?_)
 generalize W0.setRow w.heap.size zeD=w9 at *
 have fin4:∀ j,w9.cell? ⟨w.heap.size,j,none⟩=_:=fun j=>Sm _ _ j _ 27 (0,0) r9
 refine Sp (v:=.agg zeD) (by simp [results,Tryz.results9,go_sem,fin4]) rfl ?_
 exact HF.out
theorem ka (b:Nat)(h:Hs)(w:Sn)(H:HsAt b h w):St Tryz.prog 10 #[.pointer (some ⟨b,0,none⟩)] w fun e w'=>e=.returned (.tuple #[.int .i64 h.undo.length,.int .i64 h.redo.length])∧Sw w.heap.size w w':=by
 have hbl:=iQ H.at_
 have HV:=h_ (fun(w':Sn) (hb:Sw w.heap.size w w')=>(show w'.cell? ⟨b,16,none⟩=some (.slice h.ua h.undo.length h.uc)∧w'.cell? ⟨b,17,none⟩=some (.slice h.ra h.redo.length h.rc) from(bH ((hb.block b hbl).trans H.at_)).2.2))
 clear H
 obtain⟨Cx,ND,ua,uc,hun,ra,rc,hre⟩:=h
 simp only at HV ⊢
 generalize hun.length=un at *
 generalize hre.length=rn at *
 have hd0:Sw w.heap.size w w.drew:=(Sz _ _).drew
 go_enter Tryz.func10,Tryz.ntmps10
 go_upto_region 3 with fail
 refine Sv (S:=fun w'=>Sw w.heap.size w w') (by kernel_rfl) hd0 (fun _=>?_)
 generalize w.drew=v0 at *
 refine ab 0 (.pointer (some ⟨b,0,none⟩)) hd0 ?_
 refine ab 1 (.pointer (some ⟨b,0,none⟩)) hd0 ?_
 refine ab 2 (.pointer (some ⟨b,16,none⟩)) hd0 ?_
 refine ab 3 (.slice ua un uc) hd0 ?_ (hy:=.inl ⟨by rfl,fun w_ aH=>by have q_:=HV.out w_ aH;obtain⟨q1,q2⟩:=q_;go_simp⟩)
 refine ab 4 (.int .i64 un) hd0 ?_
 refine ab 5 (.pointer (some ⟨b,0,none⟩)) hd0 ?_
 refine ab 6 (.pointer (some ⟨b,0,none⟩)) hd0 ?_
 refine ab 7 (.pointer (some ⟨b,17,none⟩)) hd0 ?_
 refine ab 8 (.slice ra rn rc) hd0 ?_ (hy:=.inl ⟨by rfl,fun w_ aH=>by have q_:=HV.out w_ aH;obtain⟨q1,q2⟩:=q_;go_simp⟩)
 refine ab 9 (.int .i64 rn) hd0 ?_
 refine ab 10 (.int .i64 un) hd0 ?_
 refine ab 11 (.int .i64 rn) hd0 ?_
 refine wpAnyH_done (by kernel_rfl) ?_ _
 go_wp2_with fail
 refine Sp (v:=.tuple #[.int .i64 un,.int .i64 rn]) (by simp [results,Tryz.results10,go_sem]) rfl ?_
 exact⟨rfl,hd0⟩
theorem lT (w:Sn):St Tryz.prog 10 #[.pointer none] w fun e w'=>e=.returned (.tuple #[.int .i64 0,.int .i64 0])∧w'=w:=by
 go_enter Tryz.func10,Tryz.ntmps10
 go_wp2_with fail
 refine Sp (v:=.tuple #[.int .i64 0,.int .i64 0]) (by simp [results,Tryz.results10,go_sem]) rfl ?_
 exact⟨rfl,rfl⟩
theorem m_ (w:Sn):St Tryz.prog 22 #[.pointer none] w fun e w'=>e=.returned (.int .i64 1)∧w'=w:=by
 go_enter Tryz.func22,Tryz.ntmps22
 go_wp2_with fail
 go_ret
 exact⟨rfl,rfl⟩
theorem AQ {d D:Doc} {x:Ed} (hd:d.fits)(hx:x.fits)(h0:(cj d.c x.c).1=0)(hD:D.c=(cj d.c x.c).2):D.fits:=by
 have h1:d.c.fit:=Doc.fits.c (n:=4000000) hd hd.2.2.2.2.2.2.1 hd.2.2.2.2.2.2.2.2.1 hd.2.2.2.2.2.2.2.2.2.2
 have:=A5 h1 (Ed.fits_c hx) h0
 rw [←hD] at this
 exact this.doc (Sy _)
theorem qx (x:Ed)(w:Sn):St Tryz.prog 12 #[.pointer none,.agg x.enc.toArray] w fun e w'=>e=.returned (.int .i64 1)∧Sw w.heap.size w w':=by
 have HB:=(iR w (.cells x.enc.toArray 40)).2.1
 go_enter Tryz.func12,Tryz.ntmps12
 go_wp2_with fail
 go_ret
 exact⟨rfl,HB⟩
theorem j_ (D:Doc)(w:Sn):St Tryz.prog 21 #[.pointer none,.agg D.enc.toArray] w fun e w'=>e=.returned (.int .i64 1)∧Sw w.heap.size w w':=by
 have HB:=(iR w (.cells D.enc.toArray 27)).2.1
 go_enter Tryz.func21,Tryz.ntmps21
 go_wp2_with fail
 go_ret
 exact⟨rfl,HB⟩
end Go.Proofs.YtjebaagkomejaaaGreatDoor
