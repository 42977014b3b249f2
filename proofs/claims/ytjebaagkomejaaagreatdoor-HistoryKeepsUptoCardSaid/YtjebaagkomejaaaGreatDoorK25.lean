/- event.Join: two events joined. edit.spare: are the fields of a command that are not used zero? -/
import Derived.Test.YtjebaagkomejaaaGreatDoorK21
set_option linter.unusedVariables false
set_option linter.unusedSimpArgs false
set_option maxRecDepth 100000
set_option maxHeartbeats 12800000
open Go.Lib renaming hid→h_
open List renaming setIfInBounds_toArray→YA,getElem_cons_zero→YB,getElem_cons_succ→YC,getElem_toArray→YD,set_cons_zero→YE,set_cons_succ→YF
open Array renaming toArray_toList→YG
open Go renaming cell_of_row→Sj,wpList_store_row→Sk,World→Sl,below_setRow→Sm,setRow_heap→Sn,heap_alloc_last→Sp,bodyPost_ret→Sq,wpAnyH_done→Sr,wp_region_held_drew→Ss
open Go.RowKit renaming Below→St
open Go.RowKit.Below renaming refl→Su
open Nat renaming le_refl→Sv,le_trans→Sw
open And renaming intro→Sx
open Go.Value renaming slice→Sy,int→Sz
open List renaming length→SA,length_map→SB
namespace Go.Proofs.YtjebaagkomejaaaGreatDoor
open Go.RowKit
theorem xR (a b:Ev)(w:Sl)(ha:a.lies w)(hb:b.lies w)(fa:a.fits)(fb:b.fits):Calls Tryz.prog 91 #[.agg a.enc.toArray,.agg b.enc.toArray] w (iB a.c b.c w):=by
 have FD:=h_ (fun(w1:Sl)=>ph a b w1)
 have dA:=h_ (fun(w1:Sl) (h:St w.heap.size w w1)=>gD a w1 (Ev.keeps _ _ _ h ha) (fun r hr=>(fa.2.2.2.2.2.2.2.1 r hr).2.1) fa.2.2.2.2.2.2.2.2)
 have Fw:=h_ (fun(w1:Sl) (h:St w.heap.size w w1)=>gH b.at_ b.cap b.rows w1 (bx.later hb h) (fun r hr=>(fb.2.2.2.2.2.2.2.1 r hr).2.1) fb.2.2.2.2.2.2.2.2)
 have bh:=h_ (fun(q:Int) (hq:bS a.c b.c=q∧q≠0) (w':Sl) (h:St w.heap.size w w')=>(show iB a.c b.c w (.returned (.tuple #[.agg zeE,.int .i64 q])) w' from iB.bad hq.1 hq.2 h))
 have nW:=xS a b
 have HJ:=h_ nW
 have fia:a.rows.length≤4000000:=fa.2.2.2.2.2.2.2.2
 have fib:b.rows.length≤4000000:=fb.2.2.2.2.2.2.2.2
 have bD:=h_ (fun(y:Ev) (w':Sl) (h:bS a.c b.c=0∧y.c=og a.c b.c∧y.lies w'∧(∀ k,y.uses k→w.heap.size≤k)∧St w.heap.size w w')=>(show iB a.c b.c w (.returned (.tuple #[.agg y.enc.toArray,.int .i64 0])) w' from⟨y,by rw [h.1],fun _=>h.2.1,h.2.2.1,h.2.2.2.1,h.2.2.2.2⟩))
 have dp:=h_ (box3 w a.enc.toArray b.enc.toArray zeE 72 72 72)
 have hb3:∀ o1 o2 o3:Obj,St w.heap.size w (((w.alloc o1).alloc o2).alloc o3):=fun o1 o2 o3=>(((Su _ _).alloc (Sv _) _).alloc (by simp) _).alloc (by simp;try omega) _
 have dv:∀ o1 o2 o3:Obj,(((w.alloc o1).alloc o2).alloc o3).heap.size=w.heap.size+3:=fun o1 o2 o3=>by simp
 generalize hQ:iB a.c b.c w=Q at *
 clear ha hb fa fb nW
 go_enter Tryz.func91,Tryz.ntmps91
 have hr1:=ai dp.out.1
 have hr2:=ai dp.out.2.1
 go_wp2_with (first|(refine aj 72 (.tmp 2) rfl (w.heap.size) 0 rfl a.enc _ hr1 Tryz.underlying72 rfl aV (by rfl) ?_)|(refine aj 72 (.tmp 3) rfl (w.heap.size+1) 0 rfl b.enc _ hr2 Tryz.underlying72 rfl aV (by rfl) ?_))
 refine(FD.out _).mono ?_
 rintro e w2 ⟨rfl,hb2⟩
 rw [dv] at hb2
 have hbw2:St w.heap.size w w2:=(hb3 _ _ _).trans (hb2.mono (by omega))
 have a2:=(hb2.block w.heap.size (by omega)).trans dp.out.1
 have b2:=(hb2.block (w.heap.size+1) (by omega)).trans dp.out.2.1
 have z2:=(hb2.block (w.heap.size+1+1) (by omega)).trans dp.out.2.2
 have hs2:w.heap.size+3≤w2.heap.size:=by have:=hb2.size;rw [dv] at this;exact this
 have c6:w2.cell? ⟨w.heap.size,6,none⟩=some (.slice a.at_ a.rows.length a.cap):=Sj _ _ 6 _ 72 (0,0) a2
 have d6:w2.cell? ⟨w.heap.size+1,6,none⟩=some (.slice b.at_ b.rows.length b.cap):=Sj _ _ 6 _ 72 (0,0) b2
 have A2:=h_ a2
 have B2:=h_ b2
 have Z2:=h_ z2
 clear hb2 hr1 hr2 dp hb3 dv a2 b2 z2 FD
 have nW:=HJ.out
 generalize kJ a b=LB at *
 cases LB with
 | false =>
   rw [if_pos rfl] at nW
   have nW:bS a.c b.c=8∧(8:Int)≠0:=⟨nW,by decide⟩
   have HE:=h_ (bh.out (8) nW (w2.setRow (w.heap.size+1+1) zeE) (Sm hbw2 (by omega) _))
   have z9:=Sn w2 (w.heap.size+1+1) _ zeE 72 (0,0) Z2.out
   clear dA Fw HJ bD c6 d6 nW bh
   go_wp2_with (refine Sk rfl 72 (.tmp 4) (.tmp 12) rfl (w.heap.size+1+1) zeE rfl rfl 72 _ Z2.out aV rfl wj ?_)
   generalize w2.setRow (w.heap.size+1+1) zeE=w9 at *
   have fin4:∀ j,w9.cell? ⟨w.heap.size+1+1,j,none⟩=_:=fun j=>Sj _ _ j _ 72 (0,0) z9
   refine Sq (v:=.tuple #[.agg zeE,.int .i64 (8)]) (by simp [results,Tryz.results91,go_sem,fin4]) rfl ?_
   exact HE.out
 | true =>
   rw [if_neg (fun h=>absurd h (by decide))] at nW
   by_cases hlen:4<a.rows.length+b.rows.length
   · rw [if_pos hlen] at nW
     have nW:bS a.c b.c=9∧(9:Int)≠0:=⟨nW,by decide⟩
     have hl4:(4:Int)<(a.rows.length:Int)+(b.rows.length:Int):=by omega
     have HE:=h_ (bh.out (9) nW (w2.setRow (w.heap.size+1+1) zeE) (Sm hbw2 (by omega) _))
     have z9:=Sn w2 (w.heap.size+1+1) _ zeE 72 (0,0) Z2.out
     clear dA Fw HJ bD nW bh
     go_wp2_with (refine Sk rfl 72 (.tmp 4) (.tmp 22) rfl (w.heap.size+1+1) zeE rfl rfl 72 _ Z2.out aV rfl wj ?_)
     generalize w2.setRow (w.heap.size+1+1) zeE=w9 at *
     have fin4:∀ j,w9.cell? ⟨w.heap.size+1+1,j,none⟩=_:=fun j=>Sj _ _ j _ 72 (0,0) z9
     refine Sq (v:=.tuple #[.agg zeE,.int .i64 (9)]) (by simp [results,Tryz.results91,go_sem,fin4]) rfl ?_
     exact HE.out
   · rw [if_neg hlen] at nW
     have hl4:(a.rows.length:Int)+(b.rows.length:Int)≤4:=by omega
     have hr2:=ai A2.out
     have O0:=h_ nW
     clear nW HJ hlen bh
     go_upto_region 5 with fail
     go_wp2_with (refine aj 72 (.tmp 2) rfl (w.heap.size) 0 rfl a.enc _ hr2 Tryz.underlying72 rfl aV (by rfl) ?_)
     refine(dA.out w2 hbw2).mono ?_
     rintro e w3 ⟨A,rfl,yY,cG,tR,s_,yX,hb3⟩
     have cR:St w.heap.size w w3:=hbw2.trans (hb3.mono hbw2.size)
     have a3:=(hb3.block w.heap.size (by omega)).trans A2.out
     have b3:=(hb3.block (w.heap.size+1) (by omega)).trans B2.out
     have z3:=(hb3.block (w.heap.size+1+1) (by omega)).trans Z2.out
     have hs3:=hb3.size
     have hal:=Sp w3 (.cells zeE 72)
     have HA:=h_ (Sx yY (Sx cG (Sx tR (Sx s_ yX))))
     clear hr2 c6 d6 dA yY cG tR s_ yX
     go_upto_region 6 with(refine Sk rfl 72 (.tmp 6) (.tmp 24) rfl (w3.heap.size) (A.enc.toArray) rfl rfl 72 _ hal aV rfl (mL _) ?_)
     have pW:=Sn (w3.alloc (.cells zeE 72)) w3.heap.size _ A.enc.toArray 72 (0,0) hal
     have hbW:St w3.heap.size w3 ((w3.alloc (.cells zeE 72)).setRow w3.heap.size A.enc.toArray):=Sm ((Su _ _).alloc (Sv _) _) (Sv _) _
     have Cl:w3.heap.size+1≤((w3.alloc (.cells zeE 72)).setRow w3.heap.size A.enc.toArray).heap.size:=by rw [size_setRow];simp
     generalize (w3.alloc (.cells zeE 72)).setRow w3.heap.size A.enc.toArray=W at *
     obtain⟨g,hg⟩:∃ g,g=w3.heap.size:=⟨_,rfl⟩
     rw [←hg] at pW hbW Cl ⊢
     have aW:=(hbW.block w.heap.size (by omega)).trans a3
     have bW:=(hbW.block (w.heap.size+1) (by omega)).trans b3
     have zW:=(hbW.block (w.heap.size+1+1) (by omega)).trans z3
     obtain⟨j0,hj,hy0,hy1,hy2⟩:=info_parts Tryz.info75
     have JI:=h_ hj;have J0:=h_ hy0;have J1:=h_ hy1;have J2:=h_ hy2
     have F8:=h_ HA.out.2.1
     have MS:=h_ hg
     have HA2:=h_ (Sx HA.out.1 (Sx (Ev.keeps _ _ _ (hbW.mono (by omega)) HA.out.2.1) (Sx HA.out.2.2.1 (Sx (aI HA.out.2.2.2.1 (hbW.mono (by omega))) HA.out.2.2.2.2))))
     have ot:St w.heap.size w W:=cR.trans (hbW.mono (by omega))
     have hown:∀ k,(Sy A.at_ A.rows.length A.cap).ownBlock=some k→w2.heap.size≤k∧k<g:=fun k e=>by
      have:=HA.out.2.2.2.1.lt k e
      omega
     have hAr:A.rows.length=a.rows.length:=by
      have:=congrArg EvC.rows HA.out.1
      have h2:=congrArg SA this
      simpa [Ev.c] using h2
     have HLEN:=h_ hAr
     have PW:=h_ pW
     have AW:=h_ aW
     have BW:=h_ bW
     have ZW:=h_ zW
     have bE:=h_ ot
     have HOW:=h_ hown
     have hsg:w2.heap.size≤g:=by omega
     have Jk:A.rows.length+b.rows.length≤4:=by omega
     clear hj hy0 hy1 hy2 hg hal a3 b3 z3 hb3 cR hbW pW aW bW zW ot hown hAr hs3 hl4 hbw2 A2 B2 Z2 HA
     have MQ:=h_ (fun(a':Option Addr) (c':Nat) (rows':List Row) (v1 v2:Sl) (av:Option Addr) (cv:Nat) (hv1:St W.heap.size W v1) (hr:bx v1 a' rows') (hm:rows'.map Row.runs=b.rows.map Row.runs) (hu:∀ k,dh a' rows' k→W.heap.size≤k)=>Af (a:=a) (b:=b) (B:=w2.heap.size) (cv:=cv) (av:=av) (v2:=v2) HA2.out.1 HA2.out.2.1 (fun k h=>by have:=Ev.uses_lt F8.out h;have:=MS.out;have:=HA2.out.2.2.1 k h;omega) (by omega) HA2.out.2.2.2.2 (by omega) (fun k e=>(HOW.out k e).2) hv1 hr hm hu)
     try simp only [Act.put,YD,YB,YC,YA,YE,YF,YG]
     go_cut [] from 25 to 31 (fun wx=>∃ y:Ev,y={ A with at_:=y.at_,cap:=y.cap,rows:=y.rows }∧y.rows.map Row.runs=A.rows.map Row.runs++b.rows.map Row.runs∧y.lies wx∧(∀ k,y.uses k→k≠g)∧(∀ k,y.uses k→w2.heap.size≤k)∧wx.heap[g]? =some (.cells y.enc.toArray 72 (0,0))∧Kept (fun k=>k=g∨(Sy A.at_ A.rows.length A.cap).ownBlock=some k) W wx)
     case first =>
      have hd0:St W.heap.size W W.drew:=(Su _ _).drew
      have gW:=h_ (fun(w':Sl) (h:St W.heap.size W w')=>(show Kept (fun k=>k=g∨(Sy A.at_ A.rows.length A.cap).ownBlock=some k) W w' from Kept.of_below h))
      have Jw:=h_ (fun(w':Sl) (h:Kept (fun k=>k=g∨(Sy A.at_ A.rows.length A.cap).ownBlock=some k) W w')=>(show w'.cell? ⟨w.heap.size+1,6,none⟩=some (.slice b.at_ b.rows.length b.cap) from
       Sj _ _ 6 _ 72 (0,0) ((h.block (w.heap.size+1) (by omega) (fun e=>by rcases e with e|e;(omega);(have:=HOW.out _ e;omega))).trans BW.out)))
      have M9:=h_ (fun(w':Sl) (h:St W.heap.size W w')=>(show w'.cell? ⟨g,6,none⟩=some (.slice A.at_ A.rows.length A.cap) from Sj _ _ 6 _ 72 (0,0) ((h.block g (by omega)).trans PW.out)))
      have OU:=h_ (fun(w':Sl) (h:St W.heap.size W w')=>(aI HA2.out.2.2.2.1 h))
      have Im:=h_ (fun(w':Sl) (h:St W.heap.size W w')=>Fw.out w' (bE.out.trans (h.mono (by omega))))
      refine Ss (S:=fun w'=>Kept (fun k=>k=g∨(Sy A.at_ A.rows.length A.cap).ownBlock=some k) W w') (by kernel_rfl) (gW.out _ hd0) (fun _=>?_)
      refine ab 0 (.pointer (some ⟨g,6,none⟩)) (gW.out _ hd0) ?_
      refine ab 2 (.pointer (some ⟨w.heap.size+1,6,none⟩)) (gW.out _ hd0) ?_
      refine ab 3 (.slice b.at_ b.rows.length b.cap) (gW.out _ hd0) ?_ (hy:=.inl ⟨by rfl,fun w_ aH=>by have q_:=Jw.out w_ aH;go_simp⟩)
      refine dP 1 4 (fun K hK=>?_) (fun K hK=>?_)
      focus
       have cg:=M9.out _ hd0
       go_simp
       refine goOn hK (gW.out _ hd0) ?_
       clear hK cg
       refine aq 4 (fun K hK=>?_)
       go_simp
       refine(Im.out _ hd0).mono ?_
       rintro e v1 ⟨a',c',rows',rfl,hr',hm',hu',ho',E7,ar⟩
       have hv1:St W.heap.size W v1:=ak hd0 ar
       have hu1:∀ k,dh a' rows' k→W.heap.size≤k:=fun k hk=>Sw hd0.size (hu' k hk)
       have hrl:A.rows.length+rows'.length≤4:=by have q_:=congrArg SA hm';simp only [SB] at q_;omega
       clear ar hu' ho' E7
       go_wp2_with fail
       refine goOn hK (gW.out _ hv1) ?_
       clear hK
      rotate_left
      focus
       go_simp
       refine(Im.out _ hd0).mono ?_
       rintro e v1 ⟨a',c',rows',rfl,hr',hm',hu',ho',E7,ar⟩
       have hv1:St W.heap.size W v1:=ak hd0 ar
       have hu1:∀ k,dh a' rows' k→W.heap.size≤k:=fun k hk=>Sw hd0.size (hu' k hk)
       have hrl:A.rows.length+rows'.length≤4:=by have q_:=congrArg SA hm';simp only [SB] at q_;omega
       clear ar hu' ho' E7
       go_wp2_with fail
       refine goOn hK (gW.out _ hv1) ?_
       clear hK
       refine aq 1 (fun K hK=>?_)
       have cg:=M9.out _ hv1
       go_simp
       refine goOn hK (gW.out _ hv1) ?_
       clear hK cg
      all_goals
       refine aq 5 (fun K hK=>?_)
       rw [if_pos (by rfl)]
       refine iH (enc:=Row.enc) (Ok:=Row.lies) v1 (.tmp 26) (.tmp 29) 38 rfl w2.heap.size 75 j0 _ 1 24 Tryz.underlying38 JI.out J0.out J1.out J2.out rfl (by decide) (fun _=>rfl) Row.one (.slice A.at_ A.rows.length A.cap) A.rows.length (A.rows.flatMap Row.enc) rfl (OU.out _ hv1) a' c' rows' rfl hr' ?h63 ?hb ?hbase ?_
       case h63=>unfold maxLen;omega
       case hb=>omega
       case hbase=>have:=hv1.size;omega
       intro v' v2 hown' hgrow hat
       obtain⟨av,cv,rfl⟩:=j6 hown'
       have hS2:Kept (fun k=>k=g∨(Sy A.at_ A.rows.length A.cap).ownBlock=some k) W v2:=Kept.andGrown (gW.out _ hv1) hgrow fun k e _=>.inr e
       refine goOn hK hS2 ?_
       clear hK
       refine ab 6 (.pointer (some ⟨g,6,none⟩)) hS2 ?_
       refine aq 7 (fun K hK=>?_)
       have pg:=(hgrow.block g (by have:=hv1.size;omega) (fun e=>by have:=HOW.out _ e.symm;omega)).trans ((hv1.block g (by omega)).trans PW.out)
       have cg:=Sj _ _ 6 _ 72 (0,0) pg
       have fg:v2.frozen? ⟨g,6,none⟩=false:=by simp [Sl.frozen?,pg]
       go_simp
       have nX:Kept (fun k=>k=g∨(Sy A.at_ A.rows.length A.cap).ownBlock=some k) W (v2.setCell ⟨g,6,none⟩ (.slice av (A.rows.length+rows'.length) cv)):=hS2.setCell (p:=⟨g,6,none⟩) (.inr (.inl rfl)) _
       refine goOn hK nX ?_
       clear hK cg fg
       refine Sr (by kernel_rfl) ?_ _
       go_wp2_with fail
       go_meet
       have nV:=heap_setCell_same v2 g 6 _ 72 (.slice av (A.rows.length+rows'.length) cv) pg
       exact MQ.out a' c' rows' v1 v2 av cv hv1 hr' hm' hu1 hown' hgrow hat nV nX
     case rest =>
      obtain⟨y,hy,rE,hyl,hyu,hyn,hyg,hyk⟩:=hcut
      have hsc:=hyk.size
      have hnb:∀ k,k<w2.heap.size→¬ (k=g∨(Sy A.at_ A.rows.length A.cap).ownBlock=some k):=fun k hk e=>by
       rcases e with e|e
       · omega
       · have:=HOW.out _ e;omega
      have aC:=(hyk.block w.heap.size (by omega) (hnb _ (by omega))).trans AW.out
      have bC:=(hyk.block (w.heap.size+1) (by omega) (hnb _ (by omega))).trans BW.out
      have zC:=(hyk.block (w.heap.size+1+1) (by omega) (hnb _ (by omega))).trans ZW.out
      have hbC:St w.heap.size w wc:=bE.out.trans (hyk.below (by omega) fun k hk=>hnb k (by omega))
      have c1:wc.cell? ⟨w.heap.size,1,none⟩=some (.int .i64 a.inn):=Sj _ _ 1 _ 72 (0,0) aC
      have c2:wc.cell? ⟨w.heap.size,2,none⟩=some (.int .i64 a.out):=Sj _ _ 2 _ 72 (0,0) aC
      have d1:wc.cell? ⟨w.heap.size+1,1,none⟩=some (.int .i64 b.inn):=Sj _ _ 1 _ 72 (0,0) bC
      have d2:wc.cell? ⟨w.heap.size+1,2,none⟩=some (.int .i64 b.out):=Sj _ _ 2 _ 72 (0,0) bC
      have HY:=h_ (Sx hy (Sx rE (Sx hyl hyu)))
      have My:=h_ hyg
      have Nd:=h_ HA2.out.1
      have Jq:=h_ (show ∀ k,y.uses k→w.heap.size≤k from fun k h=>by have:=hyn k h;omega)
      have Mx:=h_ (show ∀ k,y.uses k→k≠w.heap.size+1+1 from fun k h=>by have:=hyn k h;omega)
      have ZC:=h_ zC
      have vO:=h_ hbC
      have fg:∀ j,wc.frozen? ⟨g,j,none⟩=false:=fun j=>by simp [Sl.frozen?,hyg]
      have g1:wc.cell? ⟨g,1,none⟩=some (.int .i64 y.inn):=Sj _ _ 1 _ 72 (0,0) hyg
      have g2:wc.cell? ⟨g,2,none⟩=some (.int .i64 y.out):=Sj _ _ 2 _ 72 (0,0) hyg
      clear hy rE hyl hyu hyn hyg hyk aC bC zC hbC hnb Fw HOW HA2 JI J0 J1 J2 MS F8 MQ AW BW ZW PW bE
      go_upto_region 8 with fail
      obtain⟨Y,hY⟩:∃ Y:Ev,Y={ y with inn:=min a.inn b.inn,out:=max a.out b.out }:=⟨_,rfl⟩
      have r9:=heap_setCell_same _ g 2 _ 72 (.int .i64 (max a.out b.out)) (heap_setCell_same wc g 1 _ 72 (.int .i64 (min a.inn b.inn)) My.out)
      rw [show(y.enc.toArray.setIfInBounds 1 (.int .i64 (min a.inn b.inn))).setIfInBounds 2 (.int .i64 (max a.out b.out))=Y.enc.toArray from by rw [hY];simp [Ev.enc]] at r9
      have eX:Kept (fun b=>b=g) wc ((wc.setCell ⟨g,1,none⟩ (.int .i64 (min a.inn b.inn))).setCell ⟨g,2,none⟩ (.int .i64 (max a.out b.out))):=bG (bG (Kept.refl _ _) 1 _) 2 _
      generalize (wc.setCell ⟨g,1,none⟩ (.int .i64 (min a.inn b.inn))).setCell ⟨g,2,none⟩ (.int .i64 (max a.out b.out))=w9 at *
      have vd:=eX.size
      have z9:=(eX.block (w.heap.size+1+1) (by omega) (by omega)).trans ZC.out
      have jq:St w.heap.size w w9:=vO.out.trans (eX.below (by have:=vO.out.size;omega) fun k hk e=>by omega)
      have hYl:Y.lies w9:=by
       rw [hY]
       refine bx.frame (rows:=y.rows) HY.out.2.2.1 vd fun k hk=>eX.block k (gM HY.out.2.2.1 hk) (HY.out.2.2.2 k hk)
      have Og:∀ k,Y.uses k→k<wc.heap.size:=fun k h=>by rw [hY] at h;exact gM HY.out.2.2.1 h
      have Mh:∀ k,Y.uses k→w.heap.size≤k:=fun k h=>by rw [hY] at h;exact Jq.out k h
      have Mg:∀ k,Y.uses k→k≠w.heap.size+1+1:=fun k h=>by rw [hY] at h;exact Mx.out k h
      have r10:=Sn w9 (w.heap.size+1+1) _ Y.enc.toArray 72 (0,0) z9
      have hk10:Kept (fun b=>b=w.heap.size+1+1) w9 (w9.setRow (w.heap.size+1+1) Y.enc.toArray):=bj _ _ _
      have l6:=h_ (bD.out Y (w9.setRow (w.heap.size+1+1) Y.enc.toArray) ⟨O0.out,by
       have h1:=HY.out.1
       have h2:=HY.out.2.1
       have hA:=Nd.out
       simp only [Ev.c,og,EvC.mk.injEq] at hA ⊢
       rw [hY]
       refine⟨?_,rfl,rfl,?_,?_,?_,?_⟩
       · rw [h1];exact hA.1
       · rw [h1];exact hA.2.2.2.1
       · rw [h1];exact hA.2.2.2.2.1
       · rw [h1];exact hA.2.2.2.2.2.1
       · show y.rows.map Row.runs=_
         rw [h2,hA.2.2.2.2.2.2],
       Ev.frame hYl (by rw [size_setRow];exact Sv _) (fun k h=>aK _ _ _ _ (Mg k h)),Mh,Sm jq (by omega) _⟩)
      have L0:=ai r9
      clear hYl Og Mg Mh Jq HY My ZC vO fg g1 g2 c1 c2 d1 d2 bD Nd Mx hk10 jq eX hY
      go_wp2_with (first|(refine aj 72 (.tmp 6) rfl (g) 0 rfl Y.enc _ L0 Tryz.underlying72 rfl aV (by rfl) ?_)|(refine Sk rfl 72 (.tmp 4) (.tmp 48) rfl (w.heap.size+1+1) (Y.enc.toArray) rfl rfl 72 _ z9 aV rfl (mL _) ?_))
      generalize w9.setRow (w.heap.size+1+1) Y.enc.toArray=w10 at *
      clear L0 r9 z9
      obtain⟨yid,yin,yout,yre,yki,ysp,yat,ycap,yrows⟩:=Y
      simp only [Ev.enc] at r10 l6
      have fin4:∀ j,w10.cell? ⟨w.heap.size+1+1,j,none⟩=_:=fun j=>Sj _ _ j _ 72 (0,0) r10
      go_wp2_with fail
      refine Sq (v:=.tuple #[.agg #[.int .i64 yid,.int .i64 yin,.int .i64 yout,.string yre,.int .u8 yki,.string ysp,.slice yat yrows.length ycap],.int .i64 0]) (by simp [results,Tryz.results91,go_sem,fin4]) rfl ?_
      exact l6.out
theorem ui (x:Ed)(u:Int)(w:Sl):Calls Tryz.prog 74 #[.agg x.enc.toArray,.int .i64 u] w fun e w'=>e=.returned (.bool ((gI x).all (okS u)))∧St w.heap.size w w':=by
 have hq0:((gI x).drop 0).all (okS u)=(gI x).all (okS u):=rfl
 have HL:=h_ (show gI x=[(1,x.id==0),(2,x.other==0),(4,x.inn==0&&x.out==0),(8,x.frame==0),(16,x.row==0),(32,x.frm==0&&x.til==0),(64,x.kind==0),(128,x.color==0&&!x.it&&!x.un),(256,x.name.toList.isEmpty),(512,x.text.toList.isEmpty),(1024,gO x.reg gn),(2048,(x.rows.length:Int)==0)] from rfl)
 have hlen:(gI x).length=12:=rfl
 have HP:=h_ hq0
 have HQ:=h_ (fun(b:Bool) (hb:(gI x).all (okS u)=b) (w':Sl) (h:St w.heap.size w w')=>(show Ending.returned (.bool b)=Ending.returned (.bool ((gI x).all (okS u)))∧St w.heap.size w w' from⟨by rw [hb],h⟩))
 have HLEN:=h_ hlen
 have HB:=h_ (CO w x.enc.toArray 40)
 have fW:St w.heap.size w (w.alloc (.cells x.enc.toArray 40)):=(Su _ _).alloc (Sv _) _
 have hsA:w.heap.size+1≤(w.alloc (.cells x.enc.toArray 40)).heap.size:=by simp
 generalize (gI x).all (okS u)=ANS at *
 generalize gI x=fs at *
 clear hq0 hlen
 go_enter Tryz.func74,Tryz.ntmps74
 go_upto_region 1 with fail
 have h0:=HB.out
 clear HB
 generalize w.alloc (.cells x.enc.toArray 40)=W at *
 have bE:=h_ fW
 have H0:=h_ h0
 clear fW h0
 go_cut [64,65,66] from 7 to 63 (fun a b c wx=>∃ gs,a=.slice (some ⟨gs,0,none⟩) 12 12∧b=.int .i64 12∧c=.int .i64 0∧W.heap.size≤gs∧wx.heap[gs]? =some (.cells (pairs fs).toArray 168 (0,0))∧St W.heap.size W wx)
 case first =>
  have hd0:St W.heap.size W W.drew:=(Su _ _).drew
  have HV:=h_ (fun(w':Sl) (h:St W.heap.size W w') (j:Nat) (v:Value) (hv:x.enc[j]? =some v)=>(show w'.cell? ⟨w.heap.size,j,none⟩=some v from by
   have:=ai ((h.block w.heap.size (by omega)).trans H0.out) j v hv
   rwa [Nat.zero_add] at this))
  clear H0 bE HP HQ HLEN
  obtain⟨op,id,other,inn,out,frame,row,frm,til,kind,color,it,un,name,text,⟨rn,rt,rh,rl,rwd,ra,rb⟩,at_,cap,rows⟩:=x
  have Is:=h_ (fun w'=>Gf rn rt rh rl rwd ra rb w')
  simp only at HL
  generalize gO ⟨rn,rt,rh,rl,rwd,ra,rb⟩ gn=RE at *
  refine Ss (S:=fun w'=>St W.heap.size W w') (by kernel_rfl) hd0 (fun _=>?_)
  generalize W.drew=v0 at *
  by_cases hfr:frm=0
  · subst hfr
    have hbq:fs=[(1,id==0),(2,other==0),(4,inn==0&&out==0),(8,frame==0),(16,row==0),(32,til==0),(64,kind==0),(128,color==0&&!it&&!un),(256,name.toList.isEmpty),(512,text.toList.isEmpty),(1024,RE),(2048,(rows.length:Int)==0)]:=HL.out
    clear HL
    refine ab 0 (.pointer (some ⟨w.heap.size,1,none⟩)) hd0 ?_
    refine ab 1 (.int .i64 id) hd0 ?_ (hy:=.inl ⟨by rfl,fun w_ aH=>by have q1:=HV.out w_ aH 1 _ rfl;go_simp⟩)
    refine ab 2 (.bool (id==0)) hd0 ?_
    refine ab 3 (.agg #[.int .i64 1,.bool (id==0)]) hd0 ?_
    refine ab 4 (.pointer (some ⟨w.heap.size,2,none⟩)) hd0 ?_
    refine ab 5 (.int .i64 other) hd0 ?_ (hy:=.inl ⟨by rfl,fun w_ aH=>by have q2:=HV.out w_ aH 2 _ rfl;go_simp⟩)
    refine ab 6 (.bool (other==0)) hd0 ?_
    refine ab 7 (.agg #[.int .i64 2,.bool (other==0)]) hd0 ?_
    refine ab 8 (.pointer (some ⟨w.heap.size,3,none⟩)) hd0 ?_
    refine ab 9 (.agg #[.int .i64 inn,.int .i64 out]) hd0 ?_ (hy:=.inl ⟨by rfl,fun w_ aH=>by have q3:=HV.out w_ aH 3 _ rfl;have q4:=HV.out w_ aH 4 _ rfl;go_simp⟩)
    refine ab 10 (.agg #[.int .i64 0,.int .i64 0]) hd0 ?_
    refine ab 11 (.bool (inn==0&&out==0)) hd0 ?_ (hy:=.inl ⟨by rfl,fun w_ aH=>by go_simp;by_cases h1:inn=0<;>by_cases h2:out=0<;>simp [h1,h2]⟩)
    refine ab 12 (.agg #[.int .i64 4,.bool (inn==0&&out==0)]) hd0 ?_
    refine ab 13 (.pointer (some ⟨w.heap.size,5,none⟩)) hd0 ?_
    refine ab 14 (.int .i64 frame) hd0 ?_ (hy:=.inl ⟨by rfl,fun w_ aH=>by have q5:=HV.out w_ aH 5 _ rfl;go_simp⟩)
    refine ab 15 (.bool (frame==0)) hd0 ?_
    refine ab 16 (.agg #[.int .i64 8,.bool (frame==0)]) hd0 ?_
    refine ab 17 (.pointer (some ⟨w.heap.size,6,none⟩)) hd0 ?_
    refine ab 18 (.int .i64 row) hd0 ?_ (hy:=.inl ⟨by rfl,fun w_ aH=>by have q6:=HV.out w_ aH 6 _ rfl;go_simp⟩)
    refine ab 19 (.bool (row==0)) hd0 ?_
    refine ab 20 (.agg #[.int .i64 16,.bool (row==0)]) hd0 ?_
    refine ab 21 (.pointer (some ⟨w.heap.size,7,none⟩)) hd0 ?_
    refine ab 22 (.int .i64 0) hd0 ?_ (hy:=.inl ⟨by rfl,fun w_ aH=>by have q7:=HV.out w_ aH 7 _ rfl;go_simp⟩)
    refine ab 23 (.bool true) hd0 ?_
    refine ab 24 (.bool true) hd0 ?_
    refine ab 25 (.pointer (some ⟨w.heap.size,8,none⟩)) hd0 ?_
    refine ab 26 (.int .i64 til) hd0 ?_ (hy:=.inl ⟨by rfl,fun w_ aH=>by have q8:=HV.out w_ aH 8 _ rfl;go_simp⟩)
    refine ab 27 (.bool (til==0)) hd0 ?_
    refine ab 28 (.bool (til==0)) hd0 ?_
    refine ab 29 (.agg #[.int .i64 32,.bool (til==0)]) hd0 ?_
    refine ab 30 (.pointer (some ⟨w.heap.size,9,none⟩)) hd0 ?_
    refine ab 31 (.int .u8 kind) hd0 ?_ (hy:=.inl ⟨by rfl,fun w_ aH=>by have q9:=HV.out w_ aH 9 _ rfl;go_simp⟩)
    refine ab 32 (.bool (kind==0)) hd0 ?_
    refine ab 33 (.agg #[.int .i64 64,.bool (kind==0)]) hd0 ?_
    refine ab 34 (.pointer (some ⟨w.heap.size,10,none⟩)) hd0 ?_
    refine ab 35 (.agg #[.int .u8 color,.bool it,.bool un]) hd0 ?_ (hy:=.inl ⟨by rfl,fun w_ aH=>by have q10:=HV.out w_ aH 10 _ rfl;have q11:=HV.out w_ aH 11 _ rfl;have q12:=HV.out w_ aH 12 _ rfl;go_simp⟩)
    refine ab 36 (.agg #[.int .u8 0,.bool false,.bool false]) hd0 ?_
    refine ab 37 (.bool (color==0&&!it&&!un)) hd0 ?_ (hy:=.inl ⟨by rfl,fun w_ aH=>by go_simp;by_cases h1:color=0<;>cases it<;>cases un<;>simp [h1]⟩)
    refine ab 38 (.agg #[.int .i64 128,.bool (color==0&&!it&&!un)]) hd0 ?_
    refine ab 39 (.pointer (some ⟨w.heap.size,13,none⟩)) hd0 ?_
    refine ab 40 (.string name) hd0 ?_ (hy:=.inl ⟨by rfl,fun w_ aH=>by have q13:=HV.out w_ aH 13 _ rfl;go_simp⟩)
    refine ab 41 (.bool name.toList.isEmpty) hd0 ?_
    refine ab 42 (.agg #[.int .i64 256,.bool name.toList.isEmpty]) hd0 ?_
    refine ab 43 (.pointer (some ⟨w.heap.size,14,none⟩)) hd0 ?_
    refine ab 44 (.string text) hd0 ?_ (hy:=.inl ⟨by rfl,fun w_ aH=>by have q14:=HV.out w_ aH 14 _ rfl;go_simp⟩)
    refine ab 45 (.bool text.toList.isEmpty) hd0 ?_
    refine ab 46 (.agg #[.int .i64 512,.bool text.toList.isEmpty]) hd0 ?_
    refine ab 47 (.pointer (some ⟨w.heap.size,15,none⟩)) hd0 ?_
    refine ab 48 (.agg #[.string rn,.int .i64 rt,.int .i64 rh,.int .i64 rl,.int .i64 rwd,.int .u8 ra,.bool rb]) hd0 ?_ (hy:=.inl ⟨by rfl,fun w_ aH=>by have q15:=HV.out w_ aH 15 _ rfl;have q16:=HV.out w_ aH 16 _ rfl;have q17:=HV.out w_ aH 17 _ rfl;have q18:=HV.out w_ aH 18 _ rfl;have q19:=HV.out w_ aH 19 _ rfl;have q20:=HV.out w_ aH 20 _ rfl;have q21:=HV.out w_ aH 21 _ rfl;go_simp⟩)
    refine ab 49 (.agg #[.string ⟨#[]⟩,.int .i64 0,.int .i64 0,.int .i64 0,.int .i64 0,.int .u8 0,.bool false]) hd0 ?_
    refine ab 50 (.bool RE) hd0 ?_ (hy:=.inl ⟨by rfl,fun w_ aH=>by go_simp;exact Is.out w_⟩)
    refine ab 51 (.agg #[.int .i64 1024,.bool RE]) hd0 ?_
    refine ab 52 (.pointer (some ⟨w.heap.size,22,none⟩)) hd0 ?_
    refine ab 53 (.slice at_ rows.length cap) hd0 ?_ (hy:=.inl ⟨by rfl,fun w_ aH=>by have q22:=HV.out w_ aH 22 _ rfl;go_simp⟩)
    refine ab 54 (.int .i64 rows.length) hd0 ?_
    refine ab 55 (.bool ((rows.length:Int)==0)) hd0 ?_
    refine ab 56 (.agg #[.int .i64 2048,.bool ((rows.length:Int)==0)]) hd0 ?_
    refine ab 59 (.int .i64 0) hd0 ?_
    refine aq 57 (fun K hK=>?_)
    go_simp
    have hal:=Sp v0 (.cells (pairs ([(1,id==0),(2,other==0),(4,inn==0&&out==0),(8,frame==0),(16,row==0),(32,til==0),(64,kind==0),(128,color==0&&!it&&!un),(256,name.toList.isEmpty),(512,text.toList.isEmpty),(1024,RE),(2048,(rows.length:Int)==0)]) ).toArray 168)
    have hS2:St W.heap.size W (v0.alloc (.cells (pairs ([(1,id==0),(2,other==0),(4,inn==0&&out==0),(8,frame==0),(16,row==0),(32,til==0),(64,kind==0),(128,color==0&&!it&&!un),(256,name.toList.isEmpty),(512,text.toList.isEmpty),(1024,RE),(2048,(rows.length:Int)==0)])).toArray 168)):=hd0.alloc (by have:=hd0.size;omega) _
    refine goOn hK hS2 ?_
    clear hK
    refine ab 58 (.int .i64 12) hS2 ?_
    refine Sr (by kernel_rfl) ?_ _
    go_wp2_with fail
    go_meet
    exact⟨v0.heap.size,rfl,rfl,rfl,hd0.size,by rw [hbq];exact hal,hS2⟩
  · have KL:(frm==0)=false:=by simpa using hfr
    have hbq:fs=[(1,id==0),(2,other==0),(4,inn==0&&out==0),(8,frame==0),(16,row==0),(32,false),(64,kind==0),(128,color==0&&!it&&!un),(256,name.toList.isEmpty),(512,text.toList.isEmpty),(1024,RE),(2048,(rows.length:Int)==0)]:=HL.out.trans (by rw [KL];rfl)
    clear HL hfr
    refine ab 0 (.pointer (some ⟨w.heap.size,1,none⟩)) hd0 ?_
    refine ab 1 (.int .i64 id) hd0 ?_ (hy:=.inl ⟨by rfl,fun w_ aH=>by have q1:=HV.out w_ aH 1 _ rfl;go_simp⟩)
    refine ab 2 (.bool (id==0)) hd0 ?_
    refine ab 3 (.agg #[.int .i64 1,.bool (id==0)]) hd0 ?_
    refine ab 4 (.pointer (some ⟨w.heap.size,2,none⟩)) hd0 ?_
    refine ab 5 (.int .i64 other) hd0 ?_ (hy:=.inl ⟨by rfl,fun w_ aH=>by have q2:=HV.out w_ aH 2 _ rfl;go_simp⟩)
    refine ab 6 (.bool (other==0)) hd0 ?_
    refine ab 7 (.agg #[.int .i64 2,.bool (other==0)]) hd0 ?_
    refine ab 8 (.pointer (some ⟨w.heap.size,3,none⟩)) hd0 ?_
    refine ab 9 (.agg #[.int .i64 inn,.int .i64 out]) hd0 ?_ (hy:=.inl ⟨by rfl,fun w_ aH=>by have q3:=HV.out w_ aH 3 _ rfl;have q4:=HV.out w_ aH 4 _ rfl;go_simp⟩)
    refine ab 10 (.agg #[.int .i64 0,.int .i64 0]) hd0 ?_
    refine ab 11 (.bool (inn==0&&out==0)) hd0 ?_ (hy:=.inl ⟨by rfl,fun w_ aH=>by go_simp;by_cases h1:inn=0<;>by_cases h2:out=0<;>simp [h1,h2]⟩)
    refine ab 12 (.agg #[.int .i64 4,.bool (inn==0&&out==0)]) hd0 ?_
    refine ab 13 (.pointer (some ⟨w.heap.size,5,none⟩)) hd0 ?_
    refine ab 14 (.int .i64 frame) hd0 ?_ (hy:=.inl ⟨by rfl,fun w_ aH=>by have q5:=HV.out w_ aH 5 _ rfl;go_simp⟩)
    refine ab 15 (.bool (frame==0)) hd0 ?_
    refine ab 16 (.agg #[.int .i64 8,.bool (frame==0)]) hd0 ?_
    refine ab 17 (.pointer (some ⟨w.heap.size,6,none⟩)) hd0 ?_
    refine ab 18 (.int .i64 row) hd0 ?_ (hy:=.inl ⟨by rfl,fun w_ aH=>by have q6:=HV.out w_ aH 6 _ rfl;go_simp⟩)
    refine ab 19 (.bool (row==0)) hd0 ?_
    refine ab 20 (.agg #[.int .i64 16,.bool (row==0)]) hd0 ?_
    refine ab 21 (.pointer (some ⟨w.heap.size,7,none⟩)) hd0 ?_
    refine ab 22 (.int .i64 frm) hd0 ?_ (hy:=.inl ⟨by rfl,fun w_ aH=>by have q7:=HV.out w_ aH 7 _ rfl;go_simp⟩)
    refine ab 23 (.bool false) hd0 ?_
    refine ab 24 (.bool false) hd0 ?_
    refine ax 25 hd0 ?_
    refine ax 26 hd0 ?_
    refine ax 27 hd0 ?_
    refine ab 28 (.bool false) hd0 ?_
    refine ab 29 (.agg #[.int .i64 32,.bool false]) hd0 ?_
    refine ab 30 (.pointer (some ⟨w.heap.size,9,none⟩)) hd0 ?_
    refine ab 31 (.int .u8 kind) hd0 ?_ (hy:=.inl ⟨by rfl,fun w_ aH=>by have q9:=HV.out w_ aH 9 _ rfl;go_simp⟩)
    refine ab 32 (.bool (kind==0)) hd0 ?_
    refine ab 33 (.agg #[.int .i64 64,.bool (kind==0)]) hd0 ?_
    refine ab 34 (.pointer (some ⟨w.heap.size,10,none⟩)) hd0 ?_
    refine ab 35 (.agg #[.int .u8 color,.bool it,.bool un]) hd0 ?_ (hy:=.inl ⟨by rfl,fun w_ aH=>by have q10:=HV.out w_ aH 10 _ rfl;have q11:=HV.out w_ aH 11 _ rfl;have q12:=HV.out w_ aH 12 _ rfl;go_simp⟩)
    refine ab 36 (.agg #[.int .u8 0,.bool false,.bool false]) hd0 ?_
    refine ab 37 (.bool (color==0&&!it&&!un)) hd0 ?_ (hy:=.inl ⟨by rfl,fun w_ aH=>by go_simp;by_cases h1:color=0<;>cases it<;>cases un<;>simp [h1]⟩)
    refine ab 38 (.agg #[.int .i64 128,.bool (color==0&&!it&&!un)]) hd0 ?_
    refine ab 39 (.pointer (some ⟨w.heap.size,13,none⟩)) hd0 ?_
    refine ab 40 (.string name) hd0 ?_ (hy:=.inl ⟨by rfl,fun w_ aH=>by have q13:=HV.out w_ aH 13 _ rfl;go_simp⟩)
    refine ab 41 (.bool name.toList.isEmpty) hd0 ?_
    refine ab 42 (.agg #[.int .i64 256,.bool name.toList.isEmpty]) hd0 ?_
    refine ab 43 (.pointer (some ⟨w.heap.size,14,none⟩)) hd0 ?_
    refine ab 44 (.string text) hd0 ?_ (hy:=.inl ⟨by rfl,fun w_ aH=>by have q14:=HV.out w_ aH 14 _ rfl;go_simp⟩)
    refine ab 45 (.bool text.toList.isEmpty) hd0 ?_
    refine ab 46 (.agg #[.int .i64 512,.bool text.toList.isEmpty]) hd0 ?_
    refine ab 47 (.pointer (some ⟨w.heap.size,15,none⟩)) hd0 ?_
    refine ab 48 (.agg #[.string rn,.int .i64 rt,.int .i64 rh,.int .i64 rl,.int .i64 rwd,.int .u8 ra,.bool rb]) hd0 ?_ (hy:=.inl ⟨by rfl,fun w_ aH=>by have q15:=HV.out w_ aH 15 _ rfl;have q16:=HV.out w_ aH 16 _ rfl;have q17:=HV.out w_ aH 17 _ rfl;have q18:=HV.out w_ aH 18 _ rfl;have q19:=HV.out w_ aH 19 _ rfl;have q20:=HV.out w_ aH 20 _ rfl;have q21:=HV.out w_ aH 21 _ rfl;go_simp⟩)
    refine ab 49 (.agg #[.string ⟨#[]⟩,.int .i64 0,.int .i64 0,.int .i64 0,.int .i64 0,.int .u8 0,.bool false]) hd0 ?_
    refine ab 50 (.bool RE) hd0 ?_ (hy:=.inl ⟨by rfl,fun w_ aH=>by go_simp;exact Is.out w_⟩)
    refine ab 51 (.agg #[.int .i64 1024,.bool RE]) hd0 ?_
    refine ab 52 (.pointer (some ⟨w.heap.size,22,none⟩)) hd0 ?_
    refine ab 53 (.slice at_ rows.length cap) hd0 ?_ (hy:=.inl ⟨by rfl,fun w_ aH=>by have q22:=HV.out w_ aH 22 _ rfl;go_simp⟩)
    refine ab 54 (.int .i64 rows.length) hd0 ?_
    refine ab 55 (.bool ((rows.length:Int)==0)) hd0 ?_
    refine ab 56 (.agg #[.int .i64 2048,.bool ((rows.length:Int)==0)]) hd0 ?_
    refine ab 59 (.int .i64 0) hd0 ?_
    refine aq 57 (fun K hK=>?_)
    go_simp
    have hal:=Sp v0 (.cells (pairs ([(1,id==0),(2,other==0),(4,inn==0&&out==0),(8,frame==0),(16,row==0),(32,false),(64,kind==0),(128,color==0&&!it&&!un),(256,name.toList.isEmpty),(512,text.toList.isEmpty),(1024,RE),(2048,(rows.length:Int)==0)]) ).toArray 168)
    have hS2:St W.heap.size W (v0.alloc (.cells (pairs ([(1,id==0),(2,other==0),(4,inn==0&&out==0),(8,frame==0),(16,row==0),(32,false),(64,kind==0),(128,color==0&&!it&&!un),(256,name.toList.isEmpty),(512,text.toList.isEmpty),(1024,RE),(2048,(rows.length:Int)==0)])).toArray 168)):=hd0.alloc (by have:=hd0.size;omega) _
    refine goOn hK hS2 ?_
    clear hK
    refine ab 58 (.int .i64 12) hS2 ?_
    refine Sr (by kernel_rfl) ?_ _
    go_wp2_with fail
    go_meet
    exact⟨v0.heap.size,rfl,rfl,rfl,hd0.size,by rw [hbq];exact hal,hS2⟩
 case rest =>
  obtain⟨gs,rfl,rfl,rfl,hgs,hc,hb⟩:=hcut
  have hs:=bE.out.size
  have hsb:=hb.size
  have EP:=aR hc
  have hl2:fs.length=12:=HLEN.out
  have hce:∀ (k:Nat) (p:Int × Bool),fs[k]? =some p→∀ w',St wc.heap.size wc w'→w'.cell? ⟨gs,k*2,none⟩=some (.int .i64 p.1)∧w'.cell? ⟨gs,k*2+1,none⟩=some (.bool p.2):=fun k p hp w' hbw=>by
   have h2:=(hbw.block gs EP).trans hc
   refine⟨?_,?_⟩
   · rw [Sj _ _ (k*2) _ 168 (0,0) h2]
     have:=cK (fun p:Int × Bool=>[Sz .i64 p.1,.bool p.2]) 2 (fun _=>rfl) fs k p 0 _ hp rfl
     rw [Nat.add_zero] at this
     simpa [pairs] using this
   · rw [Sj _ _ (k*2+1) _ 168 (0,0) h2]
     have:=cK (fun p:Int × Bool=>[Sz .i64 p.1,.bool p.2]) 2 (fun _=>rfl) fs k p 1 _ hp rfl
     simpa [pairs] using this
  have wZ:=h_ hce
  have HB0:=h_ (bE.out.trans (hb.mono (by omega)))
  have hsc:w.heap.size≤wc.heap.size:=by omega
  clear hc hb hce HL H0 bE HLEN
  go_wp2_with fail
  go_loopw [66] (fun kv wr=>∃ k:Nat,k≤fs.length∧kv=.int .i64 k∧(fs.drop k).all (okS u)=ANS∧St wc.heap.size wc wr) (fun kv _=>fs.length-(intOf kv).toNat)
  case atStart=>exact⟨0,by omega,rfl,HP.out,Su _ _⟩
  case round =>
   clear HP
   obtain⟨k,hk,rfl,hp,hbk⟩:=hrel
   have hsk:=hbk.size
   by_cases hlt:k<12
   · have hx:fs[k]? =some fs[k]:=List.getElem?_eq_getElem (by omega)
     generalize fs[k]=q at hx
     obtain⟨d0,d1⟩:=wZ.out k q hx wr hbk
     have hd:=ck fs k q hx
     rw [hd,List.all_cons] at hp
     have jm:=h_ hp
     have hok:okS u q=(hasB u q.1||q.2):=rfl
     have EO:hasB u q.1=!(bits BinOp.and IntKind.i64 u q.1==0):=rfl
     obtain⟨b,z⟩:=q
     simp only at d0 d1 hok EO
     have lJ:=h_ hok
     have rq:=EO
     have fW:St wc.heap.size wc (wr.alloc (.cells #[.int .i64 b,.bool z] 168)):=hbk.alloc hsk _
     have oQ:=h_ fW
     have fB:=h_ (HB0.out.trans (fW.mono hsc))
     clear hp hd hx hok EO fW hbk
     by_cases hv:bits BinOp.and IntKind.i64 u b=0
     · rw [hv] at rq
       cases z with
       | false =>
         have HF:=h_ (HQ.out false (by rw [←jm.out,lJ.out,rq];rfl) _ fB.out)
         clear jm lJ rq oQ fB HQ
         go_wp2_with fail
         go_ret
         exact HF.out
       | true =>
         have hp2:(fs.drop (k+1)).all (okS u)=ANS:=by rw [←jm.out,lJ.out];simp
         clear jm lJ rq fB HQ
         go_wp2_with fail
         go_roundw
         case rel=>exact⟨k+1,by omega,by go_num,hp2,oQ.out⟩
         case measure=>simp [intOf];omega
     · have hv':(bits BinOp.and IntKind.i64 u b==0)=false:=by simpa using hv
       have hp2:(fs.drop (k+1)).all (okS u)=ANS:=by rw [←jm.out,lJ.out,rq,hv'];simp
       clear jm lJ rq fB HQ hv'
       go_wp2_with fail
       go_roundw
       case rel=>exact⟨k+1,by omega,by go_num,hp2,oQ.out⟩
       case measure=>simp [intOf];omega
   · obtain rfl:k=12:=by omega
     rw [List.drop_of_length_le (by omega)] at hp
     have HF:=h_ (HQ.out true (hp.symm.trans rfl) wr (HB0.out.trans (hbk.mono hsc)))
     clear hp hbk HQ
     go_wp2_with fail
     go_ret
     exact HF.out
end Go.Proofs.YtjebaagkomejaaaGreatDoor
