/- history: Do and Replace. captionerlaw16: add and awake. captionerlaw16.HistoryKeeps. -/
import Derived.Test.YtjebaagkomejaaaGreatDoorK38
import Derived.Test.YtjebaagkomejaaaGreatDoorK37
set_option linter.unusedVariables false
set_option linter.unusedSimpArgs false
set_option maxRecDepth 100000
set_option maxHeartbeats 12800000
open Go.Lib renaming hid→h_
open List renaming setIfInBounds_toArray→YA,getElem_cons_zero→YB,getElem_cons_succ→YC,getElem_toArray→YD,set_cons_zero→YE,set_cons_succ→YF
open Array renaming toArray_toList→YG
open Go renaming World→Sj,heap_alloc_last→Sk,Ending→Sl,yieldsIf_load_mid→Sm,below_setRow→Sn,setRow_heap→Sp,wp_region_held_drew→Sq,wpList_store_row→Sr
open Go.RowKit renaming Below→Ss
open Nat renaming le_refl→St,le_trans→Su
open Go.RowKit.Below renaming refl→Sv
open Go.Value renaming string→Sw,slice→Sx,int→Sy
open List renaming map_eq_nil_iff→Sz,mem_of_getElem?→SA
namespace Go.Proofs.YtjebaagkomejaaaGreatDoor
open Go.RowKit
theorem kK (b:Nat)(h:Hs)(x:Ed)(w:Sj)(hE:Env w)(H:HsAt b h w)(hxl:x.lies w)(tP:x.fits)(Cr:h.undo.length≤16):Calls Tryz.prog 12 #[.pointer (some ⟨b,0,none⟩),.agg x.enc.toArray] w fun e w'=>e=.returned (.int .i64 (doH h.c x.c).1)∧nM (doH h.c x.c).2 b h w w':=by
 have hdo:=H.docs h.doc (by simp [Hs.docs])
 have HB:=h_ (iR w (.cells x.enc.toArray 40))
 have HH:=h_ H
 have Jc:=h_ (fun(w1:Sj) (hb:Ss w.heap.size w w1)=>vG h.doc x w1 (hE.below hb (St _)) (Doc.later hdo.1 hb) hdo.2.1 (Ed.later hxl hb) tP)
 have rz:=h_ (fun(D:Doc) (h0:(cj h.doc.c x.c).1=0) (hD:D.c=(cj h.doc.c x.c).2)=>AQ hdo.2.1 tP h0 hD)
 have Iw:=h_ (fun(w':Sj) (h0:¬ (cj h.doc.c x.c).1=0) (hb:Ss w.heap.size w w')=>(show(fun(e:Sl) (w':Sj)=>e=.returned (.int .i64 (doH h.c x.c).1)∧nM (doH h.c x.c).2 b h w w') (.returned (.int .i64 (cj h.doc.c x.c).1)) w' from by
  have e:doH h.c x.c=((cj h.doc.c x.c).1,h.c):=if_neg h0
  rw [e];exact⟨rfl,nM.same H hb⟩))
 have Iu:=h_ (fun(h0:(cj h.doc.c x.c).1=0) (w':Sj) (h':Hs) (s:cu (kV w) b h w h' w') (hc:h'.c=putH h.c (cj h.doc.c x.c).2)=>(show(fun(e:Sl) (w':Sj)=>e=.returned (.int .i64 (doH h.c x.c).1)∧nM (doH h.c x.c).2 b h w w') (.returned (.int .i64 0)) w' from by
  have e:doH h.c x.c=(0,putH h.c (cj h.doc.c x.c).2):=if_pos h0
  rw [e];exact⟨rfl,s.post hc⟩))
 generalize (fun(e:Sl) (w':Sj)=>e=.returned (.int .i64 (doH h.c x.c).1)∧nM (doH h.c x.c).2 b h w w')=Q at *
 clear H hdo hE hxl tP
 go_enter Tryz.func12,Tryz.ntmps12
 go_upto_region 3 with fail
 have z0:=HB.out.1
 have hb0:=HB.out.2.1
 have hs0:=HB.out.2.2
 clear HB
 obtain⟨w1,hw1⟩:∃ v,v=w.alloc (.cells x.enc.toArray 40):=⟨_,rfl⟩
 rw [←hw1] at z0 hb0 hs0 ⊢
 clear hw1
 have gY:=h_ (fun(w':Sj) (hb:Ss w1.heap.size w1 w')=>(show w'.rangeAt b 0 h.doc.enc∧w'.rangeAt w.heap.size 0 x.enc from⟨(bH ((hb.block b (by have:=iQ HH.out.at_;omega)).trans ((hb0.block b (iQ HH.out.at_)).trans HH.out.at_))).1,ai ((hb.block w.heap.size (by omega)).trans z0)⟩))
 have oR:=h_ (fun(w':Sj) (hb:Ss w1.heap.size w1 w')=>Jc.out w' (hb0.trans (hb.mono (by omega))))
 have HB0:=h_ hb0
 clear Jc z0 hb0
 generalize hR:cj h.doc.c x.c=R at *
 obtain⟨EE,DC⟩:=R
 clear hR
 simp only at rz Iw Iu
 go_cut [5,6] from 9 to 17 (fun p q wx=>∃ (g:Nat) (D:Doc),p=.pointer (some ⟨g,0,none⟩)∧q=.int .i64 EE∧D.c=DC∧D.lies wx∧(∀ k,D.uses k→w1.heap.size≤k)∧wx.heap[g]? =some (.cells D.enc.toArray 27 (0,0))∧w1.heap.size≤g∧Ss w1.heap.size w1 wx)
 case first =>
  have hd0:Ss w1.heap.size w1 w1.drew:=(Sv _ _).drew
  have oR:=h_ (fun(w':Sj) (hb:Ss w1.heap.size w1 w')=>(oR.out w' hb).mono fun e w2 hp=>(show ∃ D:Doc,e=.returned (.tuple #[.agg D.enc.toArray,.int .i64 EE])∧D.c=DC∧D.lies w2∧(∀ k,D.uses k→w'.heap.size≤k)∧Ss w'.heap.size w' w2 from hp))
  clear HH rz Iw Iu HB0
  go_upto_region 3 with fail
  refine Sq (S:=fun w'=>Ss w1.heap.size w1 w') (by kernel_rfl) hd0 (fun _=>?_)
  generalize w1.drew=v0 at *
  have hsd:=hd0.size
  refine ab 0 (.pointer (some ⟨b,0,none⟩)) hd0 ?_
  refine ab 1 (.pointer (some ⟨b,0,none⟩)) hd0 ?_
  refine ab 2 (.pointer (some ⟨b,0,none⟩)) hd0 ?_
  refine ab 3 (.agg h.doc.enc.toArray) hd0 ?_ (hy:=Sm (by rfl) 27 (.tmp 12) rfl b 0 rfl h.doc.enc _ (fun w_ h_=>(gY.out w_ h_).1) Tryz.underlying27 rfl ag)
  refine ab 4 (.agg x.enc.toArray) hd0 ?_ (hy:=Sm (by rfl) 40 (.tmp 3) rfl w.heap.size 0 rfl x.enc _ (fun w_ h_=>(gY.out w_ h_).2) Tryz.underlying40 rfl dX)
  refine dP 5 9 (fun K hK=>?_) (fun K hK=>?_)
  focus
   go_simp
   refine(oR.out _ hd0).mono ?_
   rintro e_ v1 ⟨D,rfl,bq,hDl,bP,ar⟩
   have hv1:Ss w1.heap.size w1 v1:=ak hd0 ar
   have hs1:=ar.size
   have iP:=(hd0).size
   replace bP:∀ k,D.uses k→w1.heap.size≤k:=fun k h=>Su iP (bP k h)
   have Ms:∀ k,D.uses k→k<v1.heap.size:=fun k h=>Doc.uses_lt hDl h
   clear ar iP
   go_wp2_with fail
   refine goOn hK hv1 ?_
   clear hK
   refine ab 6 (.tuple #[.agg D.enc.toArray,.int .i64 EE]) hv1 ?_
   refine ab 7 (.agg D.enc.toArray) hv1 ?_
   refine ab 8 (.int .i64 EE) hv1 ?_
   refine aq 9 (fun K hK=>?_)
   go_simp
   have zg:=Sk v1 (.cells zeD 27)
   have ar:Ss v1.heap.size v1 (v1.alloc (.cells zeD 27)):=(Sv _ _).alloc (St _) _
   have lg:v1.heap.size<(v1.alloc (.cells zeD 27)).heap.size:=by simp
   generalize v1.alloc (.cells zeD 27)=v2 at *
   obtain⟨g,hg⟩:∃ g,g=v1.heap.size:=⟨_,rfl⟩
   rw [←hg] at zg lg ⊢
   have qg:v1.heap.size≤g∧g≤v1.heap.size:=by omega
   clear hg
   have hv2:Ss w1.heap.size w1 v2:=ak hv1 ar
   have hs2:=ar.size
   have Hu:∀ k,D.uses k→k≠g:=fun k h=>by have:=Ms k h;omega
   replace hDl:=Doc.later hDl ar
   clear ar
   refine goOn hK hv2 ?_
   clear hK
  rotate_left
  focus
   go_simp
   have zg:=Sk v0 (.cells zeD 27)
   have ar:Ss v0.heap.size v0 (v0.alloc (.cells zeD 27)):=(Sv _ _).alloc (St _) _
   have lg:v0.heap.size<(v0.alloc (.cells zeD 27)).heap.size:=by simp
   generalize v0.alloc (.cells zeD 27)=v1 at *
   obtain⟨g,hg⟩:∃ g,g=v0.heap.size:=⟨_,rfl⟩
   rw [←hg] at zg lg ⊢
   have qg:v0.heap.size≤g∧g≤v0.heap.size:=by omega
   clear hg
   have hv1:Ss w1.heap.size w1 v1:=ak hd0 ar
   have hs1:=ar.size
   clear ar
   refine goOn hK hv1 ?_
   clear hK
   refine aq 5 (fun K hK=>?_)
   go_simp
   refine(oR.out _ hv1).mono ?_
   rintro e_ v2 ⟨D,rfl,bq,hDl,bP,ar⟩
   have Hq:=bP
   have hv2:Ss w1.heap.size w1 v2:=ak hv1 ar
   have hs2:=ar.size
   have iP:=(hv1).size
   replace bP:∀ k,D.uses k→w1.heap.size≤k:=fun k h=>Su iP (bP k h)
   have Ms:∀ k,D.uses k→k<v2.heap.size:=fun k h=>Doc.uses_lt hDl h
   have Hu:∀ k,D.uses k→k≠g:=fun k h=>by have:=Hq k h;omega
   replace zg:=(ar.block g (by omega)).trans zg
   clear ar iP
   go_wp2_with fail
   refine goOn hK hv2 ?_
   clear hK
   refine ab 6 (.tuple #[.agg D.enc.toArray,.int .i64 EE]) hv2 ?_
   refine ab 7 (.agg D.enc.toArray) hv2 ?_
   refine ab 8 (.int .i64 EE) hv2 ?_
  all_goals
   refine aq 10 (fun K hK=>?_)
   rw [if_pos (by rfl)]
   refine wp_store_row 27 (.tmp 5) (.tmp 16) rfl g D.enc.toArray rfl rfl 27 _ zg ag rfl aO ?_
   have hst:Ss w1.heap.size w1 (v2.setRow g D.enc.toArray):=Sn hv2 (by have:=hd0.size;omega) _
   refine goOn hK hst ?_
   clear hK
   refine ab 11 (.int .i64 EE) hst ?_
   refine wpAnyH_done (by kernel_rfl) ?_ _
   have Hg:=hd0.size
   go_wp2_with fail
   go_meet
   exact⟨g,D,rfl,rfl,bq,Doc.frame hDl (by rw [size_setRow];exact St _) (fun k h=>aK _ _ _ _ (Hu k h)),bP,Sp v2 g _ D.enc.toArray 27 (0,0) zg,by omega,hst⟩
 case rest =>
  obtain⟨g,D,rfl,rfl,bq,hDl,bP,Hu,hgw,hbc⟩:=hcut
  obtain⟨w2,hw2⟩:∃ v,v=wc:=⟨_,rfl⟩
  subst hw2
  have hsc:=hbc.size
  have hbw:=HB0.out.trans (hbc.mono (by omega))
  clear oR gY HB0 hbc
  by_cases h0:EE=0
  · subst h0
    have AK:=rz.out D (by first|rfl|trivial) bq
    have hrg:=ai Hu
    have HQ:=h_ (fun(w':Sj) (h':Hs) (s:cu (kV w) b h w h' w') (hc:h'.c=putH h.c D.c)=>Iu.out (by first|rfl|trivial) w' h' s (by rw [hc,bq]))
    clear rz Iw Iu bq
    have dA:=h_ (bJ D w2 hDl AK)
    have eP:=h_ (fun(D2:Doc) (e:D2.c=D.c)=>bn e AK)
    have DB:=h_ (cu.of_below (N:=kV w) HH.out hbw)
    go_wp2_with (refine aj 27 (.tmp 5) rfl g 0 rfl D.enc _ hrg Tryz.underlying27 rfl ag (by rfl) ?_)
    refine dA.out.mono ?_
    rintro e w3 ⟨D2,rfl,hc2,hl2,hu2,hb3,_,_,_⟩
    have hs3:=hb3.size
    have hf2:=eP.out D2 hc2
    have H3:=DB.out.trans (cu.of_below DB.out.1 hb3)
    have hoff:eW (h.own b) w3 D2:=⟨hl2,hf2,fun k hu ho=>by have:=hu2 k hu;have:=DB.out.1.lt ho;omega⟩
    have zh:=h_ (vb b h D2 w3 H3.1 hoff Cr)
    rw [hc2] at zh
    have MN:=h_ (show ∀ d,d=D2→kV w d from fun d e k hu=>by
     subst e
     have:=hu2 k hu
     have:=hbw.size
     omega)
    have Nh:=h_ H3
    clear dA eP DB hc2 hl2 hu2 hb3 hf2 H3 hoff
    go_wp2_with fail
    refine zh.out.mono ?_
    rintro e w4 ⟨rfl,h4,H4,hc4,Aw,hk4⟩
    have HF:=h_ (HQ.out w4 h4 (Nh.out.trans ⟨H4,Aw.mono MN.out,hk4⟩) hc4)
    clear zh Nh MN H4 hc4 Aw hk4 HQ
    go_wp2_with fail
    exact HF.out
  · have hne:(EE==0)=false:=by simpa using h0
    have HF:=h_ (Iw.out w2 h0 hbw)
    clear rz Iw Iu bq hDl bP Hu h0
    go_wp2_with fail
    exact HF.out
theorem ng (s:ByteArray)(w:Sj):Calls Tryz.prog 24 #[.string s] w fun e w'=>∃ g1 g2:Nat,e=.returned (.agg (hsEd s g1 g2).enc.toArray)∧(hsEd s g1 g2).lies w'∧Ss w.heap.size w w':=by
 have HB:=h_ (iR w (.cells #[Sy .u8 0,.int .i64 0,.int .i64 0,.int .i64 0,.int .i64 0,.int .i64 0,.int .i64 0,.int .i64 0,.int .i64 0,.int .u8 0,.int .u8 0,.bool false,.bool false,.string ⟨#[]⟩,.string ⟨#[]⟩,.string ⟨#[]⟩,.int .i64 0,.int .i64 0,.int .i64 0,.int .i64 0,.int .u8 0,.bool false,.slice none 0 0] 40))
 have HQ:=h_ (fun(g1 g2:Nat) (w':Sj) h1 h2=>(show(fun(e:Sl) (w':Sj)=>∃ g1 g2:Nat,e=.returned (.agg (hsEd s g1 g2).enc.toArray)∧(hsEd s g1 g2).lies w'∧Ss w.heap.size w w') (.returned (.agg (hsEd s g1 g2).enc.toArray)) w' from⟨g1,g2,rfl,h1,h2⟩))
 generalize (fun(e:Sl) (w':Sj)=>∃ g1 g2:Nat,e=.returned (.agg (hsEd s g1 g2).enc.toArray)∧(hsEd s g1 g2).lies w'∧Ss w.heap.size w w')=Q at *
 go_enter Tryz.func24,Tryz.ntmps24
 go_upto_region 1 with fail
 have z0:=HB.out.1
 have hb0:=HB.out.2.1
 have hs0:=HB.out.2.2
 clear HB
 generalize w.alloc (.cells #[Sy .u8 0,.int .i64 0,.int .i64 0,.int .i64 0,.int .i64 0,.int .i64 0,.int .i64 0,.int .i64 0,.int .i64 0,.int .u8 0,.int .u8 0,.bool false,.bool false,.string ⟨#[]⟩,.string ⟨#[]⟩,.string ⟨#[]⟩,.int .i64 0,.int .i64 0,.int .i64 0,.int .i64 0,.int .u8 0,.bool false,.slice none 0 0] 40)=W0 at *
 have ha1:Ss W0.heap.size W0 (W0.alloc (.cells #[Sw s,.int .u8 0,.bool false,.bool false,.string ⟨#[]⟩] 77)):=(Sv _ _).alloc (St _) _
 have g1:=Sk W0 (.cells #[Sw s,.int .u8 0,.bool false,.bool false,.string ⟨#[]⟩] 77)
 have hsz1:(W0.alloc (.cells #[Sw s,.int .u8 0,.bool false,.bool false,.string ⟨#[]⟩] 77)).heap.size=W0.heap.size+1:=by simp
 have g2:=Sk (W0.alloc (.cells #[Sw s,.int .u8 0,.bool false,.bool false,.string ⟨#[]⟩] 77)) (.cells #[Sx (some ⟨W0.heap.size,0,none⟩) 1 1] 75)
 have ha2:Ss (W0.heap.size+1) (W0.alloc (.cells #[Sw s,.int .u8 0,.bool false,.bool false,.string ⟨#[]⟩] 77)) ((W0.alloc (.cells #[Sw s,.int .u8 0,.bool false,.bool false,.string ⟨#[]⟩] 77)).alloc (.cells #[Sx (some ⟨W0.heap.size,0,none⟩) 1 1] 75)):=by rw [←hsz1];exact(Sv _ _).alloc (St _) _
 have hsz2:((W0.alloc (.cells #[Sw s,.int .u8 0,.bool false,.bool false,.string ⟨#[]⟩] 77)).alloc (.cells #[Sx (some ⟨W0.heap.size,0,none⟩) 1 1] 75)).heap.size=W0.heap.size+2:=by simp
 rw [hsz1] at g2
 have z2:=(ha2.block w.heap.size (by omega)).trans ((ha1.block w.heap.size (by omega)).trans z0)
 have g1':=(ha2.block W0.heap.size (by omega)).trans g1
 have hk:=bj ((W0.alloc (.cells #[Sw s,.int .u8 0,.bool false,.bool false,.string ⟨#[]⟩] 77)).alloc (.cells #[Sx (some ⟨W0.heap.size,0,none⟩) 1 1] 75)) w.heap.size (hsEd s W0.heap.size (W0.heap.size+1)).enc.toArray
 have r9:=Sp ((W0.alloc (.cells #[Sw s,.int .u8 0,.bool false,.bool false,.string ⟨#[]⟩] 77)).alloc (.cells #[Sx (some ⟨W0.heap.size,0,none⟩) 1 1] 75)) w.heap.size _ (hsEd s W0.heap.size (W0.heap.size+1)).enc.toArray 40 (0,0) z2
 have e1:=(hk.block W0.heap.size (by omega) (by omega)).trans g1'
 have e2:=(hk.block (W0.heap.size+1) (by omega) (by omega)).trans g2
 have hrun:=rS (K:=5) (enc:=Run.enc) (Ok:=Flat) (x:=(⟨s,0,false,false,hsNo⟩:Run)) e1 trivial
 have hlies:=rS (K:=1) (enc:=Row.enc) (Ok:=Row.lies) (x:=(⟨some ⟨W0.heap.size,0,none⟩,1,[⟨s,0,false,false,hsNo⟩]⟩:Row)) e2 hrun
 have hbw:Ss w.heap.size w (((W0.alloc (.cells #[Sw s,.int .u8 0,.bool false,.bool false,.string ⟨#[]⟩] 77)).alloc (.cells #[Sx (some ⟨W0.heap.size,0,none⟩) 1 1] 75)).setRow w.heap.size (hsEd s W0.heap.size (W0.heap.size+1)).enc.toArray):=Sn ((hb0.trans (ha1.mono (by omega))).trans (ha2.mono (by omega))) (St _) _
 have Mi:(hsEd s W0.heap.size (W0.heap.size+1)).enc.toArray=#[Sy .u8 1,.int .i64 0,.int .i64 0,.int .i64 0,.int .i64 9,.int .i64 0,.int .i64 0,.int .i64 0,.int .i64 0,.int .u8 1,.int .u8 0,.bool false,.bool false,.string ⟨#[]⟩,.string ⟨#[]⟩,.string ⟨#[]⟩,.int .i64 0,.int .i64 0,.int .i64 0,.int .i64 0,.int .u8 0,.bool false,.slice (some ⟨W0.heap.size+1,0,none⟩) 1 1]:=by simp [hsEd,Ed.enc,hsNo]
 have HF:=h_ (HQ.out W0.heap.size (W0.heap.size+1) _ hlies hbw)
 rw [Mi] at r9 HF
 have hone:((#[Sy .u8 1,.int .i64 0,.int .i64 0,.int .i64 0,.int .i64 9,.int .i64 0,.int .i64 0,.int .i64 0,.int .i64 0,.int .u8 1,.int .u8 0,.bool false,.bool false,.string ⟨#[]⟩,.string ⟨#[]⟩,.string ⟨#[]⟩,.int .i64 0,.int .i64 0,.int .i64 0,.int .i64 0,.int .u8 0,.bool false,.slice (some ⟨W0.heap.size+1,0,none⟩) 1 1]:Array Value).all (·.oneCell'))=true:=by simp [Value.oneCell']
 clear HQ hlies hrun e1 e2 hk g1' g1 g2 hbw z0 hb0 ha1 ha2 Mi
 go_wp2_with (refine Sr rfl 40 (.tmp 2) (.tmp 9) rfl w.heap.size (#[Sy .u8 1,.int .i64 0,.int .i64 0,.int .i64 0,.int .i64 9,.int .i64 0,.int .i64 0,.int .i64 0,.int .i64 0,.int .u8 1,.int .u8 0,.bool false,.bool false,.string ⟨#[]⟩,.string ⟨#[]⟩,.string ⟨#[]⟩,.int .i64 0,.int .i64 0,.int .i64 0,.int .i64 0,.int .u8 0,.bool false,.slice (some ⟨W0.heap.size+1,0,none⟩) 1 1]) rfl rfl 40 _ z2 dX rfl hone ?_)
 generalize ((W0.alloc (.cells #[Sw s,.int .u8 0,.bool false,.bool false,.string ⟨#[]⟩] 77)).alloc (.cells #[Sx (some ⟨W0.heap.size,0,none⟩) 1 1] 75)).setRow w.heap.size (#[Sy .u8 1,.int .i64 0,.int .i64 0,.int .i64 0,.int .i64 9,.int .i64 0,.int .i64 0,.int .i64 0,.int .i64 0,.int .u8 1,.int .u8 0,.bool false,.bool false,.string ⟨#[]⟩,.string ⟨#[]⟩,.string ⟨#[]⟩,.int .i64 0,.int .i64 0,.int .i64 0,.int .i64 0,.int .u8 0,.bool false,.slice (some ⟨W0.heap.size+1,0,none⟩) 1 1])=w9 at *
 refine bodyPost_ret (results_cell_row Tryz.results24 _ _ w.heap.size 40 _ (0,0) _ rfl r9 Tryz.underlying40 rfl (by kernel_rfl)) rfl ?_
 exact HF.out
theorem qA (w:Sj)(hE:Env w):Calls Tryz.prog 7 #[] w fun e w'=>e=.returned (.bool true)∧Ss w.heap.size w w':=by
 have HE:=h_ hE
 have HQ:=h_ (fun(w':Sj) (h:Ss w.heap.size w w')=>(show(fun(e:Sl) (w':Sj)=>e=.returned (.bool true)∧Ss w.heap.size w w') (.returned (.bool true)) w' from⟨rfl,h⟩))
 have F5:=h_ (nd hsD0 w hE (As w) At)
 generalize (fun(e:Sl) (w':Sj)=>e=.returned (.bool true)∧Ss w.heap.size w w')=Q at *
 clear hE
 go_enter Tryz.func7,Tryz.ntmps7
 go_wp2_with fail
 refine F5.out.mono ?_
 rintro e w1 ⟨hb1,⟨hx,_⟩|⟨_,b,h,rfl,H,qE,hown,_⟩⟩
 · exact absurd GL hx
 have hsz1:=hb1.size
 have I1:=h_ (show HsIn w.heap.size w b h w1 from⟨H,hown,hb1⟩)
 clear F5 hb1 H hown
 go_wp2_with fail
 refine(ng ⟨#[65]⟩ w1).mono ?_
 rintro e w2 ⟨g1,g2,rfl,hxl,hb2⟩
 have hsz2:=hb2.size
 have I2:=I1.out.later hb2 (by omega)
 have BD:=kK b h (hsEd ⟨#[65]⟩ g1 g2) w2 (HE.out.below I2.2.2 (St _)) I2.1 hxl (sK _ _ _ (by show 1≤1000000;omega)) (by rw [(im qE).1];show _≤16;decide)
 have hdo:doH h.c (hsEd ⟨#[65]⟩ g1 g2).c=(0,⟨hsC1,hsC0,[hsC0],[]⟩):=by rw [qE];exact Kg
 rw [hdo] at BD
 have Br:=h_ BD
 have J2:=h_ I2
 clear hxl hb2 I2 BD hdo I1 qE
 go_wp2_with fail
 refine Br.out.mono ?_
 rintro e w3 ⟨rfl,hp⟩
 have Nz:w2.heap.size≤w3.heap.size:=by obtain⟨_,_,_,_,hk⟩:=hp;exact hk.size
 obtain⟨hn,I,AB⟩:=J2.out.post hp (by omega)
 have I3:=h_ I
 clear Br hp I J2
 go_wp2_with fail
 refine(ng ⟨#[66]⟩ w3).mono ?_
 rintro e w4 ⟨g1,g2,rfl,hxl,hb4⟩
 have Nw:=hb4.size
 have I4:=I3.out.later hb4 (by omega)
 have BD:=kK b hn (hsEd ⟨#[66]⟩ g1 g2) w4 (HE.out.below I4.2.2 (St _)) I4.1 hxl (sK _ _ _ (by show 1≤1000000;omega)) (by rw [(im AB).1];show _≤16;decide)
 have hdo:doH hn.c (hsEd ⟨#[66]⟩ g1 g2).c=(0,⟨hsC2,hsC0,[hsC0,hsC1],[]⟩):=by rw [AB];exact Kf
 rw [hdo] at BD
 have Br:=h_ BD
 have J4:=h_ I4
 clear hxl hb4 I4 BD hdo I3 AB
 go_wp2_with fail
 refine Br.out.mono ?_
 rintro e w5 ⟨rfl,hp⟩
 have Ny:w4.heap.size≤w5.heap.size:=by obtain⟨_,_,_,_,hk⟩:=hp;exact hk.size
 obtain⟨hnn,I,qD⟩:=J4.out.post hp (by omega)
 have I5:=h_ I
 clear Br hp I J4
 go_wp2_with fail
 have Fs:=ls b hnn w5 I5.out.1 (by rw [(im qD).1];show _≤16;decide) (by rw [(im qD).2];show _≤16;decide)
 have hun:fm hnn.c=(0,⟨hsC1,hsC0,[hsC0],[hsC2]⟩):=by rw [qD];exact Ke
 rw [hun] at Fs
 refine Fs.mono ?_
 rintro e w6 ⟨rfl,hp⟩
 have Nx:w5.heap.size≤w6.heap.size:=by obtain⟨_,_,_,_,hk⟩:=hp;exact hk.size
 obtain⟨nj,I,fu⟩:=I5.out.post hp (by omega)
 have I6:=h_ I
 clear Fs hun hp I I5 qD
 go_wp2_with fail
 have LC:=ka b nj w6 I6.out.1
 rw [(im fu).1,(im fu).2] at LC
 refine LC.mono ?_
 rintro e w7 ⟨rfl,jr⟩
 have Nv:=jr.size
 have I7:=h_ (I6.out.later jr (by omega))
 clear LC jr I6
 have hl1:((⟨hsC1,hsC0,[hsC0],[hsC2]⟩:HsC).undo.length:Int)=1:=rfl
 have hl2:((⟨hsC1,hsC0,[hsC0],[hsC2]⟩:HsC).redo.length:Int)=1:=rfl
 rw [hl1,hl2]
 clear hl1 hl2
 go_wp2_with fail
 refine(nf b nj w7 I7.out.1).mono ?_
 rintro e w8 ⟨D,rfl,bq,_,_,_,iF⟩
 have Nu:=iF.size
 have I8:=h_ (I7.out.later iF (by omega))
 have hcd:D.c=hsC1:=by rw [bq];exact congrArg HsC.doc fu
 have hev:D.eV.length=1:=by
  have:=congrArg (fun c:DocC=>c.eV.length) hcd
  simpa [Doc.c,hsC1] using this
 clear iF I7 bq hcd
 obtain⟨dt,dl,dr,dd,dla,dra,drc,dregs,dea,dec,devs,dca,dcc,dcms⟩:=D
 simp only at hev
 simp only [Doc.enc]
 rw [hev]
 clear hev
 have N_:∀ w:Sj,(Instr.field 27 (.agg #[.string dt,.string dl,.int .u8 dr,.bool dd,.int .i64 dla,.slice dra dregs.length drc,.slice dea 1 dec,.slice dca dcms.length dcc]) 6).run Tryz.prog w=.ok (.slice dea 1 dec) w:=fun w=>by kernel_rfl
 go_wp2_with fail
 have y_:=iq b nj w8 I8.out.1
 have hne:oz nj.doc nj.saved=false:=by
  cases h:oz nj.doc nj.saved with
  | false=>rfl
  | true =>
    have h1:=(nz _ _).1 h
    have e1:nj.doc.c=hsC1:=congrArg HsC.doc fu
    have e2:nj.saved.c=hsC0:=congrArg HsC.saved fu
    rw [e1,e2] at h1
    have:=congrArg (fun c:DocC=>c.hd.last) h1
    exact absurd this (by decide)
 rw [hne] at y_
 refine y_.mono ?_
 rintro e w9 ⟨rfl,jq⟩
 have Nt:=jq.size
 have I9:=h_ (I8.out.later jq (by omega))
 clear y_ hne jq I8
 go_wp2_with fail
 have Fs:=ls b nj w9 I9.out.1 (by rw [(im fu).1];show _≤16;decide) (by rw [(im fu).2];show _≤16;decide)
 have hun:fm nj.c=(0,⟨hsC0,hsC0,[],[hsC2,hsC1]⟩):=by rw [fu];exact Kd
 rw [hun] at Fs
 refine Fs.mono ?_
 rintro e w10 ⟨rfl,hp⟩
 have LV:w9.heap.size≤w10.heap.size:=by obtain⟨_,_,_,_,hk⟩:=hp;exact hk.size
 obtain⟨sL,I,sV⟩:=I9.out.post hp (by omega)
 have I10:=h_ I
 clear Fs hun hp I I9 fu
 go_wp2_with fail
 have y_:=iq b sL w10 I10.out.1
 have hne:oz sL.doc sL.saved=true:=(nz _ _).2 (by
  have e1:sL.doc.c=hsC0:=congrArg HsC.doc sV
  have e2:sL.saved.c=hsC0:=congrArg HsC.saved sV
  rw [e1,e2])
 rw [hne] at y_
 refine y_.mono ?_
 rintro e w11 ⟨rfl,kN⟩
 have HF:=h_ (HQ.out w11 (I10.out.2.2.trans (kN.mono (by omega))))
 clear y_ hne kN I10 HQ
 go_wp2_with fail
 first
  | exact HF.out
  | (go_ret;exact HF.out)
end Go.Proofs.YtjebaagkomejaaaGreatDoor
namespace Go.Proofs.YtjebaagkomejaaaGreatDoor
open Go.RowKit
attribute [local go_sem] th
theorem mS (d:Doc)(x:Ed)(w:Sj)(hE:Env w)(hd:d.lies w)(hf:d.fits)(hxl:x.lies w)(tP:x.fits):Calls Tryz.prog 6 #[.agg d.enc.toArray,.agg x.enc.toArray] w fun e w'=>e=.returned (.bool true)∧Ss w.heap.size w w':=by
 have HE:=h_ hE
 have HQ:=h_ (fun(w':Sj) (h:Ss w.heap.size w w')=>(show(fun(e:Sl) (w':Sj)=>e=.returned (.bool true)∧Ss w.heap.size w w') (.returned (.bool true)) w' from⟨rfl,h⟩))
 have F5:=h_ (fun(w1:Sj) (hb:Ss w.heap.size w w1)=>nd d w1 (hE.below hb (St _)) (Doc.later hd hb) hf)
 have Ie:=h_ (fun(w1:Sj) (hb:Ss w.heap.size w w1)=>(show x.lies w1∧x.fits∧d.lies w1∧d.fits from⟨Ed.later hxl hb,tP,Doc.later hd hb,hf⟩))
 generalize (fun(e:Sl) (w':Sj)=>e=.returned (.bool true)∧Ss w.heap.size w w')=Q at *
 have dp:=h_ (wK w (.cells d.enc.toArray 27) (.cells x.enc.toArray 40))
 have hb2:∀ o1 o2:Obj,Ss w.heap.size w ((w.alloc o1).alloc o2):=fun o1 o2=>((Sv _ _).alloc (St _) _).alloc (by simp) _
 have hsz2:∀ o1 o2:Obj,w.heap.size+2≤((w.alloc o1).alloc o2).heap.size:=fun o1 o2=>by simp
 clear hE hd hf hxl tP
 go_enter Tryz.func6,Tryz.ntmps6
 go_upto_region 1 with fail
 have h0:=dp.out.1
 have h1:=dp.out.2
 have hbw:=hb2 (.cells d.enc.toArray 27) (.cells x.enc.toArray 40)
 have hsz:=hsz2 (.cells d.enc.toArray 27) (.cells x.enc.toArray 40)
 clear dp hb2 hsz2
 generalize (w.alloc (.cells d.enc.toArray 27)).alloc (.cells x.enc.toArray 40)=W0 at *
 have t_:=h_ (fun(w':Sj) (hb:Ss W0.heap.size W0 w')=>(show w'.rangeAt (w.heap.size) 0 d.enc∧w'.rangeAt (w.heap.size+1) 0 x.enc∧Ss w.heap.size w w' from⟨ai ((hb.block _ (by omega)).trans h0),ai ((hb.block _ (by omega)).trans h1),hbw.trans (hb.mono (by omega))⟩))
 clear h0 h1 hbw
 go_wp2_with fail
 refine(qA W0 (HE.out.below (t_.out W0 (Sv _ _)).2.2 (St _))).mono ?_
 rintro e w1 ⟨rfl,hb1⟩
 have hs1:=hb1.size
 have HB1:=h_ hb1
 clear hb1
 go_wp2_with fail
 refine(lT w1).mono ?_
 rintro e w1' ⟨rfl,rfl⟩
 have hrx:=(t_.out w1' HB1.out).2.1
 go_wp2_with (refine aj 40 (.tmp 3) rfl (w.heap.size+1) 0 rfl x.enc _ hrx Tryz.underlying40 rfl dX (by rfl) ?_)
 refine(qx x w1').mono ?_
 rintro e w2 ⟨rfl,hb2⟩
 have hs2:=hb2.size
 have HB2:=h_ (HB1.out.trans (hb2.mono (by omega)))
 have hrd:=(t_.out w2 HB2.out).1
 clear hb2 HB1 hrx
 go_wp2_with (refine aj 27 (.tmp 2) rfl (w.heap.size) 0 rfl d.enc _ hrd Tryz.underlying27 rfl ag (by rfl) ?_)
 refine(j_ d w2).mono ?_
 rintro e w3 ⟨rfl,hb3⟩
 have hs3:=hb3.size
 have HB3:=h_ (HB2.out.trans (hb3.mono (by omega)))
 clear hb3 HB2 hrd
 go_wp2_with fail
 refine(mZ w3).mono ?_
 rintro e w4 ⟨rfl,rfl⟩
 go_wp2_with fail
 refine(nc w4).mono ?_
 rintro e w5 ⟨rfl,rfl⟩
 go_wp2_with fail
 refine(m_ w5).mono ?_
 rintro e w6 ⟨rfl,rfl⟩
 go_wp2_with fail
 refine(lS w6).mono ?_
 rintro e w7 ⟨rfl,jr⟩
 have hs7:=jr.size
 have BF:=h_ (HB3.out.trans (jr.mono (by omega)))
 clear jr HB3
 go_wp2_with fail
 refine(lU w7).mono ?_
 rintro e w8 ⟨rfl,rfl⟩
 go_wp2_with fail
 refine(oo w8).mono ?_
 rintro e w9 ⟨D0,rfl,hc0,_,_,_,jq⟩
 have vd:=jq.size
 have kX:=h_ (BF.out.trans (jq.mono (by omega)))
 have Hb:D0.eV=[]:=by
  have:=congrArg DocC.eV hc0
  exact Sz.1 this
 clear jq BF hc0
 obtain⟨zt,zl,zr,zd,zla,zra,zrc,zgs,zea,zec,zvs,zca,zcc,zms⟩:=D0
 simp only at Hb
 subst Hb
 simp only [Doc.enc,List.length_nil]
 have hrd:=(t_.out w9 kX.out).1
 go_wp2_with (first|(refine dL (.tmp 67) 24 rfl zea 0 zec rfl Tryz.underlying24 (by rfl) ?_)|(refine aj 27 (.tmp 2) rfl (w.heap.size) 0 rfl d.enc _ hrd Tryz.underlying27 rfl ag (by rfl) ?_))
 refine(F5.out w9 (t_.out w9 kX.out).2.2).mono ?_
 rintro e w10 ⟨jQ,⟨hx,rfl⟩|⟨_,b,h,rfl,H,qE,hown,_⟩⟩
 · have hne:(cErr d.c != 0)=true:=by simpa using hx
   have Cn:=jQ.size
   have HF:=h_ (HQ.out w10 (t_.out w10 (kX.out.trans (jQ.mono (by omega)))).2.2)
   generalize cErr d.c=CE at *
   clear F5 Ie kX t_ jQ HQ hx hrd
   go_wp2_with fail
   first
    | exact HF.out
    | (go_ret;exact HF.out)
 · have Cn:=jQ.size
   have nT:=h_ (kX.out.trans (jQ.mono (by omega)))
   have hu0:h.undo=[]:=by
    have:=congrArg HsC.undo qE
    exact Sz.1 this
   have hr0:h.redo=[]:=by
    have:=congrArg HsC.redo qE
    exact Sz.1 this
   have Bn:=h_ (show h.doc.c=d.c∧h.saved.c=d.c from⟨congrArg HsC.doc qE,congrArg HsC.saved qE⟩)
   have HH:=h_ H
   clear kX jQ hrd H hown F5
   go_wp2_with fail
   refine(qy b h w10 HH.out hu0 hr0).mono ?_
   rintro e w11 ⟨bc,hc,rfl,HC,hcc,wB,EY,kN⟩
   have EA:=kN.size
   have yT:=h_ (nT.out.trans (kN.mono (by omega)))
   have Ni:=h_ (HH.out.later kN)
   have hrx:=(t_.out w11 yT.out).2.1
   have Cr:hc.undo.length≤16:=by
    rw [(im hcc).1]
    show(List.map _ h.undo).length≤16
    rw [hu0];simp
   have BD:=h_ (kK bc hc x w11 (HE.out.below (t_.out w11 yT.out).2.2 (St _)) HC (Ie.out w11 (t_.out w11 yT.out).2.2).1 (Ie.out w11 (t_.out w11 yT.out).2.2).2.1 Cr)
   have M8:=h_ (fun(w':Sj) (hk:Kept (hc.own bc) w11 w')=>(show HsAt b h w'∧Ss W0.heap.size W0 w' from
    ⟨Ni.out.off hk (fun k q r=>by have:=wB k r;have:=HH.out.lt q;omega) (fun D hD k q r=>by have:=wB k r;have:=Doc.uses_lt (HH.out.docs D hD).1 q;omega),
     yT.out.trans (hk.below (by omega) fun k hk r=>by have:=wB k r;omega)⟩))
   clear kN HC hcc wB EY nT HH Cr Ni yT qE
   go_wp2_with (refine aj 40 (.tmp 3) rfl (w.heap.size+1) 0 rfl x.enc _ hrx Tryz.underlying40 rfl dX (by rfl) ?_)
   refine BD.out.mono ?_
   rintro e w12 ⟨rfl,h2,H2,hc2,ho2,hk2⟩
   have DN:=h_ (M8.out w12 hk2)
   have Ez:=hk2.size
   clear hk2 ho2 hc2 H2 BD M8 hrx
   go_wp2_with fail
   refine(lu b h w12 DN.out.1).mono ?_
   rintro e w13 ⟨D,rfl,bq,hDl,AK,bP,E4,hDe⟩
   have Kk:=E4.size
   have zA:=Sk w13 (.cells zeD 27)
   have fW:Ss w13.heap.size w13 (w13.alloc (.cells zeD 27)):=(Sv _ _).alloc (St _) _
   have HD:=h_ (And.intro hDl (And.intro AK (And.intro bP hDe)))
   have FQ:=h_ E4
   clear bq hDl AK bP hDe E4
   go_upto_region 13 with(refine Sr rfl 27 (.tmp 11) (.tmp 86) rfl w13.heap.size D.enc.toArray rfl rfl 27 _ zA ag rfl aO ?_)
   have zX:=Sp (w13.alloc (.cells zeD 27)) w13.heap.size _ D.enc.toArray 27 (0,0) zA
   have hbX:Ss w13.heap.size w13 ((w13.alloc (.cells zeD 27)).setRow w13.heap.size D.enc.toArray):=Sn fW (St _) _
   generalize (w13.alloc (.cells zeD 27)).setRow w13.heap.size D.enc.toArray=wx at *
   generalize hgb:w13.heap.size=gb at *
   have hsX:=iQ zX
   have N7:w12.heap.size≤gb:=by omega
   have HX:=h_ (show HsAt b h wx∧Ss W0.heap.size W0 wx∧D.lies wx∧(∀ e∈D.eV,∀ r∈e.rows,∀ k,r.uses k→fk wx k)∧(∀ k,D.uses k→w12.heap.size≤k) from by
    subst hgb
    refine⟨(DN.out.1.later FQ.out).later hbX,DN.out.2.trans ((FQ.out.trans (hbX.mono (by omega))).mono DN.out.2.size),Doc.later HD.out.1 hbX,fun e he r hr k q=>(HD.out.2.2.2 e he r hr k q).kept (hbX.block k (Doc.uses_lt HD.out.1 (.inr (.inl (.inr ⟨e,he,.inr ⟨r,hr,q⟩⟩))))),HD.out.2.2.1⟩)
   have Bs:=h_ HD.out.2.1
   have F6:=h_ (fun(k:Nat) (q:h.own b k∨∃ E∈h.docs,E.uses k)=>(show k<w12.heap.size from by
    rcases q with q|⟨E,hE,q⟩
    · exact DN.out.1.lt q
    · exact Doc.uses_lt (DN.out.1.docs E hE).1 q))
   have c6x:wx.cell? ⟨gb,6,none⟩=some (.slice D.ea D.eV.length D.ec):=cell_of_row _ _ 6 _ 27 (0,0) zX
   have C6X:=h_ c6x
   have Pm:=DN.out.2.size
   generalize w12.heap.size=N at *
   clear zA fW zX hbX HD FQ DN hgb Kk Ez
   go_wp2_with fail
   have tX:=h_ HX.out.2.2.1.2.1
   have hle1:=(ch Bs.out).2.2.1
   go_loopw [90] (fun v wr=>∃ i:Nat,i≤D.eV.length∧v=.int .i64 i∧eJ N wx wr) (fun v _=>D.eV.length-(intOf v).toNat)
   case atStart=>exact⟨0,by omega,rfl,eJ.refl _ _⟩
   case round =>
    clear c6x
    obtain⟨i,hi,rfl,hT⟩:=hrel
    by_cases hlt:i<D.eV.length
    · have NY:(i:Int)<(D.eV.length:Int):=by omega
      have hi0:(0:Int)≤(i:Int):=by omega
      obtain⟨b0,off,ev,hat,hb0,hex,hcx,hel⟩:=ah.at_ tX.out hlt
      have JF:=h_ (SA hex)
      have C0:=h_ (show wx.cell? ⟨b0,off+i*7+6,none⟩=some (.slice ev.at_ ev.rows.length ev.cap) from hcx 6 _ rfl)
      have HRW:=h_ (show bx wx ev.at_ ev.rows from hel)
      have hle2:=((ch Bs.out).1 ev JF.out).1
      have HT:=h_ hT
      have c6:=HT.out.read C6X.out
      have c0:=HT.out.read C0.out
      have HAT:=h_ hat
      rw [hat] at c6
      clear hcx hel hT hex hat
      go_wp2_with fail
      go_loopw [100] (fun v wr=>∃ k:Nat,k≤ev.rows.length∧v=.int .i64 k∧eJ N wx wr) (fun v _=>ev.rows.length-(intOf v).toNat)
      case atStart=>exact⟨0,by omega,rfl,HT.out⟩
      case round =>
       clear HT c6 c0
       obtain⟨k,hk,rfl,hT⟩:=hrel
       by_cases hlk:k<ev.rows.length
       · have NZ:(k:Int)<(ev.rows.length:Int):=by omega
         have hk0:(0:Int)≤(k:Int):=by omega
         obtain⟨b1,off1,r,E6,hb1,hrx,hcr,hrl⟩:=ah.at_ HRW.out hlk
         have F2:=h_ (SA hrx)
         have C1:=h_ (show wx.cell? ⟨b1,off1+k,none⟩=some (.slice r.at_ r.runs.length r.cap) from by have:=hcr 0 _ rfl;rwa [Nat.mul_one,Nat.add_zero] at this)
         have Dr:=h_ (show ah 5 Run.enc Flat wx r.at_ r.runs from hrl)
         have hle3:=((ch Bs.out).1 ev JF.out).2 r F2.out
         have HT:=h_ hT
         have c6:=HT.out.read C6X.out
         have c0:=HT.out.read C0.out
         have c1:=HT.out.read C1.out
         have LK:=h_ E6
         rw [HAT.out] at c6
         rw [E6] at c0
         clear hcr hrl hT hrx E6
         go_wp2_with fail
         go_loopw [114] (fun v wr=>∃ j:Nat,j≤r.runs.length∧v=.int .i64 j∧eJ N wx wr) (fun v _=>r.runs.length-(intOf v).toNat)
         case atStart=>exact⟨0,by omega,rfl,HT.out⟩
         case round =>
          clear HT c6 c0 c1
          obtain⟨j,hj,rfl,hT⟩:=hrel
          by_cases hlj:j<r.runs.length
          · have N0:(j:Int)<(r.runs.length:Int):=by omega
            have hj0:(0:Int)≤(j:Int):=by omega
            obtain⟨b2,off2,u,E5,hb2,Nq,FU,_⟩:=ah.at_ Dr.out hlj
            have Hh:wx.cell? ⟨b2,off2+j*5,none⟩=some (.string u.text):=FU 0 _ rfl
            obtain⟨tx,ct⟩:=hT.text Hh
            have J8:r.uses b2:=⟨by intro e;rw [e] at hlj;simp at hlj,_,E5,rfl⟩
            have hfz:wr.frozen? ⟨b2,off2+j*5,none⟩=false:=by
             rw [hT.froz]
             obtain⟨cs,ty,hq⟩:=HX.out.2.2.2.1 ev JF.out r F2.out b2 J8
             exact frozen_of_row _ _ _ _ _ hq
            have hNb:N≤b2:=HX.out.2.2.2.2 b2 (.inr (.inl (.inr ⟨ev,JF.out,.inr ⟨r,F2.out,J8⟩⟩)))
            have HN:=h_ (fun(t:ByteArray)=>hT.step ct hNb t)
            have c6:=hT.read C6X.out
            have c0:=hT.read C0.out
            have c1:=hT.read C1.out
            rw [HAT.out] at c6
            rw [LK.out] at c0
            rw [E5] at c1
            clear FU hT Nq Hh J8 hNb E5
            go_wp2_with fail
            go_roundw
            case rel=>exact⟨j+1,by omega,by go_num,HN.out _⟩
            case measure=>simp [intOf];omega
          · obtain rfl:j=r.runs.length:=by omega
            have HT:=h_ hT
            clear hT hlj
            go_wp2_with fail
            go_roundw
            case rel=>exact⟨k+1,by omega,by go_num,HT.out⟩
            case measure=>simp [intOf];omega
       · obtain rfl:k=ev.rows.length:=by omega
         have HT:=h_ hT
         clear hT hlk
         go_wp2_with fail
         go_roundw
         case rel=>exact⟨i+1,by omega,by go_num,HT.out⟩
         case measure=>simp [intOf];omega
    · obtain rfl:i=D.eV.length:=by omega
      have Hr:=h_ (HX.out.1.off hT.kept (fun k q r=>by have:=F6.out k (.inl q);omega) (fun E hE k q r=>by have:=F6.out k (.inr ⟨E,hE,q⟩);omega))
      have LG:=h_ (show Ss W0.heap.size W0 wr from HX.out.2.1.trans (hT.kept.below HX.out.2.1.size fun k hk r=>by omega))
      clear hT hlt tX C6X HX
      go_wp2_with fail
      refine(ka b h wr Hr.out).mono ?_
      rintro e w20 ⟨rfl,E2⟩
      have e0:((0:Nat):Int)=0:=rfl
      rw [show h.undo.length=0 by rw [hu0];rfl,show h.redo.length=0 by rw [hr0];rfl,e0]
      have LL:=Hr.out.later E2
      have FP:=h_ (LG.out.trans (E2.mono LG.out.size))
      have y_:=h_ (fun(w':Sj) (hb:Ss w20.heap.size w20 w')=>(iq b h w' (LL.later hb)).mono fun e w2 p=>(show e=.returned (.bool true)∧Ss w'.heap.size w' w2 from⟨by rw [p.1,(nz h.doc h.saved).2 (Bn.out.1.trans Bn.out.2.symm)],p.2⟩))
      have DK:=h_ (fun(w':Sj) (hb:Ss w20.heap.size w20 w')=>nf b h w' (LL.later hb))
      have Jz:=h_ (fun(w':Sj) (hb:Ss w20.heap.size w20 w')=>t_.out w' (FP.out.trans (hb.mono FP.out.size)))
      have ME:=h_ (fun(D3:Doc) (v:Sj) (hb:Ss w20.heap.size w20 v) (hc3:D3.c=h.doc.c) (hl3:D3.lies v) (hf3:D3.fits)=>mD D3 d v hl3 (Ie.out v (Jz.out v hb).2.2).2.2.1 (hc3.trans Bn.out.1) (ch hf3).1 (ch hf3).2.1 (ch hf3).2.2.1 (ch hf3).2.2.2)
      have M3:=h_ (fun(w':Sj) (hb:Ss w20.heap.size w20 w')=>(Jz.out w' hb).1)
      have jF:=h_ (fun(w':Sj) (hb:Ss w20.heap.size w20 w')=>HQ.out w' (Jz.out w' hb).2.2)
      have hd0:Ss w20.heap.size w20 w20.drew:=(Sv _ _).drew
      clear E2 LL FP Jz HQ Hr LG Ie t_ Bn
      have HQ:=jF
      clear jF
      go_upto_region 27 with fail
      refine Sq (S:=fun w'=>Ss w20.heap.size w20 w') (by kernel_rfl) hd0 (fun _=>?_)
      generalize w20.drew=v0 at *
      refine ab 0 (.int .i64 0) hd0 ?_
      refine ab 1 (.bool true) hd0 ?_
      refine ab 2 (.bool true) hd0 ?_
      refine ab 3 (.int .i64 0) hd0 ?_
      refine ab 4 (.bool true) hd0 ?_
      refine ab 5 (.bool true) hd0 ?_
      refine ab 6 (.bool true) hd0 ?_
      refine ab 7 (.pointer (some ⟨b,0,none⟩)) hd0 ?_
      refine aq 8 (fun K hK=>?_)
      go_simp
      refine(y_.out _ hd0).mono ?_
      rintro e_ v1 ⟨rfl,ar⟩
      have hv1:Ss w20.heap.size w20 v1:=ak hd0 ar
      clear ar y_
      go_wp2_with fail
      refine goOn hK hv1 ?_
      clear hK
      refine ab 9 (.bool true) hv1 ?_
      refine ab 10 (.bool true) hv1 ?_
      refine ab 11 (.pointer (some ⟨b,0,none⟩)) hv1 ?_
      refine ab 13 (.agg d.enc.toArray) hv1 ?_ (hy:=Sm (by rfl) 27 (.tmp 2) rfl (w.heap.size) 0 rfl d.enc _ (fun w_ h_=>M3.out w_ h_) Tryz.underlying27 rfl ag)
      refine aq 12 (fun K hK=>?_)
      go_simp
      refine(DK.out _ hv1).mono ?_
      rintro e_ v2 ⟨D3,rfl,hc3,hl3,hf3,_,ar⟩
      have hv2:Ss w20.heap.size w20 v2:=ak hv1 ar
      have MC:=h_ (ME.out D3 v2 hv2 hc3 hl3 hf3)
      clear ar DK ME hc3 hl3 hf3
      go_wp2_with fail
      refine goOn hK hv2 ?_
      clear hK
      refine aq 14 (fun K hK=>?_)
      go_simp
      refine(MC.out).mono ?_
      rintro e_ v3 ⟨rfl,ar⟩
      have hv3:Ss w20.heap.size w20 v3:=ak hv2 ar
      clear ar MC
      go_wp2_with fail
      refine goOn hK hv3 ?_
      clear hK
      refine ab 15 (.bool true) hv3 ?_
      refine ab 16 (.bool true) hv3 ?_
      refine wpAnyH_done (by kernel_rfl) ?_ _
      have HF:=h_ (HQ.out v3 hv3)
      clear HQ hv3 M3
      go_wp2_with fail
      first
       | exact HF.out
       | (go_ret;exact HF.out)
end Go.Proofs.YtjebaagkomejaaaGreatDoor
