/- history: back, Undo, Redo. history: New and Saved. history: New and Saved. history: Do and Replace. -/
import Derived.Test.YtjebaagkomejaaaGreatDoorH37
set_option linter.unusedVariables false
set_option linter.unusedSimpArgs false
set_option maxRecDepth 100000
set_option maxHeartbeats 12800000
open Go.Lib renaming hid→h_
open List renaming setIfInBounds_toArray→YA,getElem_cons_zero→YB,getElem_cons_succ→YC,getElem_toArray→YD,set_cons_zero→YE,set_cons_succ→YF
open Array renaming toArray_toList→YG
open Go renaming World→Sh,wp_region_held_drew→Si,yieldsIf_load_mid→Sj,wpAnyH_done→Sk,Calls→Sl,Ending→Sm
open List renaming mem_append→Sn,length_map→Sp,mem_cons→Sq
open Nat renaming le_refl→Sr,add_sub_cancel→Ss,le_trans→St
open Go.RowKit.Below renaming refl→Su
open Go.RowKit renaming Below→Sv
open Go.Value renaming slice→Sw,string→Sx
open Go.World renaming ownsRow_nil→Sy
namespace Go.Proofs.YtjebaagkomejaaaGreatDoor
open Go.RowKit
theorem vh (b:Nat)(h:Hs)(w:Sh)(H:HsAt b h w)(yG:h.redo.length≤16)(hlr:h.undo.length≤16):Sl Tryz.prog 52 #[.pointer (some ⟨b,0,none⟩),.pointer (some ⟨b,17,none⟩),.pointer (some ⟨b,16,none⟩)] w fun e w'=>e=.returned (.int .i64 (gW h.c).1)∧dj (fun _=>False) (gW h.c).2 b h w w':=by
 have HH:=h_ H
 have hbl:=dW H.at_
 have Fy:=h_ (show h.redo=[]→gW h.c=(6,h.c) from fun e=>by unfold gW Hs.c;simp [e])
 have Fk:=h_ (fun(m:Nat) (D:Doc) (hm:h.redo.length=m+1) (hD:h.redo[m]? =some D)=>(show gW h.c=(0,({ h with doc:=D,redo:=h.redo.take m,undo:=h.undo++[h.doc] }:Hs).c) from by
  unfold gW Hs.c
  simp only
  rw [List.getLast?_eq_getElem?,Sp,hm,Ss,List.getElem?_map,hD]
  simp only [Option.map_some,List.dropLast_eq_take,Sp,hm,Ss,List.map_take,List.map_append,List.map_cons,List.map_nil]))
 have HQ:=h_ (fun(q:Int) (h':Hs) (w':Sh) (hs:gW h.c=(q,h'.c)) (s:bD (fun _=>False) b h w h' w')=>(show(fun(e:Sm) (w':Sh)=>e=.returned (.int .i64 (gW h.c).1)∧dj (fun _=>False) (gW h.c).2 b h w w') (.returned (.int .i64 q)) w' from by
  rw [hs];exact⟨rfl,s.post rfl⟩))
 generalize (fun(e:Sm) (w':Sh)=>e=.returned (.int .i64 (gW h.c).1)∧dj (fun _=>False) (gW h.c).2 b h w w')=Q at *
 obtain⟨j0,hj,hy0,hy1,hy2⟩:=info_parts Tryz.info27
 have JI:=h_ hj;have J0:=h_ hy0;have J1:=h_ hy1;have J2:=h_ hy2
 clear H hj hy0 hy1 hy2
 have cF:w.cell? ⟨b,17,none⟩=some (.slice h.ra h.redo.length h.rc):=(aT HH.out.at_).2.2.2
 cases hn:h.redo.length with
 | zero =>
   have HF:=h_ (HQ.out 6 h w (Fy.out (List.eq_nil_of_length_eq_zero hn)) (bD.of_below HH.out (Su _ _)))
   rw [hn] at cF
   clear HQ Fk Fy HH
   go_enter Tryz.func52,Tryz.ntmps52
   go_wp2_with fail
   exact HF.out
 | succ m =>
   obtain⟨D,hD⟩:∃ D,h.redo[m]? =some D:=⟨_,List.getElem?_eq_getElem (by omega)⟩
   have A6:=h_ (Fk.out m D hn hD)
   have Bl:=h_ hD
   have HN:=h_ hn
   rw [hn] at cF
   have KM:m+1≤16:=by omega
   clear Fk Fy hD hn yG
   go_enter Tryz.func52,Tryz.ntmps52
   go_upto_region 4 with fail
   go_cut [] from 14 to 24 (fun wx=>∃ a c,bD (fun _=>False) b h w { h with ua:=a,uc:=c,undo:=h.undo++[h.doc] } wx)
   case first =>
    have HW0:=HH.out
    have hdw:Sv w.heap.size w w.drew:=(Su _ _).drew
    have nH:=h_ (fun(w':Sh) (hb:Sv w.heap.size w w')=>(show Kept (fun k=>(Sw h.ua h.undo.length h.uc).ownBlock=some k∨k=b) w w'∧w'.rangeAt b 0 h.doc.enc from⟨Kept.of_below hb,(aT ((hb.block b hbl).trans HW0.at_)).1⟩))
    have hS0:=nH.out _ hdw
    have lK:=h_ (HW0.later hdw)
    have cj:=h_ (fun(v w2:Sh) (hv:Sv w.heap.size w v) (r2:w2.heap[b]? =some (.cells h.enc.toArray 82 (0,0))) (hk:Kept (fun k=>(Sw h.ua h.undo.length h.uc).ownBlock=some k) v w2)=>(show Kept (fun k=>(Sw h.ua h.undo.length h.uc).ownBlock=some k∨k=b) w w2∧w2.rangeAt b 0 h.doc.enc from⟨(Kept.of_below hv).trans hk fun i _ e=>.inl e,(aT r2).1⟩))
    have tg:=h_ (fun(v w2:Sh) (u:Value) (hv:Sv w.heap.size w v) (r2:w2.heap[b]? =some (.cells h.enc.toArray 82 (0,0))) (hk:Kept (fun k=>(Sw h.ua h.undo.length h.uc).ownBlock=some k) v w2)=>(show Kept (fun k=>(Sw h.ua h.undo.length h.uc).ownBlock=some k∨k=b) w (w2.setCell ⟨b,16,none⟩ u)∧(w2.setCell ⟨b,16,none⟩ u).rangeAt b 0 h.doc.enc from⟨((Kept.of_below hv).trans hk fun i _ e=>.inl e).setCell (p:=⟨b,16,none⟩) (.inr (.inr rfl)) u,fun j x hx=>by
     have hj:j<8:=(List.getElem?_eq_some_iff.1 hx).1
     have hne:(⟨b,0+j,none⟩:Addr)≠⟨b,16,none⟩:=fun e=>by simp only [Addr.mk.injEq] at e;omega
     rw [Sh.cell?_setCell_other (h:=hne.symm)]
     exact(aT r2).1 j x hx⟩))
    have tf:=h_ (fun(v w3:Sh) (h1:Hs) (hv:Sv w.heap.size w v) (s:bD (fun _=>False) b h v h1 w3)=>(bD.of_below HW0 hv).trans s)
    have kY:=h_ (fun(v:Sh) (hv:HsAt b h v) (v':Value) (w2:Sh) (o:Obj) ho hg hat=>vM (N:=fun _=>False) (v:=v) (w2:=w2) (v':=v') (o:=o) hv ho hg hat)
    clear HW0 HH HQ A6 Bl HN cF
    go_upto_region 4 with fail
    refine Si (S:=fun w'=>Kept (fun k=>(Sw h.ua h.undo.length h.uc).ownBlock=some k∨k=b) w w'∧w'.rangeAt b 0 h.doc.enc) (by kernel_rfl) hS0 (fun _=>?_)
    generalize w.drew=v0 at *
    have Ij:=h_ (fun(w':Sh) (hb:Sv v0.heap.size v0 w')=>(aT ((hb.block b (dW lK.out.at_)).trans lK.out.at_)).2.2.1)
    have A9:=h_ (fun(w':Sh) (hb:Sv v0.heap.size v0 w')=>nH.out w' (hdw.trans (hb.mono hdw.size)))
    have HOW:=h_ lK.out.undo
    have qN:=h_ (kY.out v0 lK.out)
    have CR:=h_ (fun(w2:Sh)=>cj.out v0 w2 hdw)
    have CQ:=h_ (fun(w2:Sh) (u:Value)=>tg.out v0 w2 u hdw)
    have Io:=h_ (fun(w3:Sh) (h1:Hs)=>tf.out v0 w3 h1 hdw)
    clear lK nH kY cj tg tf
    obtain⟨xF,sav,ua,uc,undo,ra,rc,redo⟩:=h
    obtain⟨ft,fl,fr,fd,fla,fra,frc,fgs,fea,fec,fvs,fca,fcc,fms⟩:=xF
    simp only [Doc.enc] at *
    refine ab 0 (.pointer (some ⟨b,16,none⟩)) hS0 ?_
    refine ab 1 (.pointer (some ⟨b,16,none⟩)) hS0 ?_
    refine ab 2 (.pointer (some ⟨b,16,none⟩)) hS0 ?_
    refine ab 4 (.pointer (some ⟨b,0,none⟩)) hS0 ?_
    refine ab 5 (.pointer (some ⟨b,0,none⟩)) hS0 ?_
    refine ab 6 (.pointer (some ⟨b,0,none⟩)) hS0 ?_
    refine ab 7 (.agg #[Sx ft,.string fl,.int .u8 fr,.bool fd,.int .i64 fla,.slice fra fgs.length frc,.slice fea fvs.length fec,.slice fca fms.length fcc]) hS0 ?_ (hy:=Sj (by rfl) 27 (.tmp 20) rfl b 0 rfl [Sx ft,.string fl,.int .u8 fr,.bool fd,.int .i64 fla,.slice fra fgs.length frc,.slice fea fvs.length fec,.slice fca fms.length fcc] _ (fun w_ h_=>h_.2) Tryz.underlying27 rfl ag)
    refine dH 3 8 (fun K hK=>?_) (fun K hK=>?_)
    focus
     have q8:=Ij.out v0 (Su _ _)
     go_simp
     refine goOn hK hS0 ?_
     clear hK q8
     refine aq 8 (fun K hK=>?_)
     go_simp
     have hal:Sv v0.heap.size v0 (v0.alloc (.cells #[Sx ft,.string fl,.int .u8 fr,.bool fd,.int .i64 fla,.slice fra fgs.length frc,.slice fea fvs.length fec,.slice fca fms.length fcc] 27)):=(Su _ _).alloc (Sr _) _
     refine goOn hK (A9.out _ hal) ?_
     clear hK
    rotate_left
    focus
     go_simp
     have hal:Sv v0.heap.size v0 (v0.alloc (.cells #[Sx ft,.string fl,.int .u8 fr,.bool fd,.int .i64 fla,.slice fra fgs.length frc,.slice fea fvs.length fec,.slice fca fms.length fcc] 27)):=(Su _ _).alloc (Sr _) _
     refine goOn hK (A9.out _ hal) ?_
     clear hK
     refine aq 3 (fun K hK=>?_)
     have q8:=Ij.out (v0.alloc (.cells #[Sx ft,.string fl,.int .u8 fr,.bool fd,.int .i64 fla,.slice fra fgs.length frc,.slice fea fvs.length fec,.slice fca fms.length fcc] 27)) hal
     go_simp
     refine goOn hK (A9.out _ hal) ?_
     clear hK q8
    all_goals
     refine aq 9 (fun K hK=>?_)
     refine gC v0 #[Sx ft,.string fl,.int .u8 fr,.bool fd,.int .i64 fla,.slice fra fgs.length frc,.slice fea fvs.length fec,.slice fca fms.length fcc] rfl (.tmp 17) (.tmp 22) 55 rfl 0 27 j0 _ 8 120 Tryz.underlying55 JI.out J0.out J1.out J2.out rfl (by decide) (.slice ua undo.length uc) undo.length (undo.flatMap Doc.enc) (by rfl) HOW.out v0.heap.size (by rfl) rfl rfl (by simp [Value.oneCell']) (by unfold maxLen;omega) (by omega) (Nat.zero_le _) ?_
     intro v' w2 hown hgrow hat
     obtain⟨a,c,rfl,r2,hk2,hst⟩:=qN.out v' w2 _ hown hgrow hat
     have c16:w2.cell? ⟨b,16,none⟩=some (.slice ua undo.length uc):=(aT r2).2.2.1
     have f16:w2.frozen? ⟨b,16,none⟩=false:=dI r2 16
     refine goOn hK (CR.out w2 r2 hk2) ?_
     clear hK hown hgrow hat
     refine ab 10 (.pointer (some ⟨b,16,none⟩)) (CR.out w2 r2 hk2) ?_
     refine aq 11 (fun K hK=>?_)
     go_simp
     refine goOn hK (CQ.out w2 _ r2 hk2) ?_
     clear hK
     refine Sk (by kernel_rfl) ?_ _
     go_wp2_with fail
     go_meet
     exact⟨a,c,Io.out _ _ hst⟩
   case rest =>
    obtain⟨a,c,dE⟩:=hcut
    obtain⟨w1,hw1⟩:∃ x,x=wc:=⟨_,rfl⟩
    subst hw1
    obtain⟨h1,qV⟩:∃ h1:Hs,h1={ h with ua:=a,uc:=c,undo:=h.undo++[h.doc] }:=⟨_,rfl⟩
    rw [←qV] at dE
    have hu1:h1.redo=h.redo:=by rw [qV]
    have ht1:h1.undo=h.undo++[h.doc]:=by rw [qV]
    have hs1:h1.saved=h.saved:=by rw [qV]
    have hl1:h1.redo.length=m+1:=by rw [hu1];exact HN.out
    have hD1:h1.redo[m]? =some D:=by rw [hu1];exact Bl.out
    have r1:=dE.1.at_
    obtain⟨ga,ca,hfm⟩:=dw dE.1.redo (by omega)
    have how:=dE.1.redo
    have c1:w1.cell? ⟨b,17,none⟩=some (.slice (some ⟨ga,0,none⟩) (m+1) ca):=by rw [←hl1,←hfm];exact(aT r1).2.2.2
    rw [hfm] at how
    have hcap:m+1≤ca∧ca≤9223372036854775807:=by
     rcases how.2 with⟨h0,_⟩|⟨g',cap',cur,h0,_,_,hnc,hmx,_⟩
     · simp at h0
     · simp only [Sw.injEq] at h0
       obtain⟨_,_,rfl⟩:=h0
       simp only [maxLen] at hmx
       omega
    obtain⟨a',c',oa,Bs⟩:=aA (k:=8) (enc:=Doc.enc) (Ok:=Flat) (fun _=>rfl) how (fun _ _=>trivial)
    simp only [Sw.injEq] at oa
    obtain⟨rfl,_,rfl⟩:=oa
    obtain⟨b0,off,D',qW,hb0,En,Hj,_⟩:=ah.at_ Bs (show m<h1.redo.length by omega)
    simp only [Option.some.injEq,Addr.mk.injEq,and_true] at qW
    obtain⟨rfl,rfl⟩:=qW
    rw [hD1] at En
    obtain rfl:=Option.some.inj En
    have yF:w1.rangeAt ga (m*8) D.enc:=fun j v hv=>by have:=Hj j v hv;rwa [Nat.zero_add] at this
    have E3:D∈h1.docs:=by
     simp only [Hs.docs,Sq,Sn]
     exact .inr (.inr (.inr (List.mem_of_getElem? hD1)))
    have hA:=vN (N:=fun _=>False) dE.1 (.inl E3)
    have hth:=j_ (o:=0) r1 (by omega)
    have hone:=km D
    have hm0:(0:Int)≤(m:Int):=by omega
    have hgb:ga≠b:=fun e=>by
     have GQ:(Sw h1.ra h1.redo.length h1.rc).ownBlock=some b:=by rw [hfm,e];rfl
     exact dE.1.rb GQ
    have S2:=h_ (dE.trans hA)
    have Fq:=h_ Bs
    have hkb:Kept (fun k=>k=b) w1 (w1.setCells b 0 D.enc):=eL (S:=fun k=>k=b) rfl _ _ (Kept.refl _ _)
    have IV:=h_ qV
    have LX:=h_ E3
    have Im:=h_ hu1
    have Bg:=h_ hl1
    have IZ:=h_ hfm
    clear dE hA r1 how Bs Hj hb0 En E3 qV hu1 ht1 hs1 hl1 hfm hD1
    go_upto_region 6 with(first|(refine aj 27 (.tmp 31) rfl ga (m*8) rfl D.enc _ yF Tryz.underlying27 rfl ag (by rfl) ?_)|(refine wpList_store_mid rfl 27 (.tmp 34) (.tmp 32) rfl b 0 D.enc.toArray rfl rfl hth ag hone ?_))
    generalize w1.setCells b 0 D.enc=w2 at *
    have S2':=S2.out
    have r2:=S2'.1.at_
    have c2:w2.cell? ⟨b,17,none⟩=some (.slice (some ⟨ga,0,none⟩) (m+1) ca):=by rw [←Bg.out,←IZ.out];exact(aT r2).2.2.2
    have hs2:=hkb.size
    have hSt:=lh m (ah.frame Fq.out hs2 (fun k hk=>hkb.block k (aP Fq.out hk) (by obtain⟨_,ad,e,rfl⟩:=hk;obtain rfl:=Option.some.inj e;exact hgb)) (fun _ _ _=>trivial))
    have htl:(h1.redo.take m).length=m:=by rw [List.length_take,Bg.out];omega
    obtain⟨ys,hys⟩:∃ ys,ys=h1.redo.take m:=⟨_,rfl⟩
    rw [←hys] at hSt htl
    have BA:=h_ (fun(v':Value) (w3:Sh) ho hg hat=>Ex (N:=fun _=>False) (b:=b) (ys:=ys) (v':=v') (w2:=w3) S2'.1 ho hg hat (fun d hd=>by rw [hys] at hd;simp only [Hs.docs,Sq,Sn];exact .inr (.inr (.inr (List.mem_of_mem_take hd)))))
    have HST:=h_ hSt
    have A7:=h_ htl
    have Lp:=h_ hys
    clear htl hys
    clear c1 yF hth hkb Fq hSt r2 S2'
    go_wp2_with (at_builtin;refine aI (enc:=Doc.enc) (Ok:=Flat) _ rfl (.const (.slice none 0 0)) (.tmp 41) 55 rfl 0 27 j0 _ 8 120 Tryz.underlying55 JI.out J0.out J1.out J2.out rfl (by decide) (fun _=>rfl) (fun x v hv=>Doc.one x v hv) _ 0 [] rfl (Sy _ _ _ _) (some ⟨ga,0,none⟩) ca ys ?hx HST.out ?h63 ?hb ?hbase ?_)
    case hx=>rw [A7.out]
    case h63=>rw [A7.out];unfold maxLen;omega
    case hb=>rw [A7.out];omega
    intro v' w3 ho hg hat
    replace ho:w3.ownsRow 0 27 8 v' ys.length (ys.flatMap Doc.enc):=by first|exact ho|(rw [A7.out];exact ho)|simpa [A7.out] using ho
    obtain⟨a2,c2',rfl,r3,hb3,Aa⟩:=BA.out v' w3 ho hg hat
    have d16:w3.cell? ⟨b,17,none⟩=some (.slice h1.ra h1.redo.length h1.rc):=(aT r3).2.2.2
    have e16:w3.frozen? ⟨b,17,none⟩=false:=dI r3 17
    have Lc:=IV.out
    have HF:=h_ (HQ.out 0 _ _ (by rw [A6.out,Lp.out];subst Lc;rfl) (S2.out.trans Aa))
    clear ho hg hat r3 hb3 Aa BA HST HQ A6 S2 IV LX Im IZ HH
    go_wp2_with fail
    exact HF.out
theorem Ad (w:Sh):Sl Tryz.prog 14 #[.pointer none] w fun e w'=>e=.returned (.int .i64 1)∧w'=w:=by
 go_enter Tryz.func14,Tryz.ntmps14
 go_wp2_with fail
 go_ret
 exact⟨rfl,rfl⟩
theorem Dm (b:Nat)(h:Hs)(w:Sh)(H:HsAt b h w)(yG:h.redo.length≤16)(hlr:h.undo.length≤16):Sl Tryz.prog 15 #[.pointer (some ⟨b,0,none⟩)] w fun e w'=>e=.returned (.int .i64 (gW h.c).1)∧dj (fun _=>False) (gW h.c).2 b h w w':=by
 have hd0:Sv w.heap.size w w.drew:=(Su _ _).drew
 have fI:=h_ (fun(v0:Sh) (hv:Sv w.heap.size w v0) (h1:Hs) (v1:Sh) (s:HsAt b h1 v1∧h1.c=(gW h.c).2∧qM (fun _=>False) b h h1 v0∧Kept (h.own b) v0 v1)=>(show(fun(e:Sm) (w':Sh)=>e=.returned (.int .i64 (gW h.c).1)∧dj (fun _=>False) (gW h.c).2 b h w w') (.returned (.int .i64 (gW h.c).1)) v1 from
  ⟨rfl,((bD.of_below H hv).trans ⟨s.1,s.2.2.1,s.2.2.2⟩).post s.2.1⟩))
 have Bo:=h_ (fun(v0:Sh) (hv:Sv w.heap.size w v0)=>vh b h v0 (H.later hv) yG hlr)
 generalize (fun(e:Sm) (w':Sh)=>e=.returned (.int .i64 (gW h.c).1)∧dj (fun _=>False) (gW h.c).2 b h w w')=Q at *
 generalize (gW h.c).1=q at *
 clear H
 go_enter Tryz.func15,Tryz.ntmps15
 go_upto_region 3 with fail
 refine Si (S:=fun _=>True) (by kernel_rfl) trivial (fun _=>?_)
 have Jm:=h_ (Bo.out _ hd0)
 have HQ:=h_ (fI.out _ hd0)
 clear Bo fI
 generalize w.drew=v0 at *
 refine ab 0 (.pointer (some ⟨b,0,none⟩)) trivial ?_
 refine ab 1 (.pointer (some ⟨b,0,none⟩)) trivial ?_
 refine ab 2 (.pointer (some ⟨b,0,none⟩)) trivial ?_
 refine ab 3 (.pointer (some ⟨b,17,none⟩)) trivial ?_
 refine ab 4 (.pointer (some ⟨b,0,none⟩)) trivial ?_
 refine ab 5 (.pointer (some ⟨b,0,none⟩)) trivial ?_
 refine ab 6 (.pointer (some ⟨b,16,none⟩)) trivial ?_
 refine aq 7 (fun K hK=>?_)
 go_simp
 refine(Jm.out).mono ?_
 rintro e_ v1 ⟨rfl,h1,hst⟩
 go_wp2_with fail
 refine goOn hK trivial ?_
 clear hK
 refine ab 8 (.int .i64 q) trivial ?_
 refine Sk (by kernel_rfl) ?_ _
 have HF:=h_ (HQ.out h1 v1 hst)
 clear hst HQ Jm
 go_wp2_with fail
 exact HF.out
theorem Ag (w:Sh):Sl Tryz.prog 15 #[.pointer none] w fun e w'=>e=.returned (.int .i64 1)∧w'=w:=by
 go_enter Tryz.func15,Tryz.ntmps15
 go_wp2_with fail
 go_ret
 exact⟨rfl,rfl⟩
def qL (c:DocC)(w:Sh)(e:Sm)(w':Sh):Prop:=Sv w.heap.size w w'∧((cErr c≠0∧e=.returned (.tuple #[.pointer none,.int .i64 (cErr c)]))∨(cErr c=0∧∃ (b:Nat) (h:Hs),e=.returned (.tuple #[.pointer (some ⟨b,0,none⟩),.int .i64 0])∧HsAt b h w'∧h.c=newH c∧(∀ k,h.own b k→w.heap.size≤k)∧(∀ d∈h.docs,∀ k,d.uses k→w.heap.size≤k)))
theorem HsAt.fresh {X Y:Doc} {v:Sh} (hX:X.lies v)(hY:Y.lies v)(fX:X.fits)(fY:Y.fits):HsAt v.heap.size ⟨X,Y,none,0,[],none,0,[]⟩ (v.alloc (.cells (⟨X,Y,none,0,[],none,0,[]⟩:Hs).enc.toArray 82)):=by
 have hb:Sv v.heap.size v (v.alloc (.cells (⟨X,Y,none,0,[],none,0,[]⟩:Hs).enc.toArray 82)):=(Su _ _).alloc (Sr _) _
 have hown:∀ k,(⟨X,Y,none,0,[],none,0,[]⟩:Hs).own v.heap.size k→k=v.heap.size:=fun k h=>by
  rcases h with h|h|h
  · exact h
  · cases h
  · cases h
 refine⟨heap_alloc_last _ _,Sy _ _ _ _,Sy _ _ _ _,fun d hd=>?_,(fun k h=>by cases h),(fun h=>by cases h)⟩
 have h2:d=X∨d=Y:=by simpa [Hs.docs] using hd
 rcases h2 with rfl|rfl
 · exact⟨Doc.later hX hb,fX,fun k hu ho=>by have:=hown k ho;have:=Doc.uses_lt hX hu;omega⟩
 · exact⟨Doc.later hY hb,fY,fun k hu ho=>by have:=hown k ho;have:=Doc.uses_lt hY hu;omega⟩
theorem eW {d:Doc} (h:d.fits):(∀ x∈d.eV,x.rows.length≤4000000∧∀ r∈x.rows,r.runs.length≤4000000)∧d.rG.length≤4000000∧d.eV.length≤4000000∧d.cM.length≤4000000:=⟨fun x hx=>⟨(h.2.2.2.2.2.2.2.1 x hx).2.2.2.2.2.2.2.2,fun r hr=>((h.2.2.2.2.2.2.2.1 x hx).2.2.2.2.2.2.2.1 r hr).2.1⟩,h.2.2.2.2.2.2.1,h.2.2.2.2.2.2.2.2.1,h.2.2.2.2.2.2.2.2.2.2⟩
theorem iZ (d d':Doc)(w:Sh)(hd:d.lies w)(hd':d'.lies w)(hf:d.fits)(hf':d'.fits):Sl Tryz.prog 13 #[.agg d.enc.toArray,.agg d'.enc.toArray] w fun e w'=>e=.returned (.bool (oo d d'))∧Sv w.heap.size w w' :=
 qw d d' w hd hd' (eW hf).1 (eW hf').1 (eW hf).2.1 (eW hf').2.1 (eW hf).2.2.1 (eW hf').2.2.1 (eW hf).2.2.2 (eW hf').2.2.2
theorem ka (b:Nat)(h:Hs)(w:Sh)(H:HsAt b h w):Sl Tryz.prog 18 #[.pointer (some ⟨b,0,none⟩)] w fun e w'=>e=.returned (.bool (oo h.doc h.saved))∧Sv w.heap.size w w':=by
 have h1:=H.docs h.doc (by simp [Hs.docs])
 have h2:=H.docs h.saved (by simp [Hs.docs])
 have hbl:=dW H.at_
 have pn:=h_ (fun(w1:Sh) (hb:Sv w.heap.size w w1)=>iZ h.doc h.saved w1 (Doc.later h1.1 hb) (Doc.later h2.1 hb) h1.2.1 h2.2.1)
 have jo:=h_ (fun(w':Sh) (hb:Sv w.heap.size w w')=>aT ((hb.block b hbl).trans H.at_))
 generalize oo h.doc h.saved=AN at *
 clear H h1 h2
 have hd0:Sv w.heap.size w w.drew:=(Su _ _).drew
 go_enter Tryz.func18,Tryz.ntmps18
 go_upto_region 1 with fail
 refine Si (S:=fun w'=>Sv w.heap.size w w') (by kernel_rfl) hd0 (fun _=>?_)
 generalize w.drew=v0 at *
 refine ab 0 (.pointer (some ⟨b,0,none⟩)) hd0 ?_
 refine ab 1 (.bool true) hd0 ?_
 refine ab 2 (.bool true) hd0 ?_
 refine ab 3 (.pointer (some ⟨b,0,none⟩)) hd0 ?_
 refine ab 4 (.pointer (some ⟨b,0,none⟩)) hd0 ?_
 refine ab 5 (.pointer (some ⟨b,0,none⟩)) hd0 ?_
 refine ab 6 (.agg h.doc.enc.toArray) hd0 ?_ (hy:=Sj (by rfl) 27 (.tmp 8) rfl b 0 rfl h.doc.enc _ (fun w_ h_=>(jo.out w_ h_).1) Tryz.underlying27 rfl ag)
 refine ab 7 (.pointer (some ⟨b,0,none⟩)) hd0 ?_
 refine ab 8 (.pointer (some ⟨b,0,none⟩)) hd0 ?_
 refine ab 9 (.pointer (some ⟨b,8,none⟩)) hd0 ?_
 refine ab 10 (.agg h.saved.enc.toArray) hd0 ?_ (hy:=Sj (by rfl) 27 (.tmp 12) rfl b 8 rfl h.saved.enc _ (fun w_ h_=>(jo.out w_ h_).2.1) Tryz.underlying27 rfl ag)
 refine aq 11 (fun K hK=>?_)
 go_simp
 refine(pn.out _ hd0).mono ?_
 rintro e_ v1 ⟨rfl,ar⟩
 have hv1:Sv w.heap.size w v1:=ak hd0 ar
 clear ar
 go_wp2_with fail
 refine goOn hK hv1 ?_
 clear hK
 refine ab 12 (.bool AN) hv1 ?_
 refine ab 13 (.bool AN) hv1 ?_
 refine Sk (by kernel_rfl) ?_ _
 go_wp2_with fail
 go_ret
 exact⟨rfl,hv1⟩
theorem yC (w:Sh):Sl Tryz.prog 18 #[.pointer none] w fun e w'=>e=.returned (.bool false)∧Sv w.heap.size w w':=by
 have hd0:Sv w.heap.size w w.drew:=(Su _ _).drew
 go_enter Tryz.func18,Tryz.ntmps18
 go_upto_region 1 with fail
 refine Si (S:=fun w'=>Sv w.heap.size w w') (by kernel_rfl) hd0 (fun _=>?_)
 generalize w.drew=v0 at *
 refine ab 0 (.pointer none) hd0 ?_
 refine ab 1 (.bool false) hd0 ?_
 refine ab 2 (.bool false) hd0 ?_
 refine aw 3 hd0 ?_
 refine aw 4 hd0 ?_
 refine aw 5 hd0 ?_
 refine aw 6 hd0 ?_
 refine aw 7 hd0 ?_
 refine aw 8 hd0 ?_
 refine aw 9 hd0 ?_
 refine aw 10 hd0 ?_
 refine aw 11 hd0 ?_
 refine ab 12 (.bool false) hd0 ?_
 refine ab 13 (.bool false) hd0 ?_
 refine Sk (by kernel_rfl) ?_ _
 go_wp2_with fail
 go_ret
 exact⟨rfl,hd0⟩
theorem mV (d:Doc)(w:Sh)(hE:Env w)(hd:d.lies w)(hf:d.fits):Sl Tryz.prog 8 #[.agg d.enc.toArray] w (qL d.c w):=by
 have HB:=h_ (iy w (.cells d.enc.toArray 27))
 have iK:=h_ (fun(w1:Sh) (hb:Sv w.heap.size w w1)=>bR d w1 (hE.below hb (Sr _)) (Doc.later hd hb) hf)
 have FK:=h_ (fun(w1:Sh) (hb:Sv w.heap.size w w1)=>br d w1 (Doc.later hd hb) hf)
 have pr:=h_ (fun(D:Doc) (e:D.c=d.c)=>bp e hf)
 have bh:=h_ (fun(w':Sh) (h:cErr d.c≠0) (hb:Sv w.heap.size w w')=>(show qL d.c w (.returned (.tuple #[.pointer none,.int .i64 (cErr d.c)])) w' from⟨hb,.inl ⟨h,rfl⟩⟩))
 have HQ:=h_ (fun(h0:cErr d.c=0) (X Y:Doc) (v w1:Sh) (hX:X.lies v) (hY:Y.lies v) (fX:X.fits) (fY:Y.fits) (cX:X.c=d.c) (cY:Y.c=d.c) (uX:∀ k,X.uses k→w.heap.size≤k) (uY:∀ k,Y.uses k→w.heap.size≤k) (hv:Sv w.heap.size w v)=>(show qL d.c w (.returned (.tuple #[.pointer (some ⟨v.heap.size,0,none⟩),.int .i64 0])) (v.alloc (.cells (⟨X,Y,none,0,[],none,0,[]⟩:Hs).enc.toArray 82)) from
  ⟨hv.alloc hv.size _,.inr ⟨h0,v.heap.size,⟨X,Y,none,0,[],none,0,[]⟩,rfl,HsAt.fresh hX hY fX fY,by show(⟨X.c,Y.c,[],[]⟩:HsC)=_;rw [cX,cY];rfl,(fun k hk=>by
   rcases hk with h|h|h
   · rw [h];exact hv.size
   · cases h
   · cases h),fun D hD k hu=>by
   have h2:D=X∨D=Y:=by simpa [Hs.docs] using hD
   rcases h2 with rfl|rfl
   · exact uX k hu
   · exact uY k hu⟩⟩))
 rw [bw] at iK
 generalize qL d.c w=Q at *
 clear hE hd hf
 go_enter Tryz.func8,Tryz.ntmps8
 go_upto_region 1 with fail
 have z0:=HB.out.1
 have hb0:=HB.out.2.1
 have hs0:=HB.out.2.2
 clear HB
 generalize w.alloc (.cells d.enc.toArray 27)=W0 at *
 have hr0:=ai z0
 have Z0:=h_ z0
 have HB0:=h_ hb0
 clear z0 hb0
 go_wp2_with (refine aj 27 (.tmp 1) rfl w.heap.size 0 rfl d.enc _ hr0 Tryz.underlying27 rfl ag (by rfl) ?_)
 refine(iK.out W0 HB0.out).mono ?_
 rintro e w1 ⟨rfl,hb1⟩
 have hs1:=hb1.size
 have aK:=HB0.out.trans (hb1.mono (by omega))
 have z1:=(hb1.block w.heap.size (by omega)).trans Z0.out
 clear iK hr0 Z0 HB0 hb1
 by_cases h0:cErr d.c=0
 · rw [h0]
   have hd0:Sv w1.heap.size w1 w1.drew:=(Su _ _).drew
   have jo:=h_ (fun(w':Sh) (h:Sv w1.heap.size w1 w')=>ai ((h.block w.heap.size (by omega)).trans z1))
   have dq:=h_ (fun(w':Sh) (h:Sv w1.heap.size w1 w')=>FK.out w' (aK.trans (h.mono (by omega))))
   have fI:=h_ (fun(X Y:Doc) (v:Sh) hX hY fX fY cX cY (uX:∀ k,X.uses k→w1.heap.size≤k) (uY:∀ k,Y.uses k→w1.heap.size≤k) (hv:Sv w1.heap.size w1 v)=>HQ.out h0 X Y v w1 hX hY fX fY cX cY (fun k h=>by have:=uX k h;omega) (fun k h=>by have:=uY k h;omega) (aK.trans (hv.mono (by omega))))
   clear FK HQ z1 aK h0
   go_upto_region 4 with fail
   refine Si (S:=fun w'=>Sv w1.heap.size w1 w') (by kernel_rfl) hd0 (fun _=>?_)
   generalize w1.drew=v0 at *
   have hsd:=hd0.size
   refine ab 0 (.agg d.enc.toArray) hd0 ?_ (hy:=Sj (by rfl) 27 (.tmp 1) rfl w.heap.size 0 rfl d.enc _ (fun w_ h_=>jo.out w_ h_) Tryz.underlying27 rfl ag)
   refine ab 2 (.agg d.enc.toArray) hd0 ?_ (hy:=Sj (by rfl) 27 (.tmp 1) rfl w.heap.size 0 rfl d.enc _ (fun w_ h_=>jo.out w_ h_) Tryz.underlying27 rfl ag)
   refine aq 1 (fun K hK=>?_)
   go_simp
   refine(dq.out _ hd0).mono ?_
   rintro e_ v1 ⟨xD,rfl,Em,hxl,hxu,ar,_,_,_⟩
   have hv1:Sv w1.heap.size w1 v1:=ak hd0 ar
   have hs1:=ar.size
   have mT:=(hd0).size
   replace hxu:∀ k,xD.uses k→w1.heap.size≤k:=fun k hu=>St mT (hxu k hu)
   clear mT
   clear ar
   have xy:=pr.out xD Em
   obtain⟨xt,xl,xr,xd,xla,xra,xrc,xgs,xea,xec,xvs,xca,xcc,xms⟩:=xD
   simp only [Doc.enc]
   go_wp2_with fail
   refine goOn hK hv1 ?_
   clear hK
   refine aq 3 (fun K hK=>?_)
   go_simp
   refine(dq.out _ hv1).mono ?_
   rintro e_ v2 ⟨yD,rfl,fP,hyl,hyu,ar,_,_,_⟩
   have hv2:Sv w1.heap.size w1 v2:=ak hv1 ar
   have hs2:=ar.size
   have mT:=(hv1).size
   replace hyu:∀ k,yD.uses k→w1.heap.size≤k:=fun k hu=>St mT (hyu k hu)
   clear mT
   replace hxl:=Doc.later hxl ar
   clear ar
   have tq:=pr.out yD fP
   obtain⟨yt,yl,yr,yd,yla,yra,yrc,ygs,yea,yec,yvs,yca,ycc,yms⟩:=yD
   simp only [Doc.enc]
   go_wp2_with fail
   refine goOn hK hv2 ?_
   clear hK
   refine ab 4 (.agg #[.string xt,.string xl,.int .u8 xr,.bool xd,.int .i64 xla,.slice xra xgs.length xrc,.slice xea xvs.length xec,.slice xca xms.length xcc,.string yt,.string yl,.int .u8 yr,.bool yd,.int .i64 yla,.slice yra ygs.length yrc,.slice yea yvs.length yec,.slice yca yms.length ycc,.slice none 0 0,.slice none 0 0]) hv2 ?_
   refine aq 5 (fun K hK=>?_)
   go_simp
   have hst:Sv w1.heap.size w1 (v2.alloc (.cells #[.string xt,.string xl,.int .u8 xr,.bool xd,.int .i64 xla,.slice xra xgs.length xrc,.slice xea xvs.length xec,.slice xca xms.length xcc,.string yt,.string yl,.int .u8 yr,.bool yd,.int .i64 yla,.slice yra ygs.length yrc,.slice yea yvs.length yec,.slice yca yms.length ycc,.slice none 0 0,.slice none 0 0] 82)):=hv2.alloc (by have:=hd0.size;omega) _
   refine goOn hK hst ?_
   clear hK
   refine ab 6 (.pointer (some ⟨v2.heap.size,0,none⟩)) hst ?_
   refine ab 7 (.int .i64 0) hst ?_
   refine Sk (by kernel_rfl) ?_ _
   have HF:=h_ (fI.out ⟨xt,xl,xr,xd,xla,xra,xrc,xgs,xea,xec,xvs,xca,xcc,xms⟩ ⟨yt,yl,yr,yd,yla,yra,yrc,ygs,yea,yec,yvs,yca,ycc,yms⟩ v2 hxl hyl xy tq Em fP hxu hyu hv2)
   clear hxl hyl xy tq Em fP hxu hyu fI bh dq pr jo hst
   simp only [Hs.enc,Doc.enc,List.cons_append,List.nil_append,List.length_nil] at HF
   go_wp2_with fail
   exact HF.out
 · have hne:(cErr d.c != 0)=true:=by simpa using h0
   have HF:=h_ (bh.out w1 h0 aK)
   generalize cErr d.c=CE at *
   clear FK pr bh HQ z1 aK h0
   go_wp2_with fail
   exact HF.out
theorem sH {d D:Doc} {x:Ed} (hd:d.fits)(hx:x.fits)(h0:(bU d.c x.c).1=0)(hD:D.c=(bU d.c x.c).2):D.fits:=by
 have h1:d.c.fit:=Doc.fits.c (n:=4000000) hd hd.2.2.2.2.2.2.1 hd.2.2.2.2.2.2.2.2.1 hd.2.2.2.2.2.2.2.2.2.2
 have:=AR h1 (Ed.fits_c hx) h0
 rw [←hD] at this
 exact this.doc (Sr _)
theorem Ci (x:Ed)(w:Sh):Sl Tryz.prog 12 #[.pointer none,.agg x.enc.toArray] w fun e w'=>e=.returned (.int .i64 1)∧Sv w.heap.size w w':=by
 have HB:=(iy w (.cells x.enc.toArray 40)).2.1
 go_enter Tryz.func12,Tryz.ntmps12
 go_wp2_with fail
 go_ret
 exact⟨rfl,HB⟩
theorem Af (b:Nat)(h:Hs)(D:Doc)(w:Sh)(hE:Env w)(H:HsAt b h w)(hd:D.lies w)(hf:D.fits)(yG:h.undo.length≤16):Sl Tryz.prog 21 #[.pointer (some ⟨b,0,none⟩),.agg D.enc.toArray] w fun e w'=>e=.returned (.int .i64 (eR h.c D.c).1)∧fp (eR h.c D.c).2 b h w w':=by
 have HB:=h_ (iy w (.cells D.enc.toArray 27))
 have HH:=h_ H
 have iK:=h_ (fun(w1:Sh) (hb:Sv w.heap.size w w1)=>bR D w1 (hE.below hb (Sr _)) (Doc.later hd hb) hf)
 have C2:=h_ (fun(w':Sh) (h0:¬ cErr D.c=0) (hb:Sv w.heap.size w w')=>(show(fun(e:Sm) (w':Sh)=>e=.returned (.int .i64 (eR h.c D.c).1)∧fp (eR h.c D.c).2 b h w w') (.returned (.int .i64 (cErr D.c))) w' from by
  have e:eR h.c D.c=(cErr D.c,h.c):=if_neg h0
  rw [e];exact⟨rfl,fp.same H hb⟩))
 have C1:=h_ (fun(h0:cErr D.c=0) (w':Sh) (h':Hs) (s:bD (iI w) b h w h' w') (hc:h'.c=putH h.c D.c)=>(show(fun(e:Sm) (w':Sh)=>e=.returned (.int .i64 (eR h.c D.c).1)∧fp (eR h.c D.c).2 b h w w') (.returned (.int .i64 0)) w' from by
  have e:eR h.c D.c=(0,putH h.c D.c):=if_pos h0
  rw [e];exact⟨rfl,s.post hc⟩))
 have aZ:=h_ hd
 rw [bw] at iK
 generalize (fun(e:Sm) (w':Sh)=>e=.returned (.int .i64 (eR h.c D.c).1)∧fp (eR h.c D.c).2 b h w w')=Q at *
 clear H hE hd
 go_enter Tryz.func21,Tryz.ntmps21
 go_upto_region 3 with fail
 have z0:=HB.out.1
 have hb0:=HB.out.2.1
 have hs0:=HB.out.2.2
 clear HB
 generalize w.alloc (.cells D.enc.toArray 27)=W0 at *
 have hr0:=ai z0
 have Z0:=h_ z0
 have HB0:=h_ hb0
 clear z0 hb0
 go_wp2_with (refine aj 27 (.tmp 3) rfl w.heap.size 0 rfl D.enc _ hr0 Tryz.underlying27 rfl ag (by rfl) ?_)
 refine(iK.out W0 HB0.out).mono ?_
 rintro e w2 ⟨rfl,hb1⟩
 have hs1:=hb1.size
 have hbw:=HB0.out.trans (hb1.mono (by omega))
 have hrg:=ai ((hb1.block w.heap.size (by omega)).trans Z0.out)
 clear iK hr0 Z0 HB0 hb1
 by_cases h0:cErr D.c=0
 · rw [h0]
   have HQ:=h_ (fun(w':Sh) (h':Hs) (s:bD (iI w) b h w h' w') (hc:h'.c=putH h.c D.c)=>C1.out h0 w' h' s hc)
   have hDl:=Doc.later aZ.out hbw
   clear C2 C1 h0 aZ
   have dq:=h_ (br D w2 hDl hf)
   have ew:=h_ (fun(D2:Doc) (e:D2.c=D.c)=>bp e hf)
   have yy:=h_ (bD.of_below (N:=iI w) HH.out hbw)
   go_wp2_with (refine aj 27 (.tmp 3) rfl w.heap.size 0 rfl D.enc _ hrg Tryz.underlying27 rfl ag (by rfl) ?_)
   refine dq.out.mono ?_
   rintro e w3 ⟨D2,rfl,hc2,hl2,hu2,hb3,_,_,_⟩
   have hs3:=hb3.size
   have hf2:=ew.out D2 hc2
   have H3:=yy.out.trans (bD.of_below yy.out.1 hb3)
   have hoff:eC (h.own b) w3 D2:=⟨hl2,hf2,fun k hu ho=>by have:=hu2 k hu;have:=yy.out.1.lt ho;omega⟩
   have tz:=h_ (mU b h D2 w3 H3.1 hoff yG)
   rw [hc2] at tz
   have IG:=h_ (show ∀ d,d=D2→iI w d from fun d e k hu=>by
    subst e
    have:=hu2 k hu
    have:=hbw.size
    omega)
   have Jx:=h_ H3
   clear dq ew yy hc2 hl2 hu2 hb3 hf2 H3 hoff
   go_wp2_with fail
   refine tz.out.mono ?_
   rintro e w4 ⟨rfl,h4,H4,hc4,vP,hk4⟩
   have HF:=h_ (HQ.out w4 h4 (Jx.out.trans ⟨H4,vP.mono IG.out,hk4⟩) hc4)
   clear tz Jx IG H4 hc4 vP hk4 HQ
   go_wp2_with fail
   exact HF.out
 · have hne:(cErr D.c==0)=false:=by simpa using h0
   have HF:=h_ (C2.out w2 h0 hbw)
   generalize cErr D.c=CE at *
   clear C2 C1 h0 aZ
   go_wp2_with fail
   exact HF.out
theorem vO (D:Doc)(w:Sh):Sl Tryz.prog 21 #[.pointer none,.agg D.enc.toArray] w fun e w'=>e=.returned (.int .i64 1)∧Sv w.heap.size w w':=by
 have HB:=(iy w (.cells D.enc.toArray 27)).2.1
 go_enter Tryz.func21,Tryz.ntmps21
 go_wp2_with fail
 go_ret
 exact⟨rfl,HB⟩
end Go.Proofs.YtjebaagkomejaaaGreatDoor
