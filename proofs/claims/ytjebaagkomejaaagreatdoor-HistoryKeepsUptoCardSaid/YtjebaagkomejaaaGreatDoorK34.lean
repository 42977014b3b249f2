/- comment.Remove: a document without a comment. history: back, Undo, Redo. captionerlaw16.HistoryKeeps. edit.restyled: its change of the event. history: the chapter's example in plain words. (by hand) captionerlaw16: add and awake. -/
import Derived.Great.BuildSlice
import Derived.Test.YtjebaagkomejaaaGreatDoorK23
import Derived.Test.YtjebaagkomejaaaGreatDoorK27
set_option linter.unusedVariables false
set_option linter.unusedSimpArgs false
set_option maxRecDepth 100000
set_option maxHeartbeats 12800000
open Go.Lib renaming hid→h_
open List renaming setIfInBounds_toArray→YA,getElem_cons_zero→YB,getElem_cons_succ→YC,getElem_toArray→YD,set_cons_zero→YE,set_cons_succ→YF
open Array renaming toArray_toList→YG
open List renaming getElem?_eq_some_iff→Sj,pairwise_cons→Sk,mem_or_eq_of_mem_set→Sl,mem_of_getElem?→Sm,mem_singleton→Sn,filter_cons→Sp,mem_append→Sq,length_map→Sr,mem_cons→Ss
open Go renaming World→St,wp_region_held_drew→Su,Value→Sv
open Option.some renaming inj→Sw
open Nat renaming zero_le→Sx,add_sub_cancel→Sy,le_refl→Sz
open Go.RowKit.Below renaming refl→SA
open Go.RowKit renaming Below→SB
open Go.Value renaming slice→SC,string→SD
open Go.Value.slice renaming injEq→SF
namespace Go.Proofs.YtjebaagkomejaaaGreatDoor
open Go.RowKit
theorem nF:∀ {l:List Cm} (_:l.Pairwise fun x y=>x.id<y.id)(k:Nat)(m:Cm),l[k]? =some m→l.filter (fun x=>!(x.id==m.id))=bI l k
 | [],_,k,m,h=>by simp at h
 | a::l,hp,0,m,h=>by
   obtain rfl:a=m:=by simpa using h
   have h1:l.filter (fun x=>!(x.id==a.id))=l:=List.filter_eq_self.2 fun x hx=>by
    have:=(Sk.1 hp).1 x hx
    have:x.id≠a.id:=by omega
    simpa using this
   simp [Sp,bI,h1]
 | a::l,hp,k+1,m,h=>by
   have hm:l[k]? =some m:=by simpa using h
   have h1:=(Sk.1 hp).1 m (Sm hm)
   have h2:a.id≠m.id:=by omega
   have h3:=nF (Sk.1 hp).2 k m hm
   rw [Sp,if_pos (by simpa using h2),h3]
   rfl
theorem wI {d:DocC} {id:Int} (h:bK d id=0):cErr d=0∧∃ (j:Nat)(x:Cm),gl d id=(j:Int)∧d.cM[j]? =some x∧cU d.cM id=some x:=by
 have hI:gl d id=posOf (isCm id) d.cM:=by unfold gl;rw [if_pos h]
 unfold bK at h
 split at h
 · rename_i hn;exact absurd h hn
 · rename_i h0
   refine⟨Classical.not_not.1 h0,?_⟩
   rw [hI]
   rcases A8 d.cM id with⟨_,hn⟩|h'
   · rw [hn] at h;simp at h
   · exact h'
theorem Dm {d:Doc} {n:Nat} {w5 w6 w9:St} {ys:List Cm} {cb cap:Nat} (hl:d.lies w5)(hu:∀ b,d.uses b→n≤b)(hap:d.apart)(he:d.ca=some ⟨cb,0,none⟩)(hne:d.cM≠[])
 (hS:ah 8 Cm.enc Flat w6 (some ⟨cb,0,none⟩) ys) (k6:Kept (fun b=>b=cb) w5 w6) (k9:Kept (fun b=>b<n) w6 w9) :
 ({ d with cc:=cap,cM:=ys }:Doc).lies w9∧∀ b,({ d with cc:=cap,cM:=ys }:Doc).uses b→n≤b:=by
 obtain⟨t,t1,t2,t3,t4⟩:=hap
 have s6:=k6.size
 have s9:=k9.size
 have hcb:bp d.ca d.cM cb:=⟨hne,⟨cb,0,none⟩,he,rfl⟩
 have htb:=t4 cb hcb
 have hnb:=hu cb (.inr (.inr hcb))
 have hys:∀ b,bp d.ca ys b→b=cb:=fun b h=>by
  obtain⟨_,a,ha,hb⟩:=h
  rw [he] at ha
  obtain rfl:=Sw ha
  exact hb.symm
 have qv:∀ b,({ d with cc:=cap,cM:=ys }:Doc).uses b→n≤b:=fun b h=>by
  rcases h with h|h|h
  · exact hu b (.inl h)
  · exact hu b (.inr (.inl h))
  · rw [hys b h];exact hnb
 refine⟨⟨?_,?_,?_⟩,qv⟩
 · refine ah.frame hl.1 (by omega) (fun b hb=>?_) (fun _ _ _=>trivial)
   have h1:=aP hl.1 hb
   have h2:=hu b (.inl hb)
   have:=t1 b hb
   rw [k9.block b (by omega) (by omega),k6.block b h1 (fun e=>by rw [e] at this;omega)]
 · show dy w9 d.ea d.eV
   refine dy.frame hl.2.1 (by omega) fun b hb=>?_
   have h1:=ej hl.2.1 hb
   have h2:=hu b (.inr (.inl hb))
   rw [k9.block b (by omega) (by omega),k6.block b h1 (fun e=>by
    rw [e] at hb
    rcases hb with h|⟨x,hx,h⟩
    · have:=t2 cb h;omega
    · have:=t3 x hx cb h;omega)]
 · show ah 8 Cm.enc Flat w9 d.ca ys
   rw [he]
   refine ah.frame hS (by omega) (fun b hb=>?_) (fun _ _ _=>trivial)
   have h1:=aP hS hb
   have h2:b=cb:=hys b (he▸hb)
   rw [k9.block b h1 (by omega)]
theorem ts {d:DocC} {id:Int} (h:bK d id≠0):bX d id=(bK d id,aU):=by
 unfold bX
 unfold bK at h ⊢
 by_cases h0:cErr d≠0
 · rw [if_pos h0,if_pos h0]
 · rw [if_neg h0] at h ⊢
   rw [if_neg h0]
   by_cases h1:(cU d.cM id).isNone=true
   · rw [if_pos h1,if_pos h1]
   · rw [if_neg h1] at h;exact absurd rfl h
theorem vw {d:DocC} {id:Int} {j:Nat} {x:Cm} (h0:cErr d=0)(hx:d.cM[j]? =some x)(hf:cU d.cM id=some x):bX d id=(0,{ d with cM:=bI d.cM j }):=by
 have hid:x.id=id:=by
  have:=List.find?_some hf
  simpa [cmAt] using this
 have hfl:=nF (iy h0).cM j x hx
 unfold bX
 rw [if_neg (fun h=>h h0),hf,if_neg (by simp),←hfl,hid]
theorem vF (b:Nat)(h:Hs)(w:St)(H:HsAt b h w)(Cr:h.undo.length≤16)(hlr:h.redo.length≤16):Calls Tryz.prog 52 #[.pointer (some ⟨b,0,none⟩),.pointer (some ⟨b,16,none⟩),.pointer (some ⟨b,17,none⟩)] w fun e w'=>e=.returned (.int .i64 (fm h.c).1)∧fi (fun _=>False) (fm h.c).2 b h w w':=by
 have HH:=h_ H
 have hbl:=iQ H.at_
 have Lm:=h_ (show h.undo=[]→fm h.c=(6,h.c) from fun e=>by unfold fm Hs.c;simp [e])
 have K_:=h_ (fun(m:Nat) (D:Doc) (hm:h.undo.length=m+1) (hD:h.undo[m]? =some D)=>(show fm h.c=(0,({ h with doc:=D,undo:=h.undo.take m,redo:=h.redo++[h.doc] }:Hs).c) from by
  unfold fm Hs.c
  simp only
  rw [List.getLast?_eq_getElem?,Sr,hm,Sy,List.getElem?_map,hD]
  simp only [Option.map_some,List.dropLast_eq_take,Sr,hm,Sy,List.map_take,List.map_append,List.map_cons,List.map_nil]))
 have HQ:=h_ (fun(q:Int) (h':Hs) (w':St) (hs:fm h.c=(q,h'.c)) (s:cu (fun _=>False) b h w h' w')=>(show(fun(e:Ending) (w':St)=>e=.returned (.int .i64 (fm h.c).1)∧fi (fun _=>False) (fm h.c).2 b h w w') (.returned (.int .i64 q)) w' from by
  rw [hs];exact⟨rfl,s.post rfl⟩))
 generalize (fun(e:Ending) (w':St)=>e=.returned (.int .i64 (fm h.c).1)∧fi (fun _=>False) (fm h.c).2 b h w w')=Q at *
 obtain⟨j0,hj,hy0,hy1,hy2⟩:=info_parts Tryz.info27
 have JI:=h_ hj;have J0:=h_ hy0;have J1:=h_ hy1;have J2:=h_ hy2
 clear H hj hy0 hy1 hy2
 have cF:w.cell? ⟨b,16,none⟩=some (.slice h.ua h.undo.length h.uc):=(bH HH.out.at_).2.2.1
 cases hn:h.undo.length with
 | zero =>
   have HF:=h_ (HQ.out 6 h w (Lm.out (List.eq_nil_of_length_eq_zero hn)) (cu.of_below HH.out (SA _ _)))
   rw [hn] at cF
   clear HQ K_ Lm HH
   go_enter Tryz.func52,Tryz.ntmps52
   go_wp2_with fail
   exact HF.out
 | succ m =>
   obtain⟨D,hD⟩:∃ D,h.undo[m]? =some D:=⟨_,List.getElem?_eq_getElem (by omega)⟩
   have Fo:=h_ (K_.out m D hn hD)
   have DJ:=h_ hD
   have HN:=h_ hn
   rw [hn] at cF
   have NV:m+1≤16:=by omega
   clear K_ Lm hD hn Cr
   go_enter Tryz.func52,Tryz.ntmps52
   go_upto_region 4 with fail
   go_cut [] from 14 to 24 (fun wx=>∃ a c,cu (fun _=>False) b h w { h with ra:=a,rc:=c,redo:=h.redo++[h.doc] } wx)
   case first =>
    have HW0:=HH.out
    have hdw:SB w.heap.size w w.drew:=(SA _ _).drew
    have vK:=h_ (fun(w':St) (hb:SB w.heap.size w w')=>(show Kept (fun k=>(SC h.ra h.redo.length h.rc).ownBlock=some k∨k=b) w w'∧w'.rangeAt b 0 h.doc.enc from⟨Kept.of_below hb,(bH ((hb.block b hbl).trans HW0.at_)).1⟩))
    have hS0:=vK.out _ hdw
    have pF:=h_ (HW0.later hdw)
    have cE:=h_ (fun(v w2:St) (hv:SB w.heap.size w v) (r2:w2.heap[b]? =some (.cells h.enc.toArray 82 (0,0))) (hk:Kept (fun k=>(SC h.ra h.redo.length h.rc).ownBlock=some k) v w2)=>(show Kept (fun k=>(SC h.ra h.redo.length h.rc).ownBlock=some k∨k=b) w w2∧w2.rangeAt b 0 h.doc.enc from⟨(Kept.of_below hv).trans hk fun i _ e=>.inl e,(bH r2).1⟩))
    have Be:=h_ (fun(v w2:St) (u:Sv) (hv:SB w.heap.size w v) (r2:w2.heap[b]? =some (.cells h.enc.toArray 82 (0,0))) (hk:Kept (fun k=>(SC h.ra h.redo.length h.rc).ownBlock=some k) v w2)=>(show Kept (fun k=>(SC h.ra h.redo.length h.rc).ownBlock=some k∨k=b) w (w2.setCell ⟨b,17,none⟩ u)∧(w2.setCell ⟨b,17,none⟩ u).rangeAt b 0 h.doc.enc from⟨((Kept.of_below hv).trans hk fun i _ e=>.inl e).setCell (p:=⟨b,17,none⟩) (.inr (.inr rfl)) u,fun j x hx=>by
     have hj:j<8:=(Sj.1 hx).1
     have hne:(⟨b,0+j,none⟩:Addr)≠⟨b,17,none⟩:=fun e=>by simp only [Addr.mk.injEq] at e;omega
     rw [St.cell?_setCell_other (h:=hne.symm)]
     exact(bH r2).1 j x hx⟩))
    have Bd:=h_ (fun(v w3:St) (h1:Hs) (hv:SB w.heap.size w v) (s:cu (fun _=>False) b h v h1 w3)=>(cu.of_below HW0 hv).trans s)
    have oO:=h_ (fun(v:St) (hv:HsAt b h v) (v':Sv) (w2:St) (o:Obj) ho hg hat=>Ck (N:=fun _=>False) (v:=v) (w2:=w2) (v':=v') (o:=o) hv ho hg hat)
    clear HW0 HH HQ Fo DJ HN cF
    go_upto_region 4 with fail
    refine Su (S:=fun w'=>Kept (fun k=>(SC h.ra h.redo.length h.rc).ownBlock=some k∨k=b) w w'∧w'.rangeAt b 0 h.doc.enc) (by kernel_rfl) hS0 (fun _=>?_)
    generalize w.drew=v0 at *
    have MA:=h_ (fun(w':St) (hb:SB v0.heap.size v0 w')=>(bH ((hb.block b (iQ pF.out.at_)).trans pF.out.at_)).2.2.2)
    have Fx:=h_ (fun(w':St) (hb:SB v0.heap.size v0 w')=>vK.out w' (hdw.trans (hb.mono hdw.size)))
    have HOW:=h_ pF.out.redo
    have tH:=h_ (oO.out v0 pF.out)
    have F0:=h_ (fun(w2:St)=>cE.out v0 w2 hdw)
    have Fu:=h_ (fun(w2:St) (u:Sv)=>Be.out v0 w2 u hdw)
    have Ld:=h_ (fun(w3:St) (h1:Hs)=>Bd.out v0 w3 h1 hdw)
    clear pF vK oO cE Be Bd
    obtain⟨Cx,sav,ua,uc,undo,ra,rc,redo⟩:=h
    obtain⟨ft,fl,fr,fd,fla,fra,frc,fgs,fea,fec,fvs,fca,fcc,fms⟩:=Cx
    simp only [Doc.enc] at *
    refine ab 0 (.pointer (some ⟨b,17,none⟩)) hS0 ?_
    refine ab 1 (.pointer (some ⟨b,17,none⟩)) hS0 ?_
    refine ab 2 (.pointer (some ⟨b,17,none⟩)) hS0 ?_
    refine ab 4 (.pointer (some ⟨b,0,none⟩)) hS0 ?_
    refine ab 5 (.pointer (some ⟨b,0,none⟩)) hS0 ?_
    refine ab 6 (.pointer (some ⟨b,0,none⟩)) hS0 ?_
    refine ab 7 (.agg #[SD ft,.string fl,.int .u8 fr,.bool fd,.int .i64 fla,.slice fra fgs.length frc,.slice fea fvs.length fec,.slice fca fms.length fcc]) hS0 ?_ (hy:=yieldsIf_load_mid (by rfl) 27 (.tmp 20) rfl b 0 rfl [SD ft,.string fl,.int .u8 fr,.bool fd,.int .i64 fla,.slice fra fgs.length frc,.slice fea fvs.length fec,.slice fca fms.length fcc] _ (fun w_ h_=>h_.2) Tryz.underlying27 rfl ag)
    refine dP 3 8 (fun K hK=>?_) (fun K hK=>?_)
    focus
     have q8:=MA.out v0 (SA _ _)
     go_simp
     refine goOn hK hS0 ?_
     clear hK q8
     refine aq 8 (fun K hK=>?_)
     go_simp
     have hal:SB v0.heap.size v0 (v0.alloc (.cells #[SD ft,.string fl,.int .u8 fr,.bool fd,.int .i64 fla,.slice fra fgs.length frc,.slice fea fvs.length fec,.slice fca fms.length fcc] 27)):=(SA _ _).alloc (Sz _) _
     refine goOn hK (Fx.out _ hal) ?_
     clear hK
    rotate_left
    focus
     go_simp
     have hal:SB v0.heap.size v0 (v0.alloc (.cells #[SD ft,.string fl,.int .u8 fr,.bool fd,.int .i64 fla,.slice fra fgs.length frc,.slice fea fvs.length fec,.slice fca fms.length fcc] 27)):=(SA _ _).alloc (Sz _) _
     refine goOn hK (Fx.out _ hal) ?_
     clear hK
     refine aq 3 (fun K hK=>?_)
     have q8:=MA.out (v0.alloc (.cells #[SD ft,.string fl,.int .u8 fr,.bool fd,.int .i64 fla,.slice fra fgs.length frc,.slice fea fvs.length fec,.slice fca fms.length fcc] 27)) hal
     go_simp
     refine goOn hK (Fx.out _ hal) ?_
     clear hK q8
    all_goals
     refine aq 9 (fun K hK=>?_)
     refine jw v0 #[SD ft,.string fl,.int .u8 fr,.bool fd,.int .i64 fla,.slice fra fgs.length frc,.slice fea fvs.length fec,.slice fca fms.length fcc] rfl (.tmp 17) (.tmp 22) 55 rfl 0 27 j0 _ 8 120 Tryz.underlying55 JI.out J0.out J1.out J2.out rfl (by decide) (.slice ra redo.length rc) redo.length (redo.flatMap Doc.enc) (by rfl) HOW.out v0.heap.size (by rfl) rfl rfl (by simp [Sv.oneCell']) (by unfold maxLen;omega) (by omega) (Sx _) ?_
     intro v' w2 hown hgrow hat
     obtain⟨a,c,rfl,r2,hk2,hst⟩:=tH.out v' w2 _ hown hgrow hat
     have c16:w2.cell? ⟨b,17,none⟩=some (.slice ra redo.length rc):=(bH r2).2.2.2
     have f16:w2.frozen? ⟨b,17,none⟩=false:=eS r2 17
     refine goOn hK (F0.out w2 r2 hk2) ?_
     clear hK hown hgrow hat
     refine ab 10 (.pointer (some ⟨b,17,none⟩)) (F0.out w2 r2 hk2) ?_
     refine aq 11 (fun K hK=>?_)
     go_simp
     refine goOn hK (Fu.out w2 _ r2 hk2) ?_
     clear hK
     refine wpAnyH_done (by kernel_rfl) ?_ _
     go_wp2_with fail
     go_meet
     exact⟨a,c,Ld.out _ _ hst⟩
   case rest =>
    obtain⟨a,c,fq⟩:=hcut
    obtain⟨w1,hw1⟩:∃ x,x=wc:=⟨_,rfl⟩
    subst hw1
    obtain⟨h1,Ay⟩:∃ h1:Hs,h1={ h with ra:=a,rc:=c,redo:=h.redo++[h.doc] }:=⟨_,rfl⟩
    rw [←Ay] at fq
    have hu1:h1.undo=h.undo:=by rw [Ay]
    have ht1:h1.redo=h.redo++[h.doc]:=by rw [Ay]
    have hs1:h1.saved=h.saved:=by rw [Ay]
    have hl1:h1.undo.length=m+1:=by rw [hu1];exact HN.out
    have hD1:h1.undo[m]? =some D:=by rw [hu1];exact DJ.out
    have r1:=fq.1.at_
    obtain⟨ga,ca,hfm⟩:=dD fq.1.undo (by omega)
    have how:=fq.1.undo
    have c1:w1.cell? ⟨b,16,none⟩=some (.slice (some ⟨ga,0,none⟩) (m+1) ca):=by rw [←hl1,←hfm];exact(bH r1).2.2.1
    rw [hfm] at how
    have hcap:m+1≤ca∧ca≤9223372036854775807:=by
     rcases how.2 with⟨h0,_⟩|⟨g',cap',cur,h0,_,_,hnc,hmx,_⟩
     · simp at h0
     · simp only [SF] at h0
       obtain⟨_,_,rfl⟩:=h0
       simp only [maxLen] at hmx
       omega
    obtain⟨a',c',rI,FW⟩:=aA (k:=8) (enc:=Doc.enc) (Ok:=Flat) (fun _=>rfl) how (fun _ _=>trivial)
    simp only [SF] at rI
    obtain⟨rfl,_,rfl⟩:=rI
    obtain⟨b0,off,D',vi,hb0,J5,Md,_⟩:=ah.at_ FW (show m<h1.undo.length by omega)
    simp only [Option.some.injEq,Addr.mk.injEq,and_true] at vi
    obtain⟨rfl,rfl⟩:=vi
    rw [hD1] at J5
    obtain rfl:=Sw J5
    have FT:w1.rangeAt ga (m*8) D.enc:=fun j v hv=>by have:=Md j v hv;rwa [Nat.zero_add] at this
    have K3:D∈h1.docs:=by
     simp only [Hs.docs,Ss,Sq]
     exact .inr (.inr (.inl (Sm hD1)))
    have hA:=Aq (N:=fun _=>False) fq.1 (.inl K3)
    have hth:=qw (o:=0) r1 (by omega)
    have hone:=qL D
    have hm0:(0:Int)≤(m:Int):=by omega
    have hgb:ga≠b:=fun e=>by
     have Ku:(SC h1.ua h1.undo.length h1.uc).ownBlock=some b:=by rw [hfm,e];rfl
     exact(fq.1.ub b Ku).1 rfl
    have S2:=h_ (fq.trans hA)
    have Lf:=h_ FW
    have hkb:Kept (fun k=>k=b) w1 (w1.setCells b 0 D.enc):=jO (S:=fun k=>k=b) rfl _ _ (Kept.refl _ _)
    have MR:=h_ Ay
    have O6:=h_ K3
    have Lb:=h_ hu1
    have Dy:=h_ hl1
    have MZ:=h_ hfm
    clear fq hA r1 how FW Md hb0 J5 K3 Ay hu1 ht1 hs1 hl1 hfm hD1
    go_upto_region 6 with(first|(refine aj 27 (.tmp 31) rfl ga (m*8) rfl D.enc _ FT Tryz.underlying27 rfl ag (by rfl) ?_)|(refine wpList_store_mid rfl 27 (.tmp 34) (.tmp 32) rfl b 0 D.enc.toArray rfl rfl hth ag hone ?_))
    generalize w1.setCells b 0 D.enc=w2 at *
    have S2':=S2.out
    have r2:=S2'.1.at_
    have c2:w2.cell? ⟨b,16,none⟩=some (.slice (some ⟨ga,0,none⟩) (m+1) ca):=by rw [←Dy.out,←MZ.out];exact(bH r2).2.2.1
    have hs2:=hkb.size
    have hSt:=rU m (ah.frame Lf.out hs2 (fun k hk=>hkb.block k (aP Lf.out hk) (by obtain⟨_,ad,e,rfl⟩:=hk;obtain rfl:=Sw e;exact hgb)) (fun _ _ _=>trivial))
    have htl:(h1.undo.take m).length=m:=by rw [List.length_take,Dy.out];omega
    obtain⟨ys,hys⟩:∃ ys,ys=h1.undo.take m:=⟨_,rfl⟩
    rw [←hys] at hSt htl
    have FM:=h_ (fun(v':Sv) (w3:St) ho hg hat=>Ar (N:=fun _=>False) (b:=b) (ys:=ys) (v':=v') (w2:=w3) S2'.1 ho hg hat (fun d hd=>by rw [hys] at hd;simp only [Hs.docs,Ss,Sq];exact .inr (.inr (.inl (List.mem_of_mem_take hd)))))
    have HST:=h_ hSt
    have Ii:=h_ htl
    have OM:=h_ hys
    clear htl hys
    clear c1 FT hth hkb Lf hSt r2 S2'
    go_wp2_with (at_builtin;refine aJ (enc:=Doc.enc) (Ok:=Flat) _ rfl (.const (.slice none 0 0)) (.tmp 41) 55 rfl 0 27 j0 _ 8 120 Tryz.underlying55 JI.out J0.out J1.out J2.out rfl (by decide) (fun _=>rfl) (fun x v hv=>Doc.one x v hv) _ 0 [] rfl (St.ownsRow_nil _ _ _ _) (some ⟨ga,0,none⟩) ca ys ?hx HST.out ?h63 ?hb ?hbase ?_)
    case hx=>rw [Ii.out]
    case h63=>rw [Ii.out];unfold maxLen;omega
    case hb=>rw [Ii.out];omega
    intro v' w3 ho hg hat
    replace ho:w3.ownsRow 0 27 8 v' ys.length (ys.flatMap Doc.enc):=by first|exact ho|(rw [Ii.out];exact ho)|simpa [Ii.out] using ho
    obtain⟨a2,c2',rfl,r3,hb3,GH⟩:=FM.out v' w3 ho hg hat
    have d16:w3.cell? ⟨b,16,none⟩=some (.slice h1.ua h1.undo.length h1.uc):=(bH r3).2.2.1
    have e16:w3.frozen? ⟨b,16,none⟩=false:=eS r3 16
    have Ou:=MR.out
    have HF:=h_ (HQ.out 0 _ _ (by rw [Fo.out,OM.out];subst Ou;rfl) (S2.out.trans GH))
    clear ho hg hat r3 hb3 GH FM HST HQ Fo S2 MR O6 Lb MZ HH
    go_wp2_with fail
    exact HF.out
theorem ls (b:Nat)(h:Hs)(w:St)(H:HsAt b h w)(Cr:h.undo.length≤16)(hlr:h.redo.length≤16):Calls Tryz.prog 14 #[.pointer (some ⟨b,0,none⟩)] w fun e w'=>e=.returned (.int .i64 (fm h.c).1)∧fi (fun _=>False) (fm h.c).2 b h w w':=by
 have hd0:SB w.heap.size w w.drew:=(SA _ _).drew
 have fQ:=h_ (fun(v0:St) (hv:SB w.heap.size w v0) (h1:Hs) (v1:St) (s:HsAt b h1 v1∧h1.c=(fm h.c).2∧tF (fun _=>False) b h h1 v0∧Kept (h.own b) v0 v1)=>(show(fun(e:Ending) (w':St)=>e=.returned (.int .i64 (fm h.c).1)∧fi (fun _=>False) (fm h.c).2 b h w w') (.returned (.int .i64 (fm h.c).1)) v1 from
  ⟨rfl,((cu.of_below H hv).trans ⟨s.1,s.2.2.1,s.2.2.2⟩).post s.2.1⟩))
 have Ja:=h_ (fun(v0:St) (hv:SB w.heap.size w v0)=>vF b h v0 (H.later hv) Cr hlr)
 generalize (fun(e:Ending) (w':St)=>e=.returned (.int .i64 (fm h.c).1)∧fi (fun _=>False) (fm h.c).2 b h w w')=Q at *
 generalize (fm h.c).1=q at *
 clear H
 go_enter Tryz.func14,Tryz.ntmps14
 go_upto_region 3 with fail
 refine Su (S:=fun _=>True) (by kernel_rfl) trivial (fun _=>?_)
 have t_:=h_ (Ja.out _ hd0)
 have HQ:=h_ (fQ.out _ hd0)
 clear Ja fQ
 generalize w.drew=v0 at *
 refine ab 0 (.pointer (some ⟨b,0,none⟩)) trivial ?_
 refine ab 1 (.pointer (some ⟨b,0,none⟩)) trivial ?_
 refine ab 2 (.pointer (some ⟨b,0,none⟩)) trivial ?_
 refine ab 3 (.pointer (some ⟨b,16,none⟩)) trivial ?_
 refine ab 4 (.pointer (some ⟨b,0,none⟩)) trivial ?_
 refine ab 5 (.pointer (some ⟨b,0,none⟩)) trivial ?_
 refine ab 6 (.pointer (some ⟨b,17,none⟩)) trivial ?_
 refine aq 7 (fun K hK=>?_)
 go_simp
 refine(t_.out).mono ?_
 rintro e_ v1 ⟨rfl,h1,hst⟩
 go_wp2_with fail
 refine goOn hK trivial ?_
 clear hK
 refine ab 8 (.int .i64 q) trivial ?_
 refine wpAnyH_done (by kernel_rfl) ?_ _
 have HF:=h_ (HQ.out h1 v1 hst)
 clear hst HQ t_
 go_wp2_with fail
 exact HF.out
end Go.Proofs.YtjebaagkomejaaaGreatDoor
namespace Go.Proofs.YtjebaagkomejaaaGreatDoor
open Go.RowKit
structure eJ (N:Nat)(wx wr:St):Prop where
 cell:∀ a,wr.cell? a=wx.cell? a∨∃ s s',wx.cell? a=some (.string s)∧wr.cell? a=some (.string s')
 froz:∀ a,wr.frozen? a=wx.frozen? a
 kept:Kept (fun k=>N≤k) wx wr
theorem eJ.refl (N:Nat)(w:St):eJ N w w:=⟨fun _=>.inl rfl,fun _=>rfl,Kept.refl _ _⟩
theorem eJ.step {N:Nat} {wx wr:St} {p:Addr} {s:ByteArray} (h:eJ N wx wr)(hc:wr.cell? p=some (.string s))(hp:N≤p.block)(t:ByteArray):eJ N wx (wr.setCell p (.string t)):=by
 refine⟨fun a=>?_,fun a=>by rw [St.frozen?_setCell];exact h.froz a,h.kept.setCell (.inr hp) _⟩
 by_cases e:p=a
 · subst e
   rw [St.cell?_setCell_same (h:=hc)]
   rcases h.cell p with q|⟨s1,_,q,_⟩
   · exact .inr ⟨s,t,q▸hc,rfl⟩
   · exact .inr ⟨s1,t,q,rfl⟩
 · rw [St.cell?_setCell_other (h:=e)]
   exact h.cell a
theorem eJ.read {N:Nat} {wx wr:St} {p:Addr} {a:Option Addr} {n c:Nat} (h:eJ N wx wr)(hc:wx.cell? p=some (.slice a n c)):wr.cell? p=some (.slice a n c):=by
 rcases h.cell p with q|⟨s1,_,q,_⟩
 · exact q.trans hc
 · rw [hc] at q;cases q
theorem eJ.text {N:Nat} {wx wr:St} {p:Addr} {s:ByteArray} (h:eJ N wx wr)(hc:wx.cell? p=some (.string s)):∃ t,wr.cell? p=some (.string t):=by
 rcases h.cell p with q|⟨_,t,_,q⟩
 · exact⟨s,q.trans hc⟩
 · exact⟨t,q⟩
theorem th (a b c d e f g h:Sv)(w:St):(Instr.field 27 (.agg #[a,b,c,d,e,f,g,h]) 6).run Tryz.prog w=.ok g w:=by kernel_rfl
attribute [local go_sem] th
end Go.Proofs.YtjebaagkomejaaaGreatDoor
namespace Go.Proofs.YtjebaagkomejaaaGreatDoor
open Go.RowKit
theorem zZ {x:EdC} {y:Ev} {B g i rb:Nat} {w1 w2 w3:St} {r q:Row} (hy1:restyle x y.c=(0,{ y.c with rows:=y.c.rows.set i q.runs })) (hr:y.rows[i]? =some r) (ha:y.at_=some ⟨rb,0,none⟩) (hl:y.lies w1) (rE:∀ r∈y.rows,r.fits) (hf:y.fits) (hq:q.fits) (hBg:B≤g) (hgw:g<w1.heap.size) (hBw:B≤w1.heap.size)
 (hu:∀ k,y.uses k→B≤k∧k≠g) (hg:w1.heap[g]? =some (.cells y.enc.toArray 72 (0,0))) (ho:w1.ownsRow B 75 1 (.slice y.at_ y.rows.length y.cap) y.rows.length (y.rows.flatMap Row.enc)) (hap:∀ r∈y.rows,∀ b,r.uses b→b≠rb)
 (h2:SB w1.heap.size w1 w2) (hqo:w3.ownsRow w2.heap.size 77 5 (.slice q.at_ q.runs.length q.cap) q.runs.length (q.runs.flatMap Run.enc)) (h3:SB w2.heap.size w2 w3) :
 cS (restyle x) B g y w1 (.returned (.int .i64 0)) (w3.setCell ⟨rb,i,none⟩ (.slice q.at_ q.runs.length q.cap)):=by
 have hs2:=h2.size
 have hs3:=h3.size
 have AO:SB w1.heap.size w1 w3:=h2.trans (h3.mono (by omega))
 have hil:i<y.rows.length:=(Sj.1 hr).1
 have hne:y.rows≠[]:=fun e=>by rw [e] at hil;simp at hil
 have xX:y.uses rb:=.inl ⟨hne,⟨rb,0,none⟩,ha,rfl⟩
 have hrb:=Ev.uses_lt hl xX
 have Kr:=hu rb xX
 have K:Kept (fun b=>b=rb) w3 (w3.setCell ⟨rb,i,none⟩ (.slice q.at_ q.runs.length q.cap)):=bG (Kept.refl _ _) _ _
 have ho3:w3.ownsRow B 75 1 (.slice y.at_ y.rows.length y.cap) y.rows.length (y.rows.flatMap Row.enc):=aI ho AO
 rw [ha] at ho3
 have Aw:=fH (K:=1) (enc:=Row.enc) (j:=0) (y:=q) (v:=.slice q.at_ q.runs.length q.cap) (fun _=>rfl) ho3 hr rfl (by decide)
 rw [show i*1+0=i by omega] at Aw
 have GQ:q.lies w3:=bY.lies hqo
 have NK:∀ k,q.uses k→w2.heap.size≤k:=by
  rintro k ⟨hq1,ad,had,rfl⟩
  have:=(hqo.lt ad.block (by rw [had];rfl)).1
  exact this
 have NM:q.lies (w3.setCell ⟨rb,i,none⟩ (.slice q.at_ q.runs.length q.cap)):=Row.frame GQ K.size fun k hk=>K.block k (Row.uses_lt GQ hk) (by have:=NK k hk;omega)
 have hlen:(y.rows.set i q).length=y.rows.length:=List.length_set ..
 refine⟨{ y with rows:=y.rows.set i q },by rw [hy1],fun _=>⟨?_,?_,?_,?_⟩,?_⟩
 · rw [hy1]
   show(⟨y.id,y.inn,y.out,y.region,y.kind,y.speaker,(y.rows.set i q).map Row.runs⟩:EvC)=_
   rw [List.map_set];rfl
 · rw [←hlen] at Aw
   obtain⟨a',c',he,hS⟩:=aA (k:=1) (enc:=Row.enc) (Ok:=Row.lies) (fun _=>rfl) Aw (fun z hz=>by
    rcases Sl hz with h|h
    · have hzl:=Row.keeps _ _ _ AO (mu hl h)
      exact Row.frame hzl K.size fun k hk=>K.block k (Row.uses_lt hzl hk) (hap z h k hk)
    · rw [h];exact NM)
   simp only [SF] at he
   obtain⟨he,_,_⟩:=he
   show bx _ y.at_ (y.rows.set i q)
   rw [ha,he]
   exact hS
 · obtain⟨p1,p2,p3,p4,p5,p6,p7,p8,p9⟩:=hf
   refine⟨p1,p2,p3,p4,p5,p6,p7,fun z hz=>?_,by show(y.rows.set i q).length≤_;rw [hlen];exact p9⟩
   rcases Sl hz with h|h
   · exact p8 z h
   · rw [h];exact hq
 · rw [K.block g (by omega) (fun e=>Kr.2 e.symm),AO.block g hgw,hg]
   show _=some (Obj.cells (#[Sv.int .i64 y.id,.int .i64 y.inn,.int .i64 y.out,.string y.region,.int .u8 y.kind,.string y.speaker,.slice y.at_ (y.rows.set i q).length y.cap]) 72 (0,0))
   rw [hlen];rfl
 · exact(AO.mono hBw).trans (K.below (by omega) fun k hk e=>by omega)
def hsA:ByteArray:=⟨#[65]⟩
def hsB:ByteArray:=⟨#[66]⟩
def hsNo:ByteArray:=⟨#[]⟩
def hsC0:DocC:=⟨⟨hsNo,hsNo,3,false,0⟩,[],[],[]⟩
def hsX (s:ByteArray):EdC:=⟨1,0,0,0,9,0,0,0,0,1,0,false,false,hsNo,hsNo,⟨hsNo,0,0,0,0,0,false⟩,[[⟨s,0,false,false,hsNo⟩]]⟩
def hsE (id:Int)(s:ByteArray):EvC:=⟨id,0,9,hsNo,1,hsNo,[[⟨s,0,false,false,hsNo⟩]]⟩
def hsC1:DocC:=⟨⟨hsNo,hsNo,3,false,1⟩,[],[hsE 1 hsA],[]⟩
theorem GL:cErr hsC0=0:=by kernel_rfl
theorem Kh:cErr hsC1=0:=by kernel_rfl
theorem Ka:gE (hsX hsA)=0:=by kernel_rfl
theorem J_:gE (hsX hsB)=0:=by kernel_rfl
theorem Kc:aQ hsC0 (hsE 0 hsA)=0:=by kernel_rfl
theorem Kb:aQ hsC1 (hsE 0 hsB)=0:=by kernel_rfl
theorem GK:cj hsC0 (hsX hsA)=(0,hsC1):=by
 rw [qJ,if_neg (fun h=>h GL),if_neg (fun h=>h Ka)]
 show insertC hsC0 (hsE 0 hsA)=_
 unfold insertC
 rw [if_neg (fun h=>h Kc)]
 rw [if_pos (show(hsE 0 hsA).id=0 from rfl)]
 show(0,(⟨⟨hsNo,hsNo,3,false,0+1⟩,[],de ([]++[hsE (0+1) hsA]),[]⟩:DocC))=_
 have:de ([]++[hsE (0+1) hsA])=[hsE 1 hsA]:=by unfold de;simp
 rw [this];rfl
theorem GJ:(cj hsC1 (hsX hsB)).1=0:=by
 rw [qJ,if_neg (fun h=>h Kh),if_neg (fun h=>h J_)]
 show(insertC hsC1 (hsE 0 hsB)).1=0
 rw [wv];exact Kb
def hsC2:DocC:=(cj hsC1 (hsX hsB)).2
theorem Kg:doH (newH hsC0) (hsX hsA)=(0,⟨hsC1,hsC0,[hsC0],[]⟩):=by
 unfold doH
 rw [show(newH hsC0).doc=hsC0 from rfl,GK,if_pos rfl]
 rfl
theorem Kf:doH ⟨hsC1,hsC0,[hsC0],[]⟩ (hsX hsB)=(0,⟨hsC2,hsC0,[hsC0,hsC1],[]⟩):=by
 unfold doH
 rw [if_pos GJ]
 rfl
theorem Ke:fm ⟨hsC2,hsC0,[hsC0,hsC1],[]⟩=(0,⟨hsC1,hsC0,[hsC0],[hsC2]⟩):=rfl
theorem Kd:fm ⟨hsC1,hsC0,[hsC0],[hsC2]⟩=(0,⟨hsC0,hsC0,[],[hsC2,hsC1]⟩):=rfl
def HsIn (S:Nat)(w0:St)(b:Nat)(h:Hs)(w:St):Prop:=HsAt b h w∧(∀ k,h.own b k→S≤k)∧SB S w0 w
theorem HsIn.post {N:Doc→Prop} {S b:Nat} {w0 w w':St} {h:Hs} {c:HsC} (H:HsIn S w0 b h w)(p:fi N c b h w w')(hS:S≤w.heap.size):∃ h':Hs,HsIn S w0 b h' w'∧h'.c=c:=by
 obtain⟨h',H',hc,ho,hk⟩:=p
 refine⟨h',⟨H',fun k hk=>(ho.own k hk).elim (H.2.1 k) fun h=>by omega,H.2.2.trans (hk.below hS fun k hk ho=>?_)⟩,hc⟩
 have:=H.2.1 k ho
 omega
theorem HsIn.later {S b:Nat} {w0 w w':St} {h:Hs} (H:HsIn S w0 b h w)(hb:SB w.heap.size w w')(hS:S≤w.heap.size):HsIn S w0 b h w':=⟨H.1.later hb,H.2.1,H.2.2.trans (hb.mono hS)⟩
theorem im {h:Hs} {c:HsC} (e:h.c=c):h.undo.length=c.undo.length∧h.redo.length=c.redo.length:=by
 subst e
 unfold Hs.c
 simp
def hsD0:Doc:=⟨hsNo,hsNo,3,false,0,none,0,[],none,0,[],none,0,[]⟩
theorem As (w:St):hsD0.lies w:=⟨.inl rfl,.inl rfl,.inl rfl⟩
theorem At:hsD0.fits:=⟨by decide,by decide,by decide,by decide,Ak,by simp [hsD0],by simp [hsD0],by simp [hsD0],by simp [hsD0],by simp [hsD0],by simp [hsD0]⟩
theorem rS {α:Type} {K T g:Nat} {enc:α→List Sv} {Ok:St→α→Prop} {w:St} {x:α} (hg:w.heap[g]? =some (.cells (enc x).toArray T (0,0)))(ho:Ok w x):ah K enc Ok w (some ⟨g,0,none⟩) [x]:=by
 refine .inr ⟨g,0,rfl,iQ hg,fun i y hy=>?_⟩
 have hi:i<1:=(Sj.1 hy).1
 obtain rfl:i=0:=by omega
 obtain rfl:x=y:=by simpa using hy
 refine⟨fun j v hv=>?_,ho⟩
 rw [cell_of_row _ _ (0+0*K+j) _ T (0,0) hg,show 0+0*K+j=j by omega]
 simpa using hv
def hsEd (s:ByteArray)(g1 g2:Nat):Ed:=⟨1,0,0,0,9,0,0,0,0,1,0,false,false,hsNo,hsNo,⟨hsNo,0,0,0,0,0,false⟩,some ⟨g2,0,none⟩,1,[⟨some ⟨g1,0,none⟩,1,[⟨s,0,false,false,hsNo⟩]⟩]⟩
theorem sK (s:ByteArray)(g1 g2:Nat)(hs:s.size≤1000000):(hsEd s g1 g2).fits:=by
 have h0:i64 0:=Ak
 have h9:i64 9:=⟨by decide,by decide⟩
 have p1:(0:Int)≤1∧(1:Int)≤255:=by decide
 have p0:(0:Int)≤0∧(0:Int)≤255:=by decide
 refine⟨p1,⟨h0,h0,h0,h9,h0,h0,h0,h0⟩,p1,p0,Sx _,Sx _,⟨Sx _,h0,h0,h0,h0,p0.1,p0.2⟩,fun r hr=>?_,by show 1≤4000000;omega⟩
 rw [Sn.1 hr]
 refine⟨fun y hy=>?_,by show 1≤4000000;omega,by show s.size+0≤4000000;omega⟩
 rw [Sn.1 hy]
 exact⟨by show s.size≤4000000;omega,Sx _,p0.1,p0.2⟩
end Go.Proofs.YtjebaagkomejaaaGreatDoor
