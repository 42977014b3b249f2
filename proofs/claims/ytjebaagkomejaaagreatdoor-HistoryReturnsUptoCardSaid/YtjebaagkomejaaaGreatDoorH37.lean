/- document.Same of any two documents: whether their contents are equal. history: put. -/
import Derived.Test.YtjebaagkomejaaaGreatDoorH31
import Derived.Test.YtjebaagkomejaaaGreatDoorH29
set_option linter.unusedVariables false
set_option linter.unusedSimpArgs false
set_option maxRecDepth 100000
set_option maxHeartbeats 12800000
open Go.Lib renaming hid→h_
open List renaming setIfInBounds_toArray→YA,getElem_cons_zero→YB,getElem_cons_succ→YC,getElem_toArray→YD,set_cons_zero→YE,set_cons_succ→YF
open Array renaming toArray_toList→YG
open Go renaming World→Sh,wp_region_held_drew→Si,wpAnyH_done→Sj,wpList_store_mid→Sk
open Go.RowKit renaming Below→Sl
open Go.Value renaming string→Sm,slice→Sn
open Go.RowKit.Below renaming refl→Sp,heap_setCell→Sq
open Go.Value.slice renaming injEq→Sr
namespace Go.Proofs.YtjebaagkomejaaaGreatDoor
open Go.RowKit
attribute [local go_sem ↓] Go.wp_at_zero Go.wp_at_succ
theorem qw (d d':Doc)(w:Sh)(hd:d.lies w)(hd':d'.lies w)(hf:∀ x∈d.eV,x.rows.length≤4000000∧∀ r∈x.rows,r.runs.length≤4000000)(hf':∀ x∈d'.eV,x.rows.length≤4000000∧∀ r∈x.rows,r.runs.length≤4000000)(hr:d.rG.length≤4000000)(hr':d'.rG.length≤4000000)(he:d.eV.length≤4000000)(he':d'.eV.length≤4000000)(hm:d.cM.length≤4000000)(hm':d'.cM.length≤4000000) :
 Calls Tryz.prog 13 #[.agg d.enc.toArray,.agg d'.enc.toArray] w fun e w'=>e=.returned (.bool (oo d d'))∧Sl w.heap.size w w':=by
 unfold oo
 have r1:=fun wx=>BH d.hd d'.hd wx
 have mg:=fun(w1:Sh) (h:Sl w.heap.size w w1)=>qq d.ea d'.ea d.ec d'.ec d.eV d'.eV w1 (hd.2.1.later h) (hd'.2.1.later h) hf hf' he he'
 have Iz:=fun(w1:Sh) (h:Sl w.heap.size w w1)=>oh d.ra d'.ra d.rc d'.rc d.rG d'.rG w1 (hd.1.later h) (hd'.1.later h) hr hr'
 have Nf:=fun(w1:Sh) (h:Sl w.heap.size w w1)=>qt d.ca d'.ca d.cc d'.cc d.cM d'.cM w1 (hd.2.2.later h) (hd'.2.2.later h) hm hm'
 generalize hdEq d.hd d'.hd=R0 at *
 generalize Lib.allEq gV d.rG d'.rG=RR at *
 generalize Lib.allEq evEq d.eV d'.eV=RE at *
 generalize Lib.allEq cmEq d.cM d'.cM=RC at *
 generalize hQ:(fun(e:Ending) (w':Sh)=>e=.returned (.bool (R0&&(RR&&(RE&&RC))))∧Sl w.heap.size w w')=Q
 have HQ:=h_ (fun w' (hb:Sl w.heap.size w w')=>show Q (.returned (.bool (R0&&(RR&&(RE&&RC))))) w' from hQ▸⟨rfl,hb⟩)
 clear hQ
 have M4:=h_ (fun w1=>o4 d w1)
 have M3:=h_ (fun w1=>o4 d' w1)
 obtain⟨title,lA,rate,drop,last,ra,rc,rG,ea,ec,eV,ca,cc,cM⟩:=d
 obtain⟨title',lang',rate',drop',last',ra',rc',regs',ea',ec',evs',ca',cc',cms'⟩:=d'
 have HE:=h_ mg
 have HR:=h_ Iz
 have HC:=h_ Nf
 clear mg Iz Nf hr hr' he he' hm hm'
 simp only [Doc.enc,Doc.hd,Hd.enc] at *
 generalize hds:#[Sm title,.string lA,.int .u8 rate,.bool drop,.int .i64 last,.slice ra rG.length rc,.slice ea eV.length ec,.slice ca cM.length cc]=ds
 generalize uF:#[Sm title',.string lang',.int .u8 rate',.bool drop',.int .i64 last',.slice ra' regs'.length rc',.slice ea' evs'.length ec',.slice ca' cms'.length cc']=qs
 have f0:=dB w ds qs 27 27 0 (.string title) (by rw [←hds];rfl)
 have f1:=dB w ds qs 27 27 1 (.string lA) (by rw [←hds];rfl)
 have f2:=dB w ds qs 27 27 2 (.int .u8 rate) (by rw [←hds];rfl)
 have f3:=dB w ds qs 27 27 3 (.bool drop) (by rw [←hds];rfl)
 have f4:=dB w ds qs 27 27 4 (.int .i64 last) (by rw [←hds];rfl)
 have f5:=dB w ds qs 27 27 5 (.slice ra rG.length rc) (by rw [←hds];rfl)
 have f6:=dB w ds qs 27 27 6 (.slice ea eV.length ec) (by rw [←hds];rfl)
 have f7:=dB w ds qs 27 27 7 (.slice ca cM.length cc) (by rw [←hds];rfl)
 have g0:=cW w ds qs 27 27 0 (.string title') (by rw [←uF];rfl)
 have g1:=cW w ds qs 27 27 1 (.string lang') (by rw [←uF];rfl)
 have g2:=cW w ds qs 27 27 2 (.int .u8 rate') (by rw [←uF];rfl)
 have g3:=cW w ds qs 27 27 3 (.bool drop') (by rw [←uF];rfl)
 have g4:=cW w ds qs 27 27 4 (.int .i64 last') (by rw [←uF];rfl)
 have g5:=cW w ds qs 27 27 5 (.slice ra' regs'.length rc') (by rw [←uF];rfl)
 have g6:=cW w ds qs 27 27 6 (.slice ea' evs'.length ec') (by rw [←uF];rfl)
 have g7:=cW w ds qs 27 27 7 (.slice ca' cms'.length cc') (by rw [←uF];rfl)
 have HB:=h_ (fun(w1:Sh) (h:Sl (w.heap.size+2) ((w.alloc (.cells ds 27)).alloc (.cells qs 27)) w1)=>fH h)
 have hb0:Sl (w.heap.size+2) ((w.alloc (.cells ds 27)).alloc (.cells qs 27)) ((w.alloc (.cells ds 27)).alloc (.cells qs 27)):=Sp _ _
 have hsz:((w.alloc (.cells ds 27)).alloc (.cells qs 27)).heap.size=w.heap.size+2:=by simp
 generalize hW0:(w.alloc (.cells ds 27)).alloc (.cells qs 27)=W0 at *
 have HW0:=h_ hW0
 have dV:=h_ hsz
 have HT0:=h_ (fun(w2 w3:Sh) (h:Sl (w.heap.size+2) W0 w2) (h3:Sl w2.heap.size w2 w3)=>(h.trans (h3.mono (by have:=h.size;rw [dV.out] at this;exact this)):Sl (w.heap.size+2) W0 w3))
 have G1:=h_ (fun(w1:Sh) (h:Sl (w.heap.size+2) W0 w1)=>(M4.out w1).mono (fun e w' p=>(show e=_∧Sl (w.heap.size+2) W0 w' from⟨p.1,HT0.out _ _ h p.2⟩)))
 have G2:=h_ (fun(w1:Sh) (h:Sl (w.heap.size+2) W0 w1)=>(M3.out w1).mono (fun e w' p=>(show e=_∧Sl (w.heap.size+2) W0 w' from⟨p.1,HT0.out _ _ h p.2⟩)))
 have GR:=h_ (fun(w1:Sh) (h:Sl (w.heap.size+2) W0 w1)=>(HR.out w1 (HB.out _ h)).mono (fun e w' p=>(show e=_∧Sl (w.heap.size+2) W0 w' from⟨p.1,HT0.out _ _ h p.2⟩)))
 have GE:=h_ (fun(w1:Sh) (h:Sl (w.heap.size+2) W0 w1)=>(HE.out w1 (HB.out _ h)).mono (fun e w' p=>(show e=_∧Sl (w.heap.size+2) W0 w' from⟨p.1,HT0.out _ _ h p.2⟩)))
 have GC:=h_ (fun(w1:Sh) (h:Sl (w.heap.size+2) W0 w1)=>(HC.out w1 (HB.out _ h)).mono (fun e w' p=>(show e=_∧Sl (w.heap.size+2) W0 w' from⟨p.1,HT0.out _ _ h p.2⟩)))
 have hbd:Sl (w.heap.size+2) W0 W0.drew:=hb0.drew
 clear hW0 hsz hd hd' hf hf' M4 M3 HR HE HC
 go_enter Tryz.func13,Tryz.ntmps13
 subst hds
 subst uF
 go_upto_region 1 with fail
 rw [HW0.out]
 cases R0 with
 | false =>
   refine Si (S:=fun w'=>Sl (w.heap.size+2) W0 w') (by kernel_rfl) hbd (fun _=>?_)
   try simp only [Act.put,YD,YB,YC,YA,YE,YF,YG]
   refine ab 0 (.agg #[.string title,.string lA,.int .u8 rate,.bool drop,.int .i64 last,.slice ra rG.length rc,.slice ea eV.length ec,.slice ca cM.length cc]) hbd ?_
   refine ab 2 (.agg #[.string title',.string lang',.int .u8 rate',.bool drop',.int .i64 last',.slice ra' regs'.length rc',.slice ea' evs'.length ec',.slice ca' cms'.length cc']) hbd ?_
   refine aq 1 (fun K hK=>?_)
   go_simp
   refine(G1.out _ hbd).mono ?_
   rintro e w1 ⟨rfl,h1⟩
   go_wp2_with fail
   refine goOn hK h1 ?_
   clear hK
   refine aq 3 (fun K hK=>?_)
   go_simp
   refine(G2.out _ h1).mono ?_
   rintro e w2 ⟨rfl,h2⟩
   go_wp2_with fail
   refine goOn hK h2 ?_
   clear hK
   refine ab 4 (.bool false) h2 ?_
   refine ab 5 (.bool false) h2 ?_
   refine aw 6 h2 ?_
   refine aw 7 h2 ?_
   refine aw 8 h2 ?_
   refine aw 9 h2 ?_
   refine aw 10 h2 ?_
   refine ab 11 (.bool false) h2 ?_
   refine ab 12 (.bool false) h2 ?_
   refine aw 13 h2 ?_
   refine aw 14 h2 ?_
   refine aw 15 h2 ?_
   refine aw 16 h2 ?_
   refine aw 17 h2 ?_
   refine ab 18 (.bool false) h2 ?_
   refine ab 19 (.bool false) h2 ?_
   refine aw 20 h2 ?_
   refine aw 21 h2 ?_
   refine aw 22 h2 ?_
   refine aw 23 h2 ?_
   refine aw 24 h2 ?_
   refine ab 25 (.bool false) h2 ?_
   refine ab 26 (.bool false) h2 ?_
   refine Sj (by kernel_rfl) ?_ _
   go_wp2_with fail
   exact HQ.out _ (HB.out _ h2)
 | true =>
   cases RR with
   | false =>
     refine Si (S:=fun w'=>Sl (w.heap.size+2) W0 w') (by kernel_rfl) hbd (fun _=>?_)
     try simp only [Act.put,YD,YB,YC,YA,YE,YF,YG]
     refine ab 0 (.agg #[.string title,.string lA,.int .u8 rate,.bool drop,.int .i64 last,.slice ra rG.length rc,.slice ea eV.length ec,.slice ca cM.length cc]) hbd ?_
     refine ab 2 (.agg #[.string title',.string lang',.int .u8 rate',.bool drop',.int .i64 last',.slice ra' regs'.length rc',.slice ea' evs'.length ec',.slice ca' cms'.length cc']) hbd ?_
     refine aq 1 (fun K hK=>?_)
     go_simp
     refine(G1.out _ hbd).mono ?_
     rintro e w1 ⟨rfl,h1⟩
     go_wp2_with fail
     refine goOn hK h1 ?_
     clear hK
     refine aq 3 (fun K hK=>?_)
     go_simp
     refine(G2.out _ h1).mono ?_
     rintro e w2 ⟨rfl,h2⟩
     go_wp2_with fail
     refine goOn hK h2 ?_
     clear hK
     refine ab 4 (.bool true) h2 ?_
     refine ab 5 (.bool true) h2 ?_
     refine ab 6 (.pointer (some ⟨w.heap.size,5,none⟩)) h2 ?_
     refine ab 7 (.slice ra rG.length rc) h2 ?_
     refine ab 8 (.pointer (some ⟨w.heap.size+1,5,none⟩)) h2 ?_
     refine ab 9 (.slice ra' regs'.length rc') h2 ?_
     refine aq 10 (fun K hK=>?_)
     go_simp
     refine(GR.out _ h2).mono ?_
     rintro e wr59 ⟨rfl,dp⟩
     go_wp2_with fail
     refine goOn hK dp ?_
     clear hK
     refine ab 11 (.bool false) dp ?_
     refine ab 12 (.bool false) dp ?_
     refine aw 13 dp ?_
     refine aw 14 dp ?_
     refine aw 15 dp ?_
     refine aw 16 dp ?_
     refine aw 17 dp ?_
     refine ab 18 (.bool false) dp ?_
     refine ab 19 (.bool false) dp ?_
     refine aw 20 dp ?_
     refine aw 21 dp ?_
     refine aw 22 dp ?_
     refine aw 23 dp ?_
     refine aw 24 dp ?_
     refine ab 25 (.bool false) dp ?_
     refine ab 26 (.bool false) dp ?_
     refine Sj (by kernel_rfl) ?_ _
     go_wp2_with fail
     exact HQ.out _ (HB.out _ dp)
   | true =>
     cases RE with
     | false =>
       refine Si (S:=fun w'=>Sl (w.heap.size+2) W0 w') (by kernel_rfl) hbd (fun _=>?_)
       try simp only [Act.put,YD,YB,YC,YA,YE,YF,YG]
       refine ab 0 (.agg #[.string title,.string lA,.int .u8 rate,.bool drop,.int .i64 last,.slice ra rG.length rc,.slice ea eV.length ec,.slice ca cM.length cc]) hbd ?_
       refine ab 2 (.agg #[.string title',.string lang',.int .u8 rate',.bool drop',.int .i64 last',.slice ra' regs'.length rc',.slice ea' evs'.length ec',.slice ca' cms'.length cc']) hbd ?_
       refine aq 1 (fun K hK=>?_)
       go_simp
       refine(G1.out _ hbd).mono ?_
       rintro e w1 ⟨rfl,h1⟩
       go_wp2_with fail
       refine goOn hK h1 ?_
       clear hK
       refine aq 3 (fun K hK=>?_)
       go_simp
       refine(G2.out _ h1).mono ?_
       rintro e w2 ⟨rfl,h2⟩
       go_wp2_with fail
       refine goOn hK h2 ?_
       clear hK
       refine ab 4 (.bool true) h2 ?_
       refine ab 5 (.bool true) h2 ?_
       refine ab 6 (.pointer (some ⟨w.heap.size,5,none⟩)) h2 ?_
       refine ab 7 (.slice ra rG.length rc) h2 ?_
       refine ab 8 (.pointer (some ⟨w.heap.size+1,5,none⟩)) h2 ?_
       refine ab 9 (.slice ra' regs'.length rc') h2 ?_
       refine aq 10 (fun K hK=>?_)
       go_simp
       refine(GR.out _ h2).mono ?_
       rintro e wr59 ⟨rfl,dp⟩
       go_wp2_with fail
       refine goOn hK dp ?_
       clear hK
       refine ab 11 (.bool true) dp ?_
       refine ab 12 (.bool true) dp ?_
       refine ab 13 (.pointer (some ⟨w.heap.size,6,none⟩)) dp ?_
       refine ab 14 (.slice ea eV.length ec) dp ?_
       refine ab 15 (.pointer (some ⟨w.heap.size+1,6,none⟩)) dp ?_
       refine ab 16 (.slice ea' evs'.length ec') dp ?_
       refine aq 17 (fun K hK=>?_)
       go_simp
       refine(GE.out _ dp).mono ?_
       rintro e we60 ⟨rfl,g_⟩
       go_wp2_with fail
       refine goOn hK g_ ?_
       clear hK
       refine ab 18 (.bool false) g_ ?_
       refine ab 19 (.bool false) g_ ?_
       refine aw 20 g_ ?_
       refine aw 21 g_ ?_
       refine aw 22 g_ ?_
       refine aw 23 g_ ?_
       refine aw 24 g_ ?_
       refine ab 25 (.bool false) g_ ?_
       refine ab 26 (.bool false) g_ ?_
       refine Sj (by kernel_rfl) ?_ _
       go_wp2_with fail
       exact HQ.out _ (HB.out _ g_)
     | true =>
       refine Si (S:=fun w'=>Sl (w.heap.size+2) W0 w') (by kernel_rfl) hbd (fun _=>?_)
       try simp only [Act.put,YD,YB,YC,YA,YE,YF,YG]
       refine ab 0 (.agg #[.string title,.string lA,.int .u8 rate,.bool drop,.int .i64 last,.slice ra rG.length rc,.slice ea eV.length ec,.slice ca cM.length cc]) hbd ?_
       refine ab 2 (.agg #[.string title',.string lang',.int .u8 rate',.bool drop',.int .i64 last',.slice ra' regs'.length rc',.slice ea' evs'.length ec',.slice ca' cms'.length cc']) hbd ?_
       refine aq 1 (fun K hK=>?_)
       go_simp
       refine(G1.out _ hbd).mono ?_
       rintro e w1 ⟨rfl,h1⟩
       go_wp2_with fail
       refine goOn hK h1 ?_
       clear hK
       refine aq 3 (fun K hK=>?_)
       go_simp
       refine(G2.out _ h1).mono ?_
       rintro e w2 ⟨rfl,h2⟩
       go_wp2_with fail
       refine goOn hK h2 ?_
       clear hK
       refine ab 4 (.bool true) h2 ?_
       refine ab 5 (.bool true) h2 ?_
       refine ab 6 (.pointer (some ⟨w.heap.size,5,none⟩)) h2 ?_
       refine ab 7 (.slice ra rG.length rc) h2 ?_
       refine ab 8 (.pointer (some ⟨w.heap.size+1,5,none⟩)) h2 ?_
       refine ab 9 (.slice ra' regs'.length rc') h2 ?_
       refine aq 10 (fun K hK=>?_)
       go_simp
       refine(GR.out _ h2).mono ?_
       rintro e wr59 ⟨rfl,dp⟩
       go_wp2_with fail
       refine goOn hK dp ?_
       clear hK
       refine ab 11 (.bool true) dp ?_
       refine ab 12 (.bool true) dp ?_
       refine ab 13 (.pointer (some ⟨w.heap.size,6,none⟩)) dp ?_
       refine ab 14 (.slice ea eV.length ec) dp ?_
       refine ab 15 (.pointer (some ⟨w.heap.size+1,6,none⟩)) dp ?_
       refine ab 16 (.slice ea' evs'.length ec') dp ?_
       refine aq 17 (fun K hK=>?_)
       go_simp
       refine(GE.out _ dp).mono ?_
       rintro e we60 ⟨rfl,g_⟩
       go_wp2_with fail
       refine goOn hK g_ ?_
       clear hK
       refine ab 18 (.bool true) g_ ?_
       refine ab 19 (.bool true) g_ ?_
       refine ab 20 (.pointer (some ⟨w.heap.size,7,none⟩)) g_ ?_
       refine ab 21 (.slice ca cM.length cc) g_ ?_
       refine ab 22 (.pointer (some ⟨w.heap.size+1,7,none⟩)) g_ ?_
       refine ab 23 (.slice ca' cms'.length cc') g_ ?_
       refine aq 24 (fun K hK=>?_)
       go_simp
       refine(GC.out _ g_).mono ?_
       rintro e we61 ⟨rfl,Ct⟩
       go_wp2_with fail
       refine goOn hK Ct ?_
       clear hK
       refine ab 25 (.bool RC) Ct ?_
       refine ab 26 (.bool RC) Ct ?_
       refine Sj (by kernel_rfl) ?_ _
       go_wp2_with fail
       exact HQ.out _ (HB.out _ Ct)
end Go.Proofs.YtjebaagkomejaaaGreatDoor
namespace Go.Proofs.YtjebaagkomejaaaGreatDoor
open Go.RowKit
theorem mU (b:Nat)(h:Hs)(D:Doc)(w:Sh)(H:HsAt b h w)(hD:eC (h.own b) w D)(yG:h.undo.length≤16):Calls Tryz.prog 46 #[.pointer (some ⟨b,0,none⟩),.agg D.enc.toArray] w fun e w'=>e=.returned (.tuple #[])∧dj (fun d=>d=D) (putH h.c D.c) b h w w':=by
 have HB:=h_ (iy w (.cells D.enc.toArray 27))
 have HH:=h_ H
 have Bl:=h_ hD
 have IE:=h_ (Gc h D)
 have HQ:=h_ (fun(h':Hs) (w':Sh) (s:bD (fun d=>d=D) b h w h' w') (hc:h'.c=putH h.c D.c)=>(show(fun(e:Ending) (w':Sh)=>e=.returned (.tuple #[])∧dj (fun d=>d=D) (putH h.c D.c) b h w w') (.returned (.tuple #[])) w' from⟨rfl,s.post hc⟩))
 generalize (fun(e:Ending) (w':Sh)=>e=.returned (.tuple #[])∧dj (fun d=>d=D) (putH h.c D.c) b h w w')=Q at *
 obtain⟨j0,hj,hy0,hy1,hy2⟩:=info_parts Tryz.info27
 have JI:=h_ hj;have J0:=h_ hy0;have J1:=h_ hy1;have J2:=h_ hy2
 clear H hD hj hy0 hy1 hy2
 go_enter Tryz.func46,Tryz.ntmps46
 go_upto_region 1 with fail
 have z0:=HB.out.1
 have hb0:=HB.out.2.1
 have hs0:=HB.out.2.2
 clear HB
 generalize w.alloc (.cells D.enc.toArray 27)=W0 at *
 have S0:=bD.of_below (N:=fun d=>d=D) HH.out hb0
 have HZ0:=h_ z0
 have Bv:=h_ S0
 have HB0:=h_ hb0
 clear z0 S0 hb0
 go_cut [] from 4 to 16 (fun wx=>∃ a c,bD (fun d=>d=D) b h w { h with ua:=a,uc:=c,undo:=h.undo++[h.doc] } wx∧wx.heap[w.heap.size]? =some (.cells D.enc.toArray 27 (0,0)))
 case first =>
  have HW0:=Bv.out.1
  have hbl:=dW HW0.at_
  have hdw:Sl W0.heap.size W0 W0.drew:=(Sp _ _).drew
  have hbu:(Sn h.ua h.undo.length h.uc).ownBlock≠some b:=fun e=>(HW0.ub b e).1 rfl
  have Ma:=HW0.undo.lt
  have nH:=h_ (fun(w':Sh) (hb:Sl W0.heap.size W0 w')=>(show Kept (fun k=>(Sn h.ua h.undo.length h.uc).ownBlock=some k∨k=b) W0 w'∧w'.rangeAt b 0 h.doc.enc from⟨Kept.of_below hb,(aT ((hb.block b hbl).trans HW0.at_)).1⟩))
  have hS0:=nH.out _ hdw
  have lK:=h_ (HW0.later hdw)
  have cj:=h_ (fun(v w2:Sh) (hv:Sl W0.heap.size W0 v) (r2:w2.heap[b]? =some (.cells h.enc.toArray 82 (0,0))) (hk:Kept (fun k=>(Sn h.ua h.undo.length h.uc).ownBlock=some k) v w2)=>(show Kept (fun k=>(Sn h.ua h.undo.length h.uc).ownBlock=some k∨k=b) W0 w2∧w2.rangeAt b 0 h.doc.enc from⟨(Kept.of_below hv).trans hk fun i _ e=>.inl e,(aT r2).1⟩))
  have tg:=h_ (fun(v w2:Sh) (u:Value) (hv:Sl W0.heap.size W0 v) (r2:w2.heap[b]? =some (.cells h.enc.toArray 82 (0,0))) (hk:Kept (fun k=>(Sn h.ua h.undo.length h.uc).ownBlock=some k) v w2)=>(show Kept (fun k=>(Sn h.ua h.undo.length h.uc).ownBlock=some k∨k=b) W0 (w2.setCell ⟨b,16,none⟩ u)∧(w2.setCell ⟨b,16,none⟩ u).rangeAt b 0 h.doc.enc from⟨((Kept.of_below hv).trans hk fun i _ e=>.inl e).setCell (p:=⟨b,16,none⟩) (.inr (.inr rfl)) u,fun j x hx=>by
   have hj:j<8:=(List.getElem?_eq_some_iff.1 hx).1
   have hne:(⟨b,0+j,none⟩:Addr)≠⟨b,16,none⟩:=fun e=>by simp only [Addr.mk.injEq] at e;omega
   rw [Sh.cell?_setCell_other (h:=hne.symm)]
   exact(aT r2).1 j x hx⟩))
  have kY:=h_ (fun(v:Sh) (hv:HsAt b h v) (v':Value) (w2:Sh) (o:Obj) ho hg hat=>vM (N:=fun d=>d=D) (v:=v) (w2:=w2) (v':=v') (o:=o) hv ho hg hat)
  have tf:=h_ (fun(v w3:Sh) (h1:Hs) (hv:Sl W0.heap.size W0 v) (s:bD (fun d=>d=D) b h v h1 w3)=>(show bD (fun d=>d=D) b h w h1 w3∧w3.heap[w.heap.size]? =some (.cells D.enc.toArray 27 (0,0)) from⟨Bv.out.trans ((bD.of_below HW0 hv).trans s),by
   have hsv:=hv.size
   rw [s.2.2.block w.heap.size (by omega) (fun ho=>by have:=HH.out.lt ho;omega),hv.block w.heap.size (by omega)]
   exact HZ0.out⟩))
  clear HW0 HH Bl IE HQ HZ0 Bv HB0
  go_upto_region 1 with fail
  refine Si (S:=fun w'=>Kept (fun k=>(Sn h.ua h.undo.length h.uc).ownBlock=some k∨k=b) W0 w'∧w'.rangeAt b 0 h.doc.enc) (by kernel_rfl) hS0 (fun _=>?_)
  generalize W0.drew=v0 at *
  have Ik:=h_ (fun(w':Sh) (hb:Sl v0.heap.size v0 w')=>(aT ((hb.block b (dW lK.out.at_)).trans lK.out.at_)).2.2.1)
  have A9:=h_ (fun(w':Sh) (hb:Sl v0.heap.size v0 w')=>nH.out w' (hdw.trans (hb.mono hdw.size)))
  have HOW:=h_ lK.out.undo
  have qN:=h_ (kY.out v0 lK.out)
  have CR:=h_ (fun(w2:Sh)=>cj.out v0 w2 hdw)
  have CQ:=h_ (fun(w2:Sh) (u:Value)=>tg.out v0 w2 u hdw)
  have Io:=h_ (fun(w3:Sh) (h1:Hs)=>tf.out v0 w3 h1 hdw)
  clear lK nH kY cj tg tf hbl hbu Ma
  obtain⟨xF,sav,ua,uc,un,ra,rc,re⟩:=h
  obtain⟨ft,fl,fr,fd,fla,fra,frc,fgs,fea,fec,fvs,fca,fcc,fms⟩:=xF
  simp only [Doc.enc] at *
  refine ab 0 (.pointer (some ⟨b,0,none⟩)) hS0 ?_
  refine ab 1 (.pointer (some ⟨b,0,none⟩)) hS0 ?_
  refine ab 2 (.pointer (some ⟨b,0,none⟩)) hS0 ?_
  refine ab 3 (.pointer (some ⟨b,16,none⟩)) hS0 ?_
  refine ab 5 (.pointer (some ⟨b,0,none⟩)) hS0 ?_
  refine ab 6 (.pointer (some ⟨b,0,none⟩)) hS0 ?_
  refine ab 7 (.pointer (some ⟨b,0,none⟩)) hS0 ?_
  refine ab 8 (.agg #[Sm ft,.string fl,.int .u8 fr,.bool fd,.int .i64 fla,.slice fra fgs.length frc,.slice fea fvs.length fec,.slice fca fms.length fcc]) hS0 ?_ (hy:=yieldsIf_load_mid (by rfl) 27 (.tmp 11) rfl b 0 rfl [Sm ft,.string fl,.int .u8 fr,.bool fd,.int .i64 fla,.slice fra fgs.length frc,.slice fea fvs.length fec,.slice fca fms.length fcc] _ (fun w_ h_=>h_.2) Tryz.underlying27 rfl ag)
  refine dH 4 9 (fun K hK=>?_) (fun K hK=>?_)
  focus
   have q8:=Ik.out v0 (Sp _ _)
   go_simp
   refine goOn hK hS0 ?_
   clear hK q8
   refine aq 9 (fun K hK=>?_)
   go_simp
   have hal:Sl v0.heap.size v0 (v0.alloc (.cells #[Sm ft,.string fl,.int .u8 fr,.bool fd,.int .i64 fla,.slice fra fgs.length frc,.slice fea fvs.length fec,.slice fca fms.length fcc] 27)):=(Sp _ _).alloc (Nat.le_refl _) _
   refine goOn hK (A9.out _ hal) ?_
   clear hK
  rotate_left
  focus
   go_simp
   have hal:Sl v0.heap.size v0 (v0.alloc (.cells #[Sm ft,.string fl,.int .u8 fr,.bool fd,.int .i64 fla,.slice fra fgs.length frc,.slice fea fvs.length fec,.slice fca fms.length fcc] 27)):=(Sp _ _).alloc (Nat.le_refl _) _
   refine goOn hK (A9.out _ hal) ?_
   clear hK
   refine aq 4 (fun K hK=>?_)
   have q8:=Ik.out (v0.alloc (.cells #[Sm ft,.string fl,.int .u8 fr,.bool fd,.int .i64 fla,.slice fra fgs.length frc,.slice fea fvs.length fec,.slice fca fms.length fcc] 27)) hal
   go_simp
   refine goOn hK (A9.out _ hal) ?_
   clear hK q8
  all_goals
   refine aq 10 (fun K hK=>?_)
   refine gC v0 #[Sm ft,.string fl,.int .u8 fr,.bool fd,.int .i64 fla,.slice fra fgs.length frc,.slice fea fvs.length fec,.slice fca fms.length fcc] rfl (.tmp 8) (.tmp 13) 55 rfl 0 27 j0 _ 8 120 Tryz.underlying55 JI.out J0.out J1.out J2.out rfl (by decide) (.slice ua un.length uc) un.length (un.flatMap Doc.enc) (by rfl) HOW.out v0.heap.size (by rfl) rfl rfl (by simp [Value.oneCell']) (by unfold maxLen;omega) (by omega) (Nat.zero_le _) ?_
   intro v' w2 hown hgrow hat
   obtain⟨a,c,rfl,r2,hk2,hst⟩:=qN.out v' w2 _ hown hgrow hat
   have c16:w2.cell? ⟨b,16,none⟩=some (.slice ua un.length uc):=(aT r2).2.2.1
   have f16:w2.frozen? ⟨b,16,none⟩=false:=dI r2 16
   refine goOn hK (CR.out w2 r2 hk2) ?_
   clear hK hown hgrow hat
   refine ab 11 (.pointer (some ⟨b,0,none⟩)) (CR.out w2 r2 hk2) ?_
   refine ab 12 (.pointer (some ⟨b,16,none⟩)) (CR.out w2 r2 hk2) ?_
   refine aq 13 (fun K hK=>?_)
   go_simp
   refine goOn hK (CQ.out w2 _ r2 hk2) ?_
   clear hK
   refine Sj (by kernel_rfl) ?_ _
   go_wp2_with fail
   go_meet
   exact⟨a,c,Io.out _ _ hst⟩
 case rest =>
  obtain⟨a,c,dE,hz1⟩:=hcut
  obtain⟨w1,hw1⟩:∃ x,x=wc:=⟨_,rfl⟩
  subst hw1
  obtain⟨h1,qV⟩:∃ h1:Hs,h1={ h with ua:=a,uc:=c,undo:=h.undo++[h.doc] }:=⟨_,rfl⟩
  rw [←qV] at dE
  have hu1:h1.undo=h.undo++[h.doc]:=by rw [qV]
  have hl1:h1.undo.length=h.undo.length+1:=by rw [hu1];simp
  have Es:h1.saved=h.saved:=by rw [qV]
  have r1:=dE.1.at_
  have c16:w1.cell? ⟨b,16,none⟩=some (.slice h1.ua h1.undo.length h1.uc):=(aT r1).2.2.1
  have f16:w1.frozen? ⟨b,16,none⟩=false:=dI r1 16
  clear qV Bv HB0 HZ0
  by_cases hc:16<h.undo.length+1
  · have hcI:(16:Int)<(h1.undo.length:Int):=by omega
    obtain⟨ga,ca,hfm⟩:=dw dE.1.undo (by omega)
    have how:=dE.1.undo
    rw [hfm] at c16 how
    have hcap:h1.undo.length≤ca:=by
     rcases how.2 with⟨h0,_⟩|⟨g',cap',cur,h0,_,_,hnc,_⟩
     · simp at h0
     · simp only [Sr] at h0
       obtain⟨_,_,rfl⟩:=h0
       exact hnc
    obtain⟨a',c',oa,Bs⟩:=aA (k:=8) (enc:=Doc.enc) (Ok:=Flat) (fun _=>rfl) how (fun _ _=>trivial)
    simp only [Sr] at oa
    obtain⟨rfl,_,rfl⟩:=oa
    have hSd:=pH Bs
    rw [Nat.zero_add] at hSd
    have hdl:(h1.undo.drop 1).length=h1.undo.length-1:=List.length_drop ..
    have BA:=h_ (fun(v':Value) (w2:Sh) ho hg hat=>Ac (N:=fun d=>d=D) (b:=b) (ys:=h1.undo.drop 1) (v':=v') (w2:=w2) dE.1 ho hg hat (fun d hd=>by simp only [Hs.docs,List.mem_cons,List.mem_append];exact .inr (.inr (.inl (List.mem_of_mem_drop hd)))))
    have MN:=h_ hSd
    have CT:=h_ dE
    have HZ1:=h_ hz1
    have hcl:ca≤9223372036854775807:=by
     rcases how.2 with⟨h0,_⟩|⟨g',cap',cur,h0,_,_,_,hm,_⟩
     · simp at h0
     · simp only [Sr] at h0
       obtain⟨_,_,rfl⟩:=h0
       simp only [maxLen] at hm;omega
    have KY:1≤h1.undo.length:=by omega
    have yN:=h_ hdl
    have Bg:=h_ hl1
    have Im:=h_ hu1
    have CS:=h_ Es
    clear dE hz1 r1 hfm how Bs hSd hu1 hl1 hdl Es
    go_wp2_with (at_builtin;refine aI (enc:=Doc.enc) (Ok:=Flat) _ rfl (.const (.slice none 0 0)) (.tmp 28) 55 rfl 0 27 j0 _ 8 120 Tryz.underlying55 JI.out J0.out J1.out J2.out rfl (by decide) (fun _=>rfl) (fun x v hv=>Doc.one x v hv) _ 0 [] rfl (Sh.ownsRow_nil _ _ _ _) (some ⟨ga,8,none⟩) (ca-1) (h1.undo.drop 1) ?hx MN.out ?h63 ?hb ?hbase ?_)
    case hx=>rw [yN.out];rfl
    case h63=>rw [yN.out,Bg.out];unfold maxLen;omega
    case hb=>rw [yN.out,Bg.out];omega
    case hbase=>omega
    intro v' w2 ho hg hat
    replace ho:w2.ownsRow 0 27 8 v' (h1.undo.drop 1).length ((h1.undo.drop 1).flatMap Doc.enc):=by rw [yN.out,List.drop_one];exact ho
    obtain⟨a2,c2,rfl,r2,hb2,n_⟩:=BA.out v' w2 ho hg hat
    rw [yN.out] at n_
    have KA:=hb2.size
    have d16:w2.cell? ⟨b,16,none⟩=some (.slice h1.ua h1.undo.length h1.uc):=(aT r2).2.2.1
    have e16:w2.frozen? ⟨b,16,none⟩=false:=dI r2 16
    have Lu:=h_ (CT.out.trans n_)
    have HZ2:=h_ ((hb2.block w.heap.size (dW HZ1.out)).trans HZ1.out)
    clear ho hg hat r2 hb2 n_ BA MN CT HZ1 c16 f16 hcap hcl KY hcI
    go_upto_region 4 with fail
    have HZ3:=h_ (show(w2.setCell ⟨b,16,none⟩ (.slice a2 (h1.undo.length-1) c2)).heap[w.heap.size]? =some (.cells D.enc.toArray 27 (0,0)) from by
     rw [Sq _ _ _ _ (by have:=HH.out.lt (k:=b) (.inl rfl);simp only;omega)];exact HZ2.out)
    generalize w2.setCell ⟨b,16,none⟩ (.slice a2 (h1.undo.length-1) c2)=w3 at *
    clear d16 e16 HZ2
    have s2:=Lu.out
    have z2:=HZ3.out
    have hN:=sq (N:=fun d=>d=D) s2.1
    have zN:(w3.setCell ⟨b,17,none⟩ (.slice none 0 0)).heap[w.heap.size]? =some (.cells D.enc.toArray 27 (0,0)):=by
     rw [Sq _ _ _ _ (by have:=HH.out.lt (k:=b) (.inl rfl);simp only;omega)];exact z2
    have Hw:=(Bl.out.step s2).step hN
    have hA:=vN (N:=fun d=>d=D) hN.1 (.inr ⟨Hw,rfl⟩)
    have HF:=h_ (HQ.out _ _ (s2.trans (hN.trans hA)) (by rw [IE.out,if_pos hc,←Im.out,←CS.out];rfl))
    have c17:w3.cell? ⟨b,17,none⟩=_:=(aT s2.1.at_).2.2.2
    have f17:w3.frozen? ⟨b,17,none⟩=false:=dI s2.1.at_ 17
    have Er:=j_ (o:=0) hN.1.at_ (by omega)
    have yF:=ai zN
    have hone:=km D
    clear hN Hw hA s2 z2 HQ Bl IE zN
    go_upto_region 5 with fail
    generalize w3.setCell ⟨b,17,none⟩ (.slice none 0 0)=wN at *
    clear c17 f17
    go_wp2_with (first|(refine aj 27 (.tmp 3) rfl w.heap.size 0 rfl D.enc _ yF Tryz.underlying27 rfl ag (by rfl) ?_)|(refine Sk rfl 27 (.tmp 38) (.tmp 36) rfl b 0 D.enc.toArray rfl rfl Er ag hone ?_))
    first
     | exact HF.out
     | (refine bodyPost_end (v:=.tuple #[]) (by simp [results,Tryz.results46,go_sem]) rfl ?_;exact HF.out)
  · have hcI:¬ (16:Int)<(h1.undo.length:Int):=by omega
    have CT:=h_ dE
    have HZ1:=h_ hz1
    clear dE hz1 r1
    go_upto_region 4 with fail
    have s2:=CT.out
    have z2:=HZ1.out
    have hN:=sq (N:=fun d=>d=D) s2.1
    have zN:(w1.setCell ⟨b,17,none⟩ (.slice none 0 0)).heap[w.heap.size]? =some (.cells D.enc.toArray 27 (0,0)):=by
     rw [Sq _ _ _ _ (by have:=HH.out.lt (k:=b) (.inl rfl);simp only;omega)];exact z2
    have Hw:=(Bl.out.step s2).step hN
    have hA:=vN (N:=fun d=>d=D) hN.1 (.inr ⟨Hw,rfl⟩)
    have HF:=h_ (HQ.out _ _ (s2.trans (hN.trans hA)) (by rw [IE.out,if_neg hc,←hu1,←Es];rfl))
    have c17:w1.cell? ⟨b,17,none⟩=_:=(aT s2.1.at_).2.2.2
    have f17:w1.frozen? ⟨b,17,none⟩=false:=dI s2.1.at_ 17
    have Er:=j_ (o:=0) hN.1.at_ (by omega)
    have yF:=ai zN
    have hone:=km D
    clear hN Hw hA s2 z2 HQ Bl IE zN
    go_upto_region 5 with fail
    generalize w1.setCell ⟨b,17,none⟩ (.slice none 0 0)=wN at *
    clear c17 f17
    go_wp2_with (first|(refine aj 27 (.tmp 3) rfl w.heap.size 0 rfl D.enc _ yF Tryz.underlying27 rfl ag (by rfl) ?_)|(refine Sk rfl 27 (.tmp 38) (.tmp 36) rfl b 0 D.enc.toArray rfl rfl Er ag hone ?_))
    first
     | exact HF.out
     | (refine bodyPost_end (v:=.tuple #[]) (by simp [results,Tryz.results46,go_sem]) rfl ?_;exact HF.out)
end Go.Proofs.YtjebaagkomejaaaGreatDoor
