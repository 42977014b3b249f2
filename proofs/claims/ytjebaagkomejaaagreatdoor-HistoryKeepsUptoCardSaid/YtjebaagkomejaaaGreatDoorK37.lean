/- document.Same of any two documents: whether their contents are equal. How the reading of a drawn command gives a command in memory. history: New and Saved. history.clones and Clone. history: put. history: New and Saved. -/
import Derived.Test.YtjebaagkomejaaaGreatDoorK33
import Derived.Test.YtjebaagkomejaaaGreatDoorK27
set_option linter.unusedVariables false
set_option linter.unusedSimpArgs false
set_option maxRecDepth 100000
set_option maxHeartbeats 12800000
open Go.Lib renaming hid→h_
open List renaming setIfInBounds_toArray→YA,getElem_cons_zero→YB,getElem_cons_succ→YC,getElem_toArray→YD,set_cons_zero→YE,set_cons_succ→YF
open Array renaming toArray_toList→YG
open Go renaming World→Sj,wp_region_held_drew→Sk,yieldsIf_load_mid→Sl,wpAnyH_done→Sm,Calls→Sn,wpList_store_mid→Sp
open Go.RowKit renaming Below→Sq
open Go.Value renaming string→Sr,slice→Ss
open Go.RowKit.Below renaming refl→St,heap_setCell→Su
open Go.DataW renaming trod_int→Sv,trod_struct→Sw,trod_string→Sx,trod_bool→Sy
open Nat renaming le_trans→Sz,le_refl→SA,zero_le→SB
open Go.World renaming ownsRow_nil→SC
open List renaming cons_append→SD,nil_append→SF,length_nil→SG
open Go.Value.slice renaming injEq→SH
namespace Go.Proofs.YtjebaagkomejaaaGreatDoor
open Go.RowKit
attribute [local go_sem ↓] Go.wp_at_zero Go.wp_at_succ
theorem qM (d d':Doc)(w:Sj)(hd:d.lies w)(hd':d'.lies w)(hf:∀ x∈d.eV,x.rows.length≤4000000∧∀ r∈x.rows,r.runs.length≤4000000)(hf':∀ x∈d'.eV,x.rows.length≤4000000∧∀ r∈x.rows,r.runs.length≤4000000)(hr:d.rG.length≤4000000)(hr':d'.rG.length≤4000000)(he:d.eV.length≤4000000)(he':d'.eV.length≤4000000)(hm:d.cM.length≤4000000)(hm':d'.cM.length≤4000000) :
 Sn Tryz.prog 13 #[.agg d.enc.toArray,.agg d'.enc.toArray] w fun e w'=>e=.returned (.bool (oz d d'))∧Sq w.heap.size w w':=by
 unfold oz
 have r1:=fun wx=>BL d.hd d'.hd wx
 have mg:=fun(w1:Sj) (h:Sq w.heap.size w w1)=>qH d.ea d'.ea d.ec d'.ec d.eV d'.eV w1 (hd.2.1.later h) (hd'.2.1.later h) hf hf' he he'
 have It:=fun(w1:Sj) (h:Sq w.heap.size w w1)=>ox d.ra d'.ra d.rc d'.rc d.rG d'.rG w1 (hd.1.later h) (hd'.1.later h) hr hr'
 have Na:=fun(w1:Sj) (h:Sq w.heap.size w w1)=>qI d.ca d'.ca d.cc d'.cc d.cM d'.cM w1 (hd.2.2.later h) (hd'.2.2.later h) hm hm'
 generalize hdEq d.hd d'.hd=R0 at *
 generalize Lib.allEq gO d.rG d'.rG=RR at *
 generalize Lib.allEq evEq d.eV d'.eV=RE at *
 generalize Lib.allEq cmEq d.cM d'.cM=RC at *
 generalize hQ:(fun(e:Ending) (w':Sj)=>e=.returned (.bool (R0&&(RR&&(RE&&RC))))∧Sq w.heap.size w w')=Q
 have HQ:=h_ (fun w' (hb:Sq w.heap.size w w')=>show Q (.returned (.bool (R0&&(RR&&(RE&&RC))))) w' from hQ▸⟨rfl,hb⟩)
 clear hQ
 have MU:=h_ (fun w1=>pr d w1)
 have MT:=h_ (fun w1=>pr d' w1)
 obtain⟨title,lA,rate,drop,last,ra,rc,rG,ea,ec,eV,ca,cc,cM⟩:=d
 obtain⟨title',lang',rate',drop',last',ra',rc',regs',ea',ec',evs',ca',cc',cms'⟩:=d'
 have HE:=h_ mg
 have HR:=h_ It
 have HC:=h_ Na
 clear mg It Na hr hr' he he' hm hm'
 simp only [Doc.enc,Doc.hd,Hd.enc] at *
 generalize hds:#[Sr title,.string lA,.int .u8 rate,.bool drop,.int .i64 last,.slice ra rG.length rc,.slice ea eV.length ec,.slice ca cM.length cc]=ds
 generalize lV:#[Sr title',.string lang',.int .u8 rate',.bool drop',.int .i64 last',.slice ra' regs'.length rc',.slice ea' evs'.length ec',.slice ca' cms'.length cc']=qs
 have f0:=bO w ds qs 27 27 0 (.string title) (by rw [←hds];rfl)
 have f1:=bO w ds qs 27 27 1 (.string lA) (by rw [←hds];rfl)
 have f2:=bO w ds qs 27 27 2 (.int .u8 rate) (by rw [←hds];rfl)
 have f3:=bO w ds qs 27 27 3 (.bool drop) (by rw [←hds];rfl)
 have f4:=bO w ds qs 27 27 4 (.int .i64 last) (by rw [←hds];rfl)
 have f5:=bO w ds qs 27 27 5 (.slice ra rG.length rc) (by rw [←hds];rfl)
 have f6:=bO w ds qs 27 27 6 (.slice ea eV.length ec) (by rw [←hds];rfl)
 have f7:=bO w ds qs 27 27 7 (.slice ca cM.length cc) (by rw [←hds];rfl)
 have g0:=bB w ds qs 27 27 0 (.string title') (by rw [←lV];rfl)
 have g1:=bB w ds qs 27 27 1 (.string lang') (by rw [←lV];rfl)
 have g2:=bB w ds qs 27 27 2 (.int .u8 rate') (by rw [←lV];rfl)
 have g3:=bB w ds qs 27 27 3 (.bool drop') (by rw [←lV];rfl)
 have g4:=bB w ds qs 27 27 4 (.int .i64 last') (by rw [←lV];rfl)
 have g5:=bB w ds qs 27 27 5 (.slice ra' regs'.length rc') (by rw [←lV];rfl)
 have g6:=bB w ds qs 27 27 6 (.slice ea' evs'.length ec') (by rw [←lV];rfl)
 have g7:=bB w ds qs 27 27 7 (.slice ca' cms'.length cc') (by rw [←lV];rfl)
 have HB:=h_ (fun(w1:Sj) (h:Sq (w.heap.size+2) ((w.alloc (.cells ds 27)).alloc (.cells qs 27)) w1)=>dU h)
 have hb0:Sq (w.heap.size+2) ((w.alloc (.cells ds 27)).alloc (.cells qs 27)) ((w.alloc (.cells ds 27)).alloc (.cells qs 27)):=St _ _
 have hsz:((w.alloc (.cells ds 27)).alloc (.cells qs 27)).heap.size=w.heap.size+2:=by simp
 generalize hW0:(w.alloc (.cells ds 27)).alloc (.cells qs 27)=W0 at *
 have HW0:=h_ hW0
 have dI:=h_ hsz
 have HT0:=h_ (fun(w2 w3:Sj) (h:Sq (w.heap.size+2) W0 w2) (h3:Sq w2.heap.size w2 w3)=>(h.trans (h3.mono (by have:=h.size;rw [dI.out] at this;exact this)):Sq (w.heap.size+2) W0 w3))
 have G1:=h_ (fun(w1:Sj) (h:Sq (w.heap.size+2) W0 w1)=>(MU.out w1).mono (fun e w' p=>(show e=_∧Sq (w.heap.size+2) W0 w' from⟨p.1,HT0.out _ _ h p.2⟩)))
 have G2:=h_ (fun(w1:Sj) (h:Sq (w.heap.size+2) W0 w1)=>(MT.out w1).mono (fun e w' p=>(show e=_∧Sq (w.heap.size+2) W0 w' from⟨p.1,HT0.out _ _ h p.2⟩)))
 have GR:=h_ (fun(w1:Sj) (h:Sq (w.heap.size+2) W0 w1)=>(HR.out w1 (HB.out _ h)).mono (fun e w' p=>(show e=_∧Sq (w.heap.size+2) W0 w' from⟨p.1,HT0.out _ _ h p.2⟩)))
 have GE:=h_ (fun(w1:Sj) (h:Sq (w.heap.size+2) W0 w1)=>(HE.out w1 (HB.out _ h)).mono (fun e w' p=>(show e=_∧Sq (w.heap.size+2) W0 w' from⟨p.1,HT0.out _ _ h p.2⟩)))
 have GC:=h_ (fun(w1:Sj) (h:Sq (w.heap.size+2) W0 w1)=>(HC.out w1 (HB.out _ h)).mono (fun e w' p=>(show e=_∧Sq (w.heap.size+2) W0 w' from⟨p.1,HT0.out _ _ h p.2⟩)))
 have hbd:Sq (w.heap.size+2) W0 W0.drew:=hb0.drew
 clear hW0 hsz hd hd' hf hf' MU MT HR HE HC
 go_enter Tryz.func13,Tryz.ntmps13
 subst hds
 subst lV
 go_upto_region 1 with fail
 rw [HW0.out]
 cases R0 with
 | false =>
   refine Sk (S:=fun w'=>Sq (w.heap.size+2) W0 w') (by kernel_rfl) hbd (fun _=>?_)
   try simp only [Act.put,YD,YB,YC,YA,YE,YF,YG]
   refine ab 0 (.agg #[.string title,.string lA,.int .u8 rate,.bool drop,.int .i64 last,.slice ra rG.length rc,.slice ea eV.length ec,.slice ca cM.length cc]) hbd ?_
   refine ab 2 (.agg #[.string title',.string lang',.int .u8 rate',.bool drop',.int .i64 last',.slice ra' regs'.length rc',.slice ea' evs'.length ec',.slice ca' cms'.length cc']) hbd ?_
   refine aq 1 (fun K hK=>?_)
   go_simp
   refine(G1.out _ hbd).mono ?_
   rintro e w1 ⟨rfl,h1⟩
   go_wp2_with fail
   refine goOn hK h1 ?_
   clear hK
   refine aq 3 (fun K hK=>?_)
   go_simp
   refine(G2.out _ h1).mono ?_
   rintro e w2 ⟨rfl,h2⟩
   go_wp2_with fail
   refine goOn hK h2 ?_
   clear hK
   refine ab 4 (.bool false) h2 ?_
   refine ab 5 (.bool false) h2 ?_
   refine ax 6 h2 ?_
   refine ax 7 h2 ?_
   refine ax 8 h2 ?_
   refine ax 9 h2 ?_
   refine ax 10 h2 ?_
   refine ab 11 (.bool false) h2 ?_
   refine ab 12 (.bool false) h2 ?_
   refine ax 13 h2 ?_
   refine ax 14 h2 ?_
   refine ax 15 h2 ?_
   refine ax 16 h2 ?_
   refine ax 17 h2 ?_
   refine ab 18 (.bool false) h2 ?_
   refine ab 19 (.bool false) h2 ?_
   refine ax 20 h2 ?_
   refine ax 21 h2 ?_
   refine ax 22 h2 ?_
   refine ax 23 h2 ?_
   refine ax 24 h2 ?_
   refine ab 25 (.bool false) h2 ?_
   refine ab 26 (.bool false) h2 ?_
   refine Sm (by kernel_rfl) ?_ _
   go_wp2_with fail
   exact HQ.out _ (HB.out _ h2)
 | true =>
   cases RR with
   | false =>
     refine Sk (S:=fun w'=>Sq (w.heap.size+2) W0 w') (by kernel_rfl) hbd (fun _=>?_)
     try simp only [Act.put,YD,YB,YC,YA,YE,YF,YG]
     refine ab 0 (.agg #[.string title,.string lA,.int .u8 rate,.bool drop,.int .i64 last,.slice ra rG.length rc,.slice ea eV.length ec,.slice ca cM.length cc]) hbd ?_
     refine ab 2 (.agg #[.string title',.string lang',.int .u8 rate',.bool drop',.int .i64 last',.slice ra' regs'.length rc',.slice ea' evs'.length ec',.slice ca' cms'.length cc']) hbd ?_
     refine aq 1 (fun K hK=>?_)
     go_simp
     refine(G1.out _ hbd).mono ?_
     rintro e w1 ⟨rfl,h1⟩
     go_wp2_with fail
     refine goOn hK h1 ?_
     clear hK
     refine aq 3 (fun K hK=>?_)
     go_simp
     refine(G2.out _ h1).mono ?_
     rintro e w2 ⟨rfl,h2⟩
     go_wp2_with fail
     refine goOn hK h2 ?_
     clear hK
     refine ab 4 (.bool true) h2 ?_
     refine ab 5 (.bool true) h2 ?_
     refine ab 6 (.pointer (some ⟨w.heap.size,5,none⟩)) h2 ?_
     refine ab 7 (.slice ra rG.length rc) h2 ?_
     refine ab 8 (.pointer (some ⟨w.heap.size+1,5,none⟩)) h2 ?_
     refine ab 9 (.slice ra' regs'.length rc') h2 ?_
     refine aq 10 (fun K hK=>?_)
     go_simp
     refine(GR.out _ h2).mono ?_
     rintro e wr59 ⟨rfl,dm⟩
     go_wp2_with fail
     refine goOn hK dm ?_
     clear hK
     refine ab 11 (.bool false) dm ?_
     refine ab 12 (.bool false) dm ?_
     refine ax 13 dm ?_
     refine ax 14 dm ?_
     refine ax 15 dm ?_
     refine ax 16 dm ?_
     refine ax 17 dm ?_
     refine ab 18 (.bool false) dm ?_
     refine ab 19 (.bool false) dm ?_
     refine ax 20 dm ?_
     refine ax 21 dm ?_
     refine ax 22 dm ?_
     refine ax 23 dm ?_
     refine ax 24 dm ?_
     refine ab 25 (.bool false) dm ?_
     refine ab 26 (.bool false) dm ?_
     refine Sm (by kernel_rfl) ?_ _
     go_wp2_with fail
     exact HQ.out _ (HB.out _ dm)
   | true =>
     cases RE with
     | false =>
       refine Sk (S:=fun w'=>Sq (w.heap.size+2) W0 w') (by kernel_rfl) hbd (fun _=>?_)
       try simp only [Act.put,YD,YB,YC,YA,YE,YF,YG]
       refine ab 0 (.agg #[.string title,.string lA,.int .u8 rate,.bool drop,.int .i64 last,.slice ra rG.length rc,.slice ea eV.length ec,.slice ca cM.length cc]) hbd ?_
       refine ab 2 (.agg #[.string title',.string lang',.int .u8 rate',.bool drop',.int .i64 last',.slice ra' regs'.length rc',.slice ea' evs'.length ec',.slice ca' cms'.length cc']) hbd ?_
       refine aq 1 (fun K hK=>?_)
       go_simp
       refine(G1.out _ hbd).mono ?_
       rintro e w1 ⟨rfl,h1⟩
       go_wp2_with fail
       refine goOn hK h1 ?_
       clear hK
       refine aq 3 (fun K hK=>?_)
       go_simp
       refine(G2.out _ h1).mono ?_
       rintro e w2 ⟨rfl,h2⟩
       go_wp2_with fail
       refine goOn hK h2 ?_
       clear hK
       refine ab 4 (.bool true) h2 ?_
       refine ab 5 (.bool true) h2 ?_
       refine ab 6 (.pointer (some ⟨w.heap.size,5,none⟩)) h2 ?_
       refine ab 7 (.slice ra rG.length rc) h2 ?_
       refine ab 8 (.pointer (some ⟨w.heap.size+1,5,none⟩)) h2 ?_
       refine ab 9 (.slice ra' regs'.length rc') h2 ?_
       refine aq 10 (fun K hK=>?_)
       go_simp
       refine(GR.out _ h2).mono ?_
       rintro e wr59 ⟨rfl,dm⟩
       go_wp2_with fail
       refine goOn hK dm ?_
       clear hK
       refine ab 11 (.bool true) dm ?_
       refine ab 12 (.bool true) dm ?_
       refine ab 13 (.pointer (some ⟨w.heap.size,6,none⟩)) dm ?_
       refine ab 14 (.slice ea eV.length ec) dm ?_
       refine ab 15 (.pointer (some ⟨w.heap.size+1,6,none⟩)) dm ?_
       refine ab 16 (.slice ea' evs'.length ec') dm ?_
       refine aq 17 (fun K hK=>?_)
       go_simp
       refine(GE.out _ dm).mono ?_
       rintro e we60 ⟨rfl,gS⟩
       go_wp2_with fail
       refine goOn hK gS ?_
       clear hK
       refine ab 18 (.bool false) gS ?_
       refine ab 19 (.bool false) gS ?_
       refine ax 20 gS ?_
       refine ax 21 gS ?_
       refine ax 22 gS ?_
       refine ax 23 gS ?_
       refine ax 24 gS ?_
       refine ab 25 (.bool false) gS ?_
       refine ab 26 (.bool false) gS ?_
       refine Sm (by kernel_rfl) ?_ _
       go_wp2_with fail
       exact HQ.out _ (HB.out _ gS)
     | true =>
       refine Sk (S:=fun w'=>Sq (w.heap.size+2) W0 w') (by kernel_rfl) hbd (fun _=>?_)
       try simp only [Act.put,YD,YB,YC,YA,YE,YF,YG]
       refine ab 0 (.agg #[.string title,.string lA,.int .u8 rate,.bool drop,.int .i64 last,.slice ra rG.length rc,.slice ea eV.length ec,.slice ca cM.length cc]) hbd ?_
       refine ab 2 (.agg #[.string title',.string lang',.int .u8 rate',.bool drop',.int .i64 last',.slice ra' regs'.length rc',.slice ea' evs'.length ec',.slice ca' cms'.length cc']) hbd ?_
       refine aq 1 (fun K hK=>?_)
       go_simp
       refine(G1.out _ hbd).mono ?_
       rintro e w1 ⟨rfl,h1⟩
       go_wp2_with fail
       refine goOn hK h1 ?_
       clear hK
       refine aq 3 (fun K hK=>?_)
       go_simp
       refine(G2.out _ h1).mono ?_
       rintro e w2 ⟨rfl,h2⟩
       go_wp2_with fail
       refine goOn hK h2 ?_
       clear hK
       refine ab 4 (.bool true) h2 ?_
       refine ab 5 (.bool true) h2 ?_
       refine ab 6 (.pointer (some ⟨w.heap.size,5,none⟩)) h2 ?_
       refine ab 7 (.slice ra rG.length rc) h2 ?_
       refine ab 8 (.pointer (some ⟨w.heap.size+1,5,none⟩)) h2 ?_
       refine ab 9 (.slice ra' regs'.length rc') h2 ?_
       refine aq 10 (fun K hK=>?_)
       go_simp
       refine(GR.out _ h2).mono ?_
       rintro e wr59 ⟨rfl,dm⟩
       go_wp2_with fail
       refine goOn hK dm ?_
       clear hK
       refine ab 11 (.bool true) dm ?_
       refine ab 12 (.bool true) dm ?_
       refine ab 13 (.pointer (some ⟨w.heap.size,6,none⟩)) dm ?_
       refine ab 14 (.slice ea eV.length ec) dm ?_
       refine ab 15 (.pointer (some ⟨w.heap.size+1,6,none⟩)) dm ?_
       refine ab 16 (.slice ea' evs'.length ec') dm ?_
       refine aq 17 (fun K hK=>?_)
       go_simp
       refine(GE.out _ dm).mono ?_
       rintro e we60 ⟨rfl,gS⟩
       go_wp2_with fail
       refine goOn hK gS ?_
       clear hK
       refine ab 18 (.bool true) gS ?_
       refine ab 19 (.bool true) gS ?_
       refine ab 20 (.pointer (some ⟨w.heap.size,7,none⟩)) gS ?_
       refine ab 21 (.slice ca cM.length cc) gS ?_
       refine ab 22 (.pointer (some ⟨w.heap.size+1,7,none⟩)) gS ?_
       refine ab 23 (.slice ca' cms'.length cc') gS ?_
       refine aq 24 (fun K hK=>?_)
       go_simp
       refine(GC.out _ gS).mono ?_
       rintro e we61 ⟨rfl,Cw⟩
       go_wp2_with fail
       refine goOn hK Cw ?_
       clear hK
       refine ab 25 (.bool RC) Cw ?_
       refine ab 26 (.bool RC) Cw ?_
       refine Sm (by kernel_rfl) ?_ _
       go_wp2_with fail
       exact HQ.out _ (HB.out _ Cw)
end Go.Proofs.YtjebaagkomejaaaGreatDoor
namespace Go.Proofs.YtjebaagkomejaaaGreatDoor
open Go.RowKit Go.ChangeShapes Go.WideShapes Go.Deep
theorem Gr {α:Type} {l:List α} (h:l.length=14):∃ a0 a1 a2 a3 a4 a5 a6 a7 a8 a9 a10 a11 a12 a13,l=[a0,a1,a2,a3,a4,a5,a6,a7,a8,a9,a10,a11,a12,a13]:=by
 obtain _|⟨a0,l⟩:=l
 · simp at h
 obtain _|⟨a1,l⟩:=l
 · simp at h
 obtain _|⟨a2,l⟩:=l
 · simp at h
 obtain _|⟨a3,l⟩:=l
 · simp at h
 obtain _|⟨a4,l⟩:=l
 · simp at h
 obtain _|⟨a5,l⟩:=l
 · simp at h
 obtain _|⟨a6,l⟩:=l
 · simp at h
 obtain _|⟨a7,l⟩:=l
 · simp at h
 obtain _|⟨a8,l⟩:=l
 · simp at h
 obtain _|⟨a9,l⟩:=l
 · simp at h
 obtain _|⟨a10,l⟩:=l
 · simp at h
 obtain _|⟨a11,l⟩:=l
 · simp at h
 obtain _|⟨a12,l⟩:=l
 · simp at h
 obtain _|⟨a13,l⟩:=l
 · simp at h
 obtain _|⟨b,l⟩:=l
 · exact⟨a0,a1,a2,a3,a4,a5,a6,a7,a8,a9,a10,a11,a12,a13,rfl⟩
 · simp at h
theorem Gp {α:Type} {l:List α} (h:l.length=23):∃ a0 a1 a2 a3 a4 a5 a6 a7 a8 a9 a10 a11 a12 a13 a14 a15 a16 a17 a18 a19 a20 a21 a22,l=[a0,a1,a2,a3,a4,a5,a6,a7,a8,a9,a10,a11,a12,a13,a14,a15,a16,a17,a18,a19,a20,a21,a22]:=by
 obtain _|⟨a0,l⟩:=l
 · simp at h
 obtain _|⟨a1,l⟩:=l
 · simp at h
 obtain _|⟨a2,l⟩:=l
 · simp at h
 obtain _|⟨a3,l⟩:=l
 · simp at h
 obtain _|⟨a4,l⟩:=l
 · simp at h
 obtain _|⟨a5,l⟩:=l
 · simp at h
 obtain _|⟨a6,l⟩:=l
 · simp at h
 obtain _|⟨a7,l⟩:=l
 · simp at h
 obtain _|⟨a8,l⟩:=l
 · simp at h
 obtain _|⟨a9,l⟩:=l
 · simp at h
 obtain _|⟨a10,l⟩:=l
 · simp at h
 obtain _|⟨a11,l⟩:=l
 · simp at h
 obtain _|⟨a12,l⟩:=l
 · simp at h
 obtain _|⟨a13,l⟩:=l
 · simp at h
 obtain _|⟨a14,l⟩:=l
 · simp at h
 obtain _|⟨a15,l⟩:=l
 · simp at h
 obtain _|⟨a16,l⟩:=l
 · simp at h
 obtain _|⟨a17,l⟩:=l
 · simp at h
 obtain _|⟨a18,l⟩:=l
 · simp at h
 obtain _|⟨a19,l⟩:=l
 · simp at h
 obtain _|⟨a20,l⟩:=l
 · simp at h
 obtain _|⟨a21,l⟩:=l
 · simp at h
 obtain _|⟨a22,l⟩:=l
 · simp at h
 obtain _|⟨b,l⟩:=l
 · exact⟨a0,a1,a2,a3,a4,a5,a6,a7,a8,a9,a10,a11,a12,a13,a14,a15,a16,a17,a18,a19,a20,a21,a22,rfl⟩
 · simp at h
theorem ce28:Tryz.prog.cellsOf 28=1:=by kernel_rfl
theorem ce40:Tryz.prog.cellsOf 40=23:=by kernel_rfl
section
variable {H:Type} {enc:TypeId × Value→H} {w:Sj} {base:Nat} {sp:Nat→Bool} {held:Bool}
theorem D8:Reads enc w base sp held 40 Ed.enc (fun w x=>x.lies w) Ed.fits (fun _=>0):=by
 intro fuel cs x h hb
 obtain⟨ys,n,rfl,hx,hlen,hyl,hf⟩:=Sw Tryz.underlying40 h
 rw [ce40] at hlen
 obtain⟨v0,v1,v2,v3,v4,v5,v6,v7,v8,v9,v10,v11,v12,v13,v14,v15,v16,v17,v18,v19,v20,v21,v22,rfl⟩:=Gp hlen
 obtain⟨y0,y1,y2,y3,y4,y5,y6,y7,y8,y9,y10,y11,y12,y13,rfl⟩:=Gr hyl
 have g0:=hf 0 _ rfl;have g1:=hf 1 _ rfl;have g2:=hf 2 _ rfl;have g3:=hf 3 _ rfl;have g4:=hf 4 _ rfl;have g5:=hf 5 _ rfl;have g6:=hf 6 _ rfl;have g7:=hf 7 _ rfl;have g8:=hf 8 _ rfl;have g9:=hf 9 _ rfl;have g10:=hf 10 _ rfl;have g11:=hf 11 _ rfl;have g12:=hf 12 _ rfl;have g13:=hf 13 _ rfl
 simp [ce28,c2,c56,c3,c57,c83,c9,c101,c58] at g0 g1 g2 g3 g4 g5 g6 g7 g8 g9 g10 g11 g12 g13
 obtain⟨z0,e0,_,w0⟩:=Sv Tryz.underlying28 g0
 obtain⟨z1,e1,_,w1⟩:=Sv Tryz.underlying2 g1
 obtain⟨z2,e2,_,w2⟩:=Sv Tryz.underlying2 g2
 obtain⟨us,n',rfl,hx',hlen',Al,hf'⟩:=Sw Tryz.underlying30 g3
 obtain⟨u0,u1,rfl⟩:=Gq Al
 have p0:=hf' 0 _ rfl;have p1:=hf' 1 _ rfl
 simp [c2] at p0 p1
 obtain⟨z3,e3,_,w3⟩:=Sv Tryz.underlying2 p0
 obtain⟨z4,e4,_,w4⟩:=Sv Tryz.underlying2 p1
 obtain⟨z5,e5,_,w5⟩:=Sv Tryz.underlying2 g4
 obtain⟨z6,e6,_,w6⟩:=Sv Tryz.underlying3 g5
 obtain⟨z7,e7,_,w7⟩:=Sv Tryz.underlying3 g6
 obtain⟨z8,e8,_,w8⟩:=Sv Tryz.underlying3 g7
 obtain⟨z9,e9,_,w9⟩:=Sv Tryz.underlying31 g8
 obtain⟨us2,n2,hn2,hx2,L_,JZ,hf2⟩:=Sw Tryz.underlying34 g9
 obtain⟨t0,t1,t2,rfl⟩:=Eg JZ
 have q0:=hf2 0 _ rfl;have q1:=hf2 1 _ rfl;have q2:=hf2 2 _ rfl
 simp [c81,c4] at q0 q1 q2
 obtain⟨z10,e10,_,w10⟩:=Sv Tryz.underlying32 q0
 obtain⟨z11,e11,_⟩:=Sy Tryz.underlying4 q1
 obtain⟨z12,e12,_⟩:=Sy Tryz.underlying4 q2
 obtain⟨s13,e13,r13,_⟩:=Sx Tryz.underlying9 g10
 obtain⟨JO,e14,r14,_⟩:=Sx Tryz.underlying9 g11
 have k10:=cn hx (y:=y10) (by simp)
 have k11:=cn hx (y:=y11) (by simp)
 have k12:=cn hx (y:=y12) (by simp)
 have k13:=cn hx (y:=y13) (by simp)
 have l13:=dW r13
 have l14:=dW r14
 obtain⟨rg,e15,_,hrf,_⟩:=wg _ _ _ g12 (by omega)
 obtain⟨a,xs,cap,e22,hS,hF,hL,_⟩:=eE Tryz.underlying38 c88 (by decide) (fun _=>rfl) wb _ [v22] y13 g13 (by omega)
 obtain⟨rn,rt,rh,rl,rwd,ral,rbt⟩:=rg
 simp [Reg.enc] at e0 e1 e2 e3 e4 e5 e6 e7 e8 e9 e10 e11 e12 e13 e14 e15 e22
 obtain⟨i15,i16,i17,i18,i19,i20,i21⟩:=e15
 subst e0 e1 e2 e3 e4 e5 e6 e7 e8 e9 e10 e11 e12 e13 e14 i15 i16 i17 i18 i19 i20 i21 e22
 exact⟨⟨z0,z1,z2,z3,z4,z5,z6,z7,z8,z9,z10,z11,z12,s13,JO,⟨rn,rt,rh,rl,rwd,ral,rbt⟩,a,cap,xs⟩,rfl,hS,⟨mh w0,⟨dR w1,dR w2,dR w3,dR w4,dR w5,dR w6,dR w7,dR w8⟩,mh w9,mh w10,by simp only;omega,by simp only;omega,hrf,hF,by simp only;omega⟩,SB _⟩
end
end Go.Proofs.YtjebaagkomejaaaGreatDoor
namespace Go.Proofs.YtjebaagkomejaaaGreatDoor
open Go.RowKit
def rf (c:DocC)(w:Sj)(e:Ending)(w':Sj):Prop:=Sq w.heap.size w w'∧((cErr c≠0∧e=.returned (.tuple #[.pointer none,.int .i64 (cErr c)]))∨(cErr c=0∧∃ (b:Nat) (h:Hs),e=.returned (.tuple #[.pointer (some ⟨b,0,none⟩),.int .i64 0])∧HsAt b h w'∧h.c=newH c∧(∀ k,h.own b k→w.heap.size≤k)∧(∀ d∈h.docs,∀ k,d.uses k→w.heap.size≤k)))
theorem HsAt.fresh {X Y:Doc} {v:Sj} (hX:X.lies v)(hY:Y.lies v)(fX:X.fits)(fY:Y.fits):HsAt v.heap.size ⟨X,Y,none,0,[],none,0,[]⟩ (v.alloc (.cells (⟨X,Y,none,0,[],none,0,[]⟩:Hs).enc.toArray 82)):=by
 have hb:Sq v.heap.size v (v.alloc (.cells (⟨X,Y,none,0,[],none,0,[]⟩:Hs).enc.toArray 82)):=(St _ _).alloc (SA _) _
 have hown:∀ k,(⟨X,Y,none,0,[],none,0,[]⟩:Hs).own v.heap.size k→k=v.heap.size:=fun k h=>by
  rcases h with h|h|h
  · exact h
  · cases h
  · cases h
 refine⟨heap_alloc_last _ _,SC _ _ _ _,SC _ _ _ _,fun d hd=>?_,(fun k h=>by cases h),(fun h=>by cases h)⟩
 have h2:d=X∨d=Y:=by simpa [Hs.docs] using hd
 rcases h2 with rfl|rfl
 · exact⟨Doc.later hX hb,fX,fun k hu ho=>by have:=hown k ho;have:=Doc.uses_lt hX hu;omega⟩
 · exact⟨Doc.later hY hb,fY,fun k hu ho=>by have:=hown k ho;have:=Doc.uses_lt hY hu;omega⟩
theorem ch {d:Doc} (h:d.fits):(∀ x∈d.eV,x.rows.length≤4000000∧∀ r∈x.rows,r.runs.length≤4000000)∧d.rG.length≤4000000∧d.eV.length≤4000000∧d.cM.length≤4000000:=⟨fun x hx=>⟨(h.2.2.2.2.2.2.2.1 x hx).2.2.2.2.2.2.2.2,fun r hr=>((h.2.2.2.2.2.2.2.1 x hx).2.2.2.2.2.2.2.1 r hr).2.1⟩,h.2.2.2.2.2.2.1,h.2.2.2.2.2.2.2.2.1,h.2.2.2.2.2.2.2.2.2.2⟩
theorem sJ (d d':Doc)(w:Sj)(hd:d.lies w)(hd':d'.lies w)(hf:d.fits)(hf':d'.fits):Sn Tryz.prog 13 #[.agg d.enc.toArray,.agg d'.enc.toArray] w fun e w'=>e=.returned (.bool (oz d d'))∧Sq w.heap.size w w' :=
 qM d d' w hd hd' (ch hf).1 (ch hf').1 (ch hf).2.1 (ch hf').2.1 (ch hf).2.2.1 (ch hf').2.2.1 (ch hf).2.2.2 (ch hf').2.2.2
theorem iq (b:Nat)(h:Hs)(w:Sj)(H:HsAt b h w):Sn Tryz.prog 18 #[.pointer (some ⟨b,0,none⟩)] w fun e w'=>e=.returned (.bool (oz h.doc h.saved))∧Sq w.heap.size w w':=by
 have h1:=H.docs h.doc (by simp [Hs.docs])
 have h2:=H.docs h.saved (by simp [Hs.docs])
 have hbl:=iQ H.at_
 have pG:=h_ (fun(w1:Sj) (hb:Sq w.heap.size w w1)=>sJ h.doc h.saved w1 (Doc.later h1.1 hb) (Doc.later h2.1 hb) h1.2.1 h2.2.1)
 have gY:=h_ (fun(w':Sj) (hb:Sq w.heap.size w w')=>bH ((hb.block b hbl).trans H.at_))
 generalize oz h.doc h.saved=AN at *
 clear H h1 h2
 have hd0:Sq w.heap.size w w.drew:=(St _ _).drew
 go_enter Tryz.func18,Tryz.ntmps18
 go_upto_region 1 with fail
 refine Sk (S:=fun w'=>Sq w.heap.size w w') (by kernel_rfl) hd0 (fun _=>?_)
 generalize w.drew=v0 at *
 refine ab 0 (.pointer (some ⟨b,0,none⟩)) hd0 ?_
 refine ab 1 (.bool true) hd0 ?_
 refine ab 2 (.bool true) hd0 ?_
 refine ab 3 (.pointer (some ⟨b,0,none⟩)) hd0 ?_
 refine ab 4 (.pointer (some ⟨b,0,none⟩)) hd0 ?_
 refine ab 5 (.pointer (some ⟨b,0,none⟩)) hd0 ?_
 refine ab 6 (.agg h.doc.enc.toArray) hd0 ?_ (hy:=Sl (by rfl) 27 (.tmp 8) rfl b 0 rfl h.doc.enc _ (fun w_ h_=>(gY.out w_ h_).1) Tryz.underlying27 rfl ag)
 refine ab 7 (.pointer (some ⟨b,0,none⟩)) hd0 ?_
 refine ab 8 (.pointer (some ⟨b,0,none⟩)) hd0 ?_
 refine ab 9 (.pointer (some ⟨b,8,none⟩)) hd0 ?_
 refine ab 10 (.agg h.saved.enc.toArray) hd0 ?_ (hy:=Sl (by rfl) 27 (.tmp 12) rfl b 8 rfl h.saved.enc _ (fun w_ h_=>(gY.out w_ h_).2.1) Tryz.underlying27 rfl ag)
 refine aq 11 (fun K hK=>?_)
 go_simp
 refine(pG.out _ hd0).mono ?_
 rintro e_ v1 ⟨rfl,ar⟩
 have hv1:Sq w.heap.size w v1:=ak hd0 ar
 clear ar
 go_wp2_with fail
 refine goOn hK hv1 ?_
 clear hK
 refine ab 12 (.bool AN) hv1 ?_
 refine ab 13 (.bool AN) hv1 ?_
 refine Sm (by kernel_rfl) ?_ _
 go_wp2_with fail
 go_ret
 exact⟨rfl,hv1⟩
theorem lS (w:Sj):Sn Tryz.prog 18 #[.pointer none] w fun e w'=>e=.returned (.bool false)∧Sq w.heap.size w w':=by
 have hd0:Sq w.heap.size w w.drew:=(St _ _).drew
 go_enter Tryz.func18,Tryz.ntmps18
 go_upto_region 1 with fail
 refine Sk (S:=fun w'=>Sq w.heap.size w w') (by kernel_rfl) hd0 (fun _=>?_)
 generalize w.drew=v0 at *
 refine ab 0 (.pointer none) hd0 ?_
 refine ab 1 (.bool false) hd0 ?_
 refine ab 2 (.bool false) hd0 ?_
 refine ax 3 hd0 ?_
 refine ax 4 hd0 ?_
 refine ax 5 hd0 ?_
 refine ax 6 hd0 ?_
 refine ax 7 hd0 ?_
 refine ax 8 hd0 ?_
 refine ax 9 hd0 ?_
 refine ax 10 hd0 ?_
 refine ax 11 hd0 ?_
 refine ab 12 (.bool false) hd0 ?_
 refine ab 13 (.bool false) hd0 ?_
 refine Sm (by kernel_rfl) ?_ _
 go_wp2_with fail
 go_ret
 exact⟨rfl,hd0⟩
theorem qy (b:Nat)(h:Hs)(w:Sj)(H:HsAt b h w)(hu:h.undo=[])(hr:h.redo=[]):Sn Tryz.prog 23 #[.pointer (some ⟨b,0,none⟩)] w (nU h.c w):=by
 have hdo:=H.docs h.doc (by simp [Hs.docs])
 have hsa:=H.docs h.saved (by simp [Hs.docs])
 have hbl:=iQ H.at_
 have M5:=h_ (fun(w1:Sj) (hb:Sq w.heap.size w w1)=>bJ h.doc w1 (Doc.later hdo.1 hb) hdo.2.1)
 have M4:=h_ (fun(w1:Sj) (hb:Sq w.heap.size w w1)=>bJ h.saved w1 (Doc.later hsa.1 hb) hsa.2.1)
 have jo:=h_ (fun(D:Doc) (e:D.c=h.doc.c)=>bn e hdo.2.1)
 have MW:=h_ (fun(D:Doc) (e:D.c=h.saved.c)=>bn e hsa.2.1)
 have gY:=h_ (fun(w1:Sj) (hb:Sq w.heap.size w w1)=>(show w1.rangeAt b 0 h.doc.enc∧w1.rangeAt b 8 h.saved.enc∧w1.cell? ⟨b,16,none⟩=some (.slice h.ua 0 h.uc)∧w1.cell? ⟨b,17,none⟩=some (.slice h.ra 0 h.rc) from by
  have q:=bH ((hb.block b hbl).trans H.at_)
  rw [hu,hr] at q
  exact q))
 have HQ:=h_ (fun(X Y:Doc) (v:Sj) (hX:X.lies v) (hY:Y.lies v) (fX:X.fits) (fY:Y.fits) (cX:X.c=h.doc.c) (cY:Y.c=h.saved.c) (uX:∀ k,X.uses k→w.heap.size≤k) (uY:∀ k,Y.uses k→w.heap.size≤k) (hv:Sq w.heap.size w v)=>(show nU h.c w (.returned (.pointer (some ⟨v.heap.size,0,none⟩))) (v.alloc (.cells (⟨X,Y,none,0,[],none,0,[]⟩:Hs).enc.toArray 82)) from
  ⟨v.heap.size,⟨X,Y,none,0,[],none,0,[]⟩,rfl,HsAt.fresh hX hY fX fY,by show(⟨X.c,Y.c,[],[]⟩:HsC)=⟨_,_,_,_⟩;rw [cX,cY,hu,hr];rfl,(fun k hk=>by
   rcases hk with h|h|h
   · rw [h];exact hv.size
   · cases h
   · cases h),(fun D hD k hu=>by
   have h2:D=X∨D=Y:=by simpa [Hs.docs] using hD
   rcases h2 with rfl|rfl
   · exact uX k hu
   · exact uY k hu),hv.alloc hv.size _⟩))
 generalize nU h.c w=Q at *
 have hd0:Sq w.heap.size w w.drew:=(St _ _).drew
 clear H hdo hsa
 go_enter Tryz.func23,Tryz.ntmps23
 go_upto_region 3 with fail
 refine Sk (S:=fun w'=>Sq w.heap.size w w') (by kernel_rfl) hd0 (fun _=>?_)
 generalize w.drew=v0 at *
 refine ab 0 (.pointer (some ⟨b,0,none⟩)) hd0 ?_
 refine ab 1 (.pointer (some ⟨b,0,none⟩)) hd0 ?_
 refine ab 2 (.pointer (some ⟨b,0,none⟩)) hd0 ?_
 refine ab 3 (.agg h.doc.enc.toArray) hd0 ?_ (hy:=Sl (by rfl) 27 (.tmp 7) rfl b 0 rfl h.doc.enc _ (fun w_ h_=>(gY.out w_ h_).1) Tryz.underlying27 rfl ag)
 refine ab 5 (.pointer (some ⟨b,0,none⟩)) hd0 ?_
 refine ab 6 (.pointer (some ⟨b,0,none⟩)) hd0 ?_
 refine ab 7 (.pointer (some ⟨b,8,none⟩)) hd0 ?_
 refine ab 8 (.agg h.saved.enc.toArray) hd0 ?_ (hy:=Sl (by rfl) 27 (.tmp 12) rfl b 8 rfl h.saved.enc _ (fun w_ h_=>(gY.out w_ h_).2.1) Tryz.underlying27 rfl ag)
 refine ab 10 (.pointer (some ⟨b,0,none⟩)) hd0 ?_
 refine ab 11 (.pointer (some ⟨b,0,none⟩)) hd0 ?_
 refine ab 12 (.pointer (some ⟨b,16,none⟩)) hd0 ?_
 refine ab 13 (.slice h.ua 0 h.uc) hd0 ?_ (hy:=.inl ⟨by rfl,fun w_ aH=>by have q_:=(gY.out w_ aH).2.2.1;go_simp⟩)
 refine ab 15 (.pointer (some ⟨b,0,none⟩)) hd0 ?_
 refine ab 16 (.pointer (some ⟨b,0,none⟩)) hd0 ?_
 refine ab 17 (.pointer (some ⟨b,17,none⟩)) hd0 ?_
 refine ab 18 (.slice h.ra 0 h.rc) hd0 ?_ (hy:=.inl ⟨by rfl,fun w_ aH=>by have q_:=(gY.out w_ aH).2.2.2;go_simp⟩)
 refine aq 4 (fun K hK=>?_)
 go_simp
 refine(M5.out _ hd0).mono ?_
 rintro e_ v1 ⟨xD,rfl,Am,hxl,hxu,ar,_,_,_⟩
 have hv1:Sq w.heap.size w v1:=ak hd0 ar
 have LZ:=ar.size
 have iP:=(hd0).size
 replace hxu:∀ k,xD.uses k→w.heap.size≤k:=fun k hu=>Sz iP (hxu k hu)
 clear iP
 have tP:=jo.out xD Am
 clear ar
 obtain⟨xt,xl,xr,xd,xla,xra,xrc,xgs,xea,xec,xvs,xca,xcc,xms⟩:=xD
 simp only [Doc.enc]
 go_wp2_with fail
 refine goOn hK hv1 ?_
 clear hK
 refine aq 9 (fun K hK=>?_)
 go_simp
 refine(M4.out _ hv1).mono ?_
 rintro e_ v2 ⟨yD,rfl,ff,hyl,hyu,ar,_,_,_⟩
 have hv2:Sq w.heap.size w v2:=ak hv1 ar
 have LY:=ar.size
 have iP:=(hv1).size
 replace hyu:∀ k,yD.uses k→w.heap.size≤k:=fun k hu=>Sz iP (hyu k hu)
 clear iP
 have mY:=MW.out yD ff
 replace hxl:=Doc.later hxl ar
 clear ar
 obtain⟨yt,yl,yr,yd,yla,yra,yrc,ygs,yea,yec,yvs,yca,ycc,yms⟩:=yD
 simp only [Doc.enc]
 go_wp2_with fail
 refine goOn hK hv2 ?_
 clear hK
 refine aq 14 (fun K hK=>?_)
 go_simp
 refine(iX _ _ _).mono ?_
 rintro e_ v3 ⟨rfl,ar⟩
 have hv3:Sq w.heap.size w v3:=ak hv2 ar
 have LX:=ar.size
 replace hxl:=Doc.later hxl ar
 replace hyl:=Doc.later hyl ar
 clear ar
 go_wp2_with fail
 refine goOn hK hv3 ?_
 clear hK
 refine aq 19 (fun K hK=>?_)
 go_simp
 refine(iX _ _ _).mono ?_
 rintro e_ v4 ⟨rfl,ar⟩
 have hv4:Sq w.heap.size w v4:=ak hv3 ar
 have LW:=ar.size
 replace hxl:=Doc.later hxl ar
 replace hyl:=Doc.later hyl ar
 clear ar
 go_wp2_with fail
 refine goOn hK hv4 ?_
 clear hK
 refine ab 20 (.agg #[.string xt,.string xl,.int .u8 xr,.bool xd,.int .i64 xla,.slice xra xgs.length xrc,.slice xea xvs.length xec,.slice xca xms.length xcc,.string yt,.string yl,.int .u8 yr,.bool yd,.int .i64 yla,.slice yra ygs.length yrc,.slice yea yvs.length yec,.slice yca yms.length ycc,.slice none 0 0,.slice none 0 0]) hv4 ?_
 refine aq 21 (fun K hK=>?_)
 go_simp
 have hst:Sq w.heap.size w (v4.alloc (.cells #[.string xt,.string xl,.int .u8 xr,.bool xd,.int .i64 xla,.slice xra xgs.length xrc,.slice xea xvs.length xec,.slice xca xms.length xcc,.string yt,.string yl,.int .u8 yr,.bool yd,.int .i64 yla,.slice yra ygs.length yrc,.slice yea yvs.length yec,.slice yca yms.length ycc,.slice none 0 0,.slice none 0 0] 82)):=hv4.alloc (hv4.size) _
 refine goOn hK hst ?_
 clear hK
 refine ab 22 (.pointer (some ⟨v4.heap.size,0,none⟩)) hst ?_
 refine Sm (by kernel_rfl) ?_ _
 have HF:=h_ (HQ.out ⟨xt,xl,xr,xd,xla,xra,xrc,xgs,xea,xec,xvs,xca,xcc,xms⟩ ⟨yt,yl,yr,yd,yla,yra,yrc,ygs,yea,yec,yvs,yca,ycc,yms⟩ v4 hxl hyl tP mY Am ff hxu hyu hv4)
 clear hxl hyl tP mY Am ff hxu hyu HQ M5 M4 jo MW gY hst
 simp only [Hs.enc,Doc.enc,SD,SF,SG] at HF
 go_wp2_with fail
 exact HF.out
theorem vb (b:Nat)(h:Hs)(D:Doc)(w:Sj)(H:HsAt b h w)(hD:eW (h.own b) w D)(Cr:h.undo.length≤16):Sn Tryz.prog 46 #[.pointer (some ⟨b,0,none⟩),.agg D.enc.toArray] w fun e w'=>e=.returned (.tuple #[])∧fi (fun d=>d=D) (putH h.c D.c) b h w w':=by
 have HB:=h_ (iR w (.cells D.enc.toArray 27))
 have HH:=h_ H
 have DJ:=h_ hD
 have Iz:=h_ (Gi h D)
 have HQ:=h_ (fun(h':Hs) (w':Sj) (s:cu (fun d=>d=D) b h w h' w') (hc:h'.c=putH h.c D.c)=>(show(fun(e:Ending) (w':Sj)=>e=.returned (.tuple #[])∧fi (fun d=>d=D) (putH h.c D.c) b h w w') (.returned (.tuple #[])) w' from⟨rfl,s.post hc⟩))
 generalize (fun(e:Ending) (w':Sj)=>e=.returned (.tuple #[])∧fi (fun d=>d=D) (putH h.c D.c) b h w w')=Q at *
 obtain⟨j0,hj,hy0,hy1,hy2⟩:=info_parts Tryz.info27
 have JI:=h_ hj;have J0:=h_ hy0;have J1:=h_ hy1;have J2:=h_ hy2
 clear H hD hj hy0 hy1 hy2
 go_enter Tryz.func46,Tryz.ntmps46
 go_upto_region 1 with fail
 have z0:=HB.out.1
 have hb0:=HB.out.2.1
 have hs0:=HB.out.2.2
 clear HB
 generalize w.alloc (.cells D.enc.toArray 27)=W0 at *
 have S0:=cu.of_below (N:=fun d=>d=D) HH.out hb0
 have HZ0:=h_ z0
 have By:=h_ S0
 have HB0:=h_ hb0
 clear z0 S0 hb0
 go_cut [] from 4 to 16 (fun wx=>∃ a c,cu (fun d=>d=D) b h w { h with ua:=a,uc:=c,undo:=h.undo++[h.doc] } wx∧wx.heap[w.heap.size]? =some (.cells D.enc.toArray 27 (0,0)))
 case first =>
  have HW0:=By.out.1
  have hbl:=iQ HW0.at_
  have hdw:Sq W0.heap.size W0 W0.drew:=(St _ _).drew
  have hbu:(Ss h.ua h.undo.length h.uc).ownBlock≠some b:=fun e=>(HW0.ub b e).1 rfl
  have Nr:=HW0.undo.lt
  have vK:=h_ (fun(w':Sj) (hb:Sq W0.heap.size W0 w')=>(show Kept (fun k=>(Ss h.ua h.undo.length h.uc).ownBlock=some k∨k=b) W0 w'∧w'.rangeAt b 0 h.doc.enc from⟨Kept.of_below hb,(bH ((hb.block b hbl).trans HW0.at_)).1⟩))
  have hS0:=vK.out _ hdw
  have pF:=h_ (HW0.later hdw)
  have cE:=h_ (fun(v w2:Sj) (hv:Sq W0.heap.size W0 v) (r2:w2.heap[b]? =some (.cells h.enc.toArray 82 (0,0))) (hk:Kept (fun k=>(Ss h.ua h.undo.length h.uc).ownBlock=some k) v w2)=>(show Kept (fun k=>(Ss h.ua h.undo.length h.uc).ownBlock=some k∨k=b) W0 w2∧w2.rangeAt b 0 h.doc.enc from⟨(Kept.of_below hv).trans hk fun i _ e=>.inl e,(bH r2).1⟩))
  have Be:=h_ (fun(v w2:Sj) (u:Value) (hv:Sq W0.heap.size W0 v) (r2:w2.heap[b]? =some (.cells h.enc.toArray 82 (0,0))) (hk:Kept (fun k=>(Ss h.ua h.undo.length h.uc).ownBlock=some k) v w2)=>(show Kept (fun k=>(Ss h.ua h.undo.length h.uc).ownBlock=some k∨k=b) W0 (w2.setCell ⟨b,16,none⟩ u)∧(w2.setCell ⟨b,16,none⟩ u).rangeAt b 0 h.doc.enc from⟨((Kept.of_below hv).trans hk fun i _ e=>.inl e).setCell (p:=⟨b,16,none⟩) (.inr (.inr rfl)) u,fun j x hx=>by
   have hj:j<8:=(List.getElem?_eq_some_iff.1 hx).1
   have hne:(⟨b,0+j,none⟩:Addr)≠⟨b,16,none⟩:=fun e=>by simp only [Addr.mk.injEq] at e;omega
   rw [Sj.cell?_setCell_other (h:=hne.symm)]
   exact(bH r2).1 j x hx⟩))
  have oO:=h_ (fun(v:Sj) (hv:HsAt b h v) (v':Value) (w2:Sj) (o:Obj) ho hg hat=>Cj (N:=fun d=>d=D) (v:=v) (w2:=w2) (v':=v') (o:=o) hv ho hg hat)
  have Bd:=h_ (fun(v w3:Sj) (h1:Hs) (hv:Sq W0.heap.size W0 v) (s:cu (fun d=>d=D) b h v h1 w3)=>(show cu (fun d=>d=D) b h w h1 w3∧w3.heap[w.heap.size]? =some (.cells D.enc.toArray 27 (0,0)) from⟨By.out.trans ((cu.of_below HW0 hv).trans s),by
   have hsv:=hv.size
   rw [s.2.2.block w.heap.size (by omega) (fun ho=>by have:=HH.out.lt ho;omega),hv.block w.heap.size (by omega)]
   exact HZ0.out⟩))
  clear HW0 HH DJ Iz HQ HZ0 By HB0
  go_upto_region 1 with fail
  refine Sk (S:=fun w'=>Kept (fun k=>(Ss h.ua h.undo.length h.uc).ownBlock=some k∨k=b) W0 w'∧w'.rangeAt b 0 h.doc.enc) (by kernel_rfl) hS0 (fun _=>?_)
  generalize W0.drew=v0 at *
  have Ih:=h_ (fun(w':Sj) (hb:Sq v0.heap.size v0 w')=>(bH ((hb.block b (iQ pF.out.at_)).trans pF.out.at_)).2.2.1)
  have Fx:=h_ (fun(w':Sj) (hb:Sq v0.heap.size v0 w')=>vK.out w' (hdw.trans (hb.mono hdw.size)))
  have HOW:=h_ pF.out.undo
  have tH:=h_ (oO.out v0 pF.out)
  have F0:=h_ (fun(w2:Sj)=>cE.out v0 w2 hdw)
  have Fu:=h_ (fun(w2:Sj) (u:Value)=>Be.out v0 w2 u hdw)
  have Ld:=h_ (fun(w3:Sj) (h1:Hs)=>Bd.out v0 w3 h1 hdw)
  clear pF vK oO cE Be Bd hbl hbu Nr
  obtain⟨Cx,sav,ua,uc,un,ra,rc,re⟩:=h
  obtain⟨ft,fl,fr,fd,fla,fra,frc,fgs,fea,fec,fvs,fca,fcc,fms⟩:=Cx
  simp only [Doc.enc] at *
  refine ab 0 (.pointer (some ⟨b,0,none⟩)) hS0 ?_
  refine ab 1 (.pointer (some ⟨b,0,none⟩)) hS0 ?_
  refine ab 2 (.pointer (some ⟨b,0,none⟩)) hS0 ?_
  refine ab 3 (.pointer (some ⟨b,16,none⟩)) hS0 ?_
  refine ab 5 (.pointer (some ⟨b,0,none⟩)) hS0 ?_
  refine ab 6 (.pointer (some ⟨b,0,none⟩)) hS0 ?_
  refine ab 7 (.pointer (some ⟨b,0,none⟩)) hS0 ?_
  refine ab 8 (.agg #[Sr ft,.string fl,.int .u8 fr,.bool fd,.int .i64 fla,.slice fra fgs.length frc,.slice fea fvs.length fec,.slice fca fms.length fcc]) hS0 ?_ (hy:=Sl (by rfl) 27 (.tmp 11) rfl b 0 rfl [Sr ft,.string fl,.int .u8 fr,.bool fd,.int .i64 fla,.slice fra fgs.length frc,.slice fea fvs.length fec,.slice fca fms.length fcc] _ (fun w_ h_=>h_.2) Tryz.underlying27 rfl ag)
  refine dP 4 9 (fun K hK=>?_) (fun K hK=>?_)
  focus
   have q8:=Ih.out v0 (St _ _)
   go_simp
   refine goOn hK hS0 ?_
   clear hK q8
   refine aq 9 (fun K hK=>?_)
   go_simp
   have hal:Sq v0.heap.size v0 (v0.alloc (.cells #[Sr ft,.string fl,.int .u8 fr,.bool fd,.int .i64 fla,.slice fra fgs.length frc,.slice fea fvs.length fec,.slice fca fms.length fcc] 27)):=(St _ _).alloc (SA _) _
   refine goOn hK (Fx.out _ hal) ?_
   clear hK
  rotate_left
  focus
   go_simp
   have hal:Sq v0.heap.size v0 (v0.alloc (.cells #[Sr ft,.string fl,.int .u8 fr,.bool fd,.int .i64 fla,.slice fra fgs.length frc,.slice fea fvs.length fec,.slice fca fms.length fcc] 27)):=(St _ _).alloc (SA _) _
   refine goOn hK (Fx.out _ hal) ?_
   clear hK
   refine aq 4 (fun K hK=>?_)
   have q8:=Ih.out (v0.alloc (.cells #[Sr ft,.string fl,.int .u8 fr,.bool fd,.int .i64 fla,.slice fra fgs.length frc,.slice fea fvs.length fec,.slice fca fms.length fcc] 27)) hal
   go_simp
   refine goOn hK (Fx.out _ hal) ?_
   clear hK q8
  all_goals
   refine aq 10 (fun K hK=>?_)
   refine jw v0 #[Sr ft,.string fl,.int .u8 fr,.bool fd,.int .i64 fla,.slice fra fgs.length frc,.slice fea fvs.length fec,.slice fca fms.length fcc] rfl (.tmp 8) (.tmp 13) 55 rfl 0 27 j0 _ 8 120 Tryz.underlying55 JI.out J0.out J1.out J2.out rfl (by decide) (.slice ua un.length uc) un.length (un.flatMap Doc.enc) (by rfl) HOW.out v0.heap.size (by rfl) rfl rfl (by simp [Value.oneCell']) (by unfold maxLen;omega) (by omega) (SB _) ?_
   intro v' w2 hown hgrow hat
   obtain⟨a,c,rfl,r2,hk2,hst⟩:=tH.out v' w2 _ hown hgrow hat
   have c16:w2.cell? ⟨b,16,none⟩=some (.slice ua un.length uc):=(bH r2).2.2.1
   have f16:w2.frozen? ⟨b,16,none⟩=false:=eS r2 16
   refine goOn hK (F0.out w2 r2 hk2) ?_
   clear hK hown hgrow hat
   refine ab 11 (.pointer (some ⟨b,0,none⟩)) (F0.out w2 r2 hk2) ?_
   refine ab 12 (.pointer (some ⟨b,16,none⟩)) (F0.out w2 r2 hk2) ?_
   refine aq 13 (fun K hK=>?_)
   go_simp
   refine goOn hK (Fu.out w2 _ r2 hk2) ?_
   clear hK
   refine Sm (by kernel_rfl) ?_ _
   go_wp2_with fail
   go_meet
   exact⟨a,c,Ld.out _ _ hst⟩
 case rest =>
  obtain⟨a,c,fq,hz1⟩:=hcut
  obtain⟨w1,hw1⟩:∃ x,x=wc:=⟨_,rfl⟩
  subst hw1
  obtain⟨h1,Ay⟩:∃ h1:Hs,h1={ h with ua:=a,uc:=c,undo:=h.undo++[h.doc] }:=⟨_,rfl⟩
  rw [←Ay] at fq
  have hu1:h1.undo=h.undo++[h.doc]:=by rw [Ay]
  have hl1:h1.undo.length=h.undo.length+1:=by rw [hu1];simp
  have Ew:h1.saved=h.saved:=by rw [Ay]
  have r1:=fq.1.at_
  have c16:w1.cell? ⟨b,16,none⟩=some (.slice h1.ua h1.undo.length h1.uc):=(bH r1).2.2.1
  have f16:w1.frozen? ⟨b,16,none⟩=false:=eS r1 16
  clear Ay By HB0 HZ0
  by_cases hc:16<h.undo.length+1
  · have hcI:(16:Int)<(h1.undo.length:Int):=by omega
    obtain⟨ga,ca,hfm⟩:=dD fq.1.undo (by omega)
    have how:=fq.1.undo
    rw [hfm] at c16 how
    have hcap:h1.undo.length≤ca:=by
     rcases how.2 with⟨h0,_⟩|⟨g',cap',cur,h0,_,_,hnc,_⟩
     · simp at h0
     · simp only [SH] at h0
       obtain⟨_,_,rfl⟩:=h0
       exact hnc
    obtain⟨a',c',rI,FW⟩:=aA (k:=8) (enc:=Doc.enc) (Ok:=Flat) (fun _=>rfl) how (fun _ _=>trivial)
    simp only [SH] at rI
    obtain⟨rfl,_,rfl⟩:=rI
    have hSd:=pR FW
    rw [Nat.zero_add] at hSd
    have hdl:(h1.undo.drop 1).length=h1.undo.length-1:=List.length_drop ..
    have FM:=h_ (fun(v':Value) (w2:Sj) ho hg hat=>Ar (N:=fun d=>d=D) (b:=b) (ys:=h1.undo.drop 1) (v':=v') (w2:=w2) fq.1 ho hg hat (fun d hd=>by simp only [Hs.docs,List.mem_cons,List.mem_append];exact .inr (.inr (.inl (List.mem_of_mem_drop hd)))))
    have MB:=h_ hSd
    have CR:=h_ fq
    have HZ1:=h_ hz1
    have hcl:ca≤9223372036854775807:=by
     rcases how.2 with⟨h0,_⟩|⟨g',cap',cur,h0,_,_,_,hm,_⟩
     · simp at h0
     · simp only [SH] at h0
       obtain⟨_,_,rfl⟩:=h0
       simp only [maxLen] at hm;omega
    have KI:1≤h1.undo.length:=by omega
    have zk:=h_ hdl
    have Dy:=h_ hl1
    have Lb:=h_ hu1
    have y_:=h_ Ew
    clear fq hz1 r1 hfm how FW hSd hu1 hl1 hdl Ew
    go_wp2_with (at_builtin;refine aJ (enc:=Doc.enc) (Ok:=Flat) _ rfl (.const (.slice none 0 0)) (.tmp 28) 55 rfl 0 27 j0 _ 8 120 Tryz.underlying55 JI.out J0.out J1.out J2.out rfl (by decide) (fun _=>rfl) (fun x v hv=>Doc.one x v hv) _ 0 [] rfl (SC _ _ _ _) (some ⟨ga,8,none⟩) (ca-1) (h1.undo.drop 1) ?hx MB.out ?h63 ?hb ?hbase ?_)
    case hx=>rw [zk.out];rfl
    case h63=>rw [zk.out,Dy.out];unfold maxLen;omega
    case hb=>rw [zk.out,Dy.out];omega
    case hbase=>omega
    intro v' w2 ho hg hat
    replace ho:w2.ownsRow 0 27 8 v' (h1.undo.drop 1).length ((h1.undo.drop 1).flatMap Doc.enc):=by rw [zk.out,List.drop_one];exact ho
    obtain⟨a2,c2,rfl,r2,hb2,om⟩:=FM.out v' w2 ho hg hat
    rw [zk.out] at om
    have Ez:=hb2.size
    have d16:w2.cell? ⟨b,16,none⟩=some (.slice h1.ua h1.undo.length h1.uc):=(bH r2).2.2.1
    have e16:w2.frozen? ⟨b,16,none⟩=false:=eS r2 16
    have Lg:=h_ (CR.out.trans om)
    have HZ2:=h_ ((hb2.block w.heap.size (iQ HZ1.out)).trans HZ1.out)
    clear ho hg hat r2 hb2 om FM MB CR HZ1 c16 f16 hcap hcl KI hcI
    go_upto_region 4 with fail
    have HZ3:=h_ (show(w2.setCell ⟨b,16,none⟩ (.slice a2 (h1.undo.length-1) c2)).heap[w.heap.size]? =some (.cells D.enc.toArray 27 (0,0)) from by
     rw [Su _ _ _ _ (by have:=HH.out.lt (k:=b) (.inl rfl);simp only;omega)];exact HZ2.out)
    generalize w2.setCell ⟨b,16,none⟩ (.slice a2 (h1.undo.length-1) c2)=w3 at *
    clear d16 e16 HZ2
    have s2:=Lg.out
    have z2:=HZ3.out
    have hN:=sI (N:=fun d=>d=D) s2.1
    have zN:(w3.setCell ⟨b,17,none⟩ (.slice none 0 0)).heap[w.heap.size]? =some (.cells D.enc.toArray 27 (0,0)):=by
     rw [Su _ _ _ _ (by have:=HH.out.lt (k:=b) (.inl rfl);simp only;omega)];exact z2
    have Hv:=(DJ.out.step s2).step hN
    have hA:=Aq (N:=fun d=>d=D) hN.1 (.inr ⟨Hv,rfl⟩)
    have HF:=h_ (HQ.out _ _ (s2.trans (hN.trans hA)) (by rw [Iz.out,if_pos hc,←Lb.out,←y_.out];rfl))
    have c17:w3.cell? ⟨b,17,none⟩=_:=(bH s2.1.at_).2.2.2
    have f17:w3.frozen? ⟨b,17,none⟩=false:=eS s2.1.at_ 17
    have Eu:=qw (o:=0) hN.1.at_ (by omega)
    have FT:=ai zN
    have hone:=qL D
    clear hN Hv hA s2 z2 HQ DJ Iz zN
    go_upto_region 5 with fail
    generalize w3.setCell ⟨b,17,none⟩ (.slice none 0 0)=wN at *
    clear c17 f17
    go_wp2_with (first|(refine aj 27 (.tmp 3) rfl w.heap.size 0 rfl D.enc _ FT Tryz.underlying27 rfl ag (by rfl) ?_)|(refine Sp rfl 27 (.tmp 38) (.tmp 36) rfl b 0 D.enc.toArray rfl rfl Eu ag hone ?_))
    first
     | exact HF.out
     | (refine bodyPost_end (v:=.tuple #[]) (by simp [results,Tryz.results46,go_sem]) rfl ?_;exact HF.out)
  · have hcI:¬ (16:Int)<(h1.undo.length:Int):=by omega
    have CR:=h_ fq
    have HZ1:=h_ hz1
    clear fq hz1 r1
    go_upto_region 4 with fail
    have s2:=CR.out
    have z2:=HZ1.out
    have hN:=sI (N:=fun d=>d=D) s2.1
    have zN:(w1.setCell ⟨b,17,none⟩ (.slice none 0 0)).heap[w.heap.size]? =some (.cells D.enc.toArray 27 (0,0)):=by
     rw [Su _ _ _ _ (by have:=HH.out.lt (k:=b) (.inl rfl);simp only;omega)];exact z2
    have Hv:=(DJ.out.step s2).step hN
    have hA:=Aq (N:=fun d=>d=D) hN.1 (.inr ⟨Hv,rfl⟩)
    have HF:=h_ (HQ.out _ _ (s2.trans (hN.trans hA)) (by rw [Iz.out,if_neg hc,←hu1,←Ew];rfl))
    have c17:w1.cell? ⟨b,17,none⟩=_:=(bH s2.1.at_).2.2.2
    have f17:w1.frozen? ⟨b,17,none⟩=false:=eS s2.1.at_ 17
    have Eu:=qw (o:=0) hN.1.at_ (by omega)
    have FT:=ai zN
    have hone:=qL D
    clear hN Hv hA s2 z2 HQ DJ Iz zN
    go_upto_region 5 with fail
    generalize w1.setCell ⟨b,17,none⟩ (.slice none 0 0)=wN at *
    clear c17 f17
    go_wp2_with (first|(refine aj 27 (.tmp 3) rfl w.heap.size 0 rfl D.enc _ FT Tryz.underlying27 rfl ag (by rfl) ?_)|(refine Sp rfl 27 (.tmp 38) (.tmp 36) rfl b 0 D.enc.toArray rfl rfl Eu ag hone ?_))
    first
     | exact HF.out
     | (refine bodyPost_end (v:=.tuple #[]) (by simp [results,Tryz.results46,go_sem]) rfl ?_;exact HF.out)
theorem nd (d:Doc)(w:Sj)(hE:Env w)(hd:d.lies w)(hf:d.fits):Sn Tryz.prog 8 #[.agg d.enc.toArray] w (rf d.c w):=by
 have HB:=h_ (iR w (.cells d.enc.toArray 27))
 have jb:=h_ (fun(w1:Sj) (hb:Sq w.heap.size w w1)=>b_ d w1 (hE.below hb (SA _)) (Doc.later hd hb) hf)
 have FN:=h_ (fun(w1:Sj) (hb:Sq w.heap.size w w1)=>bJ d w1 (Doc.later hd hb) hf)
 have rz:=h_ (fun(D:Doc) (e:D.c=d.c)=>bn e hf)
 have bh:=h_ (fun(w':Sj) (h:cErr d.c≠0) (hb:Sq w.heap.size w w')=>(show rf d.c w (.returned (.tuple #[.pointer none,.int .i64 (cErr d.c)])) w' from⟨hb,.inl ⟨h,rfl⟩⟩))
 have HQ:=h_ (fun(h0:cErr d.c=0) (X Y:Doc) (v w1:Sj) (hX:X.lies v) (hY:Y.lies v) (fX:X.fits) (fY:Y.fits) (cX:X.c=d.c) (cY:Y.c=d.c) (uX:∀ k,X.uses k→w.heap.size≤k) (uY:∀ k,Y.uses k→w.heap.size≤k) (hv:Sq w.heap.size w v)=>(show rf d.c w (.returned (.tuple #[.pointer (some ⟨v.heap.size,0,none⟩),.int .i64 0])) (v.alloc (.cells (⟨X,Y,none,0,[],none,0,[]⟩:Hs).enc.toArray 82)) from
  ⟨hv.alloc hv.size _,.inr ⟨h0,v.heap.size,⟨X,Y,none,0,[],none,0,[]⟩,rfl,HsAt.fresh hX hY fX fY,by show(⟨X.c,Y.c,[],[]⟩:HsC)=_;rw [cX,cY];rfl,(fun k hk=>by
   rcases hk with h|h|h
   · rw [h];exact hv.size
   · cases h
   · cases h),fun D hD k hu=>by
   have h2:D=X∨D=Y:=by simpa [Hs.docs] using hD
   rcases h2 with rfl|rfl
   · exact uX k hu
   · exact uY k hu⟩⟩))
 rw [bA] at jb
 generalize rf d.c w=Q at *
 clear hE hd hf
 go_enter Tryz.func8,Tryz.ntmps8
 go_upto_region 1 with fail
 have z0:=HB.out.1
 have hb0:=HB.out.2.1
 have hs0:=HB.out.2.2
 clear HB
 generalize w.alloc (.cells d.enc.toArray 27)=W0 at *
 have hr0:=ai z0
 have Z0:=h_ z0
 have HB0:=h_ hb0
 clear z0 hb0
 go_wp2_with (refine aj 27 (.tmp 1) rfl w.heap.size 0 rfl d.enc _ hr0 Tryz.underlying27 rfl ag (by rfl) ?_)
 refine(jb.out W0 HB0.out).mono ?_
 rintro e w1 ⟨rfl,hb1⟩
 have hs1:=hb1.size
 have aM:=HB0.out.trans (hb1.mono (by omega))
 have z1:=(hb1.block w.heap.size (by omega)).trans Z0.out
 clear jb hr0 Z0 HB0 hb1
 by_cases h0:cErr d.c=0
 · rw [h0]
   have hd0:Sq w1.heap.size w1 w1.drew:=(St _ _).drew
   have gY:=h_ (fun(w':Sj) (h:Sq w1.heap.size w1 w')=>ai ((h.block w.heap.size (by omega)).trans z1))
   have dA:=h_ (fun(w':Sj) (h:Sq w1.heap.size w1 w')=>FN.out w' (aM.trans (h.mono (by omega))))
   have fQ:=h_ (fun(X Y:Doc) (v:Sj) hX hY fX fY cX cY (uX:∀ k,X.uses k→w1.heap.size≤k) (uY:∀ k,Y.uses k→w1.heap.size≤k) (hv:Sq w1.heap.size w1 v)=>HQ.out h0 X Y v w1 hX hY fX fY cX cY (fun k h=>by have:=uX k h;omega) (fun k h=>by have:=uY k h;omega) (aM.trans (hv.mono (by omega))))
   clear FN HQ z1 aM h0
   go_upto_region 4 with fail
   refine Sk (S:=fun w'=>Sq w1.heap.size w1 w') (by kernel_rfl) hd0 (fun _=>?_)
   generalize w1.drew=v0 at *
   have hsd:=hd0.size
   refine ab 0 (.agg d.enc.toArray) hd0 ?_ (hy:=Sl (by rfl) 27 (.tmp 1) rfl w.heap.size 0 rfl d.enc _ (fun w_ h_=>gY.out w_ h_) Tryz.underlying27 rfl ag)
   refine ab 2 (.agg d.enc.toArray) hd0 ?_ (hy:=Sl (by rfl) 27 (.tmp 1) rfl w.heap.size 0 rfl d.enc _ (fun w_ h_=>gY.out w_ h_) Tryz.underlying27 rfl ag)
   refine aq 1 (fun K hK=>?_)
   go_simp
   refine(dA.out _ hd0).mono ?_
   rintro e_ v1 ⟨xD,rfl,Am,hxl,hxu,ar,_,_,_⟩
   have hv1:Sq w1.heap.size w1 v1:=ak hd0 ar
   have hs1:=ar.size
   have iP:=(hd0).size
   replace hxu:∀ k,xD.uses k→w1.heap.size≤k:=fun k hu=>Sz iP (hxu k hu)
   clear iP
   clear ar
   have tP:=rz.out xD Am
   obtain⟨xt,xl,xr,xd,xla,xra,xrc,xgs,xea,xec,xvs,xca,xcc,xms⟩:=xD
   simp only [Doc.enc]
   go_wp2_with fail
   refine goOn hK hv1 ?_
   clear hK
   refine aq 3 (fun K hK=>?_)
   go_simp
   refine(dA.out _ hv1).mono ?_
   rintro e_ v2 ⟨yD,rfl,ff,hyl,hyu,ar,_,_,_⟩
   have hv2:Sq w1.heap.size w1 v2:=ak hv1 ar
   have hs2:=ar.size
   have iP:=(hv1).size
   replace hyu:∀ k,yD.uses k→w1.heap.size≤k:=fun k hu=>Sz iP (hyu k hu)
   clear iP
   replace hxl:=Doc.later hxl ar
   clear ar
   have mY:=rz.out yD ff
   obtain⟨yt,yl,yr,yd,yla,yra,yrc,ygs,yea,yec,yvs,yca,ycc,yms⟩:=yD
   simp only [Doc.enc]
   go_wp2_with fail
   refine goOn hK hv2 ?_
   clear hK
   refine ab 4 (.agg #[.string xt,.string xl,.int .u8 xr,.bool xd,.int .i64 xla,.slice xra xgs.length xrc,.slice xea xvs.length xec,.slice xca xms.length xcc,.string yt,.string yl,.int .u8 yr,.bool yd,.int .i64 yla,.slice yra ygs.length yrc,.slice yea yvs.length yec,.slice yca yms.length ycc,.slice none 0 0,.slice none 0 0]) hv2 ?_
   refine aq 5 (fun K hK=>?_)
   go_simp
   have hst:Sq w1.heap.size w1 (v2.alloc (.cells #[.string xt,.string xl,.int .u8 xr,.bool xd,.int .i64 xla,.slice xra xgs.length xrc,.slice xea xvs.length xec,.slice xca xms.length xcc,.string yt,.string yl,.int .u8 yr,.bool yd,.int .i64 yla,.slice yra ygs.length yrc,.slice yea yvs.length yec,.slice yca yms.length ycc,.slice none 0 0,.slice none 0 0] 82)):=hv2.alloc (by have:=hd0.size;omega) _
   refine goOn hK hst ?_
   clear hK
   refine ab 6 (.pointer (some ⟨v2.heap.size,0,none⟩)) hst ?_
   refine ab 7 (.int .i64 0) hst ?_
   refine Sm (by kernel_rfl) ?_ _
   have HF:=h_ (fQ.out ⟨xt,xl,xr,xd,xla,xra,xrc,xgs,xea,xec,xvs,xca,xcc,xms⟩ ⟨yt,yl,yr,yd,yla,yra,yrc,ygs,yea,yec,yvs,yca,ycc,yms⟩ v2 hxl hyl tP mY Am ff hxu hyu hv2)
   clear hxl hyl tP mY Am ff hxu hyu fQ bh dA rz gY hst
   simp only [Hs.enc,Doc.enc,SD,SF,SG] at HF
   go_wp2_with fail
   exact HF.out
 · have hne:(cErr d.c != 0)=true:=by simpa using h0
   have HF:=h_ (bh.out w1 h0 aM)
   generalize cErr d.c=CE at *
   clear FN rz bh HQ z1 aM h0
   go_wp2_with fail
   exact HF.out
end Go.Proofs.YtjebaagkomejaaaGreatDoor
