/- The contract of document.Clone: the copy's lists lie apart from one another. document.Put: its memory and its contents in plain words; Follow of a comment that is lost. -/
import Derived.Test.YtjebaagkomejaaaGreatDoorK14
import Derived.Test.YtjebaagkomejaaaGreatDoorK15
set_option linter.unusedVariables false
set_option linter.unusedSimpArgs false
set_option maxRecDepth 100000
set_option maxHeartbeats 12800000
open Go.Lib renaming hid→h_
open Go renaming World→Sj,cell_of_row→Sk,heap_alloc_last→Sl,Value→Sm,bodyPost_ret→Sn
open List renaming getElem?_eq_some_iff→Sp,getElem?_eq_getElem→Sq,mem_of_getElem?→Sr,filter_eq_self→Ss,take_append_drop→St,getElem_of_mem→Su,filter_append→Sv,getElem?_map→Sw,eq_nil_of_length_eq_zero→Sx,length_map→Sy,drop_eq_getElem_cons→Sz,mem_map→SA,filter_eq_nil_iff→SB,set_append_right→SC,getElem_take→SD,flatMap_cons→SF,length_take→SG,length_cons→SH
open Go.RowKit renaming Below→SI
open Go.Value renaming int→SJ,string→SK,slice→SL
open Go.RowKit.Below renaming heap_setCell→SM,setCell→SN,refl→SO
open Go.World renaming frozen?→SQ,size_alloc→SR
open Nat renaming le_refl→SS,le_trans→SU,mul_le_mul_right→SV,succ_mul→SW
open Bool renaming false_ne_true→SX
namespace Go.Proofs.YtjebaagkomejaaaGreatDoor
open Go.RowKit
attribute [local go_sem ↓] Go.wp_at_zero Go.wp_at_succ
theorem iT (d:Doc)(w:Sj)(hd:d.lies w)(hf:d.fits):Calls Tryz.prog 26 #[.agg d.enc.toArray] w (kB d.c w):=by
 have rz:=h_ (fun(zs:List Ev) (z:Ev) (j:Nat) (h:zs[j]? =some z) (e:zs.map Ev.c=d.eV.map Ev.c)=>(show z.rows.length≤4000000∧∀ r∈z.rows,r.runs.length≤4000000 from by
  have h1:(d.eV.map Ev.c)[j]? =some z.c:=by rw [←e,Sw,h];rfl
  rw [Sw] at h1
  obtain⟨x,hx,Am⟩:=Option.map_eq_some_iff.1 h1
  have hfx:=hf.2.2.2.2.2.2.2.1 x (Sr hx)
  have hr:x.rows.map Row.runs=z.rows.map Row.runs:=congrArg EvC.rows Am
  have hl:=congrArg List.length hr
  simp only [Sy] at hl
  refine⟨by have:=hfx.2.2.2.2.2.2.2.2;omega,fun r hr'=>?_⟩
  have:r.runs∈x.rows.map Row.runs:=by rw [hr];exact SA.2 ⟨r,hr',rfl⟩
  obtain⟨r0,h0,he⟩:=SA.1 this
  rw [←he]
  exact(hfx.2.2.2.2.2.2.2.1 r0 h0).2.1))
 have M6:=h_ (fun(w1:Sj) (h:SI w.heap.size w w1)=>oK d.ra d.rc d.rG w1 (hd.1.later h) hf.2.2.2.2.2.2.1)
 have jc:=h_ (fun(w1:Sj) (h:SI w.heap.size w w1)=>oI d.ca d.cc d.cM w1 (hd.2.2.later h) hf.2.2.2.2.2.2.2.2.2.2)
 have wZ:=h_ (fun(w1:Sj) (h:SI w.heap.size w w1)=>oG d.ea d.ec d.eV w1 (hd.2.1.later h) hf.2.2.2.2.2.2.2.2.1)
 have tX:=h_ (fun(w1:Sj) (h:SI w.heap.size w w1)=>hd.2.1.later h)
 have HQ:=h_ (fun(d':Doc) (w':Sj) (h1:d'.c=d.c) (h2:d'.lies w') (h3:∀ b,d'.uses b→w.heap.size≤b) (h4:SI w.heap.size w w') (h5:Doc.apart d') h6 h7=>(show kB d.c w (.returned (.agg d'.enc.toArray)) w' from⟨d',rfl,h1,h2,h3,h4,h5,h6,h7⟩))
 have hel:=hf.2.2.2.2.2.2.2.2.1
 have bD:=h_ (fun(wc w5 wr w':Sj) (a1 a3:Option Addr) (c1 c3 g cap:Nat) hS1 nX hf1 hf3 hne hws hor hoc h45 hg hR hw' hb=>yI (d:=d) (w:=w) (wc:=wc) (w5:=w5) (wr:=wr) (w':=w') (a1:=a1) (a3:=a3) (c1:=c1) (c3:=c3) (g:=g) (cap:=cap) hS1 nX hf1 hf3 hne hws hor hoc h45 hg hR hw' hb)
 have fQ:=h_ (fun(wc w' w5:Sj) (a1 a2 a3:Option Addr) (c1 c2 c3:Nat) hS1 nX hf1 hf3 hne hor hoc hws hoe yV h0 hw' hb=>vA (w5:=w5) (d:=d) (w:=w) (wc:=wc) (w':=w') (a1:=a1) (a2:=a2) (a3:=a3) (c1:=c1) (c2:=c2) (c3:=c3) hS1 nX hf1 hf3 hne hor hoc hws hoe yV h0 hw' hb)
 generalize kB d.c w=Q at *
 obtain⟨title,lA,rate,drop,last,ra,rc,rG,ea,ec,eV,ca,cc,cM⟩:=d
 simp only [Doc.enc] at *
 clear hd hf
 generalize hds:#[SK title,.string lA,.int .u8 rate,.bool drop,.int .i64 last,.slice ra rG.length rc,.slice ea eV.length ec,.slice ca cM.length cc]=ds
 obtain⟨zd,hzd⟩:∃ zd:Array Sm,zd=#[.string ⟨#[]⟩,.string ⟨#[]⟩,.int .u8 0,.bool false,.int .i64 0,.slice none 0 0,.slice none 0 0,.slice none 0 0]:=⟨_,rfl⟩
 have f5:=bO w ds zd 27 27 5 (.slice ra rG.length rc) (by rw [←hds];rfl)
 have f6:=bO w ds zd 27 27 6 (.slice ea eV.length ec) (by rw [←hds];rfl)
 have f7:=bO w ds zd 27 27 7 (.slice ca cM.length cc) (by rw [←hds];rfl)
 have HB:=h_ (fun(w1:Sj) (h:SI (w.heap.size+2) ((w.alloc (.cells ds 27)).alloc (.cells zd 27)) w1)=>dU h)
 have hb0:SI (w.heap.size+2) ((w.alloc (.cells ds 27)).alloc (.cells zd 27)) ((w.alloc (.cells ds 27)).alloc (.cells zd 27)):=SO _ _
 have hsz:((w.alloc (.cells ds 27)).alloc (.cells zd 27)).heap.size=w.heap.size+2:=by simp
 have hk1:((w.alloc (.cells ds 27)).alloc (.cells zd 27)).heap[w.heap.size]? =some (.cells ds 27 (0,0)):=by
  rw [SI.heap_alloc _ _ _ (by simp)]
  exact Sl w _
 have hk2:((w.alloc (.cells ds 27)).alloc (.cells zd 27)).heap[w.heap.size+1]? =some (.cells zd 27 (0,0)):=by
  have:=Sl (w.alloc (.cells ds 27)) (.cells zd 27)
  rwa [SR] at this
 rw [hzd] at f5 f6 f7 HB hb0 hsz hk1 hk2
 clear hzd zd
 generalize hW0:(w.alloc (.cells ds 27)).alloc (.cells #[.string ⟨#[]⟩,.string ⟨#[]⟩,.int .u8 0,.bool false,.int .i64 0,.slice none 0 0,.slice none 0 0,.slice none 0 0] 27)=W0 at *
 have HW0:=h_ hW0
 have dI:=h_ hsz
 have IL:=h_ hk1
 have JA:=h_ hk2
 have Pu:=h_ hds
 have HT0:=h_ (fun(w2 w3:Sj) (h:SI (w.heap.size+2) W0 w2) (h3:SI w2.heap.size w2 w3)=>(h.trans (h3.mono (by have:=h.size;rw [dI.out] at this;exact this)):SI (w.heap.size+2) W0 w3))
 have wU:=h_ (fun(w2:Sj) (h:SI (w.heap.size+2) W0 w2)=>(show w.heap.size+2≤w2.heap.size by have:=h.size;rw [dI.out] at this;exact this))
 have hbd:SI (w.heap.size+2) W0 W0.drew:=hb0.drew
 have zf:∀ (w':Sj),SI (w.heap.size+2) W0 w'→∀ (j:Nat),w'.frozen? ⟨w.heap.size,j,none⟩=false:=fun w' h j=>by simp [SQ,(h.block w.heap.size (by omega)).trans IL.out]
 clear hW0 hsz hk1 hk2
 go_enter Tryz.func26,Tryz.ntmps26
 subst hds
 go_upto_region 1 with fail
 rw [HW0.out]
 go_cut [] (fun wx=>∃ a1 c1 a3 c3,wx.heap[w.heap.size]? =some (.cells #[SK title,.string lA,.int .u8 rate,.bool drop,.int .i64 last,.slice a1 rG.length c1,.slice ea eV.length ec,.slice a3 cM.length c3] 27 (0,0))∧wx.heap[w.heap.size+1]? =some (.cells #[.string ⟨#[]⟩,.string ⟨#[]⟩,.int .u8 0,.bool false,.int .i64 0,.slice none 0 0,.slice none 0 0,.slice none 0 0] 27 (0,0))∧ah 7 Reg.enc Flat wx a1 rG∧ah 8 Cm.enc Flat wx a3 cM∧(∀ ad,a1=some ad→w.heap.size+2≤ad.block)∧(∀ ad,a3=some ad→w.heap.size+2≤ad.block)∧(∀ x y,a1=some x→a3=some y→x.block≠y.block)∧wx.ownsRow (w.heap.size+2) 37 7 (.slice a1 rG.length c1) rG.length (rG.flatMap Reg.enc)∧wx.ownsRow (w.heap.size+2) 102 8 (.slice a3 cM.length c3) cM.length (cM.flatMap Cm.enc)∧SI w.heap.size w wx∧w.heap.size+2≤wx.heap.size)
 case first =>
  go_region_with (first
   | (go_at_call 68;refine(M6.out _ (HB.out _ hbd)).mono ?_;rintro e w1 ⟨v1,rfl,ho1,hb1⟩;have hc1:=HT0.out _ _ hbd hb1;obtain⟨a1,c1,rfl,hS1⟩:=aA (k:=7) (enc:=Reg.enc) (Ok:=Flat) (fun _=>rfl) ho1 (fun _ _=>trivial);have tW:=h_ (fun ad (e:a1=some ad)=>(ho1.lt ad.block (by rw [e];rfl)));have Bh:=h_ hS1;have BA:=h_ ho1;clear ho1 hb1 hS1)
   | (go_at_call 69;refine(jc.out _ (HB.out _ hc1)).mono ?_;rintro e w3 ⟨v3,rfl,ho3,hb3⟩;have hc3:=HT0.out _ _ hc1 hb3;obtain⟨a3,c3,rfl,nX⟩:=aA (k:=8) (enc:=Cm.enc) (Ok:=Flat) (fun _=>rfl) ho3 (fun _ _=>trivial);have IU:=h_ (fun ad (e:a3=some ad)=>(ho3.lt ad.block (by rw [e];rfl)).1);have nY:=h_ nX;have HB3:=h_ hb3;have Dv:=h_ ho3;clear ho3 hb3 nX))
  all_goals
   have hk3:=(hc3.block w.heap.size (by omega)).trans IL.out
   have hz3:=(hc3.block (w.heap.size+1) (by omega)).trans JA.out
   have hs0:=dI.out
   have IQ:=h_ (fun(ad:Addr) (e:a1=some ad)=>(show w.heap.size+2≤ad.block from by rw [←hs0];exact(tW.out ad e).1))
   have IP:=h_ (fun(ad:Addr) (e:a3=some ad)=>(show w.heap.size+2≤ad.block from by have:=IU.out ad e;have:=wU.out _ hc1;omega))
   clear f5 f6 f7 zf
   go_wp2_with fail
   go_meet
   refine⟨a1,c1,a3,c3,?_,?_,oV (ah.keeps Flat.keeps _ _ _ _ HB3.out Bh.out) (fun ad e=>by have:=IQ.out ad e;omega),oV nY.out (fun ad e=>by have:=IP.out ad e;omega),IQ.out,IP.out,(fun x y hx hy e=>by have h1:=(tW.out x hx).2;have h2:=IU.out y hy;omega),dG (aB (aI BA.out HB3.out) fun b q=>(by have h9:w.heap.size+2≤b:=by { rw [←hs0];exact(BA.out.lt b q).1 };rw [SM _ _ _ _ (by simp only;omega),SM _ _ _ _ (by simp only;omega)])) (by rw [←hs0];exact SS _),dG (aB Dv.out fun b q=>(by have:=(Dv.out.lt b q).1;have:=wU.out _ hc1;rw [SM _ _ _ _ (by simp only;omega),SM _ _ _ _ (by simp only;omega)])) (wU.out _ hc1),SN (SN (HB.out _ hc3) (by dsimp only;omega) _) (by dsimp only;omega) _,by have:=wU.out _ hc3;simpa using this⟩
   · exact heap_setCell_same _ _ _ _ _ _ (heap_setCell_same _ _ _ _ _ _ hk3)
   · rw [SM _ _ _ _ (by simp),SM _ _ _ _ (by simp)]
     exact hz3
 case rest =>
  obtain⟨a1,c1,a3,c3,hk1,hk2,hS1,nX,hf1,hf3,hne,hor,hoc,hbw,hws⟩:=hcut
  clear hb0 hbd f5 f6 f7 zf IL JA HT0 wU
  have c0:∀ (j:Nat),wc.cell? ⟨w.heap.size,j,none⟩=_:=fun j=>Sk _ _ j _ 27 (0,0) hk1
  have I_:=h_ (wZ.out _ hbw)
  have IL:=h_ hk1
  have JA:=h_ hk2
  have Bh:=h_ hS1
  have nY:=h_ nX
  have tW:=h_ hf1
  have IU:=h_ hf3
  have MM:=h_ hne
  have ML:=h_ hoc
  have Du:=h_ hor
  have bE:=h_ hbw
  clear hk1 hk2 hS1 nX hf1 hf3 hne hor hoc hbw wZ M6 jc
  go_wp2_with fail
  refine I_.out.mono ?_
  rintro e w4 ⟨v4,rfl,Aw,hb4⟩
  obtain⟨ae,ce,rfl⟩:∃ av cv,v4=.slice av eV.length cv:=by
   rcases Aw.2 with⟨rfl,h0⟩|⟨g,cap,_,rfl,_⟩
   · exact⟨none,0,by rw [h0]⟩
   · exact⟨_,_,rfl⟩
  have hk4:=(hb4.block w.heap.size (by omega)).trans IL.out
  have c4:∀ (j:Nat),w4.cell? ⟨w.heap.size,j,none⟩=_:=fun j=>Sk _ _ j _ 27 (0,0) hk4
  have z4:∀ (j:Nat),w4.frozen? ⟨w.heap.size,j,none⟩=false:=fun j=>by simp [SQ,hk4]
  obtain⟨w5,yV⟩:∃ w5,w5=w4.setCell ⟨w.heap.size,6,none⟩ (.slice ae eV.length ce):=⟨_,rfl⟩
  have OP:=h_ yV
  have hk5:w5.heap[w.heap.size]? =some (.cells #[SK title,.string lA,.int .u8 rate,.bool drop,.int .i64 last,.slice a1 rG.length c1,.slice ae eV.length ce,.slice a3 cM.length c3] 27 (0,0)):=yV▸heap_setCell_same _ _ _ _ _ _ hk4
  have LN:w5.heap[w.heap.size+1]? =some (.cells #[.string ⟨#[]⟩,.string ⟨#[]⟩,.int .u8 0,.bool false,.int .i64 0,.slice none 0 0,.slice none 0 0,.slice none 0 0] 27 (0,0)):=by
   rw [yV,SM _ _ _ _ (by simp),hb4.block _ (by omega)]
   exact JA.out
  have h45:wc.heap.size≤w5.heap.size∧∀ b,b<wc.heap.size→b≠w.heap.size→w5.heap[b]? =wc.heap[b]?:=by
   refine⟨by rw [yV];simpa using hb4.size,fun b h1 h2=>?_⟩
   rw [yV,SM _ _ _ _ (by simpa using h2),hb4.block b h1]
  have hb5:SI w.heap.size w w5:=by
   rw [yV]
   exact(bE.out.trans (hb4.mono bE.out.size)).setCell (by simp) _
  have c5:∀ (j:Nat),w5.cell? ⟨w.heap.size,j,none⟩=_:=fun j=>Sk _ _ j _ 27 (0,0) hk5
  have EM:w5.ownsRow wc.heap.size 72 7 (.slice ae eV.length ce) eV.length (eV.flatMap Ev.enc):=by
   rw [yV]
   refine Sj.ownsRow.kept Aw (row:=some w.heap.size) ⟨rfl,rfl,rfl,by simp,fun k _ hk=>SM _ _ _ _ (fun e=>hk (by simp [e]))⟩ (Classical.or_iff_not_imp_left.2 fun _ e=>?_)
   have:=(Aw.lt _ e).1
   omega
  have FH:=h_ h45
  have iG:=h_ hb5
  have OZ:=h_ hk5
  have FX:=h_ LN
  have hs5:=h45.1
  clear yV hk4 hb4 Aw h45 hb5 hk5 LN c0 I_
  go_wp2_with fail
  rw [←OP.out]
  have cz:∀ (w':Sj),w'.heap[w.heap.size+1]? =w5.heap[w.heap.size+1]?→∀ (j:Nat),w'.cell? ⟨w.heap.size+1,j,none⟩=_:=fun w' h j=>Sk _ _ j _ 27 (0,0) (h.trans FX.out)
  have zz:∀ (w':Sj),w'.heap[w.heap.size+1]? =w5.heap[w.heap.size+1]?→∀ (j:Nat),w'.frozen? ⟨w.heap.size+1,j,none⟩=false:=fun w' h j=>by simp [SQ,h.trans FX.out]
  by_cases he:eV.length=0
  · obtain rfl:=Sx he
    have cz5:=cz w5 rfl
    have zz5:=zz w5 rfl
    have F4:=h_ EM
    clear cz zz EM c4 z4
    simp only [List.length_nil] at *
    refine wp_loop_rounds 1 ?_
    rw [rounds_succ]
    go_wp2_with fail
    refine Sn (v:=.agg #[.string title,.string lA,.int .u8 rate,.bool drop,.int .i64 last,.slice a1 rG.length c1,.slice ae 0 ce,.slice a3 cM.length c3]) (by simp [results,Tryz.results26,go_sem,cz5]) rfl ?_
    refine fQ.out wc _ w5 a1 ae a3 c1 ce c3 Bh.out nY.out tW.out IU.out MM.out Du.out ML.out hws F4.out (fun b h1 h2=>by repeat rw [SM _ _ _ _ (by simp only;omega)]) (by first|rfl|trivial) ⟨?_,fun b h1 h2=>?_⟩ ?_
    · simpa using FH.out.1
    · repeat rw [SM _ _ _ _ (by simp only;omega)]
      exact FH.out.2 b h1 (by omega)
    · repeat refine SN ?_ (by simp only;omega) _
      exact iG.out
  · obtain⟨g,cp,LU⟩:=dD EM (by omega)
    simp only [SL.injEq,true_and] at LU
    obtain⟨rfl,rfl⟩:=LU
    have hgl:=EM.lt g rfl
    have hgw:=hgl.1
    have hg5:=hgl.2
    have It:=h_ (show pL wc.heap.size eV g ce 0 w5 w5 from⟨eV,rfl,rfl,⟨EM.1,EM.2.imp id (fun⟨g,cap,cur,q1,q2,q3⟩=>⟨g,cap,cur,q1,by omega,q3⟩)⟩,fun j z hz=>⟨gh (tX.out w5 iG.out) (Sr hz),fun b hu=>⟨by
     have:=Ev.uses_lt (gh (tX.out w (SO _ _)) (Sr hz)) hu
     omega,fun h=>by omega⟩,fun h=>by omega⟩,SS _,fun _ _ _=>rfl⟩)
    have O8:=h_ cz
    have OL:=h_ zz
    clear EM cz zz c4 z4 c5 hgl tX
    go_loopw [20] (fun i wr=>∃ k:Nat,k≤eV.length∧i=.int .i64 k∧pL wc.heap.size eV g ce k w5 wr∧SI w.heap.size w wr) (fun i _=>eV.length-(intOf i).toNat)
    case atStart=>exact⟨0,by omega,rfl,It.out,iG.out⟩
    case round =>
     clear It
     obtain⟨k,hk,rfl,hR,hbr⟩:=hrel
     have HRR:=h_ hR
     obtain⟨zs,z1,z2,z3,z4,z5,z6⟩:=hR
     have jt:=h_ hbr
     have hkr:=(z6 w.heap.size (by omega) (by omega)).trans OZ.out
     by_cases hlt:k<eV.length
     · have qu:zs[k]? =some zs[k]:=Sq (by omega)
       generalize zs[k]=z at qu
       have hgr:g<wr.heap.size:=(z3.lt g rfl).2
       have dd:∀ (j:Nat) (v:Sm),z.enc[j]? =some v→wr.cell? ⟨g,k*7+j,none⟩=some v:=fun j v hv=>by
        have hj:j<7:=(Sp.1 hv).1
        rw [z3.cellAt (k*7+j) (by omega)]
        exact cK Ev.enc 7 (fun _=>rfl) zs k z j v qu hv
       have hfz:=rz.out zs z k qu z2
       have hzl:=(z4 k z qu).1
       obtain⟨xe,hxe⟩:∃ xe,xe=z.enc.toArray:=⟨_,rfl⟩
       have dA:=h_ (fun(w1:Sj) (h:SI wr.heap.size wr w1)=>kh z w1 (Ev.keeps _ _ _ h hzl) hfz.2 hfz.1)
       have HST:=h_ (fun(w1 w2:Sj) (y:Ev) hb ff hyl hyu mY hw=>pL.step (w1:=w1) (w2:=w2) (y:=y) qu z1 z2 z3 z4 z5 z6 (by omega) hb ff hyl hyu mY hw)
       have IS:=h_ (fun(w1:Sj) (h:SI wr.heap.size wr w1) (j:Nat)=>(aI z3 h).frozenAt j)
       generalize z.c=zc at dA HST
       obtain⟨zid,zin,zout,zreg,zkind,zsp,za,zcp,zrows⟩:=z
       have d0:=dd 0 _ rfl;have d1:=dd 1 _ rfl;have d2:=dd 2 _ rfl;have d3:=dd 3 _ rfl;have d4:=dd 4 _ rfl;have d5:=dd 5 _ rfl;have d6:=dd 6 _ rfl
       simp only [Nat.add_zero] at d0
       simp only [Ev.enc] at dA
       clear dd qu hzl hfz z1 z2 z3 z4 z6 hxe xe hbr
       obtain⟨wa,GD⟩:∃ wa,wa=wr.alloc (.cells #[.int .i64 zid,.int .i64 zin,.int .i64 zout,.string zreg,.int .u8 zkind,.string zsp,.slice za zrows.length zcp] 72):=⟨_,rfl⟩
       have OO:=h_ GD
       have hra:SI wr.heap.size wr wa:=GD▸(SO _ _).alloc (SS _) _
       have hka:wa.heap[wr.heap.size]? =some (.cells #[.int .i64 zid,.int .i64 zin,.int .i64 zout,.string zreg,.int .u8 zkind,.string zsp,.slice za zrows.length zcp] 72 (0,0)):=GD▸Sl wr _
       have hla:wr.heap.size<wa.heap.size:=by rw [GD];simp
       have cr:=fun(j:Nat)=>Sk wr w.heap.size j _ 27 (0,0) hkr
       have ba:∀ (w':Sj),SI wa.heap.size wa w'→∀ (j:Nat),w'.cell? ⟨wr.heap.size,j,none⟩=_:=fun w' h j=>Sk _ _ j _ 72 (0,0) ((h.block _ hla).trans hka)
       have bd:∀ (w':Sj),SI wa.heap.size wa w'→∀ (j:Nat),w'.cell? ⟨w.heap.size,j,none⟩=_:=fun w' h j=>Sk _ _ j _ 27 (0,0) ((h.block w.heap.size (by omega)).trans ((hra.block w.heap.size (by omega)).trans hkr))
       have yO:=h_ hra
       have e0:=fun(w':Sj) (h:SI wa.heap.size wa w')=>(h.cell (p:=⟨g,k*7,none⟩) (by simp only;omega)).trans ((hra.cell (p:=⟨g,k*7,none⟩) hgr).trans d0)
       have e1:=fun(w':Sj) (h:SI wa.heap.size wa w')=>(h.cell (p:=⟨g,k*7+1,none⟩) (by simp only;omega)).trans ((hra.cell (p:=⟨g,k*7+1,none⟩) hgr).trans d1)
       have e2:=fun(w':Sj) (h:SI wa.heap.size wa w')=>(h.cell (p:=⟨g,k*7+2,none⟩) (by simp only;omega)).trans ((hra.cell (p:=⟨g,k*7+2,none⟩) hgr).trans d2)
       have e3:=fun(w':Sj) (h:SI wa.heap.size wa w')=>(h.cell (p:=⟨g,k*7+3,none⟩) (by simp only;omega)).trans ((hra.cell (p:=⟨g,k*7+3,none⟩) hgr).trans d3)
       have e4:=fun(w':Sj) (h:SI wa.heap.size wa w')=>(h.cell (p:=⟨g,k*7+4,none⟩) (by simp only;omega)).trans ((hra.cell (p:=⟨g,k*7+4,none⟩) hgr).trans d4)
       have e5:=fun(w':Sj) (h:SI wa.heap.size wa w')=>(h.cell (p:=⟨g,k*7+5,none⟩) (by simp only;omega)).trans ((hra.cell (p:=⟨g,k*7+5,none⟩) hgr).trans d5)
       have e6:=fun(w':Sj) (h:SI wa.heap.size wa w')=>(h.cell (p:=⟨g,k*7+6,none⟩) (by simp only;omega)).trans ((hra.cell (p:=⟨g,k*7+6,none⟩) hgr).trans d6)
       have ez:=fun(w':Sj) (h:SI wa.heap.size wa w') (j:Nat)=>IS.out w' (yO.out.trans (h.mono yO.out.size)) j
       have had:SI wa.heap.size wa wa.drew:=(SO _ _).drew
       clear GD hka hkr hra
       go_upto_region 6 with fail
       rw [←OO.out]
       clear d0 d1 d2 d3 d4 d5 d6 cr
       go_region_with (go_at_call 71;refine(dA.out _ (yO.out.trans (had.mono yO.out.size))).mono ?_;rintro e w1 ⟨y,rfl,ff,hyl,hyu,hyb,mY⟩;have hw1:SI wa.heap.size wa w1:=had.trans hyb;have HY:=h_ (And.intro ff (And.intro hyl (And.intro hyu mY)));clear ff hyl hyu hyb mY;obtain⟨yid,yin,yout,yreg,ykind,ysp,ya,ycp,yrows⟩:=y;simp only [Ev.enc])
       all_goals
        have hrw:=yO.out.trans (hw1.mono yO.out.size)
        have R:=h_ (HST.out w1 _ (⟨yid,yin,yout,yreg,ykind,ysp,ya,ycp,yrows⟩:Ev) hrw HY.out.1 HY.out.2.1 (fun b hu=>SU yO.out.size (HY.out.2.2.1 b hu)) HY.out.2.2.2 rfl)
        have HRW:=h_ hrw
        clear HY HST dA IS hrw
        go_wp2_with fail
        go_roundw
        case rel =>
         refine⟨k+1,by omega,by go_num,R.out,?_⟩
         repeat refine SN ?_ (by simp only;omega) _
         exact jt.out.trans (HRW.out.mono jt.out.size)
        all_goals first|(simp [intOf];done)|(simp [intOf];omega)
     · obtain rfl:k=eV.length:=by omega
       have JY:=z6 (w.heap.size+1) (by omega) (by omega)
       have czr:=O8.out wr JY
       have zzr:=OL.out wr JY
       have cr:=fun(j:Nat)=>Sk wr w.heap.size j _ 27 (0,0) hkr
       clear z1 z2 z3 z4 z6 hkr JY hbr
       go_wp2_with fail
       refine Sn (v:=.agg #[.string title,.string lA,.int .u8 rate,.bool drop,.int .i64 last,.slice a1 rG.length c1,.slice (some ⟨g,0,none⟩) eV.length ce,.slice a3 cM.length c3]) (by simp [results,Tryz.results26,go_sem,czr]) rfl ?_
       refine bD.out wc w5 wr _ a1 a3 c1 c3 g ce Bh.out nY.out tW.out IU.out MM.out hws Du.out ML.out FH.out hgw HRR.out ⟨?_,fun b hb=>?_⟩ ?_
       · simp
       · repeat rw [SM _ _ _ _ (by simpa using hb)]
       · repeat refine SN ?_ (by simp only;omega) _
         exact jt.out
theorem iU (d:Doc)(w:Sj)(hd:d.lies w)(hf:d.fits):Calls Tryz.prog 26 #[.agg d.enc.toArray] w (Dc d.c w) :=
 (iT d w hd hf).mono fun e w' ⟨d',h1,h2,h3,h4,h5,h6,h7,h8,h9,h10,h11,h12,_⟩=>⟨d',h1,h2,h3,h4,h5,h6,h7,h8,h9,h10,h11,h12⟩
theorem dx (d:Doc)(w:Sj)(hd:d.lies w)(hf:d.fits):Calls Tryz.prog 26 #[.agg d.enc.toArray] w (Dd d.c w) :=
 (iU d w hd hf).mono fun e w' ⟨d',h1,h2,h3,h4,h5,h6,h7,h8,h9,h10,_⟩=>⟨d',h1,h2,h3,h4,h5,h6,h7,h8,h9,h10⟩
theorem bJ (d:Doc)(w:Sj)(hd:d.lies w)(hf:d.fits):Calls Tryz.prog 26 #[.agg d.enc.toArray] w (De d.c w) :=
 (dx d w hd hf).mono fun e w' ⟨d',h1,h2,h3,h4,h5,h6,h7,h8,_⟩=>⟨d',h1,h2,h3,h4,h5,h6,h7,h8⟩
end Go.Proofs.YtjebaagkomejaaaGreatDoor
namespace Go.Proofs.YtjebaagkomejaaaGreatDoor
open Go.RowKit
theorem sz:∀ (l:List Int)(acc:Int),0≤acc→(∀ z∈l,z≤4000000)→mP l acc≤acc+4000000*l.length
 | [],acc,h,_=>by simp [mP]
 | n::l,acc,h,hz=>by
   unfold mP
   split
   · simp only [SH];omega
   · have:=sz l (acc+n) (by omega) fun z hq=>hz z (List.mem_cons_of_mem _ hq)
     have h2:=hz n List.mem_cons_self
     simp only [SH]
     omega
theorem CH {x:Ev} (h:x.fits):gC x.rows≤100000000000000:=by
 have h1:=mO x.rows h.2.2.2.2.2.2.2.1
 have h2:=sz (db x.rows) (max ((x.rows.length:Int)-1) 0) (by omega) h1
 have h3:(db x.rows).length=x.rows.length:=by simp [db]
 have h4:x.rows.length≤4000000:=h.2.2.2.2.2.2.2.2
 unfold gC
 rw [h3] at h2
 omega
theorem wG {d:Doc} (h0:a_ d=0)(hf:d.fits):∀ c∈d.cM,c.fits∧(c.lost=false→(-1000000000000000000≤c.frm∧c.frm≤1000000000000000000)∧(-1000000000000000000≤c.til∧c.til≤1000000000000000000)):=by
 intro c hc
 refine⟨hf.2.2.2.2.2.2.2.2.2.1 c hc,fun hl=>?_⟩
 have hp:=(kl h0).2.2.2.2
 unfold gU at hp
 split at hp
 · cases hp
 · have:=lE _ _ _ _ _ hp c hc
   unfold cw at this
   split at this
   · cases this
   · rw [hl,if_neg (by decide)] at this
     split at this
     · cases this
     · rename_i i hi
       split at this
       · cases this
       · rename_i hn
         have hb:gC ((d.eV[i]?.map Ev.rows).getD [])≤100000000000000:=by
          cases hq:d.eV[i]? with
          | none=>exact(by decide:gC []≤100000000000000)
          | some x=>exact CH (hf.2.2.2.2.2.2.2.1 x (Sr hq))
         omega
theorem jS {x:Ev} (h:x.fits):(ek (some x.c)).size≤20000000000000:=by
 have h1:=iK (n:=4000000) (x.rows.map Row.runs) (fun r hr=>by
  obtain⟨q,hq,rfl⟩:=SA.1 hr
  exact(h.2.2.2.2.2.2.2.1 q hq).2.2)
 rw [Sy] at h1
 have h2:=SV 4000001 h.2.2.2.2.2.2.2.2
 have h3:(ek (some x.c)).size=(dj (x.rows.map Row.runs)).length:=by
  show(dj (x.rows.map Row.runs)).toArray.size=_
  simp
 rw [h3]
 exact SU h1 (SU h2 (by decide))
def layL:List Sm→Nat→List Sm→List Sm
 | xs,_,[]=>xs
 | xs,o,v::r=>layL (xs.set o v) (o+1) r
theorem pn (a:List Sm):∀ (vs r:List Sm)(o:Nat),layL (a++r) (a.length+o) vs=a++layL r o vs
 | [],_,_=>rfl
 | v::l,r,o=>by
   rw [layL,layL,SC _ _ (by omega),Nat.add_sub_cancel_left,Nat.add_assoc]
   exact pn a l _ _
theorem sA:∀ (vs a p r:List Sm),a.length=vs.length→layL (p++(a++r)) p.length vs=p++(vs++r)
 | [],a,p,r,h=>by
   obtain rfl:=Sx h
   rfl
 | v::l,[],p,r,h=>by simp at h
 | v::l,x::a,p,r,h=>by
   have ih:=sA l a (p++[v]) r (by simpa using h)
   rw [layL,SC _ _ (SS _),Nat.sub_self]
   simp only [List.cons_append,List.set_cons_zero]
   simpa using ih
theorem tf {α:Type} {K:Nat} {enc:α→List Sm} (hk:∀ x,(enc x).length=K)(y:α):∀ (zs:List α)(k:Nat),k<zs.length→layL (zs.flatMap enc) (k*K) (enc y)=(zs.set k y).flatMap enc
 | [],k,h=>by simp at h
 | z::l,0,_=>by
   have:=sA (enc y) (enc z) [] (l.flatMap enc) (by rw [hk,hk])
   simpa using this
 | z::l,k+1,h=>by
   have ih:=tf hk y l k (by simpa using h)
   rw [List.set_cons_succ,SF,SF,←ih,←pn,hk,SW,Nat.add_comm]
theorem sr {T K B g cap n:Nat}:∀ (vs xs:List Sm)(o:Nat)(w:Sj),w.ownsRow B T K (.slice (some ⟨g,0,none⟩) n cap) n xs→(w.setCells g o vs).ownsRow B T K (.slice (some ⟨g,0,none⟩) n cap) n (layL xs o vs)
 | [],_,_,_,h=>h
 | v::l,xs,o,w,h=>sr l _ _ _ (h.stored o v).1
theorem uJ {α:Type} {K T B g cap n k:Nat} {enc:α→List Sm} (hk:∀ x,(enc x).length=K) {w:Sj} {zs:List α} (y:α)(h:w.ownsRow B T K (.slice (some ⟨g,0,none⟩) n cap) n (zs.flatMap enc))(hx:k<zs.length) :
 (w.setCells g (k*K) (enc y)).ownsRow B T K (.slice (some ⟨g,0,none⟩) n cap) n ((zs.set k y).flatMap enc):=by
 rw [←tf hk y zs k hx]
 exact sr _ _ _ _ h
theorem j8 {may:Nat→Prop} {a:Sj} {g:Nat} (hm:may g):∀ (vs:List Sm)(o:Nat)(w:Sj),Kept may a w→Kept may a (w.setCells g o vs)
 | [],_,_,h=>h
 | v::l,o,w,h=>j8 hm l _ _ (h.setCell (p:=⟨g,o,none⟩) (.inr hm) v)
theorem mi {α:Type} {K T B g cap n k:Nat} {enc:α→List Sm} (hk:∀ x,(enc x).length=K) {w:Sj} {zs:List α} (h:w.ownsRow B T K (.slice (some ⟨g,0,none⟩) n cap) n (zs.flatMap enc))(hn:zs.length=n)(hx:k<n):w.there g (k*K) K:=fun j hj=>by
 have h1:k*K+j<n*K:=by
  have:=SV K hx
  rw [SW] at this
  omega
 refine⟨?_,h.frozenAt _⟩
 rw [h.cellAt _ h1,Sq (by rw [←hn] at h1;have:=bz enc K hk zs;omega)]
 rfl
theorem lX (c:Cm)(s1 s2:ByteArray)(w:Sj)(hlo:c.lost=true):Calls Tryz.prog 129 #[.agg c.enc.toArray,.string s1,.string s2] w fun e w'=>e=.returned (.agg c.enc.toArray)∧SI w.heap.size w w':=by
 obtain⟨id,ev,frm,til,au,tx,dn,lo⟩:=c
 simp only at hlo
 subst hlo
 simp only [Cm.enc]
 go_enter Tryz.func129,Tryz.ntmps129
 go_wp2_with fail
 have er:∀ j,((w.alloc (.cells #[SJ .i64 id,.int .i64 ev,.int .i64 frm,.int .i64 til,.string au,.string tx,.bool dn,.bool true] 102)).alloc (.cells #[SJ .i64 id,.int .i64 ev,.int .i64 frm,.int .i64 til,.string au,.string tx,.bool dn,.bool true] 102)).cell? ⟨w.heap.size+1,j,none⟩=_:=fun j=>Sk _ _ j _ 102 (0,0) (by
  have:=Sl (w.alloc (.cells #[SJ .i64 id,.int .i64 ev,.int .i64 frm,.int .i64 til,.string au,.string tx,.bool dn,.bool true] 102)) (.cells #[SJ .i64 id,.int .i64 ev,.int .i64 frm,.int .i64 til,.string au,.string tx,.bool dn,.bool true] 102)
  rw [SR] at this
  exact this)
 refine Sn (v:=.agg #[SJ .i64 id,.int .i64 ev,.int .i64 frm,.int .i64 til,.string au,.string tx,.bool dn,.bool true]) (by simp [results,Tryz.results129,go_sem,er]) rfl ?_
 exact⟨rfl,((SO _ _).alloc (SS _) _).alloc (by simp) _⟩
def kH (o e:EvC)(c:Cm):Cm:=if c.ev=e.id then fZ c (ek (some o)) (ek (some e)) else c
theorem ny {α:Type} (y:α):∀ (l:List α)(k:Nat),k<l.length→(bI l k++[y]).Perm (l.set k y)
 | [],k,h=>by simp at h
 | a::l,0,_=>by
   show(l++[y]).Perm (y::l)
   exact List.perm_append_singleton y l
 | a::l,k+1,h=>by
   have ih:=ny y l k (by simpa using h)
   exact List.Perm.cons a ih
theorem zQ {d:DocC} (h:cErr d=0) {i:Nat} {o e:EvC} (ho:d.eV[i]? =some o)(hi:o.id=e.id):(d.eV.set i e).Pairwise fun x y=>x.id≠y.id:=by
 have h1:=xv (iy h).ids e.id (some e) (fun y hy=>by rw [←Option.some.inj hy])
 have h2:=nn (iy h).ids i o ho
 rw [hi] at h2
 rw [h2] at h1
 have hp:=ny e d.eV i (Sp.1 ho).1
 exact(hp.pairwise_iff (fun {a b} (q:a.id≠b.id)=>q.symm)).1 h1
theorem D_ {d:DocC} (h:cErr d=0) {i:Nat} {o e:EvC} (ho:d.eV[i]? =some o)(hi:o.id=e.id):oY d.eV e.id (some e)=de (d.eV.set i e):=by
 have h2:=nn (iy h).ids i o ho
 rw [hi] at h2
 have hp:=ny e d.eV i (Sp.1 ho).1
 unfold oY
 rw [h2]
 exact ke ((iw _).trans hp) (kf _) (zQ h ho hi)
theorem Gh {d:DocC} (h:cErr d=0) {i:Nat} {o e:EvC} (ho:d.eV[i]? =some o)(hf:aT d.eV e.id=some o)(he:bT d.rG e=0) :
 putC d e=(0,{ d with eV:=de (d.eV.set i e),cM:=d.cM.map (kH o e) }):=by
 have hi:o.id=e.id:=by
  have:=List.find?_some hf
  simpa [evAt] using this
 unfold putC
 rw [if_neg (fun q=>q h),hf]
 show(if bT d.rG e≠0 then _ else _)=_
 rw [if_neg (fun q=>q he),D_ h ho hi]
 rfl
theorem BU {d:DocC} (h:cErr d=0) {e:EvC} (hf:aT d.eV e.id=none):putC d e=(6,aU):=by
 unfold putC
 rw [if_neg (fun q=>q h),hf]
theorem Ea {d:DocC} (h:cErr d=0) {o e:EvC} (hf:aT d.eV e.id=some o)(he:bT d.rG e≠0):putC d e=(bT d.rG e,aU):=by
 unfold putC
 rw [if_neg (fun q=>q h),hf]
 show(if bT d.rG e≠0 then _ else _)=_
 rw [if_pos he]
theorem xC {l:List Reg} {nm:ByteArray} {k:Nat} (hs:l.Pairwise fun x y=>baLt x.name y.name)(hlo:∀ j r,j<k→l[j]? =some r→dM nm r=true)(hhi:∀ r,l[k]? =some r→dM nm r=false):l.filter (dM nm)=l.take k∧l.filter (fun r=>!(dM nm r))=l.drop k:=by
 have h1:∀ r∈l.take k,dM nm r=true:=by
  intro r hr
  obtain⟨j,hj,rfl⟩:=Su hr
  rw [SG] at hj
  exact hlo j _ (by omega) (by rw [SD,Sq])
 have h2:∀ r∈l.drop k,dM nm r=false:=by
  cases hk:l.drop k with
  | nil=>simp
  | cons a t =>
    have ha:l[k]? =some a:=by
     have:=congrArg (fun z:List Reg=>z[0]?) hk
     simpa using this
    have hp:=hs.sublist (List.drop_sublist k l)
    rw [hk] at hp
    intro r hr
    rcases List.mem_cons.1 hr with rfl|hr
    · exact hhi _ ha
    · exact(D6 nm a r ((List.pairwise_cons.1 hp).1 r hr) (hhi a ha)).1
 have e1:l.filter (dM nm)=(l.take k).filter (dM nm)++(l.drop k).filter (dM nm):=by rw [←Sv,St]
 have e2:l.filter (fun r=>!(dM nm r))=(l.take k).filter (fun r=>!(dM nm r))++(l.drop k).filter (fun r=>!(dM nm r)):=by rw [←Sv,St]
 constructor
 · rw [e1,Ss.2 h1,SB.2 (fun r hr=>by rw [h2 r hr];exact SX),List.append_nil]
 · rw [e2,SB.2 (fun r hr=>by rw [h1 r hr];exact SX),Ss.2 (fun r hr=>by rw [h2 r hr];rfl),List.nil_append]
theorem vY {l:List Reg} {nm:ByteArray} {k:Nat} (hs:l.Pairwise fun x y=>baLt x.name y.name)(hlo:∀ j r,j<k→l[j]? =some r→dM nm r=true)(hhi:∀ r,l[k]? =some r→dM nm r=false)(x:Reg):l.filter (dM nm)++x::l.filter (fun r=>!(dM nm r))=fc l k x:=by
 obtain⟨h1,h2⟩:=xC hs hlo hhi
 rw [h1,h2]
 unfold fc
 simp
theorem vX {l:List Reg} {nm:ByteArray} {i:Nat} {r:Reg} (hs:l.Pairwise fun x y=>baLt x.name y.name)(hi:l[i]? =some r)(hr:eD nm r=true):∀ j z,l[j]? =some z→j≠i→eD nm z=false:=by
 intro j z hz hne
 have hn:r.name=nm:=gV (by simpa [eD] using hr)
 have hii:=(Sp.1 hi)
 have hjj:=(Sp.1 hz)
 obtain⟨hil,rfl⟩:=hii
 obtain⟨hjl,rfl⟩:=hjj
 rw [List.pairwise_iff_getElem] at hs
 cases h:eD nm l[j] with
 | false=>rfl
 | true =>
   have hn2:l[j].name=nm:=gV (by simpa [eD] using h)
   exfalso
   rcases Nat.lt_or_gt_of_ne hne with hlt|hlt
   · have:=hs j i hjl hil hlt
     rw [hn,hn2] at this
     exact nH _ this
   · have:=hs i j hil hjl hlt
     rw [hn,hn2] at this
     exact nH _ this
theorem BP {l:List Reg} {nm:ByteArray} {i:Nat} {r:Reg} (hs:l.Pairwise fun x y=>baLt x.name y.name)(hi:l[i]? =some r)(hr:eD nm r=true)(x:Reg):l.map (fun z=>if eD nm z=true then x else z)=l.set i x:=by
 have h1:=vX hs hi hr
 have hil:=(Sp.1 hi).1
 apply List.ext_getElem?
 intro j
 rw [Sw,List.getElem?_set]
 by_cases e:i=j
 · subst e
   rw [if_pos rfl,if_pos hil,hi]
   show some (if eD nm r=true then x else r)=_
   rw [if_pos hr]
 · rw [if_neg e]
   cases hj:l[j]? with
   | none=>rfl
   | some z =>
     show some (if eD nm z=true then x else z)=_
     rw [if_neg (by rw [h1 j z hj (fun h=>e h.symm)];exact SX)]
theorem zO {l:List Reg} {nm:ByteArray} {i:Nat} {r:Reg} (hs:l.Pairwise fun x y=>baLt x.name y.name)(hi:l[i]? =some r)(hr:eD nm r=true):l.filter (fun z=>!(eD nm z))=bI l i:=by
 have h1:=vX hs hi hr
 obtain⟨hil,hrr⟩:=Sp.1 hi
 have e0:l=l.take i++r::l.drop (i+1):=by rw [←hrr,←Sz hil,St]
 have e1:l.filter (fun z=>!(eD nm z))=(l.take i++r::l.drop (i+1)).filter (fun z=>!(eD nm z)):=by rw [←e0]
 rw [e1,Sv,List.filter_cons,if_neg (by rw [hr];exact SX),Ss.2 (fun z hz=>?_),Ss.2 (fun z hz=>?_)]
 · rfl
 · obtain⟨j,hj,rfl⟩:=Su hz
   rw [List.length_drop] at hj
   rw [List.getElem_drop,h1 (i+1+j) _ (Sq (by omega)) (by omega)]
   rfl
 · obtain⟨j,hj,rfl⟩:=Su hz
   rw [SG] at hj
   rw [SD,h1 j _ (Sq (by omega)) (by omega)]
   rfl
def mz (x:EdC):ByteArray:=if x.op=14 then x.name else x.reg.name
theorem BQ (d:DocC)(x:EdC):fo d x=if x.op=12 then (if (eZ d.rG (mz x)).isSome=true then (7,aU) else if 16≤d.rG.length then (9,aU) else (0,{ d with rG:=d.rG.filter (dM (mz x))++x.reg::d.rG.filter fun r=>!(dM (mz x) r) }))
 else if (eZ d.rG (mz x)).isNone=true then (6,aU)
 else if x.op=13 then
  (match d.eV.find? (fun e=>bT (d.rG.map fun r=>if eD (mz x) r=true then x.reg else r) e != 0) with
   | some e=>(bT (d.rG.map fun r=>if eD (mz x) r=true then x.reg else r) e,aU)
   | none=>(0,{ d with rG:=d.rG.map fun r=>if eD (mz x) r=true then x.reg else r }))
 else if d.eV.any (fun e=>e.region.toList==(mz x).toList)=true then (17,aU)
 else (0,{ d with rG:=d.rG.filter fun r=>!(eD (mz x) r) }):=rfl
theorem qd {d:Doc} {n:Nat} {w5 w6 w9:Sj} {ys:List Reg} {a:Option Addr} {c:Nat} (hl:d.lies w5)(hu:∀ b,d.uses b→n≤b)(hap:∀ b,(SL d.ra d.rG.length d.rc).ownBlock=some b→¬ gi d.ea d.eV b∧¬ bp d.ca d.cM b)
 (hS:ah 7 Reg.enc Flat w6 a ys) (ha:∀ ad,a=some ad→n≤ad.block) (k6:Kept (fun b=>(SL d.ra d.rG.length d.rc).ownBlock=some b) w5 w6) (k9:Kept (fun b=>b<n) w6 w9) :
 ({ d with ra:=a,rc:=c,rG:=ys }:Doc).lies w9∧∀ b,({ d with ra:=a,rc:=c,rG:=ys }:Doc).uses b→n≤b:=by
 have s6:=k6.size
 have s9:=k9.size
 have hys:∀ b,bp a ys b→n≤b:=fun b h=>by
  obtain⟨_,ad,had,rfl⟩:=h
  exact ha ad had
 have qv:∀ b,({ d with ra:=a,rc:=c,rG:=ys }:Doc).uses b→n≤b:=fun b h=>by
  rcases h with h|h|h
  · exact hys b h
  · exact hu b (.inr (.inl h))
  · exact hu b (.inr (.inr h))
 refine⟨⟨?_,?_,?_⟩,qv⟩
 · show ah 7 Reg.enc Flat w9 a ys
   refine ah.frame hS (by omega) (fun b hb=>?_) (fun _ _ _=>trivial)
   have h1:=aP hS hb
   have h2:=hys b hb
   rw [k9.block b h1 (by omega)]
 · show dy w9 d.ea d.eV
   refine dy.frame hl.2.1 (by omega) fun b hb=>?_
   have h1:=ej hl.2.1 hb
   have h2:=hu b (.inr (.inl hb))
   rw [k9.block b (by omega) (by omega),k6.block b h1 (fun e=>(hap b e).1 hb)]
 · refine ah.frame hl.2.2 (by omega) (fun b hb=>?_) (fun _ _ _=>trivial)
   have h1:=aP hl.2.2 hb
   have h2:=hu b (.inr (.inr hb))
   rw [k9.block b (by omega) (by omega),k6.block b h1 (fun e=>(hap b e).2 hb)]
theorem Kept.of_grown {w w':Sj} {o:Option Nat} (h:w.grownBy w' o):Kept (fun b=>o=some b) w w':=⟨h.os,h.tape,h.output,h.size,fun k hk hn=>h.block k hk (fun e=>hn e.symm)⟩
def cd (rs:List Reg):List EvC→Int
 | []=>0
 | e::l=>if bT rs e≠0 then bT rs e else cd rs l
theorem ns (rs:List Reg)(d:DocC):∀ l:List EvC,(match l.find? (fun e=>bT rs e != 0) with
 | some e=>(bT rs e,aU)
 | none=>(0,d))=if cd rs l≠0 then (cd rs l,aU) else (0,d)
 | []=>rfl
 | e::l=>by
   rw [List.find?_cons,cd]
   by_cases h:bT rs e=0
   · rw [show(bT rs e != 0)=false by simp [h],if_neg (show ¬ bT rs e≠0 from fun k=>k h)]
     exact ns rs d l
   · rw [show(bT rs e != 0)=true by simpa using h,if_pos (show bT rs e≠0 from h)]
     simp only
     rw [if_pos h]
theorem AV (rs:List Reg)(l:List Ev)(k:Nat)(x:Ev)(h:l[k]? =some x):cd rs ((l.map Ev.c).drop k)=if bT rs x.c≠0 then bT rs x.c else cd rs ((l.map Ev.c).drop (k+1)):=by
 have hk:k<(l.map Ev.c).length:=by rw [Sy];exact(Sp.1 h).1
 rw [Sz hk,cd,List.getElem_map]
 have:l[k]'(by simpa using hk)=x:=(Sp.1 h).2
 rw [this]
theorem CJ (rs:List Reg)(x:Ev):fK x rs=bT rs x.c:=by
 unfold bT
 exact ji (EvC.rep_c x.c).symm rs
end Go.Proofs.YtjebaagkomejaaaGreatDoor
