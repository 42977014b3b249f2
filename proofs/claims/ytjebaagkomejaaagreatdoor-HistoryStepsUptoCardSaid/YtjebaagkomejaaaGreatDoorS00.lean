/- captionerlaw16.HistorySteps. captionerlaw16.HistorySteps. -/
import Derived.Great.BuildSlice
import Derived.Test.YtjebaagkomejaaaGreatDoorH39
set_option linter.unusedVariables false
set_option linter.unusedSimpArgs false
set_option maxRecDepth 100000
set_option maxHeartbeats 12800000
open Go.Lib renaming hid→h_
open List renaming setIfInBounds_toArray→YA,getElem_cons_zero→YB,getElem_cons_succ→YC,getElem_toArray→YD,set_cons_zero→YE,set_cons_succ→YF
open Array renaming toArray_toList→YG
open Go renaming wp_region_held_drew→Sh,World→Si,heap_alloc_last→Sj,wpList_store_row→Sk,wpAnyH_done→Sl,below_setRow→Sm,setRow_heap→Sn,yieldsIf_load_mid→Sp
open List renaming length_map→Sq,getElem?_eq_some_iff→Sr,getElem?_toArray→Ss
open Go.Value renaming int→St
open Go.RowKit renaming Below→Su
open Nat renaming le_refl→Sv
open Go.RowKit.Below renaming refl→Sw
open And renaming intro→Sx
namespace Go.Proofs.YtjebaagkomejaaaGreatDoor
open Go.RowKit
theorem ri {w:Si} {g:Nat} {x y:Ed} (h:w.heap[g]? =some (.cells (x.enc++y.enc).toArray 40 (0,0))):w.rangeAt g 0 x.enc∧w.rangeAt g 23 y.enc:=by
 have hlx:x.enc.length=23:=rfl
 refine⟨fun j v hv=>?_,fun j v hv=>?_⟩
 · have hj:j<23:=(Sr.1 hv).1
   rw [cell_of_row _ _ (0+j) _ 40 (0,0) h,Nat.zero_add]
   simp only [Ss]
   rw [List.getElem?_append_left (by omega)]
   exact hv
 · have hj:j<23:=(Sr.1 hv).1
   rw [cell_of_row _ _ (23+j) _ 40 (0,0) h]
   simp only [Ss]
   rw [List.getElem?_append_right (by omega),hlx,Nat.add_sub_cancel_left]
   exact hv
theorem Tryz.info40:(Tryz.prog.info? 40).map (fun i=>(i.zero,i.size,i.bytes))=some (some (.agg #[St .u8 0,.int .i64 0,.int .i64 0,.int .i64 0,.int .i64 0,.int .i64 0,.int .i64 0,.int .i64 0,.int .i64 0,.int .u8 0,.int .u8 0,.bool false,.bool false,.string ⟨#[]⟩,.string ⟨#[]⟩,.string ⟨#[]⟩,.int .i64 0,.int .i64 0,.int .i64 0,.int .i64 0,.int .u8 0,.bool false,.slice none 0 0]),23,192):=by kernel_rfl
theorem Ie (x:Ed):(x.enc.toArray.all (·.oneCell'))=true:=by simp [Ed.enc,Value.oneCell']
theorem lawSteps_calls (d:Doc)(x y:Ed)(w:Si)(hE:Env w)(hd:d.lies w)(hf:d.fits)(hxl:x.lies w)(xy:x.fits)(hyl:y.lies w)(tq:y.fits):Calls Tryz.prog 3 #[.agg d.enc.toArray,.agg x.enc.toArray,.agg y.enc.toArray] w fun e w'=>e=.returned (.bool true)∧Su w.heap.size w w':=by
 have HE:=h_ hE
 have HQ:=h_ (fun(w':Si) (h:Su w.heap.size w w')=>(show(fun(e:Ending) (w':Si)=>e=.returned (.bool true)∧Su w.heap.size w w') (.returned (.bool true)) w' from⟨rfl,h⟩))
 have FZ:=h_ (fun(w1:Si) (hb:Su w.heap.size w w1)=>mV d w1 (hE.below hb (Sv _)) (Doc.later hd hb) hf)
 have Lq:=h_ (show ∀ k,k<2→∃ z:Ed,z.lies w∧z.fits∧∀ (g:Nat) (wr:Si),wr.heap[g]? =some (.cells (x.enc++y.enc).toArray 40 (0,0))→wr.rangeAt g (k*23) z.enc from fun k hk=>by
  obtain rfl|rfl:k=0∨k=1:=by omega
  · exact⟨x,hxl,xy,fun g wr h=>(ri h).1⟩
  · exact⟨y,hyl,tq,fun g wr h=>(ri h).2⟩)
 generalize (fun(e:Ending) (w':Si)=>e=.returned (.bool true)∧Su w.heap.size w w')=Q at *
 have cQ:=h_ (box3 w d.enc.toArray x.enc.toArray y.enc.toArray 27 40 40)
 have hb3:∀ o1 o2 o3:Obj,Su w.heap.size w (((w.alloc o1).alloc o2).alloc o3):=fun o1 o2 o3=>(((Sw _ _).alloc (Sv _) _).alloc (by simp) _).alloc (by simp;try omega) _
 have db:∀ o1 o2 o3:Obj,w.heap.size+3≤(((w.alloc o1).alloc o2).alloc o3).heap.size:=fun o1 o2 o3=>by simp
 clear hE hd hf hxl xy hyl tq
 go_enter Tryz.func3,Tryz.ntmps3
 go_upto_region 1 with fail
 have h0:=cQ.out.1
 have h1:=cQ.out.2.1
 have h2:=cQ.out.2.2
 have hbw:=hb3 (.cells d.enc.toArray 27) (.cells x.enc.toArray 40) (.cells y.enc.toArray 40)
 have hsz:=db (.cells d.enc.toArray 27) (.cells x.enc.toArray 40) (.cells y.enc.toArray 40)
 clear cQ hb3 db
 generalize ((w.alloc (.cells d.enc.toArray 27)).alloc (.cells x.enc.toArray 40)).alloc (.cells y.enc.toArray 40)=W0 at *
 have H0:=h_ h0;have H1:=h_ h1;have H2:=h_ h2;have bA:=h_ hbw
 clear h0 h1 h2 hbw
 go_wp2_with fail
 refine(qi W0 (HE.out.below bA.out (Sv _))).mono ?_
 rintro e w1 ⟨rfl,hb1⟩
 have hs1:=hb1.size
 have aK:=bA.out.trans (hb1.mono (by omega))
 have hr1:=ai ((hb1.block (w.heap.size) (by omega)).trans H0.out)
 have X1:=h_ ((hb1.block (w.heap.size+1) (by omega)).trans H1.out)
 have Y1:=h_ ((hb1.block (w.heap.size+1+1) (by omega)).trans H2.out)
 have HB1:=h_ aK
 clear hb1 H0 H1 H2 bA aK
 go_wp2_with (refine aj 27 (.tmp 3) rfl (w.heap.size) 0 rfl d.enc _ hr1 Tryz.underlying27 rfl ag (by rfl) ?_)
 refine(FZ.out w1 HB1.out).mono ?_
 rintro e w2 ⟨hb2,⟨hx,rfl⟩|⟨_,b,h,rfl,H,xG,hown,_⟩⟩
 · have hne:(cErr d.c != 0)=true:=by simpa using hx
   have HF:=h_ (HQ.out w2 (HB1.out.trans (hb2.mono (by omega))))
   generalize cErr d.c=CE at *
   clear FZ Lq hr1 X1 Y1 HB1 hb2 HQ hx
   go_wp2_with fail
   first
    | exact HF.out
    | (go_ret;exact HF.out)
 · have hs2:=hb2.size
   have I2:=h_ (show HsIn w.heap.size w b h w2 from⟨H,fun k hk=>Nat.le_trans (by omega) (hown k hk),HB1.out.trans (hb2.mono (by omega))⟩)
   have hrx:=ai ((hb2.block (w.heap.size+1) (by omega)).trans X1.out)
   have Br:=ai ((hb2.block (w.heap.size+1+1) (by omega)).trans Y1.out)
   have HL2:=h_ (eM xG)
   clear FZ hr1 X1 Y1 HB1 hb2 H hown xG
   obtain⟨j0,hj,hy0,hy1,hy2⟩:=info_parts Tryz.info40
   have JI:=h_ hj;have J0:=h_ hy0;have J1:=h_ hy1
   clear hj hy0 hy1 hy2
   go_upto_region 7 with(first|(refine wpList_buildSlice rfl 46 40 2 _ rfl (x.enc++y.enc).toArray j0 _ Tryz.underlying46 JI.out J0.out (by rw [J1.out];decide) (by rw [J1.out];decide) (by rw [J1.out];kernel_rfl) ?_)|(refine aj 40 (.tmp 4) rfl (w.heap.size+1) 0 rfl x.enc _ hrx Tryz.underlying40 rfl cS (by rfl) ?_)|(refine aj 40 (.tmp 5) rfl (w.heap.size+1+1) 0 rfl y.enc _ Br Tryz.underlying40 rfl cS (by rfl) ?_))
   have hal:=Sj w2 (.cells (x.enc++y.enc).toArray 40)
   have hbl:Su w2.heap.size w2 (w2.alloc (.cells (x.enc++y.enc).toArray 40)):=(Sw _ _).alloc (Sv _) _
   have I3:=h_ (I2.out.later hbl (by omega))
   have hgo:∀ k,h.own b k→k≠w2.heap.size:=fun k hk e=>by have:=I2.out.1.lt hk;omega
   have hs3:w2.heap.size+1≤(w2.alloc (.cells (x.enc++y.enc).toArray 40)).heap.size:=by simp
   generalize w2.alloc (.cells (x.enc++y.enc).toArray 40)=w3 at *
   obtain⟨gz,hgz⟩:∃ g,g=w2.heap.size:=⟨_,rfl⟩
   rw [←hgz] at hal hgo ⊢
   have N3:w2.heap.size≤gz∧gz≤w2.heap.size:=by omega
   have Ko:h.undo.length=0:=HL2.out.1
   have GK:h.redo.length=0:=HL2.out.2
   have HST:=h_ (show HsIn w.heap.size w b h w3∧h.undo.length≤0∧h.redo.length=0∧w3.heap[gz]? =some (.cells (x.enc++y.enc).toArray 40 (0,0))∧(∀ k,h.own b k→k≠gz) from⟨I3.out,by omega,GK,hal,hgo⟩)
   clear I2 I3 hal hbl hgo Ko GK HL2 hrx Br hgz
   go_loopw [34] (fun v wr=>∃ (k:Nat) (h:Hs),k≤2∧v=.int .i64 k∧HsIn w.heap.size w b h wr∧h.undo.length≤k∧h.redo.length=0∧wr.heap[gz]? =some (.cells (x.enc++y.enc).toArray 40 (0,0))∧(∀ k,h.own b k→k≠gz)) (fun v _=>2-(intOf v).toNat)
   case atStart=>exact⟨0,h,by omega,rfl,HST.out⟩
   case round =>
    clear HST
    obtain⟨k,hh,hk,rfl,hI,Ma,hrl,Am,hgo⟩:=hrel
    have hk0:(0:Int)≤(k:Int):=by omega
    by_cases hlt:k<2
    · have NX:(k:Int)<2:=by omega
      obtain⟨z,Gu,FP,FO⟩:=Lq.out k hlt
      have hrz:=FO gz wr Am
      have hbase:w.heap.size+3≤wr.heap.size:=by have:=dW Am;omega
      have hzl:=Ed.later Gu hI.2.2
      have zA:=Sj wr (.cells #[St .u8 0,.int .i64 0,.int .i64 0,.int .i64 0,.int .i64 0,.int .i64 0,.int .i64 0,.int .i64 0,.int .i64 0,.int .u8 0,.int .u8 0,.bool false,.bool false,.string ⟨#[]⟩,.string ⟨#[]⟩,.string ⟨#[]⟩,.int .i64 0,.int .i64 0,.int .i64 0,.int .i64 0,.int .u8 0,.bool false,.slice none 0 0] 40)
      have gn:Su wr.heap.size wr (wr.alloc (.cells #[St .u8 0,.int .i64 0,.int .i64 0,.int .i64 0,.int .i64 0,.int .i64 0,.int .i64 0,.int .i64 0,.int .i64 0,.int .u8 0,.int .u8 0,.bool false,.bool false,.string ⟨#[]⟩,.string ⟨#[]⟩,.string ⟨#[]⟩,.int .i64 0,.int .i64 0,.int .i64 0,.int .i64 0,.int .u8 0,.bool false,.slice none 0 0] 40)):=(Sw _ _).alloc (Sv _) _
      have hone:=Ie z
      have hHI:=h_ hI
      have LM:=h_ Am
      have LN:=h_ hgo
      have Lo:=h_ hzl
      clear Gu FO hI Am hgo hzl
      go_upto_region 9 with(first|(refine aj 40 (.tmp 36) rfl gz (k*23) rfl z.enc _ hrz Tryz.underlying40 rfl cS (by rfl) ?_)|(refine Sk rfl 40 (.tmp 10) (.tmp 37) rfl wr.heap.size z.enc.toArray rfl rfl 40 _ zA cS rfl hone ?_))
      have z4:=Sn (wr.alloc (.cells #[St .u8 0,.int .i64 0,.int .i64 0,.int .i64 0,.int .i64 0,.int .i64 0,.int .i64 0,.int .i64 0,.int .i64 0,.int .u8 0,.int .u8 0,.bool false,.bool false,.string ⟨#[]⟩,.string ⟨#[]⟩,.string ⟨#[]⟩,.int .i64 0,.int .i64 0,.int .i64 0,.int .i64 0,.int .u8 0,.bool false,.slice none 0 0] 40)) wr.heap.size _ z.enc.toArray 40 (0,0) zA
      have hb4:Su wr.heap.size wr ((wr.alloc (.cells #[St .u8 0,.int .i64 0,.int .i64 0,.int .i64 0,.int .i64 0,.int .i64 0,.int .i64 0,.int .i64 0,.int .i64 0,.int .u8 0,.int .u8 0,.bool false,.bool false,.string ⟨#[]⟩,.string ⟨#[]⟩,.string ⟨#[]⟩,.int .i64 0,.int .i64 0,.int .i64 0,.int .i64 0,.int .u8 0,.bool false,.slice none 0 0] 40)).setRow wr.heap.size z.enc.toArray):=Sm gn (Sv _) _
      generalize (wr.alloc (.cells #[St .u8 0,.int .i64 0,.int .i64 0,.int .i64 0,.int .i64 0,.int .i64 0,.int .i64 0,.int .i64 0,.int .i64 0,.int .u8 0,.int .u8 0,.bool false,.bool false,.string ⟨#[]⟩,.string ⟨#[]⟩,.string ⟨#[]⟩,.int .i64 0,.int .i64 0,.int .i64 0,.int .i64 0,.int .u8 0,.bool false,.slice none 0 0] 40)).setRow wr.heap.size z.enc.toArray=w4 at *
      have hs4:=hb4.size
      have NG:=dW z4
      have I4:=h_ (hHI.out.later hb4 (by omega))
      have Z4:=h_ z4
      have DG:=h_ hb4
      clear zA gn hrz z4 hb4
      go_wp2_with fail
      refine(iz b hh w4 I4.out.1).mono ?_
      rintro e w5 ⟨D,rfl,bo,hDl,AA,bM,hb5⟩
      have hs5:=hb5.size
      have zB:=Sj w5 (.cells zeD 27)
      have Mr:Su w5.heap.size w5 (w5.alloc (.cells zeD 27)):=(Sw _ _).alloc (Sv _) _
      have HD:=h_ (Sx bo (Sx hDl (Sx AA bM)))
      have iL:=h_ hb5
      clear bo hDl AA bM hb5
      go_upto_region 10 with(refine Sk rfl 27 (.tmp 11) (.tmp 39) rfl w5.heap.size D.enc.toArray rfl rfl 27 _ zB ag rfl aO ?_)
      have z6:=Sn (w5.alloc (.cells zeD 27)) w5.heap.size _ D.enc.toArray 27 (0,0) zB
      have hb6:Su w5.heap.size w5 ((w5.alloc (.cells zeD 27)).setRow w5.heap.size D.enc.toArray):=Sm Mr (Sv _) _
      generalize (w5.alloc (.cells zeD 27)).setRow w5.heap.size D.enc.toArray=w6 at *
      have hs6:=dW z6
      have Cw:Su w4.heap.size w4 w6:=iL.out.trans (hb6.mono (by omega))
      have I6:=h_ (I4.out.later Cw (by omega))
      have x6:=(Cw.block wr.heap.size (by omega)).trans Z4.out
      have Z6:=h_ z6
      have X6:=h_ x6
      have Jq:=h_ Cw
      have Jo:=h_ hb6
      clear zB Mr z6 hb6 Cw x6
      go_wp2_with fail
      refine(fA b hh w6 I6.out.1).mono ?_
      rintro e w7 ⟨rfl,iP⟩
      have hs7:=iP.size
      have I7:=h_ (I6.out.later iP (by omega))
      have yF:=ai ((iP.block w5.heap.size (by omega)).trans Z6.out)
      have Mc:=ai ((iP.block wr.heap.size (by omega)).trans X6.out)
      have Fm:=h_ (fun(q:Nat) (hq:q<w6.heap.size)=>iP.block q hq)
      have Jp:=h_ (Jq.out.trans (iP.mono (by omega)))
      have E5:=Doc.later HD.out.2.1 (Jo.out.trans (iP.mono (by omega)))
      have FL:=h_ (DG.out.trans (Jp.out.mono (by omega)))
      have Gt:=Ed.later Lo.out FL.out
      have lZ:=nA D z w7 (HE.out.below I7.out.2.2 (Sv _)) E5 HD.out.2.2.1 Gt FP
      rw [HD.out.1] at lZ
      have Dc:=h_ (show doH hh.c z.c=if (bU hh.doc.c z.c).1=0 then (0,putH hh.c (bU hh.doc.c z.c).2) else ((bU hh.doc.c z.c).1,hh.c) from rfl)
      have LQ:=h_ (fun(A:Doc) (h0:(bU hh.doc.c z.c).1=0) (hA:A.c=(bU hh.doc.c z.c).2)=>sH (I7.out.1.docs hh.doc (by simp [Hs.docs])).2.1 FP h0 hA)
      generalize bU hh.doc.c z.c=R at *
      obtain⟨EE,AC⟩:=R
      simp only at Dc LQ
      have Jt:=h_ lZ
      have Jc:=h_ E5
      clear iP lZ Gt E5
      go_wp2_with (first|(refine aj 27 (.tmp 11) rfl w5.heap.size 0 rfl D.enc _ yF Tryz.underlying27 rfl ag (by rfl) ?_)|(refine aj 40 (.tmp 10) rfl wr.heap.size 0 rfl z.enc _ Mc Tryz.underlying40 rfl cS (by rfl) ?_))
      refine Jt.out.mono ?_
      rintro e w8 ⟨A,rfl,tt,cq,qn,gP⟩
      try simp only at tt
      have JC:=gP.size
      have zC:=Sj w8 (.cells zeD 27)
      have hbC:Su w8.heap.size w8 (w8.alloc (.cells zeD 27)):=(Sw _ _).alloc (Sv _) _
      have HA:=h_ (Sx tt (Sx cq qn))
      have Jn:=h_ gP
      clear tt cq qn gP Jt
      go_upto_region 12 with(refine Sk rfl 27 (.tmp 14) (.tmp 49) rfl w8.heap.size A.enc.toArray rfl rfl 27 _ zC ag rfl aO ?_)
      have z9:=Sn (w8.alloc (.cells zeD 27)) w8.heap.size _ A.enc.toArray 27 (0,0) zC
      have js:Su w8.heap.size w8 ((w8.alloc (.cells zeD 27)).setRow w8.heap.size A.enc.toArray):=Sm hbC (Sv _) _
      generalize (w8.alloc (.cells zeD 27)).setRow w8.heap.size A.enc.toArray=w9 at *
      have uD:=dW z9
      have xH:Su w7.heap.size w7 w9:=Jn.out.trans (js.mono (by omega))
      have EY:Su wr.heap.size wr w9:=FL.out.trans (xH.mono (by omega))
      have I9:=h_ (I7.out.later xH (by omega))
      have E8:=Doc.later HA.out.2.1 js
      have E4:=Doc.later Jc.out xH
      have Gs:=Ed.later Lo.out EY
      have d9:w9.heap[w5.heap.size]? =some (.cells D.enc.toArray 27 (0,0)):=by
       rw [xH.block w5.heap.size (by omega),Fm.out w5.heap.size hs6];exact Z6.out
      have e9:w9.heap[wr.heap.size]? =some (.cells z.enc.toArray 40 (0,0)):=by
       rw [xH.block wr.heap.size (by omega),Fm.out wr.heap.size (by omega)];exact X6.out
      have gz9:w9.heap[gz]? =some (.cells (x.enc++y.enc).toArray 40 (0,0)):=(EY.block gz (dW LM.out)).trans LM.out
      have Co:=ai e9
      have yK:=h_ (fun(q:Nat) (hq:hh.own b q)=>hHI.out.1.lt hq)
      have vn:=kO b hh z w9 (HE.out.below I9.out.2.2 (Sv _)) I9.out.1 Gs FP (by omega)
      rw [Dc.out] at vn
      have HK:=h_ (fun(h':Hs) (w':Si) (hk:Kept (hh.own b) w9 w')=>(show D.lies w'∧A.lies w'∧w'.heap[w5.heap.size]? =some (.cells D.enc.toArray 27 (0,0))∧w'.heap[w8.heap.size]? =some (.cells A.enc.toArray 27 (0,0))∧w'.heap[gz]? =some (.cells (x.enc++y.enc).toArray 40 (0,0)) from
       ⟨Doc.frame E4 hk.size fun q hq=>hk.block q (Doc.uses_lt E4 hq) fun ho=>(by have:=yK.out q ho;have:=HD.out.2.2.2 q hq;omega),
        Doc.frame E8 hk.size fun q hq=>hk.block q (Doc.uses_lt E8 hq) fun ho=>(by have:=yK.out q ho;have:=HA.out.2.2 q hq;omega),
        (hk.block _ (by omega) fun ho=>(by have:=yK.out _ ho;omega)).trans d9,
        (hk.block _ (by omega) fun ho=>(by have:=yK.out _ ho;omega)).trans z9,
        (hk.block _ (dW gz9) fun ho=>LN.out _ ho rfl).trans gz9⟩))
      have JU:=h_ (fun(h':Hs) (ho:∀ q,h'.own b q→hh.own b q∨w9.heap.size≤q)=>(show ∀ q,h'.own b q→q≠gz from fun q hq e=>by
       rcases ho q hq with h|h
       · exact LN.out q h e
       · have:=dW gz9;omega))
      have Jd:=h_ (Sx HD.out.1 HD.out.2.2.1)
      have Jw:=h_ HA.out.1
      clear zC hbC js xH EY E8 E4 Gs d9 e9 gz9 z9 yF Mc Lo LM DG HD iL Z6 X6 Jq Jo FL Jc HA Jn Jp I7 LN hHI Fm
      by_cases h0:EE=0
      · subst h0
        rw [if_pos rfl] at vn
        have nK:=h_ vn
        clear vn Dc
        go_wp2_with (refine aj 40 (.tmp 10) rfl wr.heap.size 0 rfl z.enc _ Co Tryz.underlying40 rfl cS (by rfl) ?_)
        refine nK.out.mono ?_
        rintro e w10 ⟨rfl,h',Hr,hc',ho',hk'⟩
        have GW:h'.undo.length=hh.undo.length+1:=by
         rw [(eM hc').1]
         show(if 16<(hh.undo.map Doc.c).length+1 then ((hh.undo.map Doc.c)++[hh.doc.c]).drop 1 else (hh.undo.map Doc.c)++[hh.doc.c]).length=_
         rw [if_neg (by rw [Sq];omega),List.length_append,Sq];rfl
        have G4:h'.redo.length=0:=(eM hc').2
        have ES:h'.doc.c=A.c:=by rw [Jw.out];exact congrArg HsC.doc hc'
        have AD:=LQ.out A (by first|rfl|trivial) Jw.out
        have Ck:=hk'.size
        have I10:HsIn w.heap.size w b h' w10:=⟨Hr,fun q hq=>(ho'.own q hq).elim (I9.out.2.1 q) fun h=>by omega,I9.out.2.2.trans (hk'.below (by omega) fun q hq ho=>by have:=I9.out.2.1 q ho;omega)⟩
        have F10:=HK.out h' w10 hk'
        have Bj:=h_ (JU.out h' ho'.own)
        have I10':=h_ I10
        have F10':=h_ F10
        clear nK Hr hc' ho' hk' I10 F10 HK JU I9 Co
        go_wp2_with fail
        refine(fA b h' w10 I10'.out.1).mono ?_
        rintro e w11 ⟨rfl,eZ⟩
        have Cj:=eZ.size
        have I11:=h_ (I10'.out.later eZ (by omega))
        have F11:=h_ (show D.lies w11∧A.lies w11∧w11.heap[w5.heap.size]? =some (.cells D.enc.toArray 27 (0,0))∧w11.heap[w8.heap.size]? =some (.cells A.enc.toArray 27 (0,0))∧w11.heap[gz]? =some (.cells (x.enc++y.enc).toArray 40 (0,0)) from
         ⟨Doc.later F10'.out.1 eZ,Doc.later F10'.out.2.1 eZ,(eZ.block _ (by omega)).trans F10'.out.2.2.1,(eZ.block _ (by omega)).trans F10'.out.2.2.2.1,(eZ.block _ (dW F10'.out.2.2.2.2)).trans F10'.out.2.2.2.2⟩)
        have GZ11:=h_ F11.out.2.2.2.2
        have yO:=h_ (fun(w':Si) (hb:Su w11.heap.size w11 w')=>iz b h' w' (I11.out.1.later hb))
        clear eZ I10' F10'
        have cQ:=h_ (fun(w':Si) (hb:Su w11.heap.size w11 w')=>ai ((hb.block w8.heap.size (by omega)).trans F11.out.2.2.2.1))
        have FV:=h_ (fun(D3:Doc) (w':Si) (hb:Su w11.heap.size w11 w') (hc3:D3.c=h'.doc.c) (hl3:D3.lies w') (hf3:D3.fits)=>(iZ D3 A w' hl3 (Doc.later F11.out.2.1 hb) hf3 AD).mono fun e w2 hp=>(show e=.returned (.bool true)∧Su w'.heap.size w' w2 from⟨by rw [hp.1,(kn D3 A).2 (hc3.trans ES)],hp.2⟩))
        have GV:((h'.undo.length:Nat):Int)=(hh.undo.length:Int)+1:=by omega
        have G3:((h'.redo.length:Nat):Int)=0:=by omega
        rw [GV,G3]
        clear GV G3
        generalize hh.undo.length=ul at *
        generalize hh.redo.length=rl at *
        have O6:IntKind.i64.wrap ((ul:Int)+1)=(ul:Int)+1:=by rw [IntKind.wrap_i64];omega
        have dA:Su w11.heap.size w11 w11.drew:=(Sw _ _).drew
        go_upto_region 16 with fail
        refine Sh (S:=fun w'=>Su w11.heap.size w11 w') (by kernel_rfl) dA (fun _=>?_)
        generalize w11.drew=v16 at *
        refine ab 0 (.int .i64 0) dA ?_
        refine ab 1 (.bool false) dA ?_
        refine ab 2 (.bool false) dA ?_
        refine aw 3 dA ?_
        refine aw 4 dA ?_
        refine aw 5 dA ?_
        refine aw 6 dA ?_
        refine aw 7 dA ?_
        refine aw 8 dA ?_
        refine aw 9 dA ?_
        refine aw 10 dA ?_
        refine aw 11 dA ?_
        refine aw 12 dA ?_
        refine aw 13 dA ?_
        refine aw 14 dA ?_
        refine aw 15 dA ?_
        refine aw 16 dA ?_
        refine aw 17 dA ?_
        refine ab 18 (.bool false) dA ?_
        refine Sl (by kernel_rfl) ?_ _
        have xA:=dA.size
        have Je:=h_ (fun(w':Si) (hb:Su v16.heap.size v16 w')=>yO.out w' (dA.trans (hb.mono xA)))
        have Jk:=h_ (fun(w':Si) (hb:Su v16.heap.size v16 w')=>cQ.out w' (dA.trans (hb.mono xA)))
        have It:=h_ (fun(D3:Doc) (w':Si) (hb:Su v16.heap.size v16 w')=>FV.out D3 w' (dA.trans (hb.mono xA)))
        clear yO cQ FV
        have yO:=Je
        have cQ:=Jk
        have FV:=It
        clear Je Jk It
        have dX:Su v16.heap.size v16 v16.drew:=(Sw _ _).drew
        go_upto_region 18 with fail
        refine Sh (S:=fun w'=>Su v16.heap.size v16 w') (by kernel_rfl) dX (fun _=>?_)
        generalize v16.drew=v18 at *
        refine ab 0 (.int .i64 0) dX ?_
        refine ab 1 (.bool true) dX ?_
        refine ab 2 (.bool true) dX ?_
        refine ab 3 (.pointer (some ⟨b,0,none⟩)) dX ?_
        refine ab 5 (.agg A.enc.toArray) dX ?_ (hy:=Sp (by rfl) 27 (.tmp 14) rfl w8.heap.size 0 rfl A.enc _ (fun w_ h_=>cQ.out w_ h_) Tryz.underlying27 rfl ag)
        refine aq 4 (fun K hK=>?_)
        go_simp
        refine(yO.out _ dX).mono ?_
        rintro e_ v181 ⟨D3,rfl,hc3,hl3,hf3,_,ar⟩
        have zY:Su v16.heap.size v16 v181:=ak dX ar
        clear ar
        go_wp2_with fail
        refine goOn hK zY ?_
        clear hK
        refine aq 6 (fun K hK=>?_)
        go_simp
        refine(FV.out D3 _ zY hc3 hl3 hf3).mono ?_
        rintro e_ v182 ⟨rfl,ar⟩
        have gk:Su v16.heap.size v16 v182:=ak zY ar
        clear ar
        go_wp2_with fail
        refine goOn hK gk ?_
        clear hK
        refine ab 7 (.bool false) gk ?_
        refine ab 8 (.bool false) gk ?_
        refine ab 9 (.int .i64 ((ul:Int)+1)) gk ?_
        refine ab 10 (.int .i64 ul) gk ?_
        refine ab 11 (.int .i64 ((ul:Int)+1)) gk ?_
        refine ab 12 (.bool false) gk ?_
        refine ab 13 (.bool false) gk ?_
        refine ab 14 (.bool false) gk ?_
        refine ab 15 (.int .i64 0) gk ?_
        refine ab 16 (.bool false) gk ?_
        refine ab 17 (.bool false) gk ?_
        refine ab 18 (.bool false) gk ?_
        refine Sl (by kernel_rfl) ?_ _
        have Cv:Su w11.heap.size w11 v182:=dA.trans ((gk).mono xA)
        have hsE:=Cv.size
        have R1:=h_ (I11.out.later Cv (by omega))
        have R2:=h_ ((Cv.block gz (by have:=dW GZ11.out;omega)).trans GZ11.out)
        clear Cv I11 GZ11
        go_wp2_with fail
        go_roundw
        case rel =>
         first
          | exact⟨k+1,h',by omega,by go_num,R1.out,by omega,by omega,R2.out,Bj.out⟩
          | (refine⟨_,_,_,_,_,_,_,_,_,_,_,_,_,_,_,_,_,_,_,_,_,_,_,_,_,_,_,_,_,_,?_,rfl⟩;exact⟨k+1,h',by omega,by go_num,R1.out,by omega,by omega,R2.out,Bj.out⟩)
        case measure=>simp [intOf];omega
      · rw [if_neg h0] at vn
        have nK:=h_ vn
        have hne:(EE != 0)=true:=by simpa using h0
        have hne2:(EE==0)=false:=by simpa using h0
        clear vn Dc LQ
        go_wp2_with (refine aj 40 (.tmp 10) rfl wr.heap.size 0 rfl z.enc _ Co Tryz.underlying40 rfl cS (by rfl) ?_)
        refine nK.out.mono ?_
        rintro e w10 ⟨rfl,h',Hr,hc',ho',hk'⟩
        have GW:h'.undo.length=hh.undo.length:=by
         rw [(eM hc').1];exact Sq ..
        have G4:h'.redo.length=hh.redo.length:=by
         rw [(eM hc').2];exact Sq ..
        have ES:h'.doc.c=D.c:=by rw [Jd.out.1];exact congrArg HsC.doc hc'
        have Ck:=hk'.size
        have I10:HsIn w.heap.size w b h' w10:=⟨Hr,fun q hq=>(ho'.own q hq).elim (I9.out.2.1 q) fun h=>by omega,I9.out.2.2.trans (hk'.below (by omega) fun q hq ho=>by have:=I9.out.2.1 q ho;omega)⟩
        have F10:=HK.out h' w10 hk'
        have Bj:=h_ (JU.out h' ho'.own)
        have I10':=h_ I10
        have F10':=h_ F10
        clear nK Hr hc' ho' hk' I10 F10 HK JU I9 Co
        go_wp2_with fail
        refine(fA b h' w10 I10'.out.1).mono ?_
        rintro e w11 ⟨rfl,eZ⟩
        have Cj:=eZ.size
        have I11:=h_ (I10'.out.later eZ (by omega))
        have F11:=h_ (show D.lies w11∧A.lies w11∧w11.heap[w5.heap.size]? =some (.cells D.enc.toArray 27 (0,0))∧w11.heap[w8.heap.size]? =some (.cells A.enc.toArray 27 (0,0))∧w11.heap[gz]? =some (.cells (x.enc++y.enc).toArray 40 (0,0)) from
         ⟨Doc.later F10'.out.1 eZ,Doc.later F10'.out.2.1 eZ,(eZ.block _ (by omega)).trans F10'.out.2.2.1,(eZ.block _ (by omega)).trans F10'.out.2.2.2.1,(eZ.block _ (dW F10'.out.2.2.2.2)).trans F10'.out.2.2.2.2⟩)
        have GZ11:=h_ F11.out.2.2.2.2
        have yO:=h_ (fun(w':Si) (hb:Su w11.heap.size w11 w')=>iz b h' w' (I11.out.1.later hb))
        clear eZ I10' F10'
        have cQ:=h_ (fun(w':Si) (hb:Su w11.heap.size w11 w')=>ai ((hb.block w5.heap.size (by omega)).trans F11.out.2.2.1))
        have FV:=h_ (fun(D3:Doc) (w':Si) (hb:Su w11.heap.size w11 w') (hc3:D3.c=h'.doc.c) (hl3:D3.lies w') (hf3:D3.fits)=>(iZ D3 D w' hl3 (Doc.later F11.out.1 hb) hf3 Jd.out.2).mono fun e w2 hp=>(show e=.returned (.bool true)∧Su w'.heap.size w' w2 from⟨by rw [hp.1,(kn D3 D).2 (hc3.trans ES)],hp.2⟩))
        rw [GW,G4]
        generalize hh.undo.length=ul at *
        generalize hh.redo.length=rl at *
        have dA:Su w11.heap.size w11 w11.drew:=(Sw _ _).drew
        go_upto_region 16 with fail
        refine Sh (S:=fun w'=>Su w11.heap.size w11 w') (by kernel_rfl) dA (fun _=>?_)
        generalize w11.drew=v16 at *
        refine ab 0 (.int .i64 EE) dA ?_
        refine ab 1 (.bool true) dA ?_
        refine ab 2 (.bool true) dA ?_
        refine ab 3 (.pointer (some ⟨b,0,none⟩)) dA ?_
        refine ab 5 (.agg D.enc.toArray) dA ?_ (hy:=Sp (by rfl) 27 (.tmp 11) rfl w5.heap.size 0 rfl D.enc _ (fun w_ h_=>cQ.out w_ h_) Tryz.underlying27 rfl ag)
        refine aq 4 (fun K hK=>?_)
        go_simp
        refine(yO.out _ dA).mono ?_
        rintro e_ v161 ⟨D3,rfl,hc3,hl3,hf3,_,ar⟩
        have zZ:Su w11.heap.size w11 v161:=ak dA ar
        clear ar
        go_wp2_with fail
        refine goOn hK zZ ?_
        clear hK
        refine aq 6 (fun K hK=>?_)
        go_simp
        refine(FV.out D3 _ zZ hc3 hl3 hf3).mono ?_
        rintro e_ v162 ⟨rfl,ar⟩
        have fQ:Su w11.heap.size w11 v162:=ak zZ ar
        clear ar
        go_wp2_with fail
        refine goOn hK fQ ?_
        clear hK
        refine ab 7 (.bool false) fQ ?_
        refine ab 8 (.bool false) fQ ?_
        refine ab 9 (.int .i64 ul) fQ ?_
        refine ab 10 (.int .i64 ul) fQ ?_
        refine ab 11 (.bool false) fQ ?_
        refine ab 12 (.bool false) fQ ?_
        refine ab 13 (.bool false) fQ ?_
        refine ab 14 (.int .i64 rl) fQ ?_
        refine ab 15 (.int .i64 rl) fQ ?_
        refine ab 16 (.bool false) fQ ?_
        refine ab 17 (.bool false) fQ ?_
        refine ab 18 (.bool false) fQ ?_
        refine Sl (by kernel_rfl) ?_ _
        have xA:=(fQ).size
        have dX:Su v162.heap.size v162 v162.drew:=(Sw _ _).drew
        go_upto_region 18 with fail
        refine Sh (S:=fun w'=>Su v162.heap.size v162 w') (by kernel_rfl) dX (fun _=>?_)
        generalize v162.drew=v18 at *
        refine ab 0 (.int .i64 EE) dX ?_
        refine ab 1 (.bool false) dX ?_
        refine ab 2 (.bool false) dX ?_
        refine aw 3 dX ?_
        refine aw 4 dX ?_
        refine aw 5 dX ?_
        refine aw 6 dX ?_
        refine aw 7 dX ?_
        refine aw 8 dX ?_
        refine aw 9 dX ?_
        refine aw 10 dX ?_
        refine aw 11 dX ?_
        refine aw 12 dX ?_
        refine aw 13 dX ?_
        refine aw 14 dX ?_
        refine aw 15 dX ?_
        refine aw 16 dX ?_
        refine aw 17 dX ?_
        refine ab 18 (.bool false) dX ?_
        refine Sl (by kernel_rfl) ?_ _
        have Cv:Su w11.heap.size w11 v18:=(fQ).trans ((dX).mono xA)
        have hsE:=Cv.size
        have R1:=h_ (I11.out.later Cv (by omega))
        have R2:=h_ ((Cv.block gz (by have:=dW GZ11.out;omega)).trans GZ11.out)
        clear Cv I11 GZ11
        go_wp2_with fail
        go_roundw
        case rel =>
         first
          | exact⟨k+1,h',by omega,by go_num,R1.out,by omega,by omega,R2.out,Bj.out⟩
          | (refine⟨_,_,_,_,_,_,_,_,_,_,_,_,_,_,_,_,_,_,_,_,_,_,_,_,_,_,_,_,_,_,?_,rfl⟩;exact⟨k+1,h',by omega,by go_num,R1.out,by omega,by omega,R2.out,Bj.out⟩)
        case measure=>simp [intOf];omega
    · obtain rfl:k=2:=by omega
      have HF:=h_ (HQ.out wr hI.2.2)
      clear Lq HQ hI Am hgo
      go_wp2_with fail
      first
       | exact HF.out
       | (go_ret;exact HF.out)
end Go.Proofs.YtjebaagkomejaaaGreatDoor
