/- The law MergeKeeps: the rounds of its loops. The law MergeKeeps: the round of its second loop. The chapter's example of a merge: two merges of documents with one event, and what they give. -/
import Derived.Test.YtnlnmbcaongehaaGreatDoorN25
set_option linter.unusedVariables false
set_option linter.unusedSimpArgs false
set_option maxRecDepth 100000
set_option maxHeartbeats 12800000
open Go.Lib renaming hid→h_
open List renaming setIfInBounds_toArray→SG,getElem_cons_zero→SH,getElem_cons_succ→SI,getElem_toArray→SJ,set_cons_zero→SK,set_cons_succ→SL
open Array renaming toArray_toList→SQ
open Go renaming heap_alloc_last→Su,World→Sv,wp_store_row→Sw,below_setRow→Sx,wpAnyH_done→Sy,setRow_heap→Sz,cell_of_row→SA,Value→SB,wp_region_held_drew→SC,yieldsIf_load_mid→SD,wpList_store_row→SE,wpList_load_mid→SF
open Go.Proofs.Tryz renaming prog→SM,underlying27→SN,f8→SO
open Go.RowKit renaming Below→SR
open Go.RowKit.Below renaming refl→SS,heap_alloc→SU
open Array renaming getElem?_eq_some_iff→SV
open Option.some renaming inj→SW
open List renaming mem_singleton→SX,getElem?_eq_some_iff→SY,size_toArray→SZ
open Nat renaming le_refl→S5,le_of_eq→S6,ne_of_lt→S7
open Go.Value renaming string→S8,int→S9
namespace Go.Proofs.YtnlnmbcaongehaaGreatDoor
open Go.RowKit
theorem eR {P:Program} {ops:Array Oper} {rest:List Oper} {op:Oper} {a:Act} {w:Sv} {Q:Exit→Act→Sv→Prop} {ty:TypeId} (x:Operand)(ho:op.op=.load ty x)
 (b o:Nat) (hx:a.eval x=.pointer (some ⟨b,o,none⟩)) (cs:List SB) (d:TypeDesc) (hc:w.rangeAt b o cs) (hu:P.underlying ty=some d) (hd:d.isRow=true) (hi:(P.info? ty).map (·.size)=some cs.length) (hw:Region.wanted op (yielded ops a.tmps)=true)
 (h:wpList P ops Q rest (a.put op.dst (.agg cs.toArray)) w):wpList P ops Q (op::rest) a w :=
 BigFrame.wpList_want hw fun _ hK=>wp_load_mid ty x ho b o hx cs d hc hu hd hi (hK _ _ h)
def iH (x z:DocC)(id:Int):Bool:=match aj x.eV id,aj z.eV id with
 | some p,some q=>ob p q
 | _,_=>false
theorem D8 {x z:DocC} {id:Int} (h:iH x z id=true):∃ e,aj x.eV id=some e∧aj z.eV id=some e:=by
 unfold iH at h
 cases h1:aj x.eV id with
 | none=>rw [h1] at h;cases h
 | some p =>
   cases h2:aj z.eV id with
   | none=>rw [h1,h2] at h;cases h
   | some q =>
     rw [h1,h2] at h
     exact⟨p,rfl,by rw [wZ h]⟩
theorem yT:(SM.info? 54).map (·.size)=some 59:=by kernel_rfl
theorem Km {l:List SB} (h:∀ v∈l,v.oneCell'=true):l.toArray.all (·.oneCell')=true:=Array.all_eq_true_iff_forall_mem.2 fun v hv=>h v (by simpa using hv)
theorem Oj (x y z d:Doc)(G D:Nat)(pa:Option Addr)(cls:List Cl)(w0:Sv)(hk:KpW x y z d G D pa cls w0)(fx:x.fits)(fy:y.fits)(fz:z.fits)(fd:d.fits)(id:Int):JJ w0 (.pointer (some ⟨G,0,none⟩)) (.int .i64 (posOf (iI id) x.eV)) (.int .i64 (posOf (iI id) z.eV)) (.bool (iH x.c z.c id)):=by
 rcases lI x id with⟨p1,q1⟩|⟨i,e1,p1,g1,q1⟩
 · have ht:iH x.c z.c id=false:=by unfold iH;rw [q1]
   rw [ht,p1]
   exact LV x y z d G D pa cls w0 hk fx fy fz fd _
 · rcases lI z id with⟨p2,q2⟩|⟨k,e2,p2,g2,q2⟩
   · have ht:iH x.c z.c id=false:=by unfold iH;rw [q1,q2]
     rw [ht,p1,p2]
     exact LU x y z d G D pa cls w0 hk fx fy fz fd i
   · have ht:iH x.c z.c id=evEq e1 e2:=by unfold iH;rw [q1,q2];exact(lT e1 e2).symm
     rw [ht,p1,p2]
     exact LR x y z d G D pa cls w0 hk fx fy fz fd i k e1 e2 g1 g2
theorem CT (x y z d:Doc)(G D:Nat)(pa:Option Addr)(cls:List Cl)(w0:Sv)(hk:KpW x y z d G D pa cls w0)(fx:x.fits)(fy:y.fits)(fz:z.fits)(fd:d.fits)(c:Chg)(C:Nat)(hc:w0.heap[C]? =some (.cells c.enc.toArray 54 (0,0)))(fc:c.ne.fits)(lc:c.ne.lies w0)(hp:(c.gone=true∧aj d.c.eV c.id=none)∨(c.gone=false∧aj d.c.eV c.id=some c.ne.c))(Q:Exit→Act→Sv→Prop)(hP:∀ ch a a' w,a'.defers=a.defers→Q (.panic ch) a w→Q (.panic ch) a' w) {s0 s1 s2 s4 s5 s6 s7 s8 s10 s11 s12 s13 xF s15 s16 kF ze uO s20 xP sK rP s24 qJ qI qj qi pW ou n_ ll nW nV nU nT nS nR nQ nP nO mX s43 s44 mW mV mK mH s49 mG mg mf s53 lG sM lF qW qV rO rH rF rE qX vN xE tF wW s68 xO kG wV s72 wU wT vZ vY vX vW vV vU vT s82 s83 vS vR vQ s87 vP vO vM vL vK vI vH uT uS uR uQ uP bF bY bX bW bV bU dh df jh iY iN iw j6 jZ jY jX jW jV jU jT jS jR jQ jP jO jN jM jL jD jC jB jA jy bT bS bR jw bQ jv bP cZ cO iq ik ig gT gP gN gM gL gK gJ gI gH gG gF gD gu gq gp f_ fV fQ fD fB eH eG eF eD eB eu ek ed dW dV dU dS dR dQ dP dN dM dL dK dJ dI cK cB cu b_ dH dF dE dD dC dB dA dz dx dw dm di bO bN bM ji:SB}
 (hfin:∀ ⦃RO JP JO JN JM Eb DC Dz Dy Dx Dw Dv u119 Du Dt Dr Dq u124 Dp CZ u127 Cx Cw Cv u131 JL:SB⦄ (wx:Sv),SR w0.heap.size w0 wx→Q .normal { tmps:=#[s0,s1,s2,.pointer (some ⟨D,0,none⟩),s4,s5,s6,s7,s8,.pointer (some ⟨C,0,none⟩),s10,s11,s12,RO,xF,s15,s16,kF,ze,uO,s20,xP,sK,rP,s24,qJ,qI,qj,qi,pW,ou,n_,ll,nW,nV,nU,nT,nS,nR,nQ,nP,nO,mX,s43,s44,mW,mV,mK,mH,s49,mG,mg,mf,s53,lG,sM,lF,qW,qV,rO,rH,rF,rE,qX,vN,xE,tF,wW,s68,xO,kG,wV,s72,wU,wT,vZ,vY,vX,vW,vV,vU,vT,s82,s83,vS,vR,vQ,s87,vP,vO,vM,vL,vK,vI,vH,uT,uS,uR,uQ,uP,bF,bY,bX,bW,bV,bU,dh,df,JP,JO,JN,JM,Eb,DC,Dz,Dy,Dx,Dw,Dv,u119,Du,Dt,Dr,Dq,u124,Dp,CZ,u127,Cx,Cw,Cv,u131,JL,bT,bS,bR,jw,bQ,jv,bP,cZ,cO,iq,ik,ig,gT,gP,gN,gM,gL,gK,gJ,gI,gH,gG,gF,gD,gu,gq,gp,f_,fV,fQ,fD,fB,eH,eG,eF,eD,eB,eu,ek,ed,dW,dV,dU,dS,dR,dQ,dP,dN,dM,dL,dK,dJ,dI,cK,cB,cu,b_,dH,dF,dE,dD,dC,dB,dA,dz,dx,dw,dm,di,bO,bN,bM,ji],defers:=[] } wx) :
 Code.wp SM ((lD 15 (SO.body.getD .skip)).getD .skip) Q { tmps:=#[s0,s1,s2,.pointer (some ⟨D,0,none⟩),s4,s5,s6,s7,s8,.pointer (some ⟨C,0,none⟩),s10,s11,s12,s13,xF,s15,s16,kF,ze,uO,s20,xP,sK,rP,s24,qJ,qI,qj,qi,pW,ou,n_,ll,nW,nV,nU,nT,nS,nR,nQ,nP,nO,mX,s43,s44,mW,mV,mK,mH,s49,mG,mg,mf,s53,lG,sM,lF,qW,qV,rO,rH,rF,rE,qX,vN,xE,tF,wW,s68,xO,kG,wV,s72,wU,wT,vZ,vY,vX,vW,vV,vU,vT,s82,s83,vS,vR,vQ,s87,vP,vO,vM,vL,vK,vI,vH,uT,uS,uR,uQ,uP,bF,bY,bX,bW,bV,bU,dh,df,jh,iY,iN,iw,j6,jZ,jY,jX,jW,jV,jU,jT,jS,jR,jQ,jP,jO,jN,jM,jL,jD,jC,jB,jA,jy,bT,bS,bR,jw,bQ,jv,bP,cZ,cO,iq,ik,ig,gT,gP,gN,gM,gL,gK,gJ,gI,gH,gG,gF,gD,gu,gq,gp,f_,fV,fQ,fD,fB,eH,eG,eF,eD,eB,eu,ek,ed,dW,dV,dU,dS,dR,dQ,dP,dN,dM,dL,dK,dJ,dI,cK,cB,cu,b_,dH,dF,dE,dD,dC,dB,dA,dz,dx,dw,dm,di,bO,bN,bM,ji],defers:=[] } w0:=by
 have aA:=h_ hfin
 have Bc:=h_ hP
 have HC:=h_ hc
 have Mw:=h_ hp
 have Gr:=h_ (fun(w1:Sv) (q:SR w0.heap.size w0 w1)=>fC d c.id w1 (hk.later q).ld.2.1 fd.2.2.2.2.2.2.2.2.1)
 have HK:=h_ hk
 have HL:=h_ lc
 have c1:w0.cell? ⟨C,1,none⟩=some (.int .i64 c.id):=(SA _ _ 1 _ 54 (0,0) hc).trans rfl
 clear hfin hP hc hp hk lc
 conv=>arg 2;whnf
 go_wp2_with (refine eR (.tmp 3) rfl D 0 rfl d.enc _ HK.out.rd SN rfl aQ (by rfl) ?_)
 refine(Gr.out _ (SS _ _)).mono ?_
 rintro e w1 ⟨rfl,hb1⟩
 have hk1:=HK.out.later hb1
 have hc1:=(hb1.block _ (SV.1 HC.out).1).trans HC.out
 have hl1:=Ev.keeps _ _ _ hb1 HL.out
 have HB1:=h_ hb1
 clear hb1 c1 Gr
 go_upto_region 16 with fail
 rcases Mw.out with⟨hg,hn⟩|⟨hg,hn⟩
 · rcases lI d c.id with⟨p1,q1⟩|⟨i,e1,p1,g1,q1⟩
   · rw [p1]
     refine LQ x y z d G D pa cls w1 hk1 fx fy fz fd c C hc1 hg (fun ch a a' w hd h=>by exact Bc.out ch a a' w hd h) ?_
     intros;rename_i wx hbx
     have zu:=h_ (HB1.out.trans (hbx.mono HB1.out.size))
     clear hbx
     go_wp2_with fail
     exact aA.out _ zu.out
   · rw [hn] at q1
     cases q1
 · rcases lI d c.id with⟨p1,q1⟩|⟨i,e1,p1,g1,q1⟩
   · rw [hn] at q1
     cases q1
   · rw [p1]
     rw [hn] at q1
     have he:evEq e1 c.ne=true:=by
      rw [lT]
      have:c.ne.c=e1.c:=SW q1
      rw [this]
      exact nF _
     have HE:=h_ he
     refine LP x y z d G D pa cls w1 hk1 fx fy fz fd c C hc1 hg fc hl1 i e1 g1 (fun ch a a' w hd h=>by exact Bc.out ch a a' w hd h) ?_
     intros;rename_i wx hbx
     rw [HE.out]
     have zu:=h_ (HB1.out.trans (hbx.mono HB1.out.size))
     clear hbx
     go_wp2_with fail
     exact aA.out _ zu.out
theorem F4 (x y z d:Doc)(G D:Nat)(pa:Option Addr)(cls:List Cl)(w0:Sv)(hk:KpW x y z d G D pa cls w0)(fx:x.fits)(fy:y.fits)(fz:z.fits)(fd:d.fits)(cc:Nat)(hcl:cls.length≤9223372036854775807)(hcc:cls.length≤cc∨cls=[])(xs:List Chg)(ca:Option Addr)(cn:Nat)(hxs:NG w0 ca xs)(k:Nat)(c:Chg)(hck:xs[k]? =some c)(hcn:xs.length≤9223372036854775807)(fc:c.ne.fits)
 (hp:c.sec=3→(c.added=true∨iH x.c z.c c.id=true)→aO cls c.id=false→(c.gone=true∧aj d.c.eV c.id=none)∨(c.gone=false∧aj d.c.eV c.id=some c.ne.c)) (Q:Exit→Act→Sv→Prop) (hP:∀ ch a a' w,a'.defers=a.defers→Q (.panic ch) a w→Q (.panic ch) a' w) {s0 s2 s5 s6 s7 s8 s9 s10 s11 s12 s13 xF s15 s16 kF ze uO s20 xP sK rP s24 qJ qI qj qi pW ou n_ ll nW nV nU nT nS nR nQ nP nO mX s43 s44 mW mV mK mH s49 mG mg mf lG lF qW qV rO rH rF rE qX vN xE tF wW s68 xO kG wV s72 wU wT vZ vY vX vW vV vU vT s82 s83 vS vR vQ s87 vP vO vM vL vK vI vH uT uS uR uQ uP bF bY bX bW bV bU dh df jh iY iN iw j6 jZ jY jX jW jV jU jT jS jR jQ jP jO jN jM jL jD jC jB jA jy bT bS bR jw bQ jv bP cZ cO iq ik ig gT gP gN gM gL gK gJ gI gH gG gF gD gu gq gp f_ fV fQ fD fB eH eG eF eD eB eu ek ed dW dV dU dS dR dQ dP dN dM dL dK dJ dI cK cB cu b_ dH dF dE dD dC dB dA dz dx dw dm di bO bN bM ji:SB}
 (hfin:∀ X,X=.normal∨X=.exit 1→∀ ⦃u9 u10 u11 u12 RO u57 u58 u59 u60 RN RL u63 u64 RJ u66 RI u68 u69 u70 OW u72 u73 OV u75 OU OT OQ OP OO OM OL OJ PW PV PU PT PS PR u90 u91 u92 u93 u94 u95 u96 u97 u98 u99 Qd Qc Qb Qa P_ u105 Lb La JP JO JN JM Eb DC Dz Dy Dx Dw Dv u119 Du Dt Dr Dq u124 Dp CZ u127 Cx Cw Cv u131 JL:SB⦄ (wx:Sv),SR w0.heap.size w0 wx→Q X { tmps:=#[s0,.pointer (some ⟨G,0,none⟩),s2,.pointer (some ⟨D,0,none⟩),.slice pa cls.length cc,s5,s6,s7,s8,u9,u10,u11,u12,RO,xF,s15,s16,kF,ze,uO,s20,xP,sK,rP,s24,qJ,qI,qj,qi,pW,ou,n_,ll,nW,nV,nU,nT,nS,nR,nQ,nP,nO,mX,s43,s44,mW,mV,mK,mH,s49,mG,mg,mf,.slice ca xs.length cn,lG,.int .i64 (k:Int),lF,u57,u58,u59,u60,RN,RL,u63,u64,RJ,u66,RI,u68,u69,u70,OW,u72,u73,OV,u75,OU,OT,OQ,OP,OO,OM,OL,OJ,PW,PV,PU,PT,PS,PR,u90,u91,u92,u93,u94,u95,u96,u97,u98,u99,Qd,Qc,Qb,Qa,P_,u105,Lb,La,JP,JO,JN,JM,Eb,DC,Dz,Dy,Dx,Dw,Dv,u119,Du,Dt,Dr,Dq,u124,Dp,CZ,u127,Cx,Cw,Cv,u131,JL,bT,bS,bR,jw,bQ,jv,bP,cZ,cO,iq,ik,ig,gT,gP,gN,gM,gL,gK,gJ,gI,gH,gG,gF,gD,gu,gq,gp,f_,fV,fQ,fD,fB,eH,eG,eF,eD,eB,eu,ek,ed,dW,dV,dU,dS,dR,dQ,dP,dN,dM,dL,dK,dJ,dI,cK,cB,cu,b_,dH,dF,dE,dD,dC,dB,dA,dz,dx,dw,dm,di,bO,bN,bM,ji],defers:=[] } wx) :
 Code.wp SM ((lD 11 (SO.body.getD .skip)).getD .skip) Q { tmps:=#[s0,.pointer (some ⟨G,0,none⟩),s2,.pointer (some ⟨D,0,none⟩),.slice pa cls.length cc,s5,s6,s7,s8,s9,s10,s11,s12,s13,xF,s15,s16,kF,ze,uO,s20,xP,sK,rP,s24,qJ,qI,qj,qi,pW,ou,n_,ll,nW,nV,nU,nT,nS,nR,nQ,nP,nO,mX,s43,s44,mW,mV,mK,mH,s49,mG,mg,mf,.slice ca xs.length cn,lG,.int .i64 (k:Int),lF,qW,qV,rO,rH,rF,rE,qX,vN,xE,tF,wW,s68,xO,kG,wV,s72,wU,wT,vZ,vY,vX,vW,vV,vU,vT,s82,s83,vS,vR,vQ,s87,vP,vO,vM,vL,vK,vI,vH,uT,uS,uR,uQ,uP,bF,bY,bX,bW,bV,bU,dh,df,jh,iY,iN,iw,j6,jZ,jY,jX,jW,jV,jU,jT,jS,jR,jQ,jP,jO,jN,jM,jL,jD,jC,jB,jA,jy,bT,bS,bR,jw,bQ,jv,bP,cZ,cO,iq,ik,ig,gT,gP,gN,gM,gL,gK,gJ,gI,gH,gG,gF,gD,gu,gq,gp,f_,fV,fQ,fD,fB,eH,eG,eF,eD,eB,eu,ek,ed,dW,dV,dU,dS,dR,dQ,dP,dN,dM,dL,dK,dJ,dI,cK,cB,cu,b_,dH,dF,dE,dD,dC,dB,dA,dz,dx,dw,dm,di,bO,bN,bM,ji],defers:=[] } w0:=by
 have hlt:k<xs.length:=(SY.1 hck).1
 obtain⟨b0,off,c',rfl,hbl,hck',hcx,hlc⟩:=af.at_ hxs hlt
 rw [hck] at hck'
 cases hck'
 have aA:=h_ hfin
 have Bc:=h_ hP
 have Mw:=h_ hp
 have R1:=h_ (show w0.rangeAt b0 (off+k*59) c.enc from fun q v e=>hcx q v e)
 have Q5:=h_ (show(SM.info? 54).map (·.size)=some c.enc.length by rw [yT,Chg.len])
 have Rx:=h_ (show(SM.info? 54).map (·.size)=some c.enc.toArray.size by rw [yT,SZ,Chg.len])
 have J6:=h_ (show c.enc.toArray.size=59 by rw [SZ,Chg.len])
 have Rm:=h_ (Km (Chg.one c))
 have KY:=h_ hlc
 have HK0:=h_ hk
 clear hfin hP hp hcx hck hlc hk hxs
 have R5:=h_ (rfl:c.enc=c.enc)
 generalize hxe:c.enc=xe at R1 Q5 Rx J6 Rm
 have R5:=h_ hxe
 clear hxe
 conv=>arg 2;whnf
 go_upto_region 12 with(first
  | (refine SF rfl 54 (.tmp 57) rfl b0 (off+k*59) rfl xe _ R1.out Tryz.underlying54 rfl Q5.out ?_)
  | (refine SE rfl 54 (.tmp 9) (.tmp 58) rfl w0.heap.size xe.toArray rfl rfl 54 _ (Su w0 _) Rx.out J6.out.symm Rm.out ?_;rw [Sv.setRow_alloc_new]))
 have hb1:SR w0.heap.size w0 (w0.alloc (.cells xe.toArray 54)):=(SS _ _).alloc (S5 _) _
 have hk1:=Su w0 (.cells xe.toArray 54)
 rw [←R5.out] at hb1 hk1 ⊢
 clear R1 Q5 Rx J6 Rm R5
 generalize w0.alloc (.cells c.enc.toArray 54)=w1 at *
 have HB:=h_ (fun(w':Sv) (q:SR w1.heap.size w1 w')=>(hb1.trans (q.mono hb1.size):SR w0.heap.size w0 w'))
 have HK:=h_ (fun(w':Sv) (q:SR w1.heap.size w1 w')=>HK0.out.later (HB.out w' q))
 have HC:=h_ (fun(w':Sv) (q:SR w1.heap.size w1 w')=>(q.block _ (SV.1 hk1).1).trans hk1)
 have HL:=h_ (fun(w':Sv) (q:SR w1.heap.size w1 w')=>Ev.keeps _ _ _ (HB.out w' q) KY.out.2)
 have AF:=h_ (fun(w':Sv) (q:SR w1.heap.size w1 w')=>pz pa cc cls c.id w' (HK.out w' q).cl hcl hcc)
 clear hb1 hk1 HK0 KY
 refine Ol x y z d G D pa cls w1 (HK.out _ (SS _ _)) fx fy fz fd c _ (HC.out _ (SS _ _)) (fun ch a a' w hd h=>by exact Bc.out ch a a' w hd h) ?_
 intros;rename_i w2 hb2
 go_upto_region 13 with fail
 refine Oj x y z d G D pa cls w2 (HK.out _ hb2) fx fy fz fd c.id (fun ch a a' w hd h=>by exact Bc.out ch a a' w hd h) ?_
 intros;rename_i w3 hb3
 have h3:=ak hb2 hb3
 have c0:w3.cell? ⟨w0.heap.size,0,none⟩=some (.int .u8 c.sec):=(SA _ _ 0 _ 54 (0,0) (HC.out _ h3)).trans rfl
 have c1:w3.cell? ⟨w0.heap.size,1,none⟩=some (.int .i64 c.id):=(SA _ _ 1 _ 54 (0,0) (HC.out _ h3)).trans rfl
 have c3:w3.cell? ⟨w0.heap.size,3,none⟩=some (.bool c.added):=(SA _ _ 3 _ 54 (0,0) (HC.out _ h3)).trans rfl
 have H3:=h_ h3
 clear hb2 hb3 h3
 by_cases hs:c.sec=3
 · rw [hs] at c0
   have AZ:=h_ (fun(ht:c.added=true∨iH x.c z.c c.id=true)=>Mw.out hs ht)
   clear Mw
   generalize iH x.c z.c c.id=TH at *
   generalize c.added=AD at *
   clear hs
   cases AD with
   | false =>
     cases TH with
     | false =>
       have HE:=h_ (HB.out _ H3.out)
       clear AZ AF
       go_wp2_with fail
       exact aA.out _ (.inr rfl) _ HE.out
     | true =>
       have Gg:=h_ (AZ.out (.inr rfl))
       clear AZ
       go_wp2_with fail
       refine(AF.out w3 H3.out).mono ?_
       rintro e w4 ⟨rfl,hb4⟩
       have H4:=h_ (ak H3.out hb4)
       clear hb4 c0 c1 c3 AF
       generalize aO cls c.id=KC at *
       cases KC with
       | true =>
         have HE:=h_ (HB.out _ H4.out)
         clear Gg
         go_wp2_with fail
         exact aA.out _ (.inr rfl) _ HE.out
       | false =>
         go_upto_if 107 with fail
         refine wp_cond_false rfl ?_
         refine wp_skip ?_
         dsimp only [Exit.then]
         apply_assumption
         refine CT x y z d G D pa cls w4 (HK.out _ H4.out) fx fy fz fd c _ (HC.out _ H4.out) fc (HL.out _ H4.out) (Gg.out (by first|trivial|rfl)) _ (fun ch a a' w hd h=>by exact Bc.out ch a a' w hd h) ?_
         intros;rename_i wx hbx
         exact aA.out _ (.inl rfl) _ (HB.out _ (ak H4.out hbx))
   | true =>
     have Gg:=h_ (AZ.out (.inl rfl))
     clear AZ
     go_wp2_with fail
     refine(AF.out w3 H3.out).mono ?_
     rintro e w4 ⟨rfl,hb4⟩
     have H4:=h_ (ak H3.out hb4)
     clear hb4 c0 c1 c3 AF
     generalize aO cls c.id=KC at *
     cases KC with
     | true =>
       have HE:=h_ (HB.out _ H4.out)
       clear Gg
       go_wp2_with fail
       exact aA.out _ (.inr rfl) _ HE.out
     | false =>
       go_upto_if 107 with fail
       refine wp_cond_false rfl ?_
       refine wp_skip ?_
       dsimp only [Exit.then]
       apply_assumption
       refine CT x y z d G D pa cls w4 (HK.out _ H4.out) fx fy fz fd c _ (HC.out _ H4.out) fc (HL.out _ H4.out) (Gg.out (by first|trivial|rfl)) _ (fun ch a a' w hd h=>by exact Bc.out ch a a' w hd h) ?_
       intros;rename_i wx hbx
       exact aA.out _ (.inl rfl) _ (HB.out _ (ak H4.out hbx))
 · have hsb:(c.sec==3)=false:=by simpa using hs
   have HE:=h_ (HB.out _ H3.out)
   clear Mw AF
   go_wp2_with fail
   exact aA.out _ (.inr rfl) _ HE.out
theorem Oh (x y z d:Doc)(G D:Nat)(pa:Option Addr)(cls:List Cl)(w0:Sv)(hk:KpW x y z d G D pa cls w0)(fx:x.fits)(fy:y.fits)(fz:z.fits)(fd:d.fits)(e:Ev)(X:Nat)(hx:w0.heap[X]? =some (.cells e.enc.toArray 50 (0,0)))(fe:e.fits)(le:e.lies w0)(cc:Nat)(hcl:cls.length≤9223372036854775807)(hcc:cls.length≤cc∨cls=[]):Cn w0 (.pointer (some ⟨G,0,none⟩)) (.slice pa cls.length cc) (.pointer (some ⟨X,0,none⟩)) (.int .i64 (posOf (iI e.id) y.eV)) (.int .i64 (posOf (iI e.id) z.eV)) (.bool true)∨(aj y.c.eV e.id=some e.c∧aj z.c.eV e.id=some e.c∧Cn w0 (.pointer (some ⟨G,0,none⟩)) (.slice pa cls.length cc) (.pointer (some ⟨X,0,none⟩)) (.int .i64 (posOf (iI e.id) y.eV)) (.int .i64 (posOf (iI e.id) z.eV)) (.bool (aO cls e.id))):=by
 rcases lI y e.id with⟨p1,q1⟩|⟨i,e1,p1,g1,q1⟩
 · rw [p1]
   left
   exact LO x y z d G D pa cls w0 hk fx fy fz fd e X hx cc _
 · rcases lI z e.id with⟨p2,q2⟩|⟨k,e2,p2,g2,q2⟩
   · rw [p1,p2]
     left
     exact LN x y z d G D pa cls w0 hk fx fy fz fd e X hx cc i
   · cases h1:evEq e1 e with
     | false =>
       rw [p1,p2]
       left
       exact LM x y z d G D pa cls w0 hk fx fy fz fd e X hx fe le cc i k e1 g1 h1
     | true =>
       cases h2:evEq e2 e with
       | false =>
         rw [p1,p2]
         left
         exact LK x y z d G D pa cls w0 hk fx fy fz fd e X hx fe le cc i k e1 g1 h1 e2 g2 h2
       | true =>
         have a1:=wZ ((lT e1 e).symm.trans h1)
         have a2:=wZ ((lT e2 e).symm.trans h2)
         rw [a1] at q1
         rw [a2] at q2
         refine .inr ⟨q1,q2,?_⟩
         rw [p1,p2]
         exact LJ x y z d G D pa cls w0 hk fx fy fz fd e X hx fe le cc i k e1 g1 h1 e2 g2 h2 hcl hcc
theorem F3 (x y z d:Doc)(G D:Nat)(pa:Option Addr)(cls:List Cl)(w0:Sv)(hk:KpW x y z d G D pa cls w0)(fx:x.fits)(fy:y.fits)(fz:z.fits)(fd:d.fits)(cc:Nat)(hcl:cls.length≤9223372036854775807)(hcc:cls.length≤cc∨cls=[])(k:Nat)(e:Ev)(O4:x.eV[k]? =some e)
 (hp:aj y.c.eV e.id=some e.c→aj z.c.eV e.id=some e.c→aO cls e.id=false→aj d.c.eV e.id=some e.c) (Q:Exit→Act→Sv→Prop) (hP:∀ ch a a' w,a'.defers=a.defers→Q (.panic ch) a w→Q (.panic ch) a' w) {s0 s2 s5 s6 s7 s8 s9 s10 s11 s12 s13 xF s15 s16 kF ze uO s20 xP sK rP s24 qJ qI qj qi pW ou n_ ll nW nV nU nT nS nR nQ nP nO mX s43 s44 mW mV mK mH s49 mG mg mf s53 lG sM lF qW qV rO rH rF rE qX vN xE tF wW s68 xO kG wV s72 wU wT vZ vY vX vW vV vU vT s82 s83 vS vR vQ s87 vP vO vM vL vK vI vH uT uS uR uQ uP bF bY bX bW bV bU dh df jh iY iN iw j6 jZ jY jX jW jV jU jT jS jR jQ jP jO jN jM jL jD jC jB jA jy bT bS bR bQ bP cZ cO iq ik ig gT gP gN gM gL gK gJ gI gH gG gF gD gu gq gp f_ fV fQ fD fB eH eG eF eD eB eu ek ed dW dV dU dS dR dQ dP dN dM dL dK dJ dI cK cB cu b_ dH dF dE dD dC dB dA dz dx dw dm di bO bN bM ji:SB}
 (hfin:∀ X,X=.normal∨X=.exit 3→∀ ⦃u15 u16 u17 u18 K_ K9 JK Jq Jp Jo Jn Jm Jk Jj Ji Jh u152 Jg u154 Jf Je Jd Jc Jb Ja I_ u162 I9 u164 I8 Io Im Il Ik Ij Ii Ih Ig Ie Ic Ib Ia H_ H9 Hz Hy Hw Hu Ht K8 K7 K6 K5 K4 Hr Hq Ho u193 u194 Hm u196 Hl u198 Hg Hf u201:SB⦄ (wx:Sv),SR w0.heap.size w0 wx→Q X { tmps:=#[s0,.pointer (some ⟨G,0,none⟩),s2,.pointer (some ⟨D,0,none⟩),.slice pa cls.length cc,s5,s6,s7,s8,s9,s10,s11,s12,s13,xF,u15,u16,u17,u18,uO,s20,xP,sK,rP,s24,qJ,qI,qj,qi,pW,ou,n_,ll,nW,nV,nU,nT,nS,nR,nQ,nP,nO,mX,s43,s44,mW,mV,mK,mH,s49,mG,mg,mf,s53,lG,sM,lF,qW,qV,rO,rH,rF,rE,qX,vN,xE,tF,wW,s68,xO,kG,wV,s72,wU,wT,vZ,vY,vX,vW,vV,vU,vT,s82,s83,vS,vR,vQ,s87,vP,vO,vM,vL,vK,vI,vH,uT,uS,uR,uQ,uP,bF,bY,bX,bW,bV,bU,dh,df,jh,iY,iN,iw,j6,jZ,jY,jX,jW,jV,jU,jT,jS,jR,jQ,jP,jO,jN,jM,jL,jD,jC,jB,jA,jy,bT,bS,bR,.slice x.ea x.eV.length x.ec,bQ,.int .i64 (k:Int),bP,K_,K9,JK,Jq,Jp,Jo,Jn,Jm,Jk,Jj,Ji,Jh,u152,Jg,u154,Jf,Je,Jd,Jc,Jb,Ja,I_,u162,I9,u164,I8,Io,Im,Il,Ik,Ij,Ii,Ih,Ig,Ie,Ic,Ib,Ia,H_,H9,Hz,Hy,Hw,Hu,Ht,K8,K7,K6,K5,K4,Hr,Hq,Ho,u193,u194,Hm,u196,Hl,u198,Hg,Hf,u201,bO,bN,bM,ji],defers:=[] } wx) :
 Code.wp SM ((lD 21 (SO.body.getD .skip)).getD .skip) Q { tmps:=#[s0,.pointer (some ⟨G,0,none⟩),s2,.pointer (some ⟨D,0,none⟩),.slice pa cls.length cc,s5,s6,s7,s8,s9,s10,s11,s12,s13,xF,s15,s16,kF,ze,uO,s20,xP,sK,rP,s24,qJ,qI,qj,qi,pW,ou,n_,ll,nW,nV,nU,nT,nS,nR,nQ,nP,nO,mX,s43,s44,mW,mV,mK,mH,s49,mG,mg,mf,s53,lG,sM,lF,qW,qV,rO,rH,rF,rE,qX,vN,xE,tF,wW,s68,xO,kG,wV,s72,wU,wT,vZ,vY,vX,vW,vV,vU,vT,s82,s83,vS,vR,vQ,s87,vP,vO,vM,vL,vK,vI,vH,uT,uS,uR,uQ,uP,bF,bY,bX,bW,bV,bU,dh,df,jh,iY,iN,iw,j6,jZ,jY,jX,jW,jV,jU,jT,jS,jR,jQ,jP,jO,jN,jM,jL,jD,jC,jB,jA,jy,bT,bS,bR,.slice x.ea x.eV.length x.ec,bQ,.int .i64 (k:Int),bP,cZ,cO,iq,ik,ig,gT,gP,gN,gM,gL,gK,gJ,gI,gH,gG,gF,gD,gu,gq,gp,f_,fV,fQ,fD,fB,eH,eG,eF,eD,eB,eu,ek,ed,dW,dV,dU,dS,dR,dQ,dP,dN,dM,dL,dK,dJ,dI,cK,cB,cu,b_,dH,dF,dE,dD,dC,dB,dA,dz,dx,dw,dm,di,bO,bN,bM,ji],defers:=[] } w0:=by
 have hlt:k<x.eV.length:=(SY.1 O4).1
 have hle:x.eV.length≤4000000:=fx.2.2.2.2.2.2.2.2.1
 have fe:e.fits:=fx.2.2.2.2.2.2.2.1 _ (List.mem_of_getElem? O4)
 obtain⟨b0,off,e',hea,hbl,hek',hcx,hlc⟩:=af.at_ hk.lx.2.1 hlt
 rw [O4] at hek'
 cases hek'
 rw [hea] at hfin ⊢
 have aA:=h_ hfin
 have Bc:=h_ hP
 have Mw:=h_ hp
 have R1:=h_ (show w0.rangeAt b0 (off+k*7) e.enc from fun q v h=>hcx q v h)
 have KY:=h_ hlc
 have HK0:=h_ hk
 have Q5:=h_ (show(SM.info? 50).map (·.size)=some e.enc.length from fm)
 have Rx:=h_ (show(SM.info? 50).map (·.size)=some e.enc.toArray.size from fm)
 have J6:=h_ (show e.enc.toArray.size=7 from rfl)
 have Rm:=h_ (Km (Ev.one e))
 clear hfin hP hp hcx O4 hlc hk hea
 generalize hxe:e.enc=xe at R1 Q5 Rx J6 Rm
 have R5:=h_ hxe
 clear hxe
 conv=>arg 2;whnf
 go_upto_region 22 with(first
  | (refine SF rfl 50 (.tmp 140) rfl b0 (off+k*7) rfl xe _ R1.out Tryz.underlying50 rfl Q5.out ?_)
  | (refine SE rfl 50 (.tmp 15) (.tmp 141) rfl w0.heap.size xe.toArray rfl rfl 50 _ (Su w0 _) Rx.out J6.out.symm Rm.out ?_;rw [Sv.setRow_alloc_new]))
 have hb1:SR w0.heap.size w0 (w0.alloc (.cells xe.toArray 50)):=(SS _ _).alloc (S5 _) _
 have hk1:=Su w0 (.cells xe.toArray 50)
 rw [←R5.out] at hb1 hk1 ⊢
 clear R1 Q5 Rx J6 Rm R5
 generalize w0.alloc (.cells e.enc.toArray 50)=w1 at *
 have HB:=h_ (fun(w':Sv) (q:SR w1.heap.size w1 w')=>(hb1.trans (q.mono hb1.size):SR w0.heap.size w0 w'))
 have HK:=h_ (fun(w':Sv) (q:SR w1.heap.size w1 w')=>HK0.out.later (HB.out w' q))
 have HC:=h_ (fun(w':Sv) (q:SR w1.heap.size w1 w')=>(q.block _ (SV.1 hk1).1).trans hk1)
 have HL:=h_ (fun(w':Sv) (q:SR w1.heap.size w1 w')=>Ev.keeps _ _ _ (HB.out w' q) KY.out)
 have Gr:=h_ (fun(w':Sv) (q:SR w1.heap.size w1 w')=>fC d e.id w' (HK.out w' q).ld.2.1 fd.2.2.2.2.2.2.2.2.1)
 clear hb1 hk1 HK0 KY
 refine Oi x y z d G D pa cls w1 (HK.out _ (SS _ _)) fx fy fz fd e _ (HC.out _ (SS _ _)) (fun ch a a' w hd h=>by exact Bc.out ch a a' w hd h) ?_
 intros;rename_i w2 hb2
 go_upto_region 23 with fail
 rcases Oh x y z d G D pa cls w2 (HK.out _ hb2) fx fy fz fd e _ (HC.out _ hb2) fe (HL.out _ hb2) cc hcl hcc with h23|⟨a1,a2,h23⟩
 · refine h23 (fun ch a a' w hd h=>by exact Bc.out ch a a' w hd h) ?_
   clear h23
   intros;rename_i w3 hb3
   have HE:=h_ (HB.out _ (ak hb2 hb3))
   clear hb2 hb3 Mw Gr
   go_wp2_with fail
   exact aA.out _ (.inr rfl) _ HE.out
 · refine h23 (fun ch a a' w hd h=>by exact Bc.out ch a a' w hd h) ?_
   clear h23
   intros;rename_i w3 hb3
   have Gg:=h_ (Mw.out a1 a2)
   have H3:=h_ (ak hb2 hb3)
   clear hb2 hb3 Mw a1 a2
   generalize aO cls e.id=KC at *
   cases KC with
   | true =>
     have HE:=h_ (HB.out _ H3.out)
     clear Gg Gr
     go_wp2_with fail
     exact aA.out _ (.inr rfl) _ HE.out
   | false =>
     have bn:=Gg.out (by first|trivial|rfl)
     have HRD:=h_ (HK.out _ H3.out).rd
     have c0:w3.cell? ⟨w0.heap.size,0,none⟩=some (.int .i64 e.id):=(SA _ _ 0 _ 50 (0,0) (HC.out _ H3.out)).trans rfl
     rcases lI d e.id with⟨p1,q1⟩|⟨i,e1,p1,g1,q1⟩
     · rw [bn] at q1
       cases q1
     · rw [bn] at q1
       have HEQ:=h_ (show evEq e1 e=true from by
        rw [lT]
        have:e.c=e1.c:=SW q1
        rw [this]
        exact nF _)
       rw [p1] at Gr
       clear q1 bn p1 Gg
       go_wp2_with (refine eR (.tmp 3) rfl D 0 rfl d.enc _ HRD.out SN rfl aQ (by rfl) ?_)
       refine(Gr.out w3 H3.out).mono ?_
       rintro e4 w4 ⟨rfl,hb4⟩
       have H4:=h_ (ak H3.out hb4)
       clear hb4 c0 Gr HRD
       go_upto_region 25 with fail
       refine Og x y z d G D pa cls w4 (HK.out _ H4.out) fx fy fz fd e _ (HC.out _ H4.out) fe (HL.out _ H4.out) i e1 g1 (fun ch a a' w hd h=>by exact Bc.out ch a a' w hd h) ?_
       intros;rename_i wx hbx
       rw [HEQ.out]
       have HE:=h_ (HB.out _ (ak H4.out hbx))
       clear hbx
       go_wp2_with fail
       exact aA.out _ (.inl rfl) _ HE.out
theorem Lz {x y z:EvC} (h1:x.id=1)(h2:y.id=1)(h3:z.id=1):aY [x] [y] [z]=[1]:=by
 obtain⟨q1,q2⟩:=jf [x] [y] [z]
 refine tk (fun a b:Int=>a<b) (fun a h=>by omega) (fun a b h h'=>by omega) _ _ q1 (by simp) fun k=>?_
 rw [q2 k]
 simp [h1,h2,h3]
 exact eq_comm
theorem Ob:iF [] [] []=[]:=qP
theorem IL (x:EvC):fM [x]=[x]:=(pg (List.Perm.refl _) (by simp) (by simp)).symm
theorem Fy (hx hy hz:Hd) {x y z:EvC} (last:Int)(h1:x.id=1)(h2:y.id=1)(h3:z.id=1) :
 FL ⟨hx,[],[x],[]⟩ ⟨hy,[],[y],[]⟩ ⟨hz,[],[z],[]⟩ last=(⟨mgHd hx hy hz last,[],[(fZ [] (lE x y z,eL x y z)).1],[]⟩,sr hx hy hz++(fZ [] (lE x y z,eL x y z)).2.map fun f=>⟨3,1,aG,f⟩):=by
 have f1:mgEv [] [x] [y] [z] 1=some (fZ [] (lE x y z,eL x y z)):=by simp [mgEv,aj,evAt,h1,h2,h3,fK]
 have f2:bG [] [] []=[]:=rfl
 unfold FL
 simp only [Lz h1 h2 h3,Ob,f2]
 have g1:jl [] [x] [y] [z] [1]=[(fZ [] (lE x y z,eL x y z)).1]:=by simp [jl,f1]
 have g2:fJ [] [x] [y] [z] [1]=(fZ [] (lE x y z,eL x y z)).2.map fun f=>⟨3,1,aG,f⟩:=by simp [fJ,f1]
 have g3:fW [] [] [] []=[]:=rfl
 rw [g3,g1,g2,IL]
 simp [mU,kN,fG]
def sB18:ByteArray:=⟨#[66]⟩
def sA18:ByteArray:=⟨#[65]⟩
def hd18:Hd:=⟨⟨#[]⟩,⟨#[]⟩,3,false,1⟩
def ev18 (inn out:Int)(t:ByteArray):EvC:=⟨1,inn,out,⟨#[]⟩,1,⟨#[]⟩,[[⟨t,0,false,false,⟨#[]⟩⟩]]⟩
def aw18 (inn out:Int)(t:ByteArray):DocC:=⟨hd18,[],[ev18 inn out t],[]⟩
theorem Dh (a b c a' b' c':Int)(t t' t'':ByteArray):k_ (aw18 a a' t) (aw18 b b' t') (aw18 c c' t'')=[] :=
 IM (fun x hx=>by obtain rfl:=SX.1 hx;rfl) (fun x hx=>by cases hx)
theorem PI:fL (aw18 0 50 sA18) (aw18 10 50 sA18) (aw18 0 50 sB18)=0∧jm (aw18 0 50 sA18) (aw18 10 50 sA18) (aw18 0 50 sB18)=aw18 10 50 sB18∧mgCl (aw18 0 50 sA18) (aw18 10 50 sA18) (aw18 0 50 sB18)=[]:=by
 have h0:a_ (aw18 0 50 sA18) (aw18 10 50 sA18) (aw18 0 50 sB18)=0:=by kernel_rfl
 obtain⟨h1,h2⟩:=vm (Dh 0 10 0 50 50 50 sA18 sA18 sB18)
 have h3:iE (aw18 10 50 sA18) (aw18 0 50 sB18)=1:=by kernel_rfl
 have h4:oH (aw18 0 50 sA18) (aw18 10 50 sA18) (aw18 0 50 sB18)=(aw18 10 50 sB18,[]):=by
  rw [h1,h3]
  refine(Fy hd18 hd18 hd18 1 (x:=ev18 0 50 sA18) (y:=ev18 10 50 sA18) (z:=ev18 0 50 sB18) rfl rfl rfl).trans ?_
  kernel_rfl
 have he:fL (aw18 0 50 sA18) (aw18 10 50 sA18) (aw18 0 50 sB18)=0:=by
  unfold fL
  rw [h0,h2,h3,h4]
  kernel_rfl
 refine⟨he,?_,?_⟩
 · unfold jm
   rw [if_pos he,h4]
 · unfold mgCl
   rw [if_pos he,h4]
theorem PH:fL (aw18 0 50 sA18) (aw18 10 50 sA18) (aw18 0 40 sA18)=0∧jm (aw18 0 50 sA18) (aw18 10 50 sA18) (aw18 0 40 sA18)=aw18 0 50 sA18∧mgCl (aw18 0 50 sA18) (aw18 10 50 sA18) (aw18 0 40 sA18)=[⟨3,1,aG,jI⟩]:=by
 have h0:a_ (aw18 0 50 sA18) (aw18 10 50 sA18) (aw18 0 40 sA18)=0:=by kernel_rfl
 obtain⟨h1,h2⟩:=vm (Dh 0 10 0 50 50 40 sA18 sA18 sA18)
 have h3:iE (aw18 10 50 sA18) (aw18 0 40 sA18)=1:=by kernel_rfl
 have h4:oH (aw18 0 50 sA18) (aw18 10 50 sA18) (aw18 0 40 sA18)=(aw18 0 50 sA18,[⟨3,1,aG,jI⟩]):=by
  rw [h1,h3]
  refine(Fy hd18 hd18 hd18 1 (x:=ev18 0 50 sA18) (y:=ev18 10 50 sA18) (z:=ev18 0 40 sA18) rfl rfl rfl).trans ?_
  kernel_rfl
 have he:fL (aw18 0 50 sA18) (aw18 10 50 sA18) (aw18 0 40 sA18)=0:=by
  unfold fL
  rw [h0,h2,h3,h4]
  kernel_rfl
 refine⟨he,?_,?_⟩
 · unfold jm
   rw [if_pos he,h4]
 · unfold mgCl
   rw [if_pos he,h4]
def Cj (inn out:Int)(t:ByteArray)(w:Sv)(e:Ending)(w':Sv):Prop:=∃ d:Doc,e=.returned (.agg d.enc.toArray)∧d.c=aw18 inn out t∧d.lies w'∧d.fits∧(∀ b,d.uses b→w.heap.size≤b)∧SR w.heap.size w w'
theorem Eg (w:Sv)(o1 o2 o3 o4 o5:Obj):((((((w.alloc o1).alloc o2).alloc o3).alloc o4).alloc o5).heap[w.heap.size+1]? =some o2∧(((((w.alloc o1).alloc o2).alloc o3).alloc o4).alloc o5).heap[w.heap.size+1+1]? =some o3∧(((((w.alloc o1).alloc o2).alloc o3).alloc o4).alloc o5).heap[w.heap.size+1+1+1]? =some o4∧(((((w.alloc o1).alloc o2).alloc o3).alloc o4).alloc o5).heap[w.heap.size+1+1+1+1]? =some o5)∧SR w.heap.size w (((((w.alloc o1).alloc o2).alloc o3).alloc o4).alloc o5):=by
 have a2:=Su (w.alloc o1) o2
 have a3:=Su ((w.alloc o1).alloc o2) o3
 have a4:=Su (((w.alloc o1).alloc o2).alloc o3) o4
 have a5:=Su ((((w.alloc o1).alloc o2).alloc o3).alloc o4) o5
 simp only [Sv.size_alloc] at a2 a3 a4 a5
 refine⟨⟨?_,?_,?_,a5⟩,?_⟩
 · rw [SU _ _ _ (by simp;try omega),SU _ _ _ (by simp;try omega),SU _ _ _ (by simp)]
   exact a2
 · rw [SU _ _ _ (by simp;try omega),SU _ _ _ (by simp)]
   exact a3
 · rw [SU _ _ _ (by simp)]
   exact a4
 · exact((((((SS _ _).alloc (S5 _) _).alloc (by simp) _).alloc (by simp;try omega) _).alloc (by simp;try omega) _).alloc (by simp;try omega) _)
theorem sm {α:Type} {k:Nat} {enc:α→List SB} {Ok:Sv→α→Prop} {w:Sv} {b:Nat} {t:TypeId} (x:α)(h:w.heap[b]? =some (.cells (enc x).toArray t (0,0)))(ho:Ok w x):af k enc Ok w (some ⟨b,0,none⟩) [x]:=by
 refine .inr ⟨b,0,rfl,(SV.1 h).1,fun i y hy=>?_⟩
 obtain⟨rfl,rfl⟩:i=0∧x=y:=by
  cases i with
  | zero=>exact⟨rfl,by simpa using hy⟩
  | succ n=>simp at hy
 refine⟨fun j v hv=>?_,ho⟩
 rw [show 0+0*k+j=j by omega,SA _ _ j _ t (0,0) h]
 simpa using hv
def N_ (t:ByteArray):Run:=⟨t,0,false,false,⟨#[]⟩⟩
def CO (n:Nat)(inn out:Int)(t:ByteArray):Doc:=⟨⟨#[]⟩,⟨#[]⟩,3,false,1,none,0,[],some ⟨n+1+1+1+1,0,none⟩,1,[⟨1,inn,out,⟨#[]⟩,1,⟨#[]⟩,some ⟨n+1+1+1,0,none⟩,1,[⟨some ⟨n+1+1,0,none⟩,1,[N_ t]⟩]⟩],none,0,[]⟩
theorem nat0:0≤4000000:=Nat.zero_le _
theorem Bw (n:Nat) {inn out:Int} {t:ByteArray} (hi:i64 inn)(ho:i64 out)(ht:t.size≤4000000):(CO n inn out t).fits:=by
 refine⟨nat0,nat0,(by decide:(0:Int)≤3),(by decide:(3:Int)≤255),(by decide:(-9223372036854775808:Int)≤1∧(1:Int)≤9223372036854775807),(fun r hr=>by cases hr),nat0,fun e he=>?_,(by decide:1≤4000000),(fun c hc=>by cases hc),nat0⟩
 obtain rfl:=SX.1 he
 refine⟨(by decide:(-9223372036854775808:Int)≤1∧(1:Int)≤9223372036854775807),hi,ho,nat0,(by decide:(0:Int)≤1),(by decide:(1:Int)≤255),nat0,fun r hr=>?_,(by decide:1≤4000000)⟩
 obtain rfl:=SX.1 hr
 refine⟨fun q hq=>?_,(by decide:1≤4000000),?_⟩
 · obtain rfl:=SX.1 hq
   exact⟨ht,nat0,(by decide:(0:Int)≤0),(by decide:(0:Int)≤255)⟩
 · show t.size+0≤4000000
   omega
theorem e8 (inn out:Int)(t:ByteArray)(w:Sv)(hi:i64 inn)(ho:i64 out)(ht:t.size≤4000000):Calls SM 73 #[.agg #[.int .i64 inn,.int .i64 out],.string t] w (Cj inn out t w):=by
 have HQ:=h_ (fun(w':Sv) (hl:(CO w.heap.size inn out t).lies w') (hb:SR w.heap.size w w')=>(show Cj inn out t w (.returned (.agg #[S8 ⟨#[]⟩,.string ⟨#[]⟩,.int .u8 3,.bool false,.int .i64 1,.slice none 0 0,.slice (some ⟨w.heap.size+1+1+1+1,0,none⟩) 1 1,.slice none 0 0])) w' from⟨CO w.heap.size inn out t,rfl,rfl,hl,Bw _ hi ho ht,by
  rintro b (⟨h,_⟩|(⟨_,ad,ha,rfl⟩|⟨x,hx,hb⟩)|⟨h,_⟩)
  · exact absurd rfl h
  · have ha':some (⟨w.heap.size+1+1+1+1,0,none⟩:Addr)=some ad:=ha
    obtain rfl:=SW ha'
    show w.heap.size≤w.heap.size+1+1+1+1
    omega
  · obtain rfl:=SX.1 hx
    rcases hb with⟨_,ad,ha,rfl⟩|⟨r,hr,_,ad,ha,rfl⟩
    · have ha':some (⟨w.heap.size+1+1+1,0,none⟩:Addr)=some ad:=ha
      obtain rfl:=SW ha'
      show w.heap.size≤w.heap.size+1+1+1
      omega
    · obtain rfl:=SX.1 hr
      have ha':some (⟨w.heap.size+1+1,0,none⟩:Addr)=some ad:=ha
      obtain rfl:=SW ha'
      show w.heap.size≤w.heap.size+1+1
      omega
  · exact absurd rfl h,hb⟩))
 generalize Cj inn out t w=Q at *
 have H5:=h_ (Eg w)
 go_enter Tryz.func73,Tryz.ntmps73
 go_wp2_with fail
 obtain⟨⟨h2,h3,h4,h5⟩,hb⟩:=H5.out (.cells #[.int .i64 inn,.int .i64 out] 46) (.cells #[S8 ⟨#[]⟩,.string ⟨#[]⟩,.int .u8 3,.bool false,.int .i64 1,.slice none 0 0,.slice (some ⟨w.heap.size+1+1+1+1,0,none⟩) 1 1,.slice none 0 0] 27) (.cells #[S8 t,.int .u8 0,.bool false,.bool false,.string ⟨#[]⟩] 75) (.cells #[.slice (some ⟨w.heap.size+1+1,0,none⟩) 1 1] 78) (.cells #[S9 .i64 1,.int .i64 inn,.int .i64 out,.string ⟨#[]⟩,.int .u8 1,.string ⟨#[]⟩,.slice (some ⟨w.heap.size+1+1+1,0,none⟩) 1 1] 50)
 generalize (((((w.alloc (.cells #[.int .i64 inn,.int .i64 out] 46)).alloc (.cells #[S8 ⟨#[]⟩,.string ⟨#[]⟩,.int .u8 3,.bool false,.int .i64 1,.slice none 0 0,.slice (some ⟨w.heap.size+1+1+1+1,0,none⟩) 1 1,.slice none 0 0] 27)).alloc (.cells #[S8 t,.int .u8 0,.bool false,.bool false,.string ⟨#[]⟩] 75)).alloc (.cells #[.slice (some ⟨w.heap.size+1+1,0,none⟩) 1 1] 78)).alloc (.cells #[S9 .i64 1,.int .i64 inn,.int .i64 out,.string ⟨#[]⟩,.int .u8 1,.string ⟨#[]⟩,.slice (some ⟨w.heap.size+1+1+1,0,none⟩) 1 1] 50))=wf at *
 have a4:∀ j,wf.cell? ⟨w.heap.size+1,j,none⟩=_:=fun j=>SA _ _ j _ 27 (0,0) h2
 have hl:(CO w.heap.size inn out t).lies wf:=⟨.inl rfl,sm (t:=50) _ h5 (sm (t:=78) _ h4 (sm (t:=75) _ h3 trivial)),.inl rfl⟩
 refine bodyPost_ret (v:=.agg #[S8 ⟨#[]⟩,.string ⟨#[]⟩,.int .u8 3,.bool false,.int .i64 1,.slice none 0 0,.slice (some ⟨w.heap.size+1+1+1+1,0,none⟩) 1 1,.slice none 0 0]) (by simp [results,Tryz.results73,go_sem,a4]) rfl ?_
 exact HQ.out wf hl hb
theorem pB {w:Sv} {g:Nat} {l:List SB} {t:TypeId} (h:w.heap[g]? =some (.cells l.toArray t (0,0))):w.rangeAt g 0 l:=fun j v hv=>by
 rw [SA _ _ (0+j) _ t (0,0) h]
 simpa using hv
theorem zaf (x:Doc)(b:Nat)(w0:Sv)(hE:Env w0)(hx:x.lies w0)(fx:x.fits)(cx:x.c=aw18 0 50 sA18)(hb:w0.heap[b]? =some (.cells x.enc.toArray 27 (0,0)))(Q:Exit→Act→Sv→Prop)(hP:∀ ch a a' w,a'.defers=a.defers→Q (.panic ch) a w→Q (.panic ch) a' w)(s0 s2 s3 s4 s5 s6 s7 s8 s9 s10 s11 s12 s13 xF s15 s16 kF ze uO s20 xP sK rP s24 qJ qI qj qi pW ou n_ ll nW nV nU nT nS nR nQ nP nO mX s43 s44 mW mV mK mH s49 mG mg mf s53 lG sM lF qW qV rO rH rF rE qX:SB)
 (hfin:∀ (u10 u11 u12 RO u14 u15 u16 u17 u18 u19:SB) (d:Doc) (kv:SB) (p:Nat) (wx:Sv),d.c=aw18 10 50 sB18→d.lies wx→d.fits→wx.ownsRow w0.heap.size 135 4 kv ([]:List Cl).length (([]:List Cl).flatMap Cl.enc)→wx.heap[p]? =some (.cells d.enc.toArray 27 (0,0))→w0.heap.size≤p→SR w0.heap.size w0 wx→Q .normal { tmps:=#[s0,.pointer (some ⟨b,0,none⟩),.pointer (some ⟨p,0,none⟩),kv,.int .i64 0,s5,s6,s7,s8,s9,u10,u11,u12,RO,u14,u15,u16,u17,u18,u19,s20,xP,sK,rP,s24,qJ,qI,qj,qi,pW,ou,n_,ll,nW,nV,nU,nT,nS,nR,nQ,nP,nO,mX,s43,s44,mW,mV,mK,mH,s49,mG,mg,mf,s53,lG,sM,lF,qW,qV,rO,rH,rF,rE,qX],defers:=[] } wx) :
 Code.wp SM ((mE 2 (Tryz.f25.body.getD .skip)).getD .skip) Q { tmps:=#[s0,.pointer (some ⟨b,0,none⟩),s2,s3,s4,s5,s6,s7,s8,s9,s10,s11,s12,s13,xF,s15,s16,kF,ze,uO,s20,xP,sK,rP,s24,qJ,qI,qj,qi,pW,ou,n_,ll,nW,nV,nU,nT,nS,nR,nQ,nP,nO,mX,s43,s44,mW,mV,mK,mH,s49,mG,mg,mf,s53,lG,sM,lF,qW,qV,rO,rH,rF,rE,qX],defers:=[] } w0:=by
 have aA:=h_ hfin
 have HP:=h_ hP
 have HRX:=h_ (fun(w':Sv) (q:SR w0.heap.size w0 w')=>pB ((q.block _ (SV.1 hb).1).trans hb))
 have HM:=h_ (fun(y z:Doc) (w':Sv) (q:SR w0.heap.size w0 w') (ly:y.lies w') (lz:z.lies w') (fy:y.fits) (fz:z.fits) (cy:y.c=aw18 10 50 sA18) (cz:z.c=aw18 0 50 sB18)=>(show Calls SM 26 #[.agg x.enc.toArray,.agg y.enc.toArray,.agg z.enc.toArray] w' (fun e w2=>∃ (d:Doc) (kv:SB),e=.returned (.tuple #[.agg d.enc.toArray,kv,.int .i64 0])∧d.c=aw18 10 50 sB18∧d.lies w2∧d.fits∧(∀ b,d.uses b→w'.heap.size≤b)∧w2.ownsRow w'.heap.size 135 4 kv ([]:List Cl).length (([]:List Cl).flatMap Cl.enc)∧SR w'.heap.size w' w2) from by
  have:=lf x y z w' (hE.below q (S5 _)) (Doc.later hx q) ly lz fx fy fz
  rw [cx,cy,cz] at this
  refine this.mono fun e w2 p=>?_
  obtain⟨d,kv,he,hc,hl,hf,hu,hk,hb⟩:=p
  obtain⟨q1,q2,q3⟩:=PI
  rw [q1] at he
  rw [q2] at hc
  rw [q3] at hk
  exact⟨d,kv,he,hc,hl,hf,hu,hk,hb⟩))
 have hd0:SR w0.heap.size w0 w0.drew:=(SS _ _).drew
 clear hfin hP hE hx fx cx hb
 conv=>arg 2;whnf
 refine SC (S:=fun w'=>SR w0.heap.size w0 w') (by kernel_rfl) hd0 (fun _=>?_)
 try simp only [Act.put,SJ,SH,SI,SG,SK,SL,SQ]
 refine ab HP.out 0 (.agg x.enc.toArray) hd0 ?_ (hy:=SD (by rfl) 27 (.tmp 1) rfl b 0 rfl x.enc _ HRX.out SN rfl aQ)
 refine ab HP.out 1 (.agg #[.int .i64 10,.int .i64 50]) hd0 ?_
 refine ab HP.out 3 (.agg #[.int .i64 0,.int .i64 50]) hd0 ?_
 refine eZ 2 10 (fun K hK=>?_) (fun K hK=>?_)
 · skip
   go_simp
   refine(e8 10 50 sA18 _ ⟨by decide,by decide⟩ ⟨by decide,by decide⟩ (by decide)).mono ?_
   rintro e va ⟨y,rfl,hcy,zi,EI,Bf,ai⟩
   have hva:=ak hd0 ai
   clear ai Bf
   go_wp2_with fail
   refine goOn hK hva ?_
   clear hK
   refine eZ 4 10 (fun K hK=>?_) (fun K hK=>?_)
   · skip
     go_simp
     refine(e8 0 50 sB18 _ ⟨by decide,by decide⟩ ⟨by decide,by decide⟩ (by decide)).mono ?_
     rintro e vb ⟨z,rfl,hcz,hlz,hfz,Bf,ai⟩
     have hvb:=ak hva ai
     replace zi:=Doc.later zi ai
     clear ai Bf
     go_wp2_with fail
     refine goOn hK hvb ?_
     clear hK
     refine eZ 5 10 (fun K hK=>?_) (fun K hK=>?_)
     · skip
       go_simp
       refine(HM.out y z _ hvb zi hlz EI hfz hcy hcz).mono ?_
       rintro e vc ⟨d,kv,rfl,hcd,hld,bn,hud,hkd,ai⟩
       have kI:=ak hvb ai
       have hvw:=hvb.size
       clear ai
       go_wp2_with fail
       refine goOn hK kI ?_
       clear hK
       refine ab HP.out 6 (.tuple #[.agg d.enc.toArray,kv,.int .i64 0]) kI ?_
       refine ab HP.out 7 (.agg d.enc.toArray) kI ?_
       refine ab HP.out 8 kv kI ?_
       refine ab HP.out 9 (.int .i64 0) kI ?_
       refine aq 10 (fun K hK=>?_)
       go_simp
       have hal:SR w0.heap.size w0 (vc.alloc (.cells #[S8 ⟨#[]⟩,.string ⟨#[]⟩,.int .u8 0,.bool false,.int .i64 0,.slice none 0 0,.slice none 0 0,.slice none 0 0] 27)):=kI.alloc kI.size _
       have ral:(vc.alloc (.cells #[S8 ⟨#[]⟩,.string ⟨#[]⟩,.int .u8 0,.bool false,.int .i64 0,.slice none 0 0,.slice none 0 0,.slice none 0 0] 27)).heap[vc.heap.size]? =some (.cells #[S8 ⟨#[]⟩,.string ⟨#[]⟩,.int .u8 0,.bool false,.int .i64 0,.slice none 0 0,.slice none 0 0,.slice none 0 0] 27 (0,0)):=Su _ _
       have hg:w0.heap.size≤vc.heap.size:=kI.size
       have hbe:SR vc.heap.size vc (vc.alloc (.cells #[S8 ⟨#[]⟩,.string ⟨#[]⟩,.int .u8 0,.bool false,.int .i64 0,.slice none 0 0,.slice none 0 0,.slice none 0 0] 27)):=(SS _ _).alloc (S5 _) _
       have hne:∀ b,kv.ownBlock=some b→b≠vc.heap.size:=fun b q=>S7 (hkd.lt b q).2
       have hnd:∀ b,d.uses b→b≠vc.heap.size:=fun b q=>S7 (Doc.uses_lt hld q)
       replace hkd:=ah hkd fun b q=>hbe.block b (hkd.lt b q).2
       replace hld:=Doc.later hld hbe
       refine goOn hK hal ?_
       clear hK hbe
       refine aq 11 (fun K hK=>?_)
       rw [if_pos (by rfl)]
       refine Sw 27 (.tmp 2) (.tmp 17) rfl (vc.heap.size) d.enc.toArray rfl rfl 27 _ ral aQ rfl (pR _ _ _ _ _ _ _ _ _ _ _ _ _ _) ?_
       have lg:=Sx hal hg d.enc.toArray
       have JQ:=Sz (vc.alloc (.cells #[S8 ⟨#[]⟩,.string ⟨#[]⟩,.int .u8 0,.bool false,.int .i64 0,.slice none 0 0,.slice none 0 0,.slice none 0 0] 27)) (vc.heap.size) _ d.enc.toArray _ _ ral
       have Az:=ah (eQ hkd hvw) fun b q=>bD (vc.alloc (.cells #[S8 ⟨#[]⟩,.string ⟨#[]⟩,.int .u8 0,.bool false,.int .i64 0,.slice none 0 0,.slice none 0 0,.slice none 0 0] 27)) (vc.heap.size) b d.enc.toArray (hne b q)
       have JS:d.lies ((vc.alloc (.cells #[S8 ⟨#[]⟩,.string ⟨#[]⟩,.int .u8 0,.bool false,.int .i64 0,.slice none 0 0,.slice none 0 0,.slice none 0 0] 27)).setRow (vc.heap.size) d.enc.toArray):=Doc.frame hld (S6 (size_setRow _ _ _).symm) (fun b q=>bD (vc.alloc (.cells #[S8 ⟨#[]⟩,.string ⟨#[]⟩,.int .u8 0,.bool false,.int .i64 0,.slice none 0 0,.slice none 0 0,.slice none 0 0] 27)) (vc.heap.size) b d.enc.toArray (hnd b q))
       refine goOn hK lg ?_
       clear hK
       refine ab HP.out 12 kv lg ?_
       refine ab HP.out 13 (.int .i64 0) lg ?_
       refine Sy (by kernel_rfl) ?_ _
       exact aA.out _ _ _ _ _ _ _ _ _ _ d kv _ _ hcd JS bn Az JQ hg lg
     · skip
       go_simp
       have hal:SR w0.heap.size w0 (vb.alloc (.cells #[S8 ⟨#[]⟩,.string ⟨#[]⟩,.int .u8 0,.bool false,.int .i64 0,.slice none 0 0,.slice none 0 0,.slice none 0 0] 27)):=hvb.alloc hvb.size _
       have ral:(vb.alloc (.cells #[S8 ⟨#[]⟩,.string ⟨#[]⟩,.int .u8 0,.bool false,.int .i64 0,.slice none 0 0,.slice none 0 0,.slice none 0 0] 27)).heap[vb.heap.size]? =some (.cells #[S8 ⟨#[]⟩,.string ⟨#[]⟩,.int .u8 0,.bool false,.int .i64 0,.slice none 0 0,.slice none 0 0,.slice none 0 0] 27 (0,0)):=Su _ _
       have hg:w0.heap.size≤vb.heap.size:=hvb.size
       have hbe:SR vb.heap.size vb (vb.alloc (.cells #[S8 ⟨#[]⟩,.string ⟨#[]⟩,.int .u8 0,.bool false,.int .i64 0,.slice none 0 0,.slice none 0 0,.slice none 0 0] 27)):=(SS _ _).alloc (S5 _) _
       replace zi:=Doc.later zi hbe
       replace hlz:=Doc.later hlz hbe
       refine goOn hK hal ?_
       clear hK hbe
       refine aq 5 (fun K hK=>?_)
       go_simp
       refine(HM.out y z _ hal zi hlz EI hfz hcy hcz).mono ?_
       rintro e vc ⟨d,kv,rfl,hcd,hld,bn,hud,hkd,ai⟩
       have kI:=ak hal ai
       have rvc:=(ai.block _ (SV.1 ral).1).trans ral
       have hne:∀ b,kv.ownBlock=some b→b≠vb.heap.size:=fun b q e=>(by have h1:=(hkd.lt b q).1;have h2:=(SV.1 ral).1;omega)
       have hnd:∀ b,d.uses b→b≠vb.heap.size:=fun b q e=>(by have h1:=hud b q;have h2:=(SV.1 ral).1;omega)
       have hvw:=hal.size
       clear ai
       go_wp2_with fail
       refine goOn hK kI ?_
       clear hK
       refine ab HP.out 6 (.tuple #[.agg d.enc.toArray,kv,.int .i64 0]) kI ?_
       refine ab HP.out 7 (.agg d.enc.toArray) kI ?_
       refine ab HP.out 8 kv kI ?_
       refine ab HP.out 9 (.int .i64 0) kI ?_
       refine aq 11 (fun K hK=>?_)
       rw [if_pos (by rfl)]
       refine Sw 27 (.tmp 2) (.tmp 17) rfl (vb.heap.size) d.enc.toArray rfl rfl 27 _ rvc aQ rfl (pR _ _ _ _ _ _ _ _ _ _ _ _ _ _) ?_
       have lg:=Sx kI hg d.enc.toArray
       have JQ:=Sz vc (vb.heap.size) _ d.enc.toArray _ _ rvc
       have Az:=ah (eQ hkd hvw) fun b q=>bD vc (vb.heap.size) b d.enc.toArray (hne b q)
       have JS:d.lies (vc.setRow (vb.heap.size) d.enc.toArray):=Doc.frame hld (S6 (size_setRow _ _ _).symm) (fun b q=>bD vc (vb.heap.size) b d.enc.toArray (hnd b q))
       refine goOn hK lg ?_
       clear hK
       refine ab HP.out 12 kv lg ?_
       refine ab HP.out 13 (.int .i64 0) lg ?_
       refine Sy (by kernel_rfl) ?_ _
       exact aA.out _ _ _ _ _ _ _ _ _ _ d kv _ _ hcd JS bn Az JQ hg lg
   · skip
     go_simp
     have hal:SR w0.heap.size w0 (va.alloc (.cells #[S8 ⟨#[]⟩,.string ⟨#[]⟩,.int .u8 0,.bool false,.int .i64 0,.slice none 0 0,.slice none 0 0,.slice none 0 0] 27)):=hva.alloc hva.size _
     have ral:(va.alloc (.cells #[S8 ⟨#[]⟩,.string ⟨#[]⟩,.int .u8 0,.bool false,.int .i64 0,.slice none 0 0,.slice none 0 0,.slice none 0 0] 27)).heap[va.heap.size]? =some (.cells #[S8 ⟨#[]⟩,.string ⟨#[]⟩,.int .u8 0,.bool false,.int .i64 0,.slice none 0 0,.slice none 0 0,.slice none 0 0] 27 (0,0)):=Su _ _
     have hg:w0.heap.size≤va.heap.size:=hva.size
     have hbe:SR va.heap.size va (va.alloc (.cells #[S8 ⟨#[]⟩,.string ⟨#[]⟩,.int .u8 0,.bool false,.int .i64 0,.slice none 0 0,.slice none 0 0,.slice none 0 0] 27)):=(SS _ _).alloc (S5 _) _
     replace zi:=Doc.later zi hbe
     refine goOn hK hal ?_
     clear hK hbe
     refine aq 4 (fun K hK=>?_)
     go_simp
     refine(e8 0 50 sB18 _ ⟨by decide,by decide⟩ ⟨by decide,by decide⟩ (by decide)).mono ?_
     rintro e vb ⟨z,rfl,hcz,hlz,hfz,Bf,ai⟩
     have hvb:=ak hal ai
     have rvb:=(ai.block _ (SV.1 ral).1).trans ral
     replace zi:=Doc.later zi ai
     clear ai Bf
     go_wp2_with fail
     refine goOn hK hvb ?_
     clear hK
     refine aq 5 (fun K hK=>?_)
     go_simp
     refine(HM.out y z _ hvb zi hlz EI hfz hcy hcz).mono ?_
     rintro e vc ⟨d,kv,rfl,hcd,hld,bn,hud,hkd,ai⟩
     have kI:=ak hvb ai
     have rvc:=(ai.block _ (SV.1 rvb).1).trans rvb
     have hne:∀ b,kv.ownBlock=some b→b≠va.heap.size:=fun b q e=>(by have h1:=(hkd.lt b q).1;have h2:=(SV.1 rvb).1;omega)
     have hnd:∀ b,d.uses b→b≠va.heap.size:=fun b q e=>(by have h1:=hud b q;have h2:=(SV.1 rvb).1;omega)
     have hvw:=hvb.size
     clear ai
     go_wp2_with fail
     refine goOn hK kI ?_
     clear hK
     refine ab HP.out 6 (.tuple #[.agg d.enc.toArray,kv,.int .i64 0]) kI ?_
     refine ab HP.out 7 (.agg d.enc.toArray) kI ?_
     refine ab HP.out 8 kv kI ?_
     refine ab HP.out 9 (.int .i64 0) kI ?_
     refine aq 11 (fun K hK=>?_)
     rw [if_pos (by rfl)]
     refine Sw 27 (.tmp 2) (.tmp 17) rfl (va.heap.size) d.enc.toArray rfl rfl 27 _ rvc aQ rfl (pR _ _ _ _ _ _ _ _ _ _ _ _ _ _) ?_
     have lg:=Sx kI hg d.enc.toArray
     have JQ:=Sz vc (va.heap.size) _ d.enc.toArray _ _ rvc
     have Az:=ah (eQ hkd hvw) fun b q=>bD vc (va.heap.size) b d.enc.toArray (hne b q)
     have JS:d.lies (vc.setRow (va.heap.size) d.enc.toArray):=Doc.frame hld (S6 (size_setRow _ _ _).symm) (fun b q=>bD vc (va.heap.size) b d.enc.toArray (hnd b q))
     refine goOn hK lg ?_
     clear hK
     refine ab HP.out 12 kv lg ?_
     refine ab HP.out 13 (.int .i64 0) lg ?_
     refine Sy (by kernel_rfl) ?_ _
     exact aA.out _ _ _ _ _ _ _ _ _ _ d kv _ _ hcd JS bn Az JQ hg lg
 · skip
   go_simp
   have hal:SR w0.heap.size w0 (w0.drew.alloc (.cells #[S8 ⟨#[]⟩,.string ⟨#[]⟩,.int .u8 0,.bool false,.int .i64 0,.slice none 0 0,.slice none 0 0,.slice none 0 0] 27)):=hd0.alloc hd0.size _
   have ral:(w0.drew.alloc (.cells #[S8 ⟨#[]⟩,.string ⟨#[]⟩,.int .u8 0,.bool false,.int .i64 0,.slice none 0 0,.slice none 0 0,.slice none 0 0] 27)).heap[w0.drew.heap.size]? =some (.cells #[S8 ⟨#[]⟩,.string ⟨#[]⟩,.int .u8 0,.bool false,.int .i64 0,.slice none 0 0,.slice none 0 0,.slice none 0 0] 27 (0,0)):=Su _ _
   have hg:w0.heap.size≤w0.drew.heap.size:=hd0.size
   have hbe:SR w0.drew.heap.size w0.drew (w0.drew.alloc (.cells #[S8 ⟨#[]⟩,.string ⟨#[]⟩,.int .u8 0,.bool false,.int .i64 0,.slice none 0 0,.slice none 0 0,.slice none 0 0] 27)):=(SS _ _).alloc (S5 _) _
   refine goOn hK hal ?_
   clear hK hbe
   refine aq 2 (fun K hK=>?_)
   go_simp
   refine(e8 10 50 sA18 _ ⟨by decide,by decide⟩ ⟨by decide,by decide⟩ (by decide)).mono ?_
   rintro e va ⟨y,rfl,hcy,zi,EI,Bf,ai⟩
   have hva:=ak hal ai
   have rva:=(ai.block _ (SV.1 ral).1).trans ral
   clear ai Bf
   go_wp2_with fail
   refine goOn hK hva ?_
   clear hK
   refine aq 4 (fun K hK=>?_)
   go_simp
   refine(e8 0 50 sB18 _ ⟨by decide,by decide⟩ ⟨by decide,by decide⟩ (by decide)).mono ?_
   rintro e vb ⟨z,rfl,hcz,hlz,hfz,Bf,ai⟩
   have hvb:=ak hva ai
   have rvb:=(ai.block _ (SV.1 rva).1).trans rva
   replace zi:=Doc.later zi ai
   clear ai Bf
   go_wp2_with fail
   refine goOn hK hvb ?_
   clear hK
   refine aq 5 (fun K hK=>?_)
   go_simp
   refine(HM.out y z _ hvb zi hlz EI hfz hcy hcz).mono ?_
   rintro e vc ⟨d,kv,rfl,hcd,hld,bn,hud,hkd,ai⟩
   have kI:=ak hvb ai
   have rvc:=(ai.block _ (SV.1 rvb).1).trans rvb
   have hne:∀ b,kv.ownBlock=some b→b≠w0.drew.heap.size:=fun b q e=>(by have h1:=(hkd.lt b q).1;have h2:=(SV.1 rvb).1;omega)
   have hnd:∀ b,d.uses b→b≠w0.drew.heap.size:=fun b q e=>(by have h1:=hud b q;have h2:=(SV.1 rvb).1;omega)
   have hvw:=hvb.size
   clear ai
   go_wp2_with fail
   refine goOn hK kI ?_
   clear hK
   refine ab HP.out 6 (.tuple #[.agg d.enc.toArray,kv,.int .i64 0]) kI ?_
   refine ab HP.out 7 (.agg d.enc.toArray) kI ?_
   refine ab HP.out 8 kv kI ?_
   refine ab HP.out 9 (.int .i64 0) kI ?_
   refine aq 11 (fun K hK=>?_)
   rw [if_pos (by rfl)]
   refine Sw 27 (.tmp 2) (.tmp 17) rfl (w0.drew.heap.size) d.enc.toArray rfl rfl 27 _ rvc aQ rfl (pR _ _ _ _ _ _ _ _ _ _ _ _ _ _) ?_
   have lg:=Sx kI hg d.enc.toArray
   have JQ:=Sz vc (w0.drew.heap.size) _ d.enc.toArray _ _ rvc
   have Az:=ah (eQ hkd hvw) fun b q=>bD vc (w0.drew.heap.size) b d.enc.toArray (hne b q)
   have JS:d.lies (vc.setRow (w0.drew.heap.size) d.enc.toArray):=Doc.frame hld (S6 (size_setRow _ _ _).symm) (fun b q=>bD vc (w0.drew.heap.size) b d.enc.toArray (hnd b q))
   refine goOn hK lg ?_
   clear hK
   refine ab HP.out 12 kv lg ?_
   refine ab HP.out 13 (.int .i64 0) lg ?_
   refine Sy (by kernel_rfl) ?_ _
   exact aA.out _ _ _ _ _ _ _ _ _ _ d kv _ _ hcd JS bn Az JQ hg lg
theorem zae (x:Doc)(b:Nat)(w0:Sv)(hE:Env w0)(hx:x.lies w0)(fx:x.fits)(cx:x.c=aw18 0 50 sA18)(hb:w0.heap[b]? =some (.cells x.enc.toArray 27 (0,0)))(Q:Exit→Act→Sv→Prop)(hP:∀ ch a a' w,a'.defers=a.defers→Q (.panic ch) a w→Q (.panic ch) a' w)(s0 s2 s3 s4 s5 s6 s7 s8 s9 s10 s11 s12 s13 xF s15 s16 kF ze uO s20 xP sK rP s24 qJ qI qj qi pW ou n_ ll nW nV nU nT nS nR nQ nP nO mX s43 s44 mW mV mK mH s49 mG mg mf s53 lG sM lF qW qV rO rH rF rE qX:SB)
 (hfin:∀ (u20 u21 u22 u23 u24 u25 u26 u27 u28 u29:SB) (d:Doc) (kv:SB) (p:Nat) (wx:Sv),d.c=aw18 0 50 sA18→d.lies wx→d.fits→wx.ownsRow w0.heap.size 135 4 kv [(⟨3,1,aG,jI⟩:Cl)].length ([(⟨3,1,aG,jI⟩:Cl)].flatMap Cl.enc)→wx.heap[p]? =some (.cells d.enc.toArray 27 (0,0))→w0.heap.size≤p→SR w0.heap.size w0 wx→Q .normal { tmps:=#[s0,.pointer (some ⟨b,0,none⟩),s2,s3,s4,.pointer (some ⟨p,0,none⟩),kv,.int .i64 0,s8,s9,s10,s11,s12,s13,xF,s15,s16,kF,ze,uO,u20,u21,u22,u23,u24,u25,u26,u27,u28,u29,ou,n_,ll,nW,nV,nU,nT,nS,nR,nQ,nP,nO,mX,s43,s44,mW,mV,mK,mH,s49,mG,mg,mf,s53,lG,sM,lF,qW,qV,rO,rH,rF,rE,qX],defers:=[] } wx) :
 Code.wp SM ((mE 3 (Tryz.f25.body.getD .skip)).getD .skip) Q { tmps:=#[s0,.pointer (some ⟨b,0,none⟩),s2,s3,s4,s5,s6,s7,s8,s9,s10,s11,s12,s13,xF,s15,s16,kF,ze,uO,s20,xP,sK,rP,s24,qJ,qI,qj,qi,pW,ou,n_,ll,nW,nV,nU,nT,nS,nR,nQ,nP,nO,mX,s43,s44,mW,mV,mK,mH,s49,mG,mg,mf,s53,lG,sM,lF,qW,qV,rO,rH,rF,rE,qX],defers:=[] } w0:=by
 have aA:=h_ hfin
 have HP:=h_ hP
 have HRX:=h_ (fun(w':Sv) (q:SR w0.heap.size w0 w')=>pB ((q.block _ (SV.1 hb).1).trans hb))
 have HM:=h_ (fun(y z:Doc) (w':Sv) (q:SR w0.heap.size w0 w') (ly:y.lies w') (lz:z.lies w') (fy:y.fits) (fz:z.fits) (cy:y.c=aw18 10 50 sA18) (cz:z.c=aw18 0 40 sA18)=>(show Calls SM 26 #[.agg x.enc.toArray,.agg y.enc.toArray,.agg z.enc.toArray] w' (fun e w2=>∃ (d:Doc) (kv:SB),e=.returned (.tuple #[.agg d.enc.toArray,kv,.int .i64 0])∧d.c=aw18 0 50 sA18∧d.lies w2∧d.fits∧(∀ b,d.uses b→w'.heap.size≤b)∧w2.ownsRow w'.heap.size 135 4 kv [(⟨3,1,aG,jI⟩:Cl)].length ([(⟨3,1,aG,jI⟩:Cl)].flatMap Cl.enc)∧SR w'.heap.size w' w2) from by
  have:=lf x y z w' (hE.below q (S5 _)) (Doc.later hx q) ly lz fx fy fz
  rw [cx,cy,cz] at this
  refine this.mono fun e w2 p=>?_
  obtain⟨d,kv,he,hc,hl,hf,hu,hk,hb⟩:=p
  obtain⟨q1,q2,q3⟩:=PH
  rw [q1] at he
  rw [q2] at hc
  rw [q3] at hk
  exact⟨d,kv,he,hc,hl,hf,hu,hk,hb⟩))
 have hd0:SR w0.heap.size w0 w0.drew:=(SS _ _).drew
 clear hfin hP hE hx fx cx hb
 conv=>arg 2;whnf
 refine SC (S:=fun w'=>SR w0.heap.size w0 w') (by kernel_rfl) hd0 (fun _=>?_)
 try simp only [Act.put,SJ,SH,SI,SG,SK,SL,SQ]
 refine ab HP.out 0 (.agg x.enc.toArray) hd0 ?_ (hy:=SD (by rfl) 27 (.tmp 1) rfl b 0 rfl x.enc _ HRX.out SN rfl aQ)
 refine ab HP.out 1 (.agg #[.int .i64 10,.int .i64 50]) hd0 ?_
 refine ab HP.out 3 (.agg #[.int .i64 0,.int .i64 40]) hd0 ?_
 refine eZ 2 10 (fun K hK=>?_) (fun K hK=>?_)
 · skip
   go_simp
   refine(e8 10 50 sA18 _ ⟨by decide,by decide⟩ ⟨by decide,by decide⟩ (by decide)).mono ?_
   rintro e va ⟨y,rfl,hcy,zi,EI,Bf,ai⟩
   have hva:=ak hd0 ai
   clear ai Bf
   go_wp2_with fail
   refine goOn hK hva ?_
   clear hK
   refine eZ 4 10 (fun K hK=>?_) (fun K hK=>?_)
   · skip
     go_simp
     refine(e8 0 40 sA18 _ ⟨by decide,by decide⟩ ⟨by decide,by decide⟩ (by decide)).mono ?_
     rintro e vb ⟨z,rfl,hcz,hlz,hfz,Bf,ai⟩
     have hvb:=ak hva ai
     replace zi:=Doc.later zi ai
     clear ai Bf
     go_wp2_with fail
     refine goOn hK hvb ?_
     clear hK
     refine eZ 5 10 (fun K hK=>?_) (fun K hK=>?_)
     · skip
       go_simp
       refine(HM.out y z _ hvb zi hlz EI hfz hcy hcz).mono ?_
       rintro e vc ⟨d,kv,rfl,hcd,hld,bn,hud,hkd,ai⟩
       have kI:=ak hvb ai
       have hvw:=hvb.size
       clear ai
       go_wp2_with fail
       refine goOn hK kI ?_
       clear hK
       refine ab HP.out 6 (.tuple #[.agg d.enc.toArray,kv,.int .i64 0]) kI ?_
       refine ab HP.out 7 (.agg d.enc.toArray) kI ?_
       refine ab HP.out 8 kv kI ?_
       refine ab HP.out 9 (.int .i64 0) kI ?_
       refine aq 10 (fun K hK=>?_)
       go_simp
       have hal:SR w0.heap.size w0 (vc.alloc (.cells #[S8 ⟨#[]⟩,.string ⟨#[]⟩,.int .u8 0,.bool false,.int .i64 0,.slice none 0 0,.slice none 0 0,.slice none 0 0] 27)):=kI.alloc kI.size _
       have ral:(vc.alloc (.cells #[S8 ⟨#[]⟩,.string ⟨#[]⟩,.int .u8 0,.bool false,.int .i64 0,.slice none 0 0,.slice none 0 0,.slice none 0 0] 27)).heap[vc.heap.size]? =some (.cells #[S8 ⟨#[]⟩,.string ⟨#[]⟩,.int .u8 0,.bool false,.int .i64 0,.slice none 0 0,.slice none 0 0,.slice none 0 0] 27 (0,0)):=Su _ _
       have hg:w0.heap.size≤vc.heap.size:=kI.size
       have hbe:SR vc.heap.size vc (vc.alloc (.cells #[S8 ⟨#[]⟩,.string ⟨#[]⟩,.int .u8 0,.bool false,.int .i64 0,.slice none 0 0,.slice none 0 0,.slice none 0 0] 27)):=(SS _ _).alloc (S5 _) _
       have hne:∀ b,kv.ownBlock=some b→b≠vc.heap.size:=fun b q=>S7 (hkd.lt b q).2
       have hnd:∀ b,d.uses b→b≠vc.heap.size:=fun b q=>S7 (Doc.uses_lt hld q)
       replace hkd:=ah hkd fun b q=>hbe.block b (hkd.lt b q).2
       replace hld:=Doc.later hld hbe
       refine goOn hK hal ?_
       clear hK hbe
       refine aq 11 (fun K hK=>?_)
       rw [if_pos (by rfl)]
       refine Sw 27 (.tmp 5) (.tmp 27) rfl (vc.heap.size) d.enc.toArray rfl rfl 27 _ ral aQ rfl (pR _ _ _ _ _ _ _ _ _ _ _ _ _ _) ?_
       have lg:=Sx hal hg d.enc.toArray
       have JQ:=Sz (vc.alloc (.cells #[S8 ⟨#[]⟩,.string ⟨#[]⟩,.int .u8 0,.bool false,.int .i64 0,.slice none 0 0,.slice none 0 0,.slice none 0 0] 27)) (vc.heap.size) _ d.enc.toArray _ _ ral
       have Az:=ah (eQ hkd hvw) fun b q=>bD (vc.alloc (.cells #[S8 ⟨#[]⟩,.string ⟨#[]⟩,.int .u8 0,.bool false,.int .i64 0,.slice none 0 0,.slice none 0 0,.slice none 0 0] 27)) (vc.heap.size) b d.enc.toArray (hne b q)
       have JS:d.lies ((vc.alloc (.cells #[S8 ⟨#[]⟩,.string ⟨#[]⟩,.int .u8 0,.bool false,.int .i64 0,.slice none 0 0,.slice none 0 0,.slice none 0 0] 27)).setRow (vc.heap.size) d.enc.toArray):=Doc.frame hld (S6 (size_setRow _ _ _).symm) (fun b q=>bD (vc.alloc (.cells #[S8 ⟨#[]⟩,.string ⟨#[]⟩,.int .u8 0,.bool false,.int .i64 0,.slice none 0 0,.slice none 0 0,.slice none 0 0] 27)) (vc.heap.size) b d.enc.toArray (hnd b q))
       refine goOn hK lg ?_
       clear hK
       refine ab HP.out 12 kv lg ?_
       refine ab HP.out 13 (.int .i64 0) lg ?_
       refine Sy (by kernel_rfl) ?_ _
       exact aA.out _ _ _ _ _ _ _ _ _ _ d kv _ _ hcd JS bn Az JQ hg lg
     · skip
       go_simp
       have hal:SR w0.heap.size w0 (vb.alloc (.cells #[S8 ⟨#[]⟩,.string ⟨#[]⟩,.int .u8 0,.bool false,.int .i64 0,.slice none 0 0,.slice none 0 0,.slice none 0 0] 27)):=hvb.alloc hvb.size _
       have ral:(vb.alloc (.cells #[S8 ⟨#[]⟩,.string ⟨#[]⟩,.int .u8 0,.bool false,.int .i64 0,.slice none 0 0,.slice none 0 0,.slice none 0 0] 27)).heap[vb.heap.size]? =some (.cells #[S8 ⟨#[]⟩,.string ⟨#[]⟩,.int .u8 0,.bool false,.int .i64 0,.slice none 0 0,.slice none 0 0,.slice none 0 0] 27 (0,0)):=Su _ _
       have hg:w0.heap.size≤vb.heap.size:=hvb.size
       have hbe:SR vb.heap.size vb (vb.alloc (.cells #[S8 ⟨#[]⟩,.string ⟨#[]⟩,.int .u8 0,.bool false,.int .i64 0,.slice none 0 0,.slice none 0 0,.slice none 0 0] 27)):=(SS _ _).alloc (S5 _) _
       replace zi:=Doc.later zi hbe
       replace hlz:=Doc.later hlz hbe
       refine goOn hK hal ?_
       clear hK hbe
       refine aq 5 (fun K hK=>?_)
       go_simp
       refine(HM.out y z _ hal zi hlz EI hfz hcy hcz).mono ?_
       rintro e vc ⟨d,kv,rfl,hcd,hld,bn,hud,hkd,ai⟩
       have kI:=ak hal ai
       have rvc:=(ai.block _ (SV.1 ral).1).trans ral
       have hne:∀ b,kv.ownBlock=some b→b≠vb.heap.size:=fun b q e=>(by have h1:=(hkd.lt b q).1;have h2:=(SV.1 ral).1;omega)
       have hnd:∀ b,d.uses b→b≠vb.heap.size:=fun b q e=>(by have h1:=hud b q;have h2:=(SV.1 ral).1;omega)
       have hvw:=hal.size
       clear ai
       go_wp2_with fail
       refine goOn hK kI ?_
       clear hK
       refine ab HP.out 6 (.tuple #[.agg d.enc.toArray,kv,.int .i64 0]) kI ?_
       refine ab HP.out 7 (.agg d.enc.toArray) kI ?_
       refine ab HP.out 8 kv kI ?_
       refine ab HP.out 9 (.int .i64 0) kI ?_
       refine aq 11 (fun K hK=>?_)
       rw [if_pos (by rfl)]
       refine Sw 27 (.tmp 5) (.tmp 27) rfl (vb.heap.size) d.enc.toArray rfl rfl 27 _ rvc aQ rfl (pR _ _ _ _ _ _ _ _ _ _ _ _ _ _) ?_
       have lg:=Sx kI hg d.enc.toArray
       have JQ:=Sz vc (vb.heap.size) _ d.enc.toArray _ _ rvc
       have Az:=ah (eQ hkd hvw) fun b q=>bD vc (vb.heap.size) b d.enc.toArray (hne b q)
       have JS:d.lies (vc.setRow (vb.heap.size) d.enc.toArray):=Doc.frame hld (S6 (size_setRow _ _ _).symm) (fun b q=>bD vc (vb.heap.size) b d.enc.toArray (hnd b q))
       refine goOn hK lg ?_
       clear hK
       refine ab HP.out 12 kv lg ?_
       refine ab HP.out 13 (.int .i64 0) lg ?_
       refine Sy (by kernel_rfl) ?_ _
       exact aA.out _ _ _ _ _ _ _ _ _ _ d kv _ _ hcd JS bn Az JQ hg lg
   · skip
     go_simp
     have hal:SR w0.heap.size w0 (va.alloc (.cells #[S8 ⟨#[]⟩,.string ⟨#[]⟩,.int .u8 0,.bool false,.int .i64 0,.slice none 0 0,.slice none 0 0,.slice none 0 0] 27)):=hva.alloc hva.size _
     have ral:(va.alloc (.cells #[S8 ⟨#[]⟩,.string ⟨#[]⟩,.int .u8 0,.bool false,.int .i64 0,.slice none 0 0,.slice none 0 0,.slice none 0 0] 27)).heap[va.heap.size]? =some (.cells #[S8 ⟨#[]⟩,.string ⟨#[]⟩,.int .u8 0,.bool false,.int .i64 0,.slice none 0 0,.slice none 0 0,.slice none 0 0] 27 (0,0)):=Su _ _
     have hg:w0.heap.size≤va.heap.size:=hva.size
     have hbe:SR va.heap.size va (va.alloc (.cells #[S8 ⟨#[]⟩,.string ⟨#[]⟩,.int .u8 0,.bool false,.int .i64 0,.slice none 0 0,.slice none 0 0,.slice none 0 0] 27)):=(SS _ _).alloc (S5 _) _
     replace zi:=Doc.later zi hbe
     refine goOn hK hal ?_
     clear hK hbe
     refine aq 4 (fun K hK=>?_)
     go_simp
     refine(e8 0 40 sA18 _ ⟨by decide,by decide⟩ ⟨by decide,by decide⟩ (by decide)).mono ?_
     rintro e vb ⟨z,rfl,hcz,hlz,hfz,Bf,ai⟩
     have hvb:=ak hal ai
     have rvb:=(ai.block _ (SV.1 ral).1).trans ral
     replace zi:=Doc.later zi ai
     clear ai Bf
     go_wp2_with fail
     refine goOn hK hvb ?_
     clear hK
     refine aq 5 (fun K hK=>?_)
     go_simp
     refine(HM.out y z _ hvb zi hlz EI hfz hcy hcz).mono ?_
     rintro e vc ⟨d,kv,rfl,hcd,hld,bn,hud,hkd,ai⟩
     have kI:=ak hvb ai
     have rvc:=(ai.block _ (SV.1 rvb).1).trans rvb
     have hne:∀ b,kv.ownBlock=some b→b≠va.heap.size:=fun b q e=>(by have h1:=(hkd.lt b q).1;have h2:=(SV.1 rvb).1;omega)
     have hnd:∀ b,d.uses b→b≠va.heap.size:=fun b q e=>(by have h1:=hud b q;have h2:=(SV.1 rvb).1;omega)
     have hvw:=hvb.size
     clear ai
     go_wp2_with fail
     refine goOn hK kI ?_
     clear hK
     refine ab HP.out 6 (.tuple #[.agg d.enc.toArray,kv,.int .i64 0]) kI ?_
     refine ab HP.out 7 (.agg d.enc.toArray) kI ?_
     refine ab HP.out 8 kv kI ?_
     refine ab HP.out 9 (.int .i64 0) kI ?_
     refine aq 11 (fun K hK=>?_)
     rw [if_pos (by rfl)]
     refine Sw 27 (.tmp 5) (.tmp 27) rfl (va.heap.size) d.enc.toArray rfl rfl 27 _ rvc aQ rfl (pR _ _ _ _ _ _ _ _ _ _ _ _ _ _) ?_
     have lg:=Sx kI hg d.enc.toArray
     have JQ:=Sz vc (va.heap.size) _ d.enc.toArray _ _ rvc
     have Az:=ah (eQ hkd hvw) fun b q=>bD vc (va.heap.size) b d.enc.toArray (hne b q)
     have JS:d.lies (vc.setRow (va.heap.size) d.enc.toArray):=Doc.frame hld (S6 (size_setRow _ _ _).symm) (fun b q=>bD vc (va.heap.size) b d.enc.toArray (hnd b q))
     refine goOn hK lg ?_
     clear hK
     refine ab HP.out 12 kv lg ?_
     refine ab HP.out 13 (.int .i64 0) lg ?_
     refine Sy (by kernel_rfl) ?_ _
     exact aA.out _ _ _ _ _ _ _ _ _ _ d kv _ _ hcd JS bn Az JQ hg lg
 · skip
   go_simp
   have hal:SR w0.heap.size w0 (w0.drew.alloc (.cells #[S8 ⟨#[]⟩,.string ⟨#[]⟩,.int .u8 0,.bool false,.int .i64 0,.slice none 0 0,.slice none 0 0,.slice none 0 0] 27)):=hd0.alloc hd0.size _
   have ral:(w0.drew.alloc (.cells #[S8 ⟨#[]⟩,.string ⟨#[]⟩,.int .u8 0,.bool false,.int .i64 0,.slice none 0 0,.slice none 0 0,.slice none 0 0] 27)).heap[w0.drew.heap.size]? =some (.cells #[S8 ⟨#[]⟩,.string ⟨#[]⟩,.int .u8 0,.bool false,.int .i64 0,.slice none 0 0,.slice none 0 0,.slice none 0 0] 27 (0,0)):=Su _ _
   have hg:w0.heap.size≤w0.drew.heap.size:=hd0.size
   have hbe:SR w0.drew.heap.size w0.drew (w0.drew.alloc (.cells #[S8 ⟨#[]⟩,.string ⟨#[]⟩,.int .u8 0,.bool false,.int .i64 0,.slice none 0 0,.slice none 0 0,.slice none 0 0] 27)):=(SS _ _).alloc (S5 _) _
   refine goOn hK hal ?_
   clear hK hbe
   refine aq 2 (fun K hK=>?_)
   go_simp
   refine(e8 10 50 sA18 _ ⟨by decide,by decide⟩ ⟨by decide,by decide⟩ (by decide)).mono ?_
   rintro e va ⟨y,rfl,hcy,zi,EI,Bf,ai⟩
   have hva:=ak hal ai
   have rva:=(ai.block _ (SV.1 ral).1).trans ral
   clear ai Bf
   go_wp2_with fail
   refine goOn hK hva ?_
   clear hK
   refine aq 4 (fun K hK=>?_)
   go_simp
   refine(e8 0 40 sA18 _ ⟨by decide,by decide⟩ ⟨by decide,by decide⟩ (by decide)).mono ?_
   rintro e vb ⟨z,rfl,hcz,hlz,hfz,Bf,ai⟩
   have hvb:=ak hva ai
   have rvb:=(ai.block _ (SV.1 rva).1).trans rva
   replace zi:=Doc.later zi ai
   clear ai Bf
   go_wp2_with fail
   refine goOn hK hvb ?_
   clear hK
   refine aq 5 (fun K hK=>?_)
   go_simp
   refine(HM.out y z _ hvb zi hlz EI hfz hcy hcz).mono ?_
   rintro e vc ⟨d,kv,rfl,hcd,hld,bn,hud,hkd,ai⟩
   have kI:=ak hvb ai
   have rvc:=(ai.block _ (SV.1 rvb).1).trans rvb
   have hne:∀ b,kv.ownBlock=some b→b≠w0.drew.heap.size:=fun b q e=>(by have h1:=(hkd.lt b q).1;have h2:=(SV.1 rvb).1;omega)
   have hnd:∀ b,d.uses b→b≠w0.drew.heap.size:=fun b q e=>(by have h1:=hud b q;have h2:=(SV.1 rvb).1;omega)
   have hvw:=hvb.size
   clear ai
   go_wp2_with fail
   refine goOn hK kI ?_
   clear hK
   refine ab HP.out 6 (.tuple #[.agg d.enc.toArray,kv,.int .i64 0]) kI ?_
   refine ab HP.out 7 (.agg d.enc.toArray) kI ?_
   refine ab HP.out 8 kv kI ?_
   refine ab HP.out 9 (.int .i64 0) kI ?_
   refine aq 11 (fun K hK=>?_)
   rw [if_pos (by rfl)]
   refine Sw 27 (.tmp 5) (.tmp 27) rfl (w0.drew.heap.size) d.enc.toArray rfl rfl 27 _ rvc aQ rfl (pR _ _ _ _ _ _ _ _ _ _ _ _ _ _) ?_
   have lg:=Sx kI hg d.enc.toArray
   have JQ:=Sz vc (w0.drew.heap.size) _ d.enc.toArray _ _ rvc
   have Az:=ah (eQ hkd hvw) fun b q=>bD vc (w0.drew.heap.size) b d.enc.toArray (hne b q)
   have JS:d.lies (vc.setRow (w0.drew.heap.size) d.enc.toArray):=Doc.frame hld (S6 (size_setRow _ _ _).symm) (fun b q=>bD vc (w0.drew.heap.size) b d.enc.toArray (hnd b q))
   refine goOn hK lg ?_
   clear hK
   refine ab HP.out 12 kv lg ?_
   refine ab HP.out 13 (.int .i64 0) lg ?_
   refine Sy (by kernel_rfl) ?_ _
   exact aA.out _ _ _ _ _ _ _ _ _ _ d kv _ _ hcd JS bn Az JQ hg lg
end Go.Proofs.YtnlnmbcaongehaaGreatDoor
