/- The law MergeKeeps: the drawn regions of its loops. The law MergeKeeps: the drawn regions of its second loop. -/
import Derived.Test.YtnlnmbcaongehaaGreatDoorN24
set_option linter.unusedVariables false
set_option linter.unusedSimpArgs false
set_option maxRecDepth 100000
set_option maxHeartbeats 12800000
open Go.Lib renaming hid→h_
open List renaming setIfInBounds_toArray→SG,getElem_cons_zero→SH,getElem_cons_succ→SI,getElem_toArray→SJ,set_cons_zero→SK,set_cons_succ→SL
open Array renaming toArray_toList→SQ
open Go renaming yieldsIf_load_mid→Su,wp_region_held_drew→Sv,World→Sw,wpAnyH_done→Sx,cell_of_row→Sy,Value→Sz
open Go.RowKit renaming Below→SA
open Array renaming getElem?_eq_some_iff→SB
open List renaming getElem?_eq_some_iff→SC,mem_of_getElem?→SD,append_assoc→SE
open Go.Proofs.Tryz renaming underlying50→SF,prog→SM,underlying27→SN,f8→SO
open Go.RowKit.Below renaming refl→SR
open And renaming intro→SS
namespace Go.Proofs.YtnlnmbcaongehaaGreatDoor
open Go.RowKit
structure KpW (x y z d:Doc)(G D:Nat)(pa:Option Addr)(cls:List Cl)(w:Sw):Prop where
 bx:w.heap[G]? =some (.cells (x.enc++(y.enc++z.enc)).toArray 63 (0,0))
 bd:w.heap[D]? =some (.cells d.enc.toArray 27 (0,0))
 lx:x.lies w
 ly:y.lies w
 lz:z.lies w
 ld:d.lies w
 cl:af 4 Cl.enc Flat w pa cls
theorem KpW.later {x y z d:Doc} {G D:Nat} {pa:Option Addr} {cls:List Cl} {w w':Sw} (h:KpW x y z d G D pa cls w)(q:SA w.heap.size w w'):KpW x y z d G D pa cls w' :=
 ⟨(q.block _ (SB.1 h.bx).1).trans h.bx,(q.block _ (SB.1 h.bd).1).trans h.bd,Doc.later h.lx q,Doc.later h.ly q,Doc.later h.lz q,Doc.later h.ld q,af.keeps Flat.keeps _ _ _ _ q h.cl⟩
theorem sD {w:Sw} {g:Nat} {l m r:List Sz} {t:TypeId} (h:w.heap[g]? =some (.cells (l++(m++r)).toArray t (0,0))):w.rangeAt g l.length m:=fun j v hv=>by
 rw [Sy _ _ (l.length+j) _ t (0,0) h]
 have hj:=(SC.1 hv).1
 simp only [List.getElem?_toArray]
 rw [List.getElem?_append_right (by omega),List.getElem?_append_left (by omega)]
 simpa using hv
theorem KpW.rx {x y z d:Doc} {G D:Nat} {pa:Option Addr} {cls:List Cl} {w:Sw} (h:KpW x y z d G D pa cls w):w.rangeAt G 0 x.enc:=sD (l:=[]) h.bx
theorem KpW.ry {x y z d:Doc} {G D:Nat} {pa:Option Addr} {cls:List Cl} {w:Sw} (h:KpW x y z d G D pa cls w):w.rangeAt G 8 y.enc:=sD (l:=x.enc) h.bx
theorem KpW.rz {x y z d:Doc} {G D:Nat} {pa:Option Addr} {cls:List Cl} {w:Sw} (h:KpW x y z d G D pa cls w):w.rangeAt G 16 z.enc:=by
 have hb:=h.bx
 rw [←SE,←List.append_nil (x.enc++y.enc++z.enc),SE (x.enc++y.enc)] at hb
 exact sD (l:=x.enc++y.enc) hb
theorem KpW.rd {x y z d:Doc} {G D:Nat} {pa:Option Addr} {cls:List Cl} {w:Sw} (h:KpW x y z d G D pa cls w):w.rangeAt D 0 d.enc:=ku h.bd
theorem wR {w:Sw} {a:Option Addr} {xs:List Ev} {b o i:Nat} {e:Ev} (h:kJ w a xs)(ha:a=some ⟨b,o,none⟩)(hi:xs[i]? =some e):w.rangeAt b (o+i*7) e.enc∧e.lies w:=by
 obtain⟨b',o',e',ha',_,he',hc,hl⟩:=af.at_ h (SC.1 hi).1
 rw [ha] at ha'
 cases ha'
 rw [hi] at he'
 cases he'
 exact⟨hc,hl⟩
theorem wQ (e1 e2:Ev)(f1:e1.fits)(f2:e2.fits)(w:Sw)(l1:e1.lies w)(l2:e2.lies w):Calls SM 28 #[.agg e1.enc.toArray,.agg e2.enc.toArray] w fun e w'=>e=.returned (.bool (evEq e1 e2))∧SA w.heap.size w w' :=
 fY e1 e2 w l1 l2 (fun r hr=>(f1.2.2.2.2.2.2.2.1 r hr).2.1) (fun r hr=>(f2.2.2.2.2.2.2.2.1 r hr).2.1) f1.2.2.2.2.2.2.2.2
theorem zaa {w:Sw} {C:Nat} {c:Chg} (hc:w.heap[C]? =some (.cells c.enc.toArray 54 (0,0))):w.rangeAt C 36 c.ne.enc:=by
 have e:c.enc=(([.int .u8 c.sec,.int .i64 c.id,.string c.name,.bool c.added,.bool c.gone]++(c.oh.enc++(c.nh.enc++(c.rg.enc++(c.nr.enc++c.oe.enc))))):List Sz)++(c.ne.enc++(c.oc.enc++c.nc.enc)):=by
  unfold Chg.enc
  simp only [SE]
 rw [e] at hc
 exact sD hc
theorem fm:(SM.info? 50).map (·.size)=some 7:=by kernel_rfl
def zai (w0:Sw)(p1 p9 r10 r11:Sz):Prop:=∀ ⦃Q:Exit→Act→Sw→Prop⦄,(∀ ch a a' w,a'.defers=a.defers→Q (.panic ch) a w→Q (.panic ch) a' w)→∀ ⦃s0 s2 s3 s4 s5 s6 s7 s8 s10 s11 s12 s13 xF s15 s16 kF ze uO s20 xP sK rP s24 qJ qI qj qi pW ou n_ ll nW nV nU nT nS nR nQ nP nO mX s43 s44 mW mV mK mH s49 mG mg mf s53 lG sM lF qW qV rO rH rF rE qX vN xE tF wW s68 xO kG wV s72 wU wT vZ vY vX vW vV vU vT s82 s83 vS vR vQ s87 vP vO vM vL vK vI vH uT uS uR uQ uP bF bY bX bW bV bU dh df jh iY iN iw j6 jZ jY jX jW jV jU jT jS jR jQ jP jO jN jM jL jD jC jB jA jy bT bS bR jw bQ jv bP cZ cO iq ik ig gT gP gN gM gL gK gJ gI gH gG gF gD gu gq gp f_ fV fQ fD fB eH eG eF eD eB eu ek ed dW dV dU dS dR dQ dP dN dM dL dK dJ dI cK cB cu b_ dH dF dE dD dC dB dA dz dx dw dm di bO bN bM ji:Sz⦄,
    (∀ ⦃u59 u60 RN RL u63 u64 RJ u66 RI u68:Sz⦄ (wx:Sw),SA w0.heap.size w0 wx→Q .normal { tmps:=#[s0,p1,s2,s3,s4,s5,s6,s7,s8,p9,r10,r11,s12,s13,xF,s15,s16,kF,ze,uO,s20,xP,sK,rP,s24,qJ,qI,qj,qi,pW,ou,n_,ll,nW,nV,nU,nT,nS,nR,nQ,nP,nO,mX,s43,s44,mW,mV,mK,mH,s49,mG,mg,mf,s53,lG,sM,lF,qW,qV,u59,u60,RN,RL,u63,u64,RJ,u66,RI,u68,xO,kG,wV,s72,wU,wT,vZ,vY,vX,vW,vV,vU,vT,s82,s83,vS,vR,vQ,s87,vP,vO,vM,vL,vK,vI,vH,uT,uS,uR,uQ,uP,bF,bY,bX,bW,bV,bU,dh,df,jh,iY,iN,iw,j6,jZ,jY,jX,jW,jV,jU,jT,jS,jR,jQ,jP,jO,jN,jM,jL,jD,jC,jB,jA,jy,bT,bS,bR,jw,bQ,jv,bP,cZ,cO,iq,ik,ig,gT,gP,gN,gM,gL,gK,gJ,gI,gH,gG,gF,gD,gu,gq,gp,f_,fV,fQ,fD,fB,eH,eG,eF,eD,eB,eu,ek,ed,dW,dV,dU,dS,dR,dQ,dP,dN,dM,dL,dK,dJ,dI,cK,cB,cu,b_,dH,dF,dE,dD,dC,dB,dA,dz,dx,dw,dm,di,bO,bN,bM,ji],defers:=[] } wx) →
    Code.wp SM ((mE 12 (SO.body.getD .skip)).getD .skip) Q { tmps:=#[s0,p1,s2,s3,s4,s5,s6,s7,s8,p9,s10,s11,s12,s13,xF,s15,s16,kF,ze,uO,s20,xP,sK,rP,s24,qJ,qI,qj,qi,pW,ou,n_,ll,nW,nV,nU,nT,nS,nR,nQ,nP,nO,mX,s43,s44,mW,mV,mK,mH,s49,mG,mg,mf,s53,lG,sM,lF,qW,qV,rO,rH,rF,rE,qX,vN,xE,tF,wW,s68,xO,kG,wV,s72,wU,wT,vZ,vY,vX,vW,vV,vU,vT,s82,s83,vS,vR,vQ,s87,vP,vO,vM,vL,vK,vI,vH,uT,uS,uR,uQ,uP,bF,bY,bX,bW,bV,bU,dh,df,jh,iY,iN,iw,j6,jZ,jY,jX,jW,jV,jU,jT,jS,jR,jQ,jP,jO,jN,jM,jL,jD,jC,jB,jA,jy,bT,bS,bR,jw,bQ,jv,bP,cZ,cO,iq,ik,ig,gT,gP,gN,gM,gL,gK,gJ,gI,gH,gG,gF,gD,gu,gq,gp,f_,fV,fQ,fD,fB,eH,eG,eF,eD,eB,eu,ek,ed,dW,dV,dU,dS,dR,dQ,dP,dN,dM,dL,dK,dJ,dI,cK,cB,cu,b_,dH,dF,dE,dD,dC,dB,dA,dz,dx,dw,dm,di,bO,bN,bM,ji],defers:=[] } w0
theorem Ol (x y z d:Doc)(G D:Nat)(pa:Option Addr)(cls:List Cl)(w0:Sw)(hk:KpW x y z d G D pa cls w0)(fx:x.fits)(fy:y.fits)(fz:z.fits)(fd:d.fits)(c:Chg)(C:Nat)(hc:w0.heap[C]? =some (.cells c.enc.toArray 54 (0,0))):zai w0 (.pointer (some ⟨G,0,none⟩)) (.pointer (some ⟨C,0,none⟩)) (.int .i64 (posOf (iI c.id) x.eV)) (.int .i64 (posOf (iI c.id) z.eV)):=by
 intro Q hP
 intros
 rename_i hfin
 have aA:=h_ hfin
 have HP:=h_ hP
 have HK:=h_ (fun(w':Sw) (q:SA w0.heap.size w0 w')=>hk.later q)
 have c1:∀ w',SA w0.heap.size w0 w'→w'.cell? ⟨C,1,none⟩=some (.int .i64 c.id):=fun w' q=>(Sy _ _ 1 _ 54 (0,0) ((q.block _ (SB.1 hc).1).trans hc)).trans rfl
 clear hc
 have hd0:SA w0.heap.size w0 w0.drew:=(SR _ _).drew
 clear hfin hP hk
 conv=>arg 2;whnf
 refine Sv (S:=fun w'=>SA w0.heap.size w0 w') (by kernel_rfl) hd0 (fun _=>?_)
 refine ab HP.out 0 (.pointer (some ⟨G,0,none⟩)) hd0 ?_
 refine ab HP.out 1 (.agg x.enc.toArray) hd0 ?_ (hy:=Su (by rfl) 27 (.tmp 59) rfl G 0 rfl x.enc _ (fun w_ h_=>(HK.out w_ h_).rx) SN rfl aQ)
 refine ab HP.out 2 (.pointer (some ⟨C,1,none⟩)) hd0 ?_
 refine ab HP.out 3 (.int .i64 c.id) hd0 ?_
 refine ab HP.out 5 (.pointer (some ⟨G,16,none⟩)) hd0 ?_
 refine ab HP.out 6 (.agg z.enc.toArray) hd0 ?_ (hy:=Su (by rfl) 27 (.tmp 64) rfl G 16 rfl z.enc _ (fun w_ h_=>(HK.out w_ h_).rz) SN rfl aQ)
 refine ab HP.out 7 (.pointer (some ⟨C,1,none⟩)) hd0 ?_
 refine ab HP.out 8 (.int .i64 c.id) hd0 ?_
 refine aq 4 (fun K hK=>?_)
 go_simp
 refine(fC x c.id _ (HK.out _ hd0).lx.2.1 fx.2.2.2.2.2.2.2.2.1).mono ?_
 rintro e v63 ⟨rfl,ai⟩
 have Qg:=ak hd0 ai
 clear ai
 go_wp2_with fail
 refine goOn hK Qg ?_
 clear hK
 refine aq 9 (fun K hK=>?_)
 go_simp
 refine(fC z c.id _ (HK.out _ Qg).lz.2.1 fz.2.2.2.2.2.2.2.2.1).mono ?_
 rintro e v68 ⟨rfl,ai⟩
 have Ns:=ak Qg ai
 clear ai
 go_wp2_with fail
 refine goOn hK Ns ?_
 clear hK
 refine ab HP.out 10 (.int .i64 (posOf (iI c.id) x.eV)) Ns ?_
 refine ab HP.out 11 (.int .i64 (posOf (iI c.id) z.eV)) Ns ?_
 refine Sx (by kernel_rfl) ?_ _
 exact aA.out _ Ns
def JJ (w0:Sw)(p1 p10 p11 r12:Sz):Prop:=∀ ⦃Q:Exit→Act→Sw→Prop⦄,(∀ ch a a' w,a'.defers=a.defers→Q (.panic ch) a w→Q (.panic ch) a' w)→∀ ⦃s0 s2 s3 s4 s5 s6 s7 s8 s9 s12 s13 xF s15 s16 kF ze uO s20 xP sK rP s24 qJ qI qj qi pW ou n_ ll nW nV nU nT nS nR nQ nP nO mX s43 s44 mW mV mK mH s49 mG mg mf s53 lG sM lF qW qV rO rH rF rE qX vN xE tF wW s68 xO kG wV s72 wU wT vZ vY vX vW vV vU vT s82 s83 vS vR vQ s87 vP vO vM vL vK vI vH uT uS uR uQ uP bF bY bX bW bV bU dh df jh iY iN iw j6 jZ jY jX jW jV jU jT jS jR jQ jP jO jN jM jL jD jC jB jA jy bT bS bR jw bQ jv bP cZ cO iq ik ig gT gP gN gM gL gK gJ gI gH gG gF gD gu gq gp f_ fV fQ fD fB eH eG eF eD eB eu ek ed dW dV dU dS dR dQ dP dN dM dL dK dJ dI cK cB cu b_ dH dF dE dD dC dB dA dz dx dw dm di bO bN bM ji:Sz⦄,
    (∀ ⦃u69 u70 OW u72 u73 OV u75 OU OT OQ OP OO OM OL OJ PW PV PU PT PS PR:Sz⦄ (wx:Sw),SA w0.heap.size w0 wx→Q .normal { tmps:=#[s0,p1,s2,s3,s4,s5,s6,s7,s8,s9,p10,p11,r12,s13,xF,s15,s16,kF,ze,uO,s20,xP,sK,rP,s24,qJ,qI,qj,qi,pW,ou,n_,ll,nW,nV,nU,nT,nS,nR,nQ,nP,nO,mX,s43,s44,mW,mV,mK,mH,s49,mG,mg,mf,s53,lG,sM,lF,qW,qV,rO,rH,rF,rE,qX,vN,xE,tF,wW,s68,u69,u70,OW,u72,u73,OV,u75,OU,OT,OQ,OP,OO,OM,OL,OJ,PW,PV,PU,PT,PS,PR,vM,vL,vK,vI,vH,uT,uS,uR,uQ,uP,bF,bY,bX,bW,bV,bU,dh,df,jh,iY,iN,iw,j6,jZ,jY,jX,jW,jV,jU,jT,jS,jR,jQ,jP,jO,jN,jM,jL,jD,jC,jB,jA,jy,bT,bS,bR,jw,bQ,jv,bP,cZ,cO,iq,ik,ig,gT,gP,gN,gM,gL,gK,gJ,gI,gH,gG,gF,gD,gu,gq,gp,f_,fV,fQ,fD,fB,eH,eG,eF,eD,eB,eu,ek,ed,dW,dV,dU,dS,dR,dQ,dP,dN,dM,dL,dK,dJ,dI,cK,cB,cu,b_,dH,dF,dE,dD,dC,dB,dA,dz,dx,dw,dm,di,bO,bN,bM,ji],defers:=[] } wx) →
    Code.wp SM ((mE 13 (SO.body.getD .skip)).getD .skip) Q { tmps:=#[s0,p1,s2,s3,s4,s5,s6,s7,s8,s9,p10,p11,s12,s13,xF,s15,s16,kF,ze,uO,s20,xP,sK,rP,s24,qJ,qI,qj,qi,pW,ou,n_,ll,nW,nV,nU,nT,nS,nR,nQ,nP,nO,mX,s43,s44,mW,mV,mK,mH,s49,mG,mg,mf,s53,lG,sM,lF,qW,qV,rO,rH,rF,rE,qX,vN,xE,tF,wW,s68,xO,kG,wV,s72,wU,wT,vZ,vY,vX,vW,vV,vU,vT,s82,s83,vS,vR,vQ,s87,vP,vO,vM,vL,vK,vI,vH,uT,uS,uR,uQ,uP,bF,bY,bX,bW,bV,bU,dh,df,jh,iY,iN,iw,j6,jZ,jY,jX,jW,jV,jU,jT,jS,jR,jQ,jP,jO,jN,jM,jL,jD,jC,jB,jA,jy,bT,bS,bR,jw,bQ,jv,bP,cZ,cO,iq,ik,ig,gT,gP,gN,gM,gL,gK,gJ,gI,gH,gG,gF,gD,gu,gq,gp,f_,fV,fQ,fD,fB,eH,eG,eF,eD,eB,eu,ek,ed,dW,dV,dU,dS,dR,dQ,dP,dN,dM,dL,dK,dJ,dI,cK,cB,cu,b_,dH,dF,dE,dD,dC,dB,dA,dz,dx,dw,dm,di,bO,bN,bM,ji],defers:=[] } w0
theorem LV (x y z d:Doc)(G D:Nat)(pa:Option Addr)(cls:List Cl)(w0:Sw)(hk:KpW x y z d G D pa cls w0)(fx:x.fits)(fy:y.fits)(fz:z.fits)(fd:d.fits)(v11:Sz):JJ w0 (.pointer (some ⟨G,0,none⟩)) (.int .i64 (-1:Int)) (v11) (.bool false):=by
 intro Q hP
 intros
 rename_i hfin
 have aA:=h_ hfin
 have HP:=h_ hP
 have HK:=h_ (fun(w':Sw) (q:SA w0.heap.size w0 w')=>hk.later q)
 have hd0:SA w0.heap.size w0 w0.drew:=(SR _ _).drew
 clear hfin hP hk
 conv=>arg 2;whnf
 refine Sv (S:=fun w'=>SA w0.heap.size w0 w') (by kernel_rfl) hd0 (fun _=>?_)
 refine ab HP.out 0 (.int .i64 (-1:Int)) hd0 ?_
 refine ab HP.out 1 (.bool false) hd0 ?_
 refine ab HP.out 2 (.bool false) hd0 ?_
 refine aB HP.out 3 hd0 ?_
 refine aB HP.out 4 hd0 ?_
 refine ab HP.out 5 (.bool false) hd0 ?_
 refine ab HP.out 6 (.bool false) hd0 ?_
 refine aB HP.out 7 hd0 ?_
 refine aB HP.out 8 hd0 ?_
 refine aB HP.out 9 hd0 ?_
 refine aB HP.out 10 hd0 ?_
 refine aB HP.out 11 hd0 ?_
 refine aB HP.out 12 hd0 ?_
 refine aB HP.out 13 hd0 ?_
 refine aB HP.out 14 hd0 ?_
 refine aB HP.out 15 hd0 ?_
 refine aB HP.out 16 hd0 ?_
 refine aB HP.out 17 hd0 ?_
 refine aB HP.out 18 hd0 ?_
 refine aB HP.out 19 hd0 ?_
 refine ab HP.out 20 (.bool false) hd0 ?_
 refine ab HP.out 21 (.bool false) hd0 ?_
 refine Sx (by kernel_rfl) ?_ _
 exact aA.out _ hd0
theorem LU (x y z d:Doc)(G D:Nat)(pa:Option Addr)(cls:List Cl)(w0:Sw)(hk:KpW x y z d G D pa cls w0)(fx:x.fits)(fy:y.fits)(fz:z.fits)(fd:d.fits)(i:Nat):JJ w0 (.pointer (some ⟨G,0,none⟩)) (.int .i64 (i:Int)) (.int .i64 (-1:Int)) (.bool false):=by
 intro Q hP
 intros
 rename_i hfin
 have aA:=h_ hfin
 have HP:=h_ hP
 have HK:=h_ (fun(w':Sw) (q:SA w0.heap.size w0 w')=>hk.later q)
 have hi0:(0:Int)≤(i:Int):=by omega
 have hd0:SA w0.heap.size w0 w0.drew:=(SR _ _).drew
 clear hfin hP hk
 conv=>arg 2;whnf
 refine Sv (S:=fun w'=>SA w0.heap.size w0 w') (by kernel_rfl) hd0 (fun _=>?_)
 refine ab HP.out 0 (.int .i64 (i:Int)) hd0 ?_
 refine ab HP.out 1 (.bool true) hd0 ?_
 refine ab HP.out 2 (.bool true) hd0 ?_
 refine ab HP.out 3 (.int .i64 (-1:Int)) hd0 ?_
 refine ab HP.out 4 (.bool false) hd0 ?_
 refine ab HP.out 5 (.bool false) hd0 ?_
 refine ab HP.out 6 (.bool false) hd0 ?_
 refine aB HP.out 7 hd0 ?_
 refine aB HP.out 8 hd0 ?_
 refine aB HP.out 9 hd0 ?_
 refine aB HP.out 10 hd0 ?_
 refine aB HP.out 11 hd0 ?_
 refine aB HP.out 12 hd0 ?_
 refine aB HP.out 13 hd0 ?_
 refine aB HP.out 14 hd0 ?_
 refine aB HP.out 15 hd0 ?_
 refine aB HP.out 16 hd0 ?_
 refine aB HP.out 17 hd0 ?_
 refine aB HP.out 18 hd0 ?_
 refine aB HP.out 19 hd0 ?_
 refine ab HP.out 20 (.bool false) hd0 ?_
 refine ab HP.out 21 (.bool false) hd0 ?_
 refine Sx (by kernel_rfl) ?_ _
 exact aA.out _ hd0
theorem LR (x y z d:Doc)(G D:Nat)(pa:Option Addr)(cls:List Cl)(w0:Sw)(hk:KpW x y z d G D pa cls w0)(fx:x.fits)(fy:y.fits)(fz:z.fits)(fd:d.fits)(i k:Nat)(e1 e2:Ev)(h1:x.eV[i]? =some e1)(h2:z.eV[k]? =some e2):JJ w0 (.pointer (some ⟨G,0,none⟩)) (.int .i64 (i:Int)) (.int .i64 (k:Int)) (.bool (evEq e1 e2)):=by
 intro Q hP
 intros
 rename_i hfin
 have aA:=h_ hfin
 have HP:=h_ hP
 have HK:=h_ (fun(w':Sw) (q:SA w0.heap.size w0 w')=>hk.later q)
 have hi0:(0:Int)≤(i:Int):=by omega
 have hk0:(0:Int)≤(k:Int):=by omega
 obtain⟨b1,o1,_,ha1,_,_,_,_⟩:=af.at_ hk.lx.2.1 (SC.1 h1).1
 have hl1:i<x.eV.length:=(SC.1 h1).1
 have HR1:=h_ (fun(w':Sw) (q:SA w0.heap.size w0 w')=>wR (hk.later q).lx.2.1 ha1 h1)
 have kH:=h_ (fx.2.2.2.2.2.2.2.1 _ (SD h1))
 have d1:∀ w',SA w0.heap.size w0 w'→w'.cell? ⟨G,6,none⟩=some (.slice (some ⟨b1,o1,none⟩) x.eV.length x.ec):=fun w' q=>ha1▸(hk.later q).rx 6 (.slice x.ea x.eV.length x.ec) rfl
 have hm1:x.eV.length≤4000000:=fx.2.2.2.2.2.2.2.2.1
 obtain⟨b2,o2,_,ha2,_,_,_,_⟩:=af.at_ hk.lz.2.1 (SC.1 h2).1
 have hl2:k<z.eV.length:=(SC.1 h2).1
 have HR2:=h_ (fun(w':Sw) (q:SA w0.heap.size w0 w')=>wR (hk.later q).lz.2.1 ha2 h2)
 have t_:=h_ (fz.2.2.2.2.2.2.2.1 _ (SD h2))
 have d2:∀ w',SA w0.heap.size w0 w'→w'.cell? ⟨G,22,none⟩=some (.slice (some ⟨b2,o2,none⟩) z.eV.length z.ec):=fun w' q=>ha2▸(hk.later q).rz 6 (.slice z.ea z.eV.length z.ec) rfl
 have hm2:z.eV.length≤4000000:=fz.2.2.2.2.2.2.2.2.1
 have hd0:SA w0.heap.size w0 w0.drew:=(SR _ _).drew
 clear hfin hP hk
 conv=>arg 2;whnf
 refine Sv (S:=fun w'=>SA w0.heap.size w0 w') (by kernel_rfl) hd0 (fun _=>?_)
 refine ab HP.out 0 (.int .i64 (i:Int)) hd0 ?_
 refine ab HP.out 1 (.bool true) hd0 ?_
 refine ab HP.out 2 (.bool true) hd0 ?_
 refine ab HP.out 3 (.int .i64 (k:Int)) hd0 ?_
 refine ab HP.out 4 (.bool true) hd0 ?_
 refine ab HP.out 5 (.bool true) hd0 ?_
 refine ab HP.out 6 (.bool true) hd0 ?_
 refine ab HP.out 7 (.pointer (some ⟨G,0,none⟩)) hd0 ?_
 refine ab HP.out 8 (.pointer (some ⟨G,6,none⟩)) hd0 ?_
 refine ab HP.out 9 (.slice (some ⟨b1,o1,none⟩) x.eV.length x.ec) hd0 ?_
 refine ab HP.out 10 (.int .i64 (i:Int)) hd0 ?_
 refine ab HP.out 11 (.pointer (some ⟨b1,o1+i*7,none⟩)) hd0 ?_
 refine ab HP.out 12 (.agg e1.enc.toArray) hd0 ?_ (hy:=Su (by rfl) 50 (.tmp 80) rfl b1 (o1+i*7) rfl e1.enc _ (fun w_ h_=>(HR1.out w_ h_).1) SF rfl fm)
 refine ab HP.out 13 (.pointer (some ⟨G,16,none⟩)) hd0 ?_
 refine ab HP.out 14 (.pointer (some ⟨G,22,none⟩)) hd0 ?_
 refine ab HP.out 15 (.slice (some ⟨b2,o2,none⟩) z.eV.length z.ec) hd0 ?_
 refine ab HP.out 16 (.int .i64 (k:Int)) hd0 ?_
 refine ab HP.out 17 (.pointer (some ⟨b2,o2+k*7,none⟩)) hd0 ?_
 refine ab HP.out 18 (.agg e2.enc.toArray) hd0 ?_ (hy:=Su (by rfl) 50 (.tmp 86) rfl b2 (o2+k*7) rfl e2.enc _ (fun w_ h_=>(HR2.out w_ h_).1) SF rfl fm)
 refine aq 19 (fun K hK=>?_)
 go_simp
 refine(wQ e1 e2 kH.out t_.out _ (HR1.out _ hd0).2 (HR2.out _ hd0).2).mono ?_
 rintro e v88 ⟨rfl,ai⟩
 have Nr:=ak hd0 ai
 clear ai
 go_wp2_with fail
 refine goOn hK Nr ?_
 clear hK
 refine ab HP.out 20 (.bool (evEq e1 e2)) Nr ?_
 refine ab HP.out 21 (.bool (evEq e1 e2)) Nr ?_
 refine Sx (by kernel_rfl) ?_ _
 exact aA.out _ Nr
def PJ (w0:Sw)(p3 p9 p13 r132:Sz):Prop:=∀ ⦃Q:Exit→Act→Sw→Prop⦄,(∀ ch a a' w,a'.defers=a.defers→Q (.panic ch) a w→Q (.panic ch) a' w)→∀ ⦃s0 s1 s2 s4 s5 s6 s7 s8 s10 s11 s12 xF s15 s16 kF ze uO s20 xP sK rP s24 qJ qI qj qi pW ou n_ ll nW nV nU nT nS nR nQ nP nO mX s43 s44 mW mV mK mH s49 mG mg mf s53 lG sM lF qW qV rO rH rF rE qX vN xE tF wW s68 xO kG wV s72 wU wT vZ vY vX vW vV vU vT s82 s83 vS vR vQ s87 vP vO vM vL vK vI vH uT uS uR uQ uP bF bY bX bW bV bU dh df jh iY iN iw j6 jZ jY jX jW jV jU jT jS jR jQ jP jO jN jM jL jD jC jB jA jy bT bS bR jw bQ jv bP cZ cO iq ik ig gT gP gN gM gL gK gJ gI gH gG gF gD gu gq gp f_ fV fQ fD fB eH eG eF eD eB eu ek ed dW dV dU dS dR dQ dP dN dM dL dK dJ dI cK cB cu b_ dH dF dE dD dC dB dA dz dx dw dm di bO bN bM ji:Sz⦄,
    (∀ ⦃Eb DC Dz Dy Dx Dw Dv u119 Du Dt Dr Dq u124 Dp CZ u127 Cx Cw Cv u131:Sz⦄ (wx:Sw),SA w0.heap.size w0 wx→Q .normal { tmps:=#[s0,s1,s2,p3,s4,s5,s6,s7,s8,p9,s10,s11,s12,p13,xF,s15,s16,kF,ze,uO,s20,xP,sK,rP,s24,qJ,qI,qj,qi,pW,ou,n_,ll,nW,nV,nU,nT,nS,nR,nQ,nP,nO,mX,s43,s44,mW,mV,mK,mH,s49,mG,mg,mf,s53,lG,sM,lF,qW,qV,rO,rH,rF,rE,qX,vN,xE,tF,wW,s68,xO,kG,wV,s72,wU,wT,vZ,vY,vX,vW,vV,vU,vT,s82,s83,vS,vR,vQ,s87,vP,vO,vM,vL,vK,vI,vH,uT,uS,uR,uQ,uP,bF,bY,bX,bW,bV,bU,dh,df,jh,iY,iN,iw,Eb,DC,Dz,Dy,Dx,Dw,Dv,u119,Du,Dt,Dr,Dq,u124,Dp,CZ,u127,Cx,Cw,Cv,u131,r132,bT,bS,bR,jw,bQ,jv,bP,cZ,cO,iq,ik,ig,gT,gP,gN,gM,gL,gK,gJ,gI,gH,gG,gF,gD,gu,gq,gp,f_,fV,fQ,fD,fB,eH,eG,eF,eD,eB,eu,ek,ed,dW,dV,dU,dS,dR,dQ,dP,dN,dM,dL,dK,dJ,dI,cK,cB,cu,b_,dH,dF,dE,dD,dC,dB,dA,dz,dx,dw,dm,di,bO,bN,bM,ji],defers:=[] } wx) →
    Code.wp SM ((mE 16 (SO.body.getD .skip)).getD .skip) Q { tmps:=#[s0,s1,s2,p3,s4,s5,s6,s7,s8,p9,s10,s11,s12,p13,xF,s15,s16,kF,ze,uO,s20,xP,sK,rP,s24,qJ,qI,qj,qi,pW,ou,n_,ll,nW,nV,nU,nT,nS,nR,nQ,nP,nO,mX,s43,s44,mW,mV,mK,mH,s49,mG,mg,mf,s53,lG,sM,lF,qW,qV,rO,rH,rF,rE,qX,vN,xE,tF,wW,s68,xO,kG,wV,s72,wU,wT,vZ,vY,vX,vW,vV,vU,vT,s82,s83,vS,vR,vQ,s87,vP,vO,vM,vL,vK,vI,vH,uT,uS,uR,uQ,uP,bF,bY,bX,bW,bV,bU,dh,df,jh,iY,iN,iw,j6,jZ,jY,jX,jW,jV,jU,jT,jS,jR,jQ,jP,jO,jN,jM,jL,jD,jC,jB,jA,jy,bT,bS,bR,jw,bQ,jv,bP,cZ,cO,iq,ik,ig,gT,gP,gN,gM,gL,gK,gJ,gI,gH,gG,gF,gD,gu,gq,gp,f_,fV,fQ,fD,fB,eH,eG,eF,eD,eB,eu,ek,ed,dW,dV,dU,dS,dR,dQ,dP,dN,dM,dL,dK,dJ,dI,cK,cB,cu,b_,dH,dF,dE,dD,dC,dB,dA,dz,dx,dw,dm,di,bO,bN,bM,ji],defers:=[] } w0
theorem LQ (x y z d:Doc)(G D:Nat)(pa:Option Addr)(cls:List Cl)(w0:Sw)(hk:KpW x y z d G D pa cls w0)(fx:x.fits)(fy:y.fits)(fz:z.fits)(fd:d.fits)(c:Chg)(C:Nat)(hc:w0.heap[C]? =some (.cells c.enc.toArray 54 (0,0)))(hg:c.gone=true):PJ w0 (.pointer (some ⟨D,0,none⟩)) (.pointer (some ⟨C,0,none⟩)) (.int .i64 (-1:Int)) (.bool false):=by
 intro Q hP
 intros
 rename_i hfin
 have aA:=h_ hfin
 have HP:=h_ hP
 have HK:=h_ (fun(w':Sw) (q:SA w0.heap.size w0 w')=>hk.later q)
 have c4:∀ w',SA w0.heap.size w0 w'→w'.cell? ⟨C,4,none⟩=some (.bool true):=fun w' q=>hg▸(Sy _ _ 4 _ 54 (0,0) ((q.block _ (SB.1 hc).1).trans hc)).trans rfl
 clear hc
 have hd0:SA w0.heap.size w0 w0.drew:=(SR _ _).drew
 clear hfin hP hk
 conv=>arg 2;whnf
 refine Sv (S:=fun w'=>SA w0.heap.size w0 w') (by kernel_rfl) hd0 (fun _=>?_)
 refine ab HP.out 0 (.pointer (some ⟨C,4,none⟩)) hd0 ?_
 refine ab HP.out 1 (.bool true) hd0 ?_
 refine ab HP.out 2 (.int .i64 (-1:Int)) hd0 ?_
 refine ab HP.out 3 (.bool true) hd0 ?_
 refine ab HP.out 4 (.bool false) hd0 ?_
 refine ab HP.out 5 (.bool false) hd0 ?_
 refine ab HP.out 6 (.pointer (some ⟨C,4,none⟩)) hd0 ?_
 refine ab HP.out 7 (.bool true) hd0 ?_
 refine ab HP.out 8 (.bool false) hd0 ?_
 refine ab HP.out 9 (.bool false) hd0 ?_
 refine aB HP.out 10 hd0 ?_
 refine aB HP.out 11 hd0 ?_
 refine aB HP.out 12 hd0 ?_
 refine aB HP.out 13 hd0 ?_
 refine aB HP.out 14 hd0 ?_
 refine aB HP.out 15 hd0 ?_
 refine aB HP.out 16 hd0 ?_
 refine aB HP.out 17 hd0 ?_
 refine aB HP.out 18 hd0 ?_
 refine ab HP.out 19 (.bool false) hd0 ?_
 refine ab HP.out 20 (.bool false) hd0 ?_
 refine Sx (by kernel_rfl) ?_ _
 exact aA.out _ hd0
theorem LP (x y z d:Doc)(G D:Nat)(pa:Option Addr)(cls:List Cl)(w0:Sw)(hk:KpW x y z d G D pa cls w0)(fx:x.fits)(fy:y.fits)(fz:z.fits)(fd:d.fits)(c:Chg)(C:Nat)(hc:w0.heap[C]? =some (.cells c.enc.toArray 54 (0,0)))(hg:c.gone=false)(fc:c.ne.fits)(lc:c.ne.lies w0)(i:Nat)(e1:Ev)(h1:d.eV[i]? =some e1):PJ w0 (.pointer (some ⟨D,0,none⟩)) (.pointer (some ⟨C,0,none⟩)) (.int .i64 (i:Int)) (.bool (!evEq e1 c.ne)):=by
 intro Q hP
 intros
 rename_i hfin
 have aA:=h_ hfin
 have HP:=h_ hP
 have HK:=h_ (fun(w':Sw) (q:SA w0.heap.size w0 w')=>hk.later q)
 have c4:∀ w',SA w0.heap.size w0 w'→w'.cell? ⟨C,4,none⟩=some (.bool false):=fun w' q=>hg▸(Sy _ _ 4 _ 54 (0,0) ((q.block _ (SB.1 hc).1).trans hc)).trans rfl
 have HR2:=h_ (fun(w':Sw) (q:SA w0.heap.size w0 w')=>SS (zaa ((q.block _ (SB.1 hc).1).trans hc)) (Ev.keeps _ _ _ q lc))
 have t_:=h_ fc
 clear hc lc fc
 have hi0:(0:Int)≤(i:Int):=by omega
 obtain⟨b1,o1,_,ha1,_,_,_,_⟩:=af.at_ hk.ld.2.1 (SC.1 h1).1
 have hl1:i<d.eV.length:=(SC.1 h1).1
 have HR1:=h_ (fun(w':Sw) (q:SA w0.heap.size w0 w')=>wR (hk.later q).ld.2.1 ha1 h1)
 have kH:=h_ (fd.2.2.2.2.2.2.2.1 _ (SD h1))
 have d1:∀ w',SA w0.heap.size w0 w'→w'.cell? ⟨D,6,none⟩=some (.slice (some ⟨b1,o1,none⟩) d.eV.length d.ec):=fun w' q=>ha1▸(hk.later q).rd 6 (.slice d.ea d.eV.length d.ec) rfl
 have hm1:d.eV.length≤4000000:=fd.2.2.2.2.2.2.2.2.1
 have hd0:SA w0.heap.size w0 w0.drew:=(SR _ _).drew
 clear hfin hP hk
 conv=>arg 2;whnf
 refine Sv (S:=fun w'=>SA w0.heap.size w0 w') (by kernel_rfl) hd0 (fun _=>?_)
 refine ab HP.out 0 (.pointer (some ⟨C,4,none⟩)) hd0 ?_
 refine ab HP.out 1 (.bool false) hd0 ?_
 refine ab HP.out 2 (.int .i64 (i:Int)) hd0 ?_
 refine ab HP.out 3 (.bool false) hd0 ?_
 refine ab HP.out 4 (.bool false) hd0 ?_
 refine ab HP.out 5 (.bool false) hd0 ?_
 refine ab HP.out 6 (.pointer (some ⟨C,4,none⟩)) hd0 ?_
 refine ab HP.out 7 (.bool false) hd0 ?_
 refine ab HP.out 8 (.bool true) hd0 ?_
 refine ab HP.out 9 (.bool true) hd0 ?_
 refine ab HP.out 10 (.pointer (some ⟨D,6,none⟩)) hd0 ?_
 refine ab HP.out 11 (.slice (some ⟨b1,o1,none⟩) d.eV.length d.ec) hd0 ?_
 refine ab HP.out 12 (.int .i64 (i:Int)) hd0 ?_
 refine ab HP.out 13 (.pointer (some ⟨b1,o1+i*7,none⟩)) hd0 ?_
 refine ab HP.out 14 (.agg e1.enc.toArray) hd0 ?_ (hy:=Su (by rfl) 50 (.tmp 125) rfl b1 (o1+i*7) rfl e1.enc _ (fun w_ h_=>(HR1.out w_ h_).1) SF rfl fm)
 refine ab HP.out 15 (.pointer (some ⟨C,36,none⟩)) hd0 ?_
 refine ab HP.out 16 (.agg c.ne.enc.toArray) hd0 ?_ (hy:=Su (by rfl) 50 (.tmp 127) rfl C 36 rfl c.ne.enc _ (fun w_ h_=>(HR2.out w_ h_).1) SF rfl fm)
 refine aq 17 (fun K hK=>?_)
 go_simp
 refine(wQ e1 c.ne kH.out t_.out _ (HR1.out _ hd0).2 (HR2.out _ hd0).2).mono ?_
 rintro e v129 ⟨rfl,ai⟩
 have Fe:=ak hd0 ai
 clear ai
 go_wp2_with fail
 refine goOn hK Fe ?_
 clear hK
 refine ab HP.out 18 (.bool (!evEq e1 c.ne)) Fe ?_
 refine ab HP.out 19 (.bool (!evEq e1 c.ne)) Fe ?_
 refine ab HP.out 20 (.bool (!evEq e1 c.ne)) Fe ?_
 refine Sx (by kernel_rfl) ?_ _
 exact aA.out _ Fe
theorem o9 (e1 e2:Ev)(f1:e1.fits)(f2:e2.fits)(w:Sw)(l1:e1.lies w)(l2:e2.lies w) {B:Bool} (h:evEq e1 e2=B):Calls SM 28 #[.agg e1.enc.toArray,.agg e2.enc.toArray] w fun e w'=>e=.returned (.bool B)∧SA w.heap.size w w':=h▸wQ e1 e2 f1 f2 w l1 l2
def zah (w0:Sw)(p1 p15 r16 r17:Sz):Prop:=∀ ⦃Q:Exit→Act→Sw→Prop⦄,(∀ ch a a' w,a'.defers=a.defers→Q (.panic ch) a w→Q (.panic ch) a' w)→∀ ⦃s0 s2 s3 s4 s5 s6 s7 s8 s9 s10 s11 s12 s13 xF s16 kF ze uO s20 xP sK rP s24 qJ qI qj qi pW ou n_ ll nW nV nU nT nS nR nQ nP nO mX s43 s44 mW mV mK mH s49 mG mg mf s53 lG sM lF qW qV rO rH rF rE qX vN xE tF wW s68 xO kG wV s72 wU wT vZ vY vX vW vV vU vT s82 s83 vS vR vQ s87 vP vO vM vL vK vI vH uT uS uR uQ uP bF bY bX bW bV bU dh df jh iY iN iw j6 jZ jY jX jW jV jU jT jS jR jQ jP jO jN jM jL jD jC jB jA jy bT bS bR jw bQ jv bP cZ cO iq ik ig gT gP gN gM gL gK gJ gI gH gG gF gD gu gq gp f_ fV fQ fD fB eH eG eF eD eB eu ek ed dW dV dU dS dR dQ dP dN dM dL dK dJ dI cK cB cu b_ dH dF dE dD dC dB dA dz dx dw dm di bO bN bM ji:Sz⦄,
    (∀ ⦃JK Jq Jp Jo Jn Jm Jk Jj Ji Jh:Sz⦄ (wx:Sw),SA w0.heap.size w0 wx→Q .normal { tmps:=#[s0,p1,s2,s3,s4,s5,s6,s7,s8,s9,s10,s11,s12,s13,xF,p15,r16,r17,ze,uO,s20,xP,sK,rP,s24,qJ,qI,qj,qi,pW,ou,n_,ll,nW,nV,nU,nT,nS,nR,nQ,nP,nO,mX,s43,s44,mW,mV,mK,mH,s49,mG,mg,mf,s53,lG,sM,lF,qW,qV,rO,rH,rF,rE,qX,vN,xE,tF,wW,s68,xO,kG,wV,s72,wU,wT,vZ,vY,vX,vW,vV,vU,vT,s82,s83,vS,vR,vQ,s87,vP,vO,vM,vL,vK,vI,vH,uT,uS,uR,uQ,uP,bF,bY,bX,bW,bV,bU,dh,df,jh,iY,iN,iw,j6,jZ,jY,jX,jW,jV,jU,jT,jS,jR,jQ,jP,jO,jN,jM,jL,jD,jC,jB,jA,jy,bT,bS,bR,jw,bQ,jv,bP,cZ,cO,JK,Jq,Jp,Jo,Jn,Jm,Jk,Jj,Ji,Jh,gI,gH,gG,gF,gD,gu,gq,gp,f_,fV,fQ,fD,fB,eH,eG,eF,eD,eB,eu,ek,ed,dW,dV,dU,dS,dR,dQ,dP,dN,dM,dL,dK,dJ,dI,cK,cB,cu,b_,dH,dF,dE,dD,dC,dB,dA,dz,dx,dw,dm,di,bO,bN,bM,ji],defers:=[] } wx) →
    Code.wp SM ((mE 22 (SO.body.getD .skip)).getD .skip) Q { tmps:=#[s0,p1,s2,s3,s4,s5,s6,s7,s8,s9,s10,s11,s12,s13,xF,p15,s16,kF,ze,uO,s20,xP,sK,rP,s24,qJ,qI,qj,qi,pW,ou,n_,ll,nW,nV,nU,nT,nS,nR,nQ,nP,nO,mX,s43,s44,mW,mV,mK,mH,s49,mG,mg,mf,s53,lG,sM,lF,qW,qV,rO,rH,rF,rE,qX,vN,xE,tF,wW,s68,xO,kG,wV,s72,wU,wT,vZ,vY,vX,vW,vV,vU,vT,s82,s83,vS,vR,vQ,s87,vP,vO,vM,vL,vK,vI,vH,uT,uS,uR,uQ,uP,bF,bY,bX,bW,bV,bU,dh,df,jh,iY,iN,iw,j6,jZ,jY,jX,jW,jV,jU,jT,jS,jR,jQ,jP,jO,jN,jM,jL,jD,jC,jB,jA,jy,bT,bS,bR,jw,bQ,jv,bP,cZ,cO,iq,ik,ig,gT,gP,gN,gM,gL,gK,gJ,gI,gH,gG,gF,gD,gu,gq,gp,f_,fV,fQ,fD,fB,eH,eG,eF,eD,eB,eu,ek,ed,dW,dV,dU,dS,dR,dQ,dP,dN,dM,dL,dK,dJ,dI,cK,cB,cu,b_,dH,dF,dE,dD,dC,dB,dA,dz,dx,dw,dm,di,bO,bN,bM,ji],defers:=[] } w0
theorem Oi (x y z d:Doc)(G D:Nat)(pa:Option Addr)(cls:List Cl)(w0:Sw)(hk:KpW x y z d G D pa cls w0)(fx:x.fits)(fy:y.fits)(fz:z.fits)(fd:d.fits)(e:Ev)(X:Nat)(hx:w0.heap[X]? =some (.cells e.enc.toArray 50 (0,0))):zah w0 (.pointer (some ⟨G,0,none⟩)) (.pointer (some ⟨X,0,none⟩)) (.int .i64 (posOf (iI e.id) y.eV)) (.int .i64 (posOf (iI e.id) z.eV)):=by
 intro Q hP
 intros
 rename_i hfin
 have aA:=h_ hfin
 have HP:=h_ hP
 have HK:=h_ (fun(w':Sw) (q:SA w0.heap.size w0 w')=>hk.later q)
 have x0:∀ w',SA w0.heap.size w0 w'→w'.cell? ⟨X,0,none⟩=some (.int .i64 e.id):=fun w' q=>(Sy _ _ 0 _ 50 (0,0) ((q.block _ (SB.1 hx).1).trans hx)).trans rfl
 clear hx
 have hd0:SA w0.heap.size w0 w0.drew:=(SR _ _).drew
 clear hfin hP hk
 conv=>arg 2;whnf
 refine Sv (S:=fun w'=>SA w0.heap.size w0 w') (by kernel_rfl) hd0 (fun _=>?_)
 refine ab HP.out 0 (.pointer (some ⟨G,8,none⟩)) hd0 ?_
 refine ab HP.out 1 (.agg y.enc.toArray) hd0 ?_ (hy:=Su (by rfl) 27 (.tmp 142) rfl G 8 rfl y.enc _ (fun w_ h_=>(HK.out w_ h_).ry) SN rfl aQ)
 refine ab HP.out 2 (.pointer (some ⟨X,0,none⟩)) hd0 ?_
 refine ab HP.out 3 (.int .i64 e.id) hd0 ?_
 refine ab HP.out 5 (.pointer (some ⟨G,16,none⟩)) hd0 ?_
 refine ab HP.out 6 (.agg z.enc.toArray) hd0 ?_ (hy:=Su (by rfl) 27 (.tmp 147) rfl G 16 rfl z.enc _ (fun w_ h_=>(HK.out w_ h_).rz) SN rfl aQ)
 refine ab HP.out 7 (.pointer (some ⟨X,0,none⟩)) hd0 ?_
 refine ab HP.out 8 (.int .i64 e.id) hd0 ?_
 refine aq 4 (fun K hK=>?_)
 go_simp
 refine(fC y e.id _ (HK.out _ hd0).ly.2.1 fy.2.2.2.2.2.2.2.2.1).mono ?_
 rintro e v146 ⟨rfl,ai⟩
 have Ld:=ak hd0 ai
 clear ai
 go_wp2_with fail
 refine goOn hK Ld ?_
 clear hK
 refine aq 9 (fun K hK=>?_)
 go_simp
 refine(fC z e.id _ (HK.out _ Ld).lz.2.1 fz.2.2.2.2.2.2.2.2.1).mono ?_
 rintro e v151 ⟨rfl,ai⟩
 have hv151:=ak Ld ai
 clear ai
 go_wp2_with fail
 refine goOn hK hv151 ?_
 clear hK
 refine ab HP.out 10 (.int .i64 (posOf (iI e.id) y.eV)) hv151 ?_
 refine ab HP.out 11 (.int .i64 (posOf (iI e.id) z.eV)) hv151 ?_
 refine Sx (by kernel_rfl) ?_ _
 exact aA.out _ hv151
def Cn (w0:Sw)(p1 p4 p15 p16 p17 r185:Sz):Prop:=∀ ⦃Q:Exit→Act→Sw→Prop⦄,(∀ ch a a' w,a'.defers=a.defers→Q (.panic ch) a w→Q (.panic ch) a' w)→∀ ⦃s0 s2 s3 s5 s6 s7 s8 s9 s10 s11 s12 s13 xF ze uO s20 xP sK rP s24 qJ qI qj qi pW ou n_ ll nW nV nU nT nS nR nQ nP nO mX s43 s44 mW mV mK mH s49 mG mg mf s53 lG sM lF qW qV rO rH rF rE qX vN xE tF wW s68 xO kG wV s72 wU wT vZ vY vX vW vV vU vT s82 s83 vS vR vQ s87 vP vO vM vL vK vI vH uT uS uR uQ uP bF bY bX bW bV bU dh df jh iY iN iw j6 jZ jY jX jW jV jU jT jS jR jQ jP jO jN jM jL jD jC jB jA jy bT bS bR jw bQ jv bP cZ cO iq ik ig gT gP gN gM gL gK gJ gI gH gG gF gD gu gq gp f_ fV fQ fD fB eH eG eF eD eB eu ek ed dW dV dU dS dR dQ dP dN dM dL dK dJ dI cK cB cu b_ dH dF dE dD dC dB dA dz dx dw dm di bO bN bM ji:Sz⦄,
    (∀ ⦃u152 Jg u154 Jf Je Jd Jc Jb Ja I_ u162 I9 u164 I8 Io Im Il Ik Ij Ii Ih Ig Ie Ic Ib Ia H_ H9 Hz Hy Hw Hu Ht:Sz⦄ (wx:Sw),SA w0.heap.size w0 wx→Q .normal { tmps:=#[s0,p1,s2,s3,p4,s5,s6,s7,s8,s9,s10,s11,s12,s13,xF,p15,p16,p17,ze,uO,s20,xP,sK,rP,s24,qJ,qI,qj,qi,pW,ou,n_,ll,nW,nV,nU,nT,nS,nR,nQ,nP,nO,mX,s43,s44,mW,mV,mK,mH,s49,mG,mg,mf,s53,lG,sM,lF,qW,qV,rO,rH,rF,rE,qX,vN,xE,tF,wW,s68,xO,kG,wV,s72,wU,wT,vZ,vY,vX,vW,vV,vU,vT,s82,s83,vS,vR,vQ,s87,vP,vO,vM,vL,vK,vI,vH,uT,uS,uR,uQ,uP,bF,bY,bX,bW,bV,bU,dh,df,jh,iY,iN,iw,j6,jZ,jY,jX,jW,jV,jU,jT,jS,jR,jQ,jP,jO,jN,jM,jL,jD,jC,jB,jA,jy,bT,bS,bR,jw,bQ,jv,bP,cZ,cO,iq,ik,ig,gT,gP,gN,gM,gL,gK,gJ,u152,Jg,u154,Jf,Je,Jd,Jc,Jb,Ja,I_,u162,I9,u164,I8,Io,Im,Il,Ik,Ij,Ii,Ih,Ig,Ie,Ic,Ib,Ia,H_,H9,Hz,Hy,Hw,Hu,Ht,r185,cK,cB,cu,b_,dH,dF,dE,dD,dC,dB,dA,dz,dx,dw,dm,di,bO,bN,bM,ji],defers:=[] } wx) →
    Code.wp SM ((mE 23 (SO.body.getD .skip)).getD .skip) Q { tmps:=#[s0,p1,s2,s3,p4,s5,s6,s7,s8,s9,s10,s11,s12,s13,xF,p15,p16,p17,ze,uO,s20,xP,sK,rP,s24,qJ,qI,qj,qi,pW,ou,n_,ll,nW,nV,nU,nT,nS,nR,nQ,nP,nO,mX,s43,s44,mW,mV,mK,mH,s49,mG,mg,mf,s53,lG,sM,lF,qW,qV,rO,rH,rF,rE,qX,vN,xE,tF,wW,s68,xO,kG,wV,s72,wU,wT,vZ,vY,vX,vW,vV,vU,vT,s82,s83,vS,vR,vQ,s87,vP,vO,vM,vL,vK,vI,vH,uT,uS,uR,uQ,uP,bF,bY,bX,bW,bV,bU,dh,df,jh,iY,iN,iw,j6,jZ,jY,jX,jW,jV,jU,jT,jS,jR,jQ,jP,jO,jN,jM,jL,jD,jC,jB,jA,jy,bT,bS,bR,jw,bQ,jv,bP,cZ,cO,iq,ik,ig,gT,gP,gN,gM,gL,gK,gJ,gI,gH,gG,gF,gD,gu,gq,gp,f_,fV,fQ,fD,fB,eH,eG,eF,eD,eB,eu,ek,ed,dW,dV,dU,dS,dR,dQ,dP,dN,dM,dL,dK,dJ,dI,cK,cB,cu,b_,dH,dF,dE,dD,dC,dB,dA,dz,dx,dw,dm,di,bO,bN,bM,ji],defers:=[] } w0
theorem LO (x y z d:Doc)(G D:Nat)(pa:Option Addr)(cls:List Cl)(w0:Sw)(hk:KpW x y z d G D pa cls w0)(fx:x.fits)(fy:y.fits)(fz:z.fits)(fd:d.fits)(e:Ev)(X:Nat)(hx:w0.heap[X]? =some (.cells e.enc.toArray 50 (0,0)))(cc:Nat)(v17:Sz):Cn w0 (.pointer (some ⟨G,0,none⟩)) (.slice pa cls.length cc) (.pointer (some ⟨X,0,none⟩)) (.int .i64 (-1:Int)) (v17) (.bool true):=by
 intro Q hP
 intros
 rename_i hfin
 have aA:=h_ hfin
 have HP:=h_ hP
 have HK:=h_ (fun(w':Sw) (q:SA w0.heap.size w0 w')=>hk.later q)
 have hd0:SA w0.heap.size w0 w0.drew:=(SR _ _).drew
 clear hfin hP hk
 conv=>arg 2;whnf
 refine Sv (S:=fun w'=>SA w0.heap.size w0 w') (by kernel_rfl) hd0 (fun _=>?_)
 refine ab HP.out 0 (.int .i64 (-1:Int)) hd0 ?_
 refine ab HP.out 1 (.bool true) hd0 ?_
 refine ab HP.out 2 (.bool true) hd0 ?_
 refine aB HP.out 3 hd0 ?_
 refine aB HP.out 4 hd0 ?_
 refine ab HP.out 5 (.bool true) hd0 ?_
 refine ab HP.out 6 (.bool true) hd0 ?_
 refine aB HP.out 7 hd0 ?_
 refine aB HP.out 8 hd0 ?_
 refine aB HP.out 9 hd0 ?_
 refine aB HP.out 10 hd0 ?_
 refine aB HP.out 11 hd0 ?_
 refine aB HP.out 12 hd0 ?_
 refine aB HP.out 13 hd0 ?_
 refine aB HP.out 14 hd0 ?_
 refine aB HP.out 15 hd0 ?_
 refine ab HP.out 16 (.bool true) hd0 ?_
 refine ab HP.out 17 (.bool true) hd0 ?_
 refine aB HP.out 18 hd0 ?_
 refine aB HP.out 19 hd0 ?_
 refine aB HP.out 20 hd0 ?_
 refine aB HP.out 21 hd0 ?_
 refine aB HP.out 22 hd0 ?_
 refine aB HP.out 23 hd0 ?_
 refine aB HP.out 24 hd0 ?_
 refine aB HP.out 25 hd0 ?_
 refine aB HP.out 26 hd0 ?_
 refine ab HP.out 27 (.bool true) hd0 ?_
 refine ab HP.out 28 (.bool true) hd0 ?_
 refine aB HP.out 29 hd0 ?_
 refine aB HP.out 30 hd0 ?_
 refine aB HP.out 31 hd0 ?_
 refine aB HP.out 32 hd0 ?_
 refine ab HP.out 33 (.bool true) hd0 ?_
 refine Sx (by kernel_rfl) ?_ _
 exact aA.out _ hd0
theorem LN (x y z d:Doc)(G D:Nat)(pa:Option Addr)(cls:List Cl)(w0:Sw)(hk:KpW x y z d G D pa cls w0)(fx:x.fits)(fy:y.fits)(fz:z.fits)(fd:d.fits)(e:Ev)(X:Nat)(hx:w0.heap[X]? =some (.cells e.enc.toArray 50 (0,0)))(cc:Nat)(i:Nat):Cn w0 (.pointer (some ⟨G,0,none⟩)) (.slice pa cls.length cc) (.pointer (some ⟨X,0,none⟩)) (.int .i64 (i:Int)) (.int .i64 (-1:Int)) (.bool true):=by
 intro Q hP
 intros
 rename_i hfin
 have aA:=h_ hfin
 have HP:=h_ hP
 have HK:=h_ (fun(w':Sw) (q:SA w0.heap.size w0 w')=>hk.later q)
 have hi0:(0:Int)≤(i:Int):=by omega
 have hd0:SA w0.heap.size w0 w0.drew:=(SR _ _).drew
 clear hfin hP hk
 conv=>arg 2;whnf
 refine Sv (S:=fun w'=>SA w0.heap.size w0 w') (by kernel_rfl) hd0 (fun _=>?_)
 refine ab HP.out 0 (.int .i64 (i:Int)) hd0 ?_
 refine ab HP.out 1 (.bool false) hd0 ?_
 refine ab HP.out 2 (.bool false) hd0 ?_
 refine ab HP.out 3 (.int .i64 (-1:Int)) hd0 ?_
 refine ab HP.out 4 (.bool true) hd0 ?_
 refine ab HP.out 5 (.bool true) hd0 ?_
 refine ab HP.out 6 (.bool true) hd0 ?_
 refine aB HP.out 7 hd0 ?_
 refine aB HP.out 8 hd0 ?_
 refine aB HP.out 9 hd0 ?_
 refine aB HP.out 10 hd0 ?_
 refine aB HP.out 11 hd0 ?_
 refine aB HP.out 12 hd0 ?_
 refine aB HP.out 13 hd0 ?_
 refine aB HP.out 14 hd0 ?_
 refine aB HP.out 15 hd0 ?_
 refine ab HP.out 16 (.bool true) hd0 ?_
 refine ab HP.out 17 (.bool true) hd0 ?_
 refine aB HP.out 18 hd0 ?_
 refine aB HP.out 19 hd0 ?_
 refine aB HP.out 20 hd0 ?_
 refine aB HP.out 21 hd0 ?_
 refine aB HP.out 22 hd0 ?_
 refine aB HP.out 23 hd0 ?_
 refine aB HP.out 24 hd0 ?_
 refine aB HP.out 25 hd0 ?_
 refine aB HP.out 26 hd0 ?_
 refine ab HP.out 27 (.bool true) hd0 ?_
 refine ab HP.out 28 (.bool true) hd0 ?_
 refine aB HP.out 29 hd0 ?_
 refine aB HP.out 30 hd0 ?_
 refine aB HP.out 31 hd0 ?_
 refine aB HP.out 32 hd0 ?_
 refine ab HP.out 33 (.bool true) hd0 ?_
 refine Sx (by kernel_rfl) ?_ _
 exact aA.out _ hd0
theorem LM (x y z d:Doc)(G D:Nat)(pa:Option Addr)(cls:List Cl)(w0:Sw)(hk:KpW x y z d G D pa cls w0)(fx:x.fits)(fy:y.fits)(fz:z.fits)(fd:d.fits)(e:Ev)(X:Nat)(hx:w0.heap[X]? =some (.cells e.enc.toArray 50 (0,0)))(fe:e.fits)(le:e.lies w0)(cc:Nat)(i k:Nat)(e1:Ev)(h1:y.eV[i]? =some e1)(q1:evEq e1 e=false):Cn w0 (.pointer (some ⟨G,0,none⟩)) (.slice pa cls.length cc) (.pointer (some ⟨X,0,none⟩)) (.int .i64 (i:Int)) (.int .i64 (k:Int)) (.bool true):=by
 intro Q hP
 intros
 rename_i hfin
 have aA:=h_ hfin
 have HP:=h_ hP
 have HK:=h_ (fun(w':Sw) (q:SA w0.heap.size w0 w')=>hk.later q)
 have x0:∀ w',SA w0.heap.size w0 w'→w'.cell? ⟨X,0,none⟩=some (.int .i64 e.id):=fun w' q=>(Sy _ _ 0 _ 50 (0,0) ((q.block _ (SB.1 hx).1).trans hx)).trans rfl
 have xU:=h_ (fun(w':Sw) (q:SA w0.heap.size w0 w')=>SS (ku ((q.block _ (SB.1 hx).1).trans hx)) (Ev.keeps _ _ _ q le))
 have MJ:=h_ fe
 clear hx le fe
 have hi0:(0:Int)≤(i:Int):=by omega
 have hk0:(0:Int)≤(k:Int):=by omega
 obtain⟨b1,o1,_,ha1,_,_,_,_⟩:=af.at_ hk.ly.2.1 (SC.1 h1).1
 have hl1:i<y.eV.length:=(SC.1 h1).1
 have HR1:=h_ (fun(w':Sw) (q:SA w0.heap.size w0 w')=>wR (hk.later q).ly.2.1 ha1 h1)
 have kH:=h_ (fy.2.2.2.2.2.2.2.1 _ (SD h1))
 have d1:∀ w',SA w0.heap.size w0 w'→w'.cell? ⟨G,14,none⟩=some (.slice (some ⟨b1,o1,none⟩) y.eV.length y.ec):=fun w' q=>ha1▸(hk.later q).ry 6 (.slice y.ea y.eV.length y.ec) rfl
 have hm1:y.eV.length≤4000000:=fy.2.2.2.2.2.2.2.2.1
 have hd0:SA w0.heap.size w0 w0.drew:=(SR _ _).drew
 clear hfin hP hk
 conv=>arg 2;whnf
 refine Sv (S:=fun w'=>SA w0.heap.size w0 w') (by kernel_rfl) hd0 (fun _=>?_)
 refine ab HP.out 0 (.int .i64 (i:Int)) hd0 ?_
 refine ab HP.out 1 (.bool false) hd0 ?_
 refine ab HP.out 2 (.bool false) hd0 ?_
 refine ab HP.out 3 (.int .i64 (k:Int)) hd0 ?_
 refine ab HP.out 4 (.bool false) hd0 ?_
 refine ab HP.out 5 (.bool false) hd0 ?_
 refine ab HP.out 6 (.bool false) hd0 ?_
 refine ab HP.out 7 (.pointer (some ⟨G,8,none⟩)) hd0 ?_
 refine ab HP.out 8 (.pointer (some ⟨G,14,none⟩)) hd0 ?_
 refine ab HP.out 9 (.slice (some ⟨b1,o1,none⟩) y.eV.length y.ec) hd0 ?_
 refine ab HP.out 10 (.int .i64 (i:Int)) hd0 ?_
 refine ab HP.out 11 (.pointer (some ⟨b1,o1+i*7,none⟩)) hd0 ?_
 refine ab HP.out 12 (.agg e1.enc.toArray) hd0 ?_ (hy:=Su (by rfl) 50 (.tmp 163) rfl b1 (o1+i*7) rfl e1.enc _ (fun w_ h_=>(HR1.out w_ h_).1) SF rfl fm)
 refine ab HP.out 13 (.agg e.enc.toArray) hd0 ?_ (hy:=Su (by rfl) 50 (.tmp 15) rfl X 0 rfl e.enc _ (fun w_ h_=>(xU.out w_ h_).1) SF rfl fm)
 refine aq 14 (fun K hK=>?_)
 go_simp
 refine(o9 e1 e kH.out MJ.out _ (HR1.out _ hd0).2 (xU.out _ hd0).2 q1).mono ?_
 rintro e v166 ⟨rfl,ai⟩
 have aP:=ak hd0 ai
 clear ai
 go_wp2_with fail
 refine goOn hK aP ?_
 clear hK
 refine ab HP.out 15 (.bool true) aP ?_
 refine ab HP.out 16 (.bool true) aP ?_
 refine ab HP.out 17 (.bool true) aP ?_
 refine aB HP.out 18 aP ?_
 refine aB HP.out 19 aP ?_
 refine aB HP.out 20 aP ?_
 refine aB HP.out 21 aP ?_
 refine aB HP.out 22 aP ?_
 refine aB HP.out 23 aP ?_
 refine aB HP.out 24 aP ?_
 refine aB HP.out 25 aP ?_
 refine aB HP.out 26 aP ?_
 refine ab HP.out 27 (.bool true) aP ?_
 refine ab HP.out 28 (.bool true) aP ?_
 refine aB HP.out 29 aP ?_
 refine aB HP.out 30 aP ?_
 refine aB HP.out 31 aP ?_
 refine aB HP.out 32 aP ?_
 refine ab HP.out 33 (.bool true) aP ?_
 refine Sx (by kernel_rfl) ?_ _
 exact aA.out _ aP
theorem LK (x y z d:Doc)(G D:Nat)(pa:Option Addr)(cls:List Cl)(w0:Sw)(hk:KpW x y z d G D pa cls w0)(fx:x.fits)(fy:y.fits)(fz:z.fits)(fd:d.fits)(e:Ev)(X:Nat)(hx:w0.heap[X]? =some (.cells e.enc.toArray 50 (0,0)))(fe:e.fits)(le:e.lies w0)(cc:Nat)(i k:Nat)(e1:Ev)(h1:y.eV[i]? =some e1)(q1:evEq e1 e=true)(e2:Ev)(h2:z.eV[k]? =some e2)(q2:evEq e2 e=false):Cn w0 (.pointer (some ⟨G,0,none⟩)) (.slice pa cls.length cc) (.pointer (some ⟨X,0,none⟩)) (.int .i64 (i:Int)) (.int .i64 (k:Int)) (.bool true):=by
 intro Q hP
 intros
 rename_i hfin
 have aA:=h_ hfin
 have HP:=h_ hP
 have HK:=h_ (fun(w':Sw) (q:SA w0.heap.size w0 w')=>hk.later q)
 have x0:∀ w',SA w0.heap.size w0 w'→w'.cell? ⟨X,0,none⟩=some (.int .i64 e.id):=fun w' q=>(Sy _ _ 0 _ 50 (0,0) ((q.block _ (SB.1 hx).1).trans hx)).trans rfl
 have xU:=h_ (fun(w':Sw) (q:SA w0.heap.size w0 w')=>SS (ku ((q.block _ (SB.1 hx).1).trans hx)) (Ev.keeps _ _ _ q le))
 have MJ:=h_ fe
 clear hx le fe
 have hi0:(0:Int)≤(i:Int):=by omega
 have hk0:(0:Int)≤(k:Int):=by omega
 obtain⟨b1,o1,_,ha1,_,_,_,_⟩:=af.at_ hk.ly.2.1 (SC.1 h1).1
 have hl1:i<y.eV.length:=(SC.1 h1).1
 have HR1:=h_ (fun(w':Sw) (q:SA w0.heap.size w0 w')=>wR (hk.later q).ly.2.1 ha1 h1)
 have kH:=h_ (fy.2.2.2.2.2.2.2.1 _ (SD h1))
 have d1:∀ w',SA w0.heap.size w0 w'→w'.cell? ⟨G,14,none⟩=some (.slice (some ⟨b1,o1,none⟩) y.eV.length y.ec):=fun w' q=>ha1▸(hk.later q).ry 6 (.slice y.ea y.eV.length y.ec) rfl
 have hm1:y.eV.length≤4000000:=fy.2.2.2.2.2.2.2.2.1
 obtain⟨b2,o2,_,ha2,_,_,_,_⟩:=af.at_ hk.lz.2.1 (SC.1 h2).1
 have hl2:k<z.eV.length:=(SC.1 h2).1
 have HR2:=h_ (fun(w':Sw) (q:SA w0.heap.size w0 w')=>wR (hk.later q).lz.2.1 ha2 h2)
 have t_:=h_ (fz.2.2.2.2.2.2.2.1 _ (SD h2))
 have d2:∀ w',SA w0.heap.size w0 w'→w'.cell? ⟨G,22,none⟩=some (.slice (some ⟨b2,o2,none⟩) z.eV.length z.ec):=fun w' q=>ha2▸(hk.later q).rz 6 (.slice z.ea z.eV.length z.ec) rfl
 have hm2:z.eV.length≤4000000:=fz.2.2.2.2.2.2.2.2.1
 have hd0:SA w0.heap.size w0 w0.drew:=(SR _ _).drew
 clear hfin hP hk
 conv=>arg 2;whnf
 refine Sv (S:=fun w'=>SA w0.heap.size w0 w') (by kernel_rfl) hd0 (fun _=>?_)
 refine ab HP.out 0 (.int .i64 (i:Int)) hd0 ?_
 refine ab HP.out 1 (.bool false) hd0 ?_
 refine ab HP.out 2 (.bool false) hd0 ?_
 refine ab HP.out 3 (.int .i64 (k:Int)) hd0 ?_
 refine ab HP.out 4 (.bool false) hd0 ?_
 refine ab HP.out 5 (.bool false) hd0 ?_
 refine ab HP.out 6 (.bool false) hd0 ?_
 refine ab HP.out 7 (.pointer (some ⟨G,8,none⟩)) hd0 ?_
 refine ab HP.out 8 (.pointer (some ⟨G,14,none⟩)) hd0 ?_
 refine ab HP.out 9 (.slice (some ⟨b1,o1,none⟩) y.eV.length y.ec) hd0 ?_
 refine ab HP.out 10 (.int .i64 (i:Int)) hd0 ?_
 refine ab HP.out 11 (.pointer (some ⟨b1,o1+i*7,none⟩)) hd0 ?_
 refine ab HP.out 12 (.agg e1.enc.toArray) hd0 ?_ (hy:=Su (by rfl) 50 (.tmp 163) rfl b1 (o1+i*7) rfl e1.enc _ (fun w_ h_=>(HR1.out w_ h_).1) SF rfl fm)
 refine ab HP.out 13 (.agg e.enc.toArray) hd0 ?_ (hy:=Su (by rfl) 50 (.tmp 15) rfl X 0 rfl e.enc _ (fun w_ h_=>(xU.out w_ h_).1) SF rfl fm)
 refine aq 14 (fun K hK=>?_)
 go_simp
 refine(o9 e1 e kH.out MJ.out _ (HR1.out _ hd0).2 (xU.out _ hd0).2 q1).mono ?_
 rintro e v166 ⟨rfl,ai⟩
 have aP:=ak hd0 ai
 clear ai
 go_wp2_with fail
 refine goOn hK aP ?_
 clear hK
 refine ab HP.out 15 (.bool false) aP ?_
 refine ab HP.out 16 (.bool false) aP ?_
 refine ab HP.out 17 (.bool false) aP ?_
 refine ab HP.out 18 (.pointer (some ⟨G,16,none⟩)) aP ?_
 refine ab HP.out 19 (.pointer (some ⟨G,22,none⟩)) aP ?_
 refine ab HP.out 20 (.slice (some ⟨b2,o2,none⟩) z.eV.length z.ec) aP ?_
 refine ab HP.out 21 (.int .i64 (k:Int)) aP ?_
 refine ab HP.out 22 (.pointer (some ⟨b2,o2+k*7,none⟩)) aP ?_
 refine ab HP.out 23 (.agg e2.enc.toArray) aP ?_ (hy:=Su (by rfl) 50 (.tmp 174) rfl b2 (o2+k*7) rfl e2.enc _ (fun w_ h_=>(HR2.out w_ h_).1) SF rfl fm)
 refine ab HP.out 24 (.agg e.enc.toArray) aP ?_ (hy:=Su (by rfl) 50 (.tmp 15) rfl X 0 rfl e.enc _ (fun w_ h_=>(xU.out w_ h_).1) SF rfl fm)
 refine aq 25 (fun K hK=>?_)
 go_simp
 refine(o9 e2 e t_.out MJ.out _ (HR2.out _ aP).2 (xU.out _ aP).2 q2).mono ?_
 rintro e v177 ⟨rfl,ai⟩
 have lq:=ak aP ai
 clear ai
 go_wp2_with fail
 refine goOn hK lq ?_
 clear hK
 refine ab HP.out 26 (.bool true) lq ?_
 refine ab HP.out 27 (.bool true) lq ?_
 refine ab HP.out 28 (.bool true) lq ?_
 refine aB HP.out 29 lq ?_
 refine aB HP.out 30 lq ?_
 refine aB HP.out 31 lq ?_
 refine aB HP.out 32 lq ?_
 refine ab HP.out 33 (.bool true) lq ?_
 refine Sx (by kernel_rfl) ?_ _
 exact aA.out _ lq
theorem LJ (x y z d:Doc)(G D:Nat)(pa:Option Addr)(cls:List Cl)(w0:Sw)(hk:KpW x y z d G D pa cls w0)(fx:x.fits)(fy:y.fits)(fz:z.fits)(fd:d.fits)(e:Ev)(X:Nat)(hx:w0.heap[X]? =some (.cells e.enc.toArray 50 (0,0)))(fe:e.fits)(le:e.lies w0)(cc:Nat)(i k:Nat)(e1:Ev)(h1:y.eV[i]? =some e1)(q1:evEq e1 e=true)(e2:Ev)(h2:z.eV[k]? =some e2)(q2:evEq e2 e=true)(hcl:cls.length≤9223372036854775807)(hcc:cls.length≤cc∨cls=[]):Cn w0 (.pointer (some ⟨G,0,none⟩)) (.slice pa cls.length cc) (.pointer (some ⟨X,0,none⟩)) (.int .i64 (i:Int)) (.int .i64 (k:Int)) (.bool (aO cls e.id)):=by
 intro Q hP
 intros
 rename_i hfin
 have aA:=h_ hfin
 have HP:=h_ hP
 have HK:=h_ (fun(w':Sw) (q:SA w0.heap.size w0 w')=>hk.later q)
 have x0:∀ w',SA w0.heap.size w0 w'→w'.cell? ⟨X,0,none⟩=some (.int .i64 e.id):=fun w' q=>(Sy _ _ 0 _ 50 (0,0) ((q.block _ (SB.1 hx).1).trans hx)).trans rfl
 have xU:=h_ (fun(w':Sw) (q:SA w0.heap.size w0 w')=>SS (ku ((q.block _ (SB.1 hx).1).trans hx)) (Ev.keeps _ _ _ q le))
 have MJ:=h_ fe
 clear hx le fe
 have hi0:(0:Int)≤(i:Int):=by omega
 have hk0:(0:Int)≤(k:Int):=by omega
 obtain⟨b1,o1,_,ha1,_,_,_,_⟩:=af.at_ hk.ly.2.1 (SC.1 h1).1
 have hl1:i<y.eV.length:=(SC.1 h1).1
 have HR1:=h_ (fun(w':Sw) (q:SA w0.heap.size w0 w')=>wR (hk.later q).ly.2.1 ha1 h1)
 have kH:=h_ (fy.2.2.2.2.2.2.2.1 _ (SD h1))
 have d1:∀ w',SA w0.heap.size w0 w'→w'.cell? ⟨G,14,none⟩=some (.slice (some ⟨b1,o1,none⟩) y.eV.length y.ec):=fun w' q=>ha1▸(hk.later q).ry 6 (.slice y.ea y.eV.length y.ec) rfl
 have hm1:y.eV.length≤4000000:=fy.2.2.2.2.2.2.2.2.1
 obtain⟨b2,o2,_,ha2,_,_,_,_⟩:=af.at_ hk.lz.2.1 (SC.1 h2).1
 have hl2:k<z.eV.length:=(SC.1 h2).1
 have HR2:=h_ (fun(w':Sw) (q:SA w0.heap.size w0 w')=>wR (hk.later q).lz.2.1 ha2 h2)
 have t_:=h_ (fz.2.2.2.2.2.2.2.1 _ (SD h2))
 have d2:∀ w',SA w0.heap.size w0 w'→w'.cell? ⟨G,22,none⟩=some (.slice (some ⟨b2,o2,none⟩) z.eV.length z.ec):=fun w' q=>ha2▸(hk.later q).rz 6 (.slice z.ea z.eV.length z.ec) rfl
 have hm2:z.eV.length≤4000000:=fz.2.2.2.2.2.2.2.2.1
 have hd0:SA w0.heap.size w0 w0.drew:=(SR _ _).drew
 clear hfin hP hk
 conv=>arg 2;whnf
 refine Sv (S:=fun w'=>SA w0.heap.size w0 w') (by kernel_rfl) hd0 (fun _=>?_)
 refine ab HP.out 0 (.int .i64 (i:Int)) hd0 ?_
 refine ab HP.out 1 (.bool false) hd0 ?_
 refine ab HP.out 2 (.bool false) hd0 ?_
 refine ab HP.out 3 (.int .i64 (k:Int)) hd0 ?_
 refine ab HP.out 4 (.bool false) hd0 ?_
 refine ab HP.out 5 (.bool false) hd0 ?_
 refine ab HP.out 6 (.bool false) hd0 ?_
 refine ab HP.out 7 (.pointer (some ⟨G,8,none⟩)) hd0 ?_
 refine ab HP.out 8 (.pointer (some ⟨G,14,none⟩)) hd0 ?_
 refine ab HP.out 9 (.slice (some ⟨b1,o1,none⟩) y.eV.length y.ec) hd0 ?_
 refine ab HP.out 10 (.int .i64 (i:Int)) hd0 ?_
 refine ab HP.out 11 (.pointer (some ⟨b1,o1+i*7,none⟩)) hd0 ?_
 refine ab HP.out 12 (.agg e1.enc.toArray) hd0 ?_ (hy:=Su (by rfl) 50 (.tmp 163) rfl b1 (o1+i*7) rfl e1.enc _ (fun w_ h_=>(HR1.out w_ h_).1) SF rfl fm)
 refine ab HP.out 13 (.agg e.enc.toArray) hd0 ?_ (hy:=Su (by rfl) 50 (.tmp 15) rfl X 0 rfl e.enc _ (fun w_ h_=>(xU.out w_ h_).1) SF rfl fm)
 refine aq 14 (fun K hK=>?_)
 go_simp
 refine(o9 e1 e kH.out MJ.out _ (HR1.out _ hd0).2 (xU.out _ hd0).2 q1).mono ?_
 rintro e v166 ⟨rfl,ai⟩
 have aP:=ak hd0 ai
 clear ai
 go_wp2_with fail
 refine goOn hK aP ?_
 clear hK
 refine ab HP.out 15 (.bool false) aP ?_
 refine ab HP.out 16 (.bool false) aP ?_
 refine ab HP.out 17 (.bool false) aP ?_
 refine ab HP.out 18 (.pointer (some ⟨G,16,none⟩)) aP ?_
 refine ab HP.out 19 (.pointer (some ⟨G,22,none⟩)) aP ?_
 refine ab HP.out 20 (.slice (some ⟨b2,o2,none⟩) z.eV.length z.ec) aP ?_
 refine ab HP.out 21 (.int .i64 (k:Int)) aP ?_
 refine ab HP.out 22 (.pointer (some ⟨b2,o2+k*7,none⟩)) aP ?_
 refine ab HP.out 23 (.agg e2.enc.toArray) aP ?_ (hy:=Su (by rfl) 50 (.tmp 174) rfl b2 (o2+k*7) rfl e2.enc _ (fun w_ h_=>(HR2.out w_ h_).1) SF rfl fm)
 refine ab HP.out 24 (.agg e.enc.toArray) aP ?_ (hy:=Su (by rfl) 50 (.tmp 15) rfl X 0 rfl e.enc _ (fun w_ h_=>(xU.out w_ h_).1) SF rfl fm)
 refine aq 25 (fun K hK=>?_)
 go_simp
 refine(o9 e2 e t_.out MJ.out _ (HR2.out _ aP).2 (xU.out _ aP).2 q2).mono ?_
 rintro e v177 ⟨rfl,ai⟩
 have lq:=ak aP ai
 clear ai
 go_wp2_with fail
 refine goOn hK lq ?_
 clear hK
 refine ab HP.out 26 (.bool false) lq ?_
 refine ab HP.out 27 (.bool false) lq ?_
 refine ab HP.out 28 (.bool false) lq ?_
 refine ab HP.out 29 (.slice pa cls.length cc) lq ?_
 refine ab HP.out 30 (.pointer (some ⟨X,0,none⟩)) lq ?_
 refine ab HP.out 31 (.int .i64 e.id) lq ?_
 refine aq 32 (fun K hK=>?_)
 go_simp
 refine(pz pa cc cls e.id _ (HK.out _ lq).cl hcl hcc).mono ?_
 rintro e v184 ⟨rfl,ai⟩
 have Lc:=ak lq ai
 clear ai
 go_wp2_with fail
 refine goOn hK Lc ?_
 clear hK
 refine ab HP.out 33 (.bool (aO cls e.id)) Lc ?_
 refine Sx (by kernel_rfl) ?_ _
 exact aA.out _ Lc
def zag (w0:Sw)(p3 p15 p18 r201:Sz):Prop:=∀ ⦃Q:Exit→Act→Sw→Prop⦄,(∀ ch a a' w,a'.defers=a.defers→Q (.panic ch) a w→Q (.panic ch) a' w)→∀ ⦃s0 s1 s2 s4 s5 s6 s7 s8 s9 s10 s11 s12 s13 xF s16 kF uO s20 xP sK rP s24 qJ qI qj qi pW ou n_ ll nW nV nU nT nS nR nQ nP nO mX s43 s44 mW mV mK mH s49 mG mg mf s53 lG sM lF qW qV rO rH rF rE qX vN xE tF wW s68 xO kG wV s72 wU wT vZ vY vX vW vV vU vT s82 s83 vS vR vQ s87 vP vO vM vL vK vI vH uT uS uR uQ uP bF bY bX bW bV bU dh df jh iY iN iw j6 jZ jY jX jW jV jU jT jS jR jQ jP jO jN jM jL jD jC jB jA jy bT bS bR jw bQ jv bP cZ cO iq ik ig gT gP gN gM gL gK gJ gI gH gG gF gD gu gq gp f_ fV fQ fD fB eH eG eF eD eB eu ek ed dW dV dU dS dR dQ dP dN dM dL dK dJ dI cK cB cu b_ dH dF dE dD dC dB dA dz dx dw dm di bO bN bM ji:Sz⦄,
    (∀ ⦃Hr Hq Ho u193 u194 Hm u196 Hl u198 Hg Hf:Sz⦄ (wx:Sw),SA w0.heap.size w0 wx→Q .normal { tmps:=#[s0,s1,s2,p3,s4,s5,s6,s7,s8,s9,s10,s11,s12,s13,xF,p15,s16,kF,p18,uO,s20,xP,sK,rP,s24,qJ,qI,qj,qi,pW,ou,n_,ll,nW,nV,nU,nT,nS,nR,nQ,nP,nO,mX,s43,s44,mW,mV,mK,mH,s49,mG,mg,mf,s53,lG,sM,lF,qW,qV,rO,rH,rF,rE,qX,vN,xE,tF,wW,s68,xO,kG,wV,s72,wU,wT,vZ,vY,vX,vW,vV,vU,vT,s82,s83,vS,vR,vQ,s87,vP,vO,vM,vL,vK,vI,vH,uT,uS,uR,uQ,uP,bF,bY,bX,bW,bV,bU,dh,df,jh,iY,iN,iw,j6,jZ,jY,jX,jW,jV,jU,jT,jS,jR,jQ,jP,jO,jN,jM,jL,jD,jC,jB,jA,jy,bT,bS,bR,jw,bQ,jv,bP,cZ,cO,iq,ik,ig,gT,gP,gN,gM,gL,gK,gJ,gI,gH,gG,gF,gD,gu,gq,gp,f_,fV,fQ,fD,fB,eH,eG,eF,eD,eB,eu,ek,ed,dW,dV,dU,dS,dR,dQ,dP,dN,dM,dL,dK,dJ,dI,cK,cB,cu,b_,Hr,Hq,Ho,u193,u194,Hm,u196,Hl,u198,Hg,Hf,r201,bO,bN,bM,ji],defers:=[] } wx) →
    Code.wp SM ((mE 25 (SO.body.getD .skip)).getD .skip) Q { tmps:=#[s0,s1,s2,p3,s4,s5,s6,s7,s8,s9,s10,s11,s12,s13,xF,p15,s16,kF,p18,uO,s20,xP,sK,rP,s24,qJ,qI,qj,qi,pW,ou,n_,ll,nW,nV,nU,nT,nS,nR,nQ,nP,nO,mX,s43,s44,mW,mV,mK,mH,s49,mG,mg,mf,s53,lG,sM,lF,qW,qV,rO,rH,rF,rE,qX,vN,xE,tF,wW,s68,xO,kG,wV,s72,wU,wT,vZ,vY,vX,vW,vV,vU,vT,s82,s83,vS,vR,vQ,s87,vP,vO,vM,vL,vK,vI,vH,uT,uS,uR,uQ,uP,bF,bY,bX,bW,bV,bU,dh,df,jh,iY,iN,iw,j6,jZ,jY,jX,jW,jV,jU,jT,jS,jR,jQ,jP,jO,jN,jM,jL,jD,jC,jB,jA,jy,bT,bS,bR,jw,bQ,jv,bP,cZ,cO,iq,ik,ig,gT,gP,gN,gM,gL,gK,gJ,gI,gH,gG,gF,gD,gu,gq,gp,f_,fV,fQ,fD,fB,eH,eG,eF,eD,eB,eu,ek,ed,dW,dV,dU,dS,dR,dQ,dP,dN,dM,dL,dK,dJ,dI,cK,cB,cu,b_,dH,dF,dE,dD,dC,dB,dA,dz,dx,dw,dm,di,bO,bN,bM,ji],defers:=[] } w0
theorem Og (x y z d:Doc)(G D:Nat)(pa:Option Addr)(cls:List Cl)(w0:Sw)(hk:KpW x y z d G D pa cls w0)(fx:x.fits)(fy:y.fits)(fz:z.fits)(fd:d.fits)(e:Ev)(X:Nat)(hx:w0.heap[X]? =some (.cells e.enc.toArray 50 (0,0)))(fe:e.fits)(le:e.lies w0)(i:Nat)(e1:Ev)(h1:d.eV[i]? =some e1):zag w0 (.pointer (some ⟨D,0,none⟩)) (.pointer (some ⟨X,0,none⟩)) (.int .i64 (i:Int)) (.bool (!evEq e1 e)):=by
 intro Q hP
 intros
 rename_i hfin
 have aA:=h_ hfin
 have HP:=h_ hP
 have HK:=h_ (fun(w':Sw) (q:SA w0.heap.size w0 w')=>hk.later q)
 have x0:∀ w',SA w0.heap.size w0 w'→w'.cell? ⟨X,0,none⟩=some (.int .i64 e.id):=fun w' q=>(Sy _ _ 0 _ 50 (0,0) ((q.block _ (SB.1 hx).1).trans hx)).trans rfl
 have xU:=h_ (fun(w':Sw) (q:SA w0.heap.size w0 w')=>SS (ku ((q.block _ (SB.1 hx).1).trans hx)) (Ev.keeps _ _ _ q le))
 have MJ:=h_ fe
 clear hx le fe
 have hi0:(0:Int)≤(i:Int):=by omega
 obtain⟨b1,o1,_,ha1,_,_,_,_⟩:=af.at_ hk.ld.2.1 (SC.1 h1).1
 have hl1:i<d.eV.length:=(SC.1 h1).1
 have HR1:=h_ (fun(w':Sw) (q:SA w0.heap.size w0 w')=>wR (hk.later q).ld.2.1 ha1 h1)
 have kH:=h_ (fd.2.2.2.2.2.2.2.1 _ (SD h1))
 have d1:∀ w',SA w0.heap.size w0 w'→w'.cell? ⟨D,6,none⟩=some (.slice (some ⟨b1,o1,none⟩) d.eV.length d.ec):=fun w' q=>ha1▸(hk.later q).rd 6 (.slice d.ea d.eV.length d.ec) rfl
 have hm1:d.eV.length≤4000000:=fd.2.2.2.2.2.2.2.2.1
 have hd0:SA w0.heap.size w0 w0.drew:=(SR _ _).drew
 clear hfin hP hk
 conv=>arg 2;whnf
 refine Sv (S:=fun w'=>SA w0.heap.size w0 w') (by kernel_rfl) hd0 (fun _=>?_)
 refine ab HP.out 0 (.int .i64 (i:Int)) hd0 ?_
 refine ab HP.out 1 (.bool false) hd0 ?_
 refine ab HP.out 2 (.bool false) hd0 ?_
 refine ab HP.out 3 (.pointer (some ⟨D,6,none⟩)) hd0 ?_
 refine ab HP.out 4 (.slice (some ⟨b1,o1,none⟩) d.eV.length d.ec) hd0 ?_
 refine ab HP.out 5 (.int .i64 (i:Int)) hd0 ?_
 refine ab HP.out 6 (.pointer (some ⟨b1,o1+i*7,none⟩)) hd0 ?_
 refine ab HP.out 7 (.agg e1.enc.toArray) hd0 ?_ (hy:=Su (by rfl) 50 (.tmp 196) rfl b1 (o1+i*7) rfl e1.enc _ (fun w_ h_=>(HR1.out w_ h_).1) SF rfl fm)
 refine ab HP.out 8 (.agg e.enc.toArray) hd0 ?_ (hy:=Su (by rfl) 50 (.tmp 15) rfl X 0 rfl e.enc _ (fun w_ h_=>(xU.out w_ h_).1) SF rfl fm)
 refine aq 9 (fun K hK=>?_)
 go_simp
 refine(wQ e1 e kH.out MJ.out _ (HR1.out _ hd0).2 (xU.out _ hd0).2).mono ?_
 rintro e v199 ⟨rfl,ai⟩
 have Ka:=ak hd0 ai
 clear ai
 go_wp2_with fail
 refine goOn hK Ka ?_
 clear hK
 refine ab HP.out 10 (.bool (!evEq e1 e)) Ka ?_
 refine ab HP.out 11 (.bool (!evEq e1 e)) Ka ?_
 refine Sx (by kernel_rfl) ?_ _
 exact aA.out _ Ka
end Go.Proofs.YtnlnmbcaongehaaGreatDoor
