/- diff.Diff from its events on, where both documents are valid. The contract of diff.Diff at valid documents. The law DiffLists, where awake is true: the changes of both sides have the same contents. -/
import Derived.Laws.CopyOwn
import Derived.Test.YtnlnmbcaongehaaGreatDoorN08
set_option linter.unusedVariables false
set_option linter.unusedSimpArgs false
set_option maxRecDepth 100000
set_option maxHeartbeats 12800000
open Go.Lib renaming hid→h_
open Go renaming World→Su,heap_alloc_last→Sv,cell_of_row→Sw,Value→Sx,wp_at_zero→Sy,wp_at_succ→Sz,rounds_succ→SA,Calls→SB
open Go.Lib renaming compact→SC
open Go.Proofs.Tryz renaming prog→SD,underlying29→SE
open Go.RowKit renaming Below→SF
open List renaming length_append→SG,length_mergeSort→SH,length_map→SI,append_assoc→SJ,take_length→SK,flatMap_map→SL
open Go.Value renaming int→SM,string→SN,slice→SO
open Go.RowKit.Below renaming refl→SQ,heap_setCell→SR,heap_alloc→SS
open Nat renaming le_refl→SU,le_trans→SV,add_zero→SW,mul_one→SX
open Array renaming getElem?_eq_some_iff→SY
namespace Go.Proofs.YtnlnmbcaongehaaGreatDoor
open Go.RowKit
attribute [local go_sem ↓] Sy Sz
def Ku (n:Nat):Code→Bool
 | .region id _ _=>id==n
 | .seq a _=>Ku n a
 | _=>false
def lV (n:Nat):Code→Option Code
 | .seq a b=>if Ku n (.seq a b)=true then some (.seq a b) else (lV n a).orElse fun _=>lV n b
 | .block _ c=>lV n c
 | .loop c=>lV n c
 | .cond _ a b=>(lV n a).orElse fun _=>lV n b
 | _=>none
theorem GK (a b:Doc)(w wc:Su)(ha:a.lies w)(hb:b.lies w)(hfa:a.fits)(ln:b.fits)(h0:aL a=0)(h1:aL b=0)(av:Option Addr)(an ac:Nat)(hcut:DRel (jn a.hd b.hd++(SC (fk ((a.rG++b.rG).map (fun x:Reg=>x.name.data.toList)))).flatMap (fun l=>bH a.rG b.rG ⟨l.toArray⟩)) (w.heap.size+2) ((w.alloc (.cells a.enc.toArray 27)).alloc (.cells b.enc.toArray 27)) (.slice av an ac) wc)(s0 s1 s4 s5 s6 s7 s8 s10 s11 s12 s13 j6 s15 s16 fh lq jj s20 kG ir iq s24 gP gO gN gM gL gK gJ fV gI gH gG gF gE gD gA gx gw gv s43 s44 gu gq gp gl s49 gj gh gf s53 gd iu f_ gT gS im ik ij ig ie jD j2 iw j1 s68 kF fB jZ s72 jY jX jW jV jU jT jS jR jQ s82 s83 jP jO jN s87 jM jL jC jB jA jy jx jw jv ju jt js bF bY bX bW bV bU cq ck dW dV dU dT eK eJ eI eH eG eF eE eD eC eB eA ew eu et ep eo en ek ej ei eh bT bS bR ef bQ ee bP cj cg dS dR dQ dP dN dM dL dK dJ dI dH dF dE dD dC dB dA dz dy dx dw dv du dq dp dm dj di dh dg df de cZ cY cX cW cV cU cT cS cR cQ cP cO cd b_ b9 b8 cN cL cK cH cG cF cE cD cB cA cw cu bO bN bM:Sx) :
 Code.wp SD ((lV 20 (Tryz.f11.body.getD .skip)).getD .skip) (bodyPost SD Tryz.f11 (fT a b w)) { tmps:=#[s0,s1,.pointer (some ⟨w.heap.size,0,none⟩),.pointer (some ⟨w.heap.size+1,0,none⟩),s4,s5,s6,s7,s8,.slice av an ac,s10,s11,s12,s13,j6,s15,s16,fh,lq,jj,s20,kG,ir,iq,s24,gP,gO,gN,gM,gL,gK,gJ,fV,gI,gH,gG,gF,gE,gD,gA,gx,gw,gv,s43,s44,gu,gq,gp,gl,s49,gj,gh,gf,s53,gd,iu,f_,gT,gS,im,ik,ij,ig,ie,jD,j2,iw,j1,s68,kF,fB,jZ,s72,jY,jX,jW,jV,jU,jT,jS,jR,jQ,s82,s83,jP,jO,jN,s87,jM,jL,jC,jB,jA,jy,jx,jw,jv,ju,jt,js,bF,bY,bX,bW,bV,bU,cq,ck,dW,dV,dU,dT,eK,eJ,eI,eH,eG,eF,eE,eD,eC,eB,eA,ew,eu,et,ep,eo,en,ek,ej,ei,eh,bT,bS,bR,ef,bQ,ee,bP,cj,cg,dS,dR,dQ,dP,dN,dM,dL,dK,dJ,dI,dH,dF,dE,dD,dC,dB,dA,dz,dy,dx,dw,dv,du,dq,dp,dm,dj,di,dh,dg,df,de,cZ,cY,cX,cW,cV,cU,cT,cS,cR,cQ,cP,cO,cd,b_,b9,b8,cN,cL,cK,cH,cG,cF,cE,cD,cB,cA,cw,cu,bO,bN,bM],defers:=[] } wc:=by
 have HQ:=h_ (fun(v:Sx) (W0 w':Su) (hB:w.heap.size+2≤W0.heap.size) (hW:SF w.heap.size w W0) (h2:DRel (chgs a b) (w.heap.size+2) W0 v w')=>(show fT a b w (.returned (.tuple #[v,.int .i64 0])) w' from by
  unfold fT
  rw [if_neg (by simpa using h0),if_neg (by simpa using h1)]
  obtain⟨zs,⟨h4,h5,h6⟩,h3⟩:=h2
  exact⟨v,zs,rfl,⟨⟨h4.1,h4.2.imp id (fun⟨g,cap,cur,q1,q2,q3⟩=>⟨g,cap,cur,q1,by omega,q3⟩)⟩,fun z hz=>⟨(h5 z hz).1,fun b hu=>⟨((h5 z hz).2 b hu).1,by have:=((h5 z hz).2 b hu).2;omega⟩⟩,hW.trans (h6.mono (by omega))⟩,h3⟩))
 have Qp:=h_ (fun w1=>j3 a w1)
 have HHB:=h_ (fun w1=>j3 b w1)
 have HKR:=h_ (fun(w1:Su) (h:SF w.heap.size w w1)=>qF Flat.keeps a.ra b.ra a.rc b.rc a.rG b.rG w1 (ha.1.later h) (hb.1.later h) hfa.2.2.2.2.2.2.1 ln.2.2.2.2.2.2.1)
 have HKE:=h_ (fun(w1:Su) (h:SF w.heap.size w w1)=>qE Ev.keeps a.ea b.ea a.ec b.ec a.eV b.eV w1 (ha.2.1.later h) (hb.2.1.later h) hfa.2.2.2.2.2.2.2.2.1 ln.2.2.2.2.2.2.2.2.1)
 have mG:=h_ (fun(w1:Su) (h:SF w.heap.size w w1)=>qD Flat.keeps a.ca b.ca a.cc b.cc a.cM b.cM w1 (ha.2.2.later h) (hb.2.2.later h) hfa.2.2.2.2.2.2.2.2.2.2 ln.2.2.2.2.2.2.2.2.2.2)
 have Qw:=h_ (fun(k:ByteArray) (w1:Su) (h:SF w.heap.size w w1)=>kU Flat.keeps a.ra a.rc a.rG k w1 (ha.1.later h) (by have:=hfa.2.2.2.2.2.2.1;omega))
 have Dz:=h_ (fun(k:ByteArray) (w1:Su) (h:SF w.heap.size w w1)=>kU Flat.keeps b.ra b.rc b.rG k w1 (hb.1.later h) (by have:=ln.2.2.2.2.2.2.1;omega))
 have HGA:=h_ (fun(k:Int) (w1:Su) (h:SF w.heap.size w w1)=>kT Ev.keeps a.ea a.ec a.eV k w1 (ha.2.1.later h) (by have:=hfa.2.2.2.2.2.2.2.2.1;omega))
 have HGB:=h_ (fun(k:Int) (w1:Su) (h:SF w.heap.size w w1)=>kT Ev.keeps b.ea b.ec b.eV k w1 (hb.2.1.later h) (by have:=ln.2.2.2.2.2.2.2.2.1;omega))
 have Qy:=h_ (fun(p:Ev→Bool)=>C7 ha.2.1 hfa.2.2.2.2.2.2.2.1 p)
 have Qx:=h_ (fun(p:Ev→Bool)=>C7 hb.2.1 ln.2.2.2.2.2.2.2.1 p)
 have KT:=h_ (fun(k:Int) (w1:Su) (h:SF w.heap.size w w1)=>kS Flat.keeps a.ca a.cc a.cM k w1 (ha.2.2.later h) (by have:=hfa.2.2.2.2.2.2.2.2.2.2;omega))
 have Qc:=h_ (fun(k:Int) (w1:Su) (h:SF w.heap.size w w1)=>kS Flat.keeps b.ca b.cc b.cM k w1 (hb.2.2.later h) (by have:=ln.2.2.2.2.2.2.2.2.2.2;omega))
 have rH:=h_ (show((jn a.hd b.hd++(SC (fk ((a.rG++b.rG).map (fun x:Reg=>x.name.data.toList)))).flatMap (fun l=>bH a.rG b.rG ⟨l.toArray⟩))++(SC (aR ((a.eV++b.eV).map (fun x:Ev=>x.id)))).flatMap (kt a.eV b.eV))++(SC (aR ((a.cM++b.cM).map (fun x:Cm=>x.id)))).flatMap (ng a.cM b.cM)=chgs a b by
  unfold chgs zL pQ GF GU
  rw [SL,SJ,SJ])
 have hll:(SC (fk ((a.rG++b.rG).map (fun x:Reg=>x.name.data.toList)))).length≤8000000:=iG _ _ (by unfold fk;rw [SH,SI,SG];have:=hfa.2.2.2.2.2.2.1;have:=ln.2.2.2.2.2.2.1;omega)
 have hel:(SC (aR ((a.eV++b.eV).map (fun x:Ev=>x.id)))).length≤8000000:=iG _ _ (by unfold aR;rw [SH,SI,SG];have:=hfa.2.2.2.2.2.2.2.2.1;have:=ln.2.2.2.2.2.2.2.2.1;omega)
 have hcl:(SC (aR ((a.cM++b.cM).map (fun x:Cm=>x.id)))).length≤8000000:=iG _ _ (by unfold aR;rw [SH,SI,SG];have:=hfa.2.2.2.2.2.2.2.2.2.2;have:=ln.2.2.2.2.2.2.2.2.2.2;omega)
 generalize SC (fk ((a.rG++b.rG).map (fun x:Reg=>x.name.data.toList)))=ls at *
 generalize SC (aR ((a.eV++b.eV).map (fun x:Ev=>x.id)))=es at *
 generalize SC (aR ((a.cM++b.cM).map (fun x:Cm=>x.id)))=cs at *
 generalize chgs a b=CHG at *
 generalize hhd:a.hd=hd1 at *
 generalize Jg:b.hd=hd2 at *
 generalize fT a b w=Q at *
 obtain⟨title,lang,rate,drop,last,ra,rc,rG,ea,ec,eV,ca,cc,cM⟩:=a
 obtain⟨title',lang',rate',drop',last',ra',rc',regs',ea',ec',evs',ca',cc',cms'⟩:=b
 simp only [Doc.enc,Doc.hd] at *
 generalize hds:#[SN title,.string lang,.int .u8 rate,.bool drop,.int .i64 last,.slice ra rG.length rc,.slice ea eV.length ec,.slice ca cM.length cc]=ds at *
 generalize mV:#[SN title',.string lang',.int .u8 rate',.bool drop',.int .i64 last',.slice ra' regs'.length rc',.slice ea' evs'.length ec',.slice ca' cms'.length cc']=qs at *
 have f0:=aT w ds qs 27 27 0 (.string title) (by rw [←hds];rfl)
 have f1:=aT w ds qs 27 27 1 (.string lang) (by rw [←hds];rfl)
 have f2:=aT w ds qs 27 27 2 (.int .u8 rate) (by rw [←hds];rfl)
 have f3:=aT w ds qs 27 27 3 (.bool drop) (by rw [←hds];rfl)
 have f4:=aT w ds qs 27 27 4 (.int .i64 last) (by rw [←hds];rfl)
 have f5:=aT w ds qs 27 27 5 (.slice ra rG.length rc) (by rw [←hds];rfl)
 have f6:=aT w ds qs 27 27 6 (.slice ea eV.length ec) (by rw [←hds];rfl)
 have f7:=aT w ds qs 27 27 7 (.slice ca cM.length cc) (by rw [←hds];rfl)
 have g0:=aS w ds qs 27 27 0 (.string title') (by rw [←mV];rfl)
 have g1:=aS w ds qs 27 27 1 (.string lang') (by rw [←mV];rfl)
 have g2:=aS w ds qs 27 27 2 (.int .u8 rate') (by rw [←mV];rfl)
 have g3:=aS w ds qs 27 27 3 (.bool drop') (by rw [←mV];rfl)
 have g4:=aS w ds qs 27 27 4 (.int .i64 last') (by rw [←mV];rfl)
 have g5:=aS w ds qs 27 27 5 (.slice ra' regs'.length rc') (by rw [←mV];rfl)
 have g6:=aS w ds qs 27 27 6 (.slice ea' evs'.length ec') (by rw [←mV];rfl)
 have g7:=aS w ds qs 27 27 7 (.slice ca' cms'.length cc') (by rw [←mV];rfl)
 have HB:=h_ (fun(w1:Su) (h:SF (w.heap.size+2) ((w.alloc (.cells ds 27)).alloc (.cells qs 27)) w1)=>j4 h)
 have hb0:SF (w.heap.size+2) ((w.alloc (.cells ds 27)).alloc (.cells qs 27)) ((w.alloc (.cells ds 27)).alloc (.cells qs 27)):=SQ _ _
 have hsz:((w.alloc (.cells ds 27)).alloc (.cells qs 27)).heap.size=w.heap.size+2:=by simp
 generalize hW0:(w.alloc (.cells ds 27)).alloc (.cells qs 27)=W0 at *
 have HW0:=h_ hW0
 have bu:=h_ hsz
 have HT0:=h_ (fun(w2 w3:Su) (h:SF (w.heap.size+2) W0 w2) (h3:SF w2.heap.size w2 w3)=>(h.trans (h3.mono (by have:=h.size;rw [bu.out] at this;exact this)):SF (w.heap.size+2) W0 w3))
 have iY:=h_ (fun(w2:Su) (h:SF (w.heap.size+2) W0 w2)=>(show w.heap.size+2≤w2.heap.size by have:=h.size;rw [bu.out] at this;exact this))
 have HWW:=h_ (HB.out _ hb0)
 have hBW:w.heap.size+2≤W0.heap.size:=by rw [bu.out];exact SU _
 obtain⟨j0,jz,hj,hy0,hy1,hy2,hy3⟩:=GY
 have JI:=h_ hj;have J0:=h_ hy0;have J1:=h_ hy1;have J2:=h_ hy2;have J3:=h_ hy3
 clear hW0 hsz ha hb hfa ln h0 h1 hj hy0 hy1 hy2 hy3
 subst hds
 subst mV
 have hbc:=hcut.below
 have hpl:=vx hd1 hd2
 subst hhd
 subst Jg
 generalize jn _ _=P0 at *
 conv=>arg 2;whnf
 have HD:=h_ hcut
 clear hcut
 go_wp2_with fail
 refine(HKE.out _ (HB.out _ hbc)).mono ?_
 rintro e w3 ⟨kv,rfl,ho,hb3⟩
 obtain⟨ka,kc,rfl,KF⟩:=mu.of (v:=.slice av an ac) ho HD.out.lt
 have Hl:=h_ (show LRel (P0++ls.flatMap (fun l=>bH rG regs' ⟨l.toArray⟩)) (kt eV evs') (SM .i64) es ka (w.heap.size+2) W0 0 (.slice av an ac) w3 from⟨by simpa using HD.out.later hBW hb3,KF⟩)
 clear ho hb3 KF HD hbc
 go_upto_block 4 with fail
 go_cut [9] (fun s9 wx=>DRel (P0++ls.flatMap (fun l=>bH rG regs' ⟨l.toArray⟩)++es.flatMap (kt eV evs')) (w.heap.size+2) W0 s9 wx)
 case first =>
  go_wp2_with fail
  go_loopw [9,115] (fun s9 i wr=>∃ k:Nat,k≤es.length∧i=.int .i64 k∧LRel (P0++ls.flatMap (fun l=>bH rG regs' ⟨l.toArray⟩)) (kt eV evs') (SM .i64) es ka (w.heap.size+2) W0 k s9 wr) (fun _ i _=>es.length-(intOf i).toNat)
  case atStart=>exact⟨0,by omega,rfl,Hl.out⟩
  case round =>
   clear Hl
   obtain⟨k,hk,rfl,hR⟩:=hrel
   have hbr:=hR.1.below
   obtain⟨av,an,ac,rfl⟩:=hR.1.slice
   by_cases hlt:k<es.length
   · obtain⟨kb,ko,l,rfl,hkl,hlk,hkc,_⟩:=hR.2.1.at_ hlt
     have q0:=hkc 0 _ rfl
     obtain⟨kn,hkn⟩:∃ kn:Int,kn=l:=⟨_,rfl⟩
     have rO:=h_ (fun(w1:Su) (hb:SF wr.heap.size wr w1)=>LRel.push hR hlk hBW hb (fun x=>Df _ _ _))
     have Dt:=h_ (fun(w1:Su) (hb:SF wr.heap.size wr w1) (hf:kt eV evs' kn=[])=>LRel.skip hR hlk hBW hb (hkn▸hf))
     obtain⟨x,i1,t1,hv1,hx1,ht1⟩:=vt (first (fun x:Ev=>x.id==kn) eV)
     obtain⟨y,i2,t2,hv2,hx2,ht2⟩:=vt (first (fun x:Ev=>x.id==kn) evs')
     have rH:=h_ (show kt eV evs' kn=if (t1 != t2||!evEq x y)=true then [⟨3,kn,⟨#[]⟩,!t1,!t2,aZ,aZ,aD,aD,x.c,y.c,aM,aM⟩] else [] by rw [Jz,hx1,hx2,ht1,ht2])
     have fD:=h_ (fun(w1:Su) (h:SF (w.heap.size+2) W0 w1)=>(show SB SD 39 #[.slice ea eV.length ec,.func (.func 38) #[] #[],.int .i64 kn] w1 (fun e w'=>e=.returned (.tuple #[.agg x.enc.toArray,.int .i64 i1,.bool t1])∧SF w1.heap.size w1 w') from(HGA.out kn w1 (HB.out _ h)).mono (fun e w' p=>⟨by rw [←hv1];exact p.1,p.2⟩)))
     have ji:=h_ (fun(w1:Su) (h:SF (w.heap.size+2) W0 w1)=>(show SB SD 39 #[.slice ea' evs'.length ec',.func (.func 38) #[] #[],.int .i64 kn] w1 (fun e w'=>e=.returned (.tuple #[.agg y.enc.toArray,.int .i64 i2,.bool t2])∧SF w1.heap.size w1 w') from(HGB.out kn w1 (HB.out _ h)).mono (fun e w' p=>⟨by rw [←hv2];exact p.1,p.2⟩)))
     have hpr1:=sO (fun l=>bH rG regs' ⟨l.toArray⟩) (fun x=>ti _ _ _) ls
     have hpre:(P0++ls.flatMap (fun l=>bH rG regs' ⟨l.toArray⟩)).length≤8000001:=by rw [SG];omega
     have M2:=h_ (show(∀ w1,SF w.heap.size w w1→x.lies w1)∧x.rows.length≤4000000∧(∀ r∈x.rows,r.runs.length≤4000000) from by rw [hx1];exact Qy.out _)
     have JL:=h_ (show(∀ w1,SF w.heap.size w w1→y.lies w1)∧y.rows.length≤4000000∧(∀ r∈y.rows,r.runs.length≤4000000) from by rw [hx2];exact Qx.out _)
     simp only [←hkn,SW,SX] at q0 rO
     have qi:=h_ hR.1.lt
     have kI:=h_ hbr
     have hbs:=iY.out _ hbr
     clear hR hkc hlk hkn hv1 hv2 hx1 hx2 ht1 ht2
     have JZ:=h_ (fun(w1:Su) (h:SF (w.heap.size+2) W0 w1)=>fY x y w1 (M2.out.1 w1 (HB.out _ h)) (JL.out.1 w1 (HB.out _ h)) M2.out.2.2 JL.out.2.2 M2.out.2.1)
     have RU:=h_ (fun(w1:Su) (h:SF (w.heap.size+2) W0 w1)=>hJ x w1 (M2.out.1 w1 (HB.out _ h)) M2.out.2.2 M2.out.2.1)
     have RT:=h_ (fun(w1:Su) (h:SF (w.heap.size+2) W0 w1)=>hJ y w1 (JL.out.1 w1 (HB.out _ h)) JL.out.2.2 JL.out.2.1)
     generalize Pn:evEq x y=EQ at rH JZ
     generalize hXC:x.c=XC at rH RU
     generalize hYC:y.c=YC at rH RT
     clear Pn hXC hYC M2 JL
     obtain⟨xid,xin,xout,xreg,xkind,xsp,xa,xc,xrows⟩:=x
     obtain⟨yid,yin,yout,yreg,ykind,ysp,ya,yc,yrows⟩:=y
     simp only [Ev.enc] at fD ji JZ RU RT
     go_upto_block 5 with fail
     go_cut [9] (fun s9 wx=>LRel (P0++ls.flatMap (fun l=>bH rG regs' ⟨l.toArray⟩)) (kt eV evs') (SM .i64) es (some ⟨kb,ko,none⟩) (w.heap.size+2) W0 (k+1) s9 wx)
     case first =>
      go_wp2_with fail
      refine(fD.out _ hbr).mono ?_
      rintro e w3 ⟨rfl,hb3⟩
      have hc3:=HT0.out _ _ hbr hb3
      have Gr:∀ o,SF (w.heap.size+2) W0 (w3.alloc o):=fun o=>hc3.alloc (iY.out _ hc3) o
      have H3:=h_ hb3
      clear hb3 fD q0
      go_wp2_with fail
      refine(ji.out _ (Gr _)).mono ?_
      rintro e w4 ⟨rfl,hb4⟩
      have hc4:=HT0.out _ _ (Gr _) hb4
      have hs4:w3.heap.size+1≤w4.heap.size:=by have:=hb4.size;simpa using this
      have hk4:w4.heap[w3.heap.size]? =some (.cells #[.int .i64 xid,.int .i64 xin,.int .i64 xout,.string xreg,.int .u8 xkind,.string xsp,.slice xa xrows.length xc] 50 (0,0)):=(hb4.block _ (by simp)).trans (Sv w3 _)
      have mf:=h_ (show SF wr.heap.size wr w4 from(H3.out.alloc H3.out.size _).trans (hb4.mono (by have:=H3.out.size;simp;omega)))
      obtain⟨wy,Mc⟩:∃ wy,wy=w4.alloc (.cells #[.int .i64 yid,.int .i64 yin,.int .i64 yout,.string yreg,.int .u8 ykind,.string ysp,.slice ya yrows.length yc] 50):=⟨_,rfl⟩
      have hcy:SF (w.heap.size+2) W0 wy:=Mc▸hc4.alloc (iY.out _ hc4) _
      have HBY:=h_ (show SF wr.heap.size wr wy from Mc▸mf.out.alloc (by have:=mf.out.size;omega) _)
      have Rp:wy.heap[w4.heap.size]? =some (.cells #[.int .i64 yid,.int .i64 yin,.int .i64 yout,.string yreg,.int .u8 ykind,.string ysp,.slice ya yrows.length yc] 50 (0,0)):=Mc▸Sv w4 _
      have hkx:wy.heap[w3.heap.size]? =some (.cells #[.int .i64 xid,.int .i64 xin,.int .i64 xout,.string xreg,.int .u8 xkind,.string xsp,.slice xa xrows.length xc] 50 (0,0)):=Mc▸nL hk4
      have lG:w4.heap.size+1≤wy.heap.size:=by rw [Mc];simp
      have HKX:=h_ hkx
      have HKY:=h_ Rp
      have hw34:wr.heap.size≤w3.heap.size:=H3.out.size
      have HWY:=h_ Mc
      have bx:∀ (w':Su),SF wy.heap.size wy w'→∀ (j:Nat),w'.cell? ⟨w3.heap.size,j,none⟩=_:=fun w' h j=>Sw _ _ j _ 50 (0,0) ((h.block _ (by omega)).trans hkx)
      have by_:∀ (w':Su),SF wy.heap.size wy w'→∀ (j:Nat),w'.cell? ⟨w4.heap.size,j,none⟩=_:=fun w' h j=>Sw _ _ j _ 50 (0,0) ((h.block _ (by omega)).trans Rp)
      have hyy:SF wy.heap.size wy wy:=SQ _ _
      clear hb4 ji hk4 H3 hc3 Gr Rp hkx Mc
      go_upto_region 25 with fail
      rw [←HWY.out]
      go_cut [143] (fun sb wx=>sb=.bool (t1 != t2||!EQ)∧SF wy.heap.size wy wx)
      case first =>
       rcases Classical.em (t1=t2) with hne|hne
       · subst hne
         go_wp2_with fail
         refine(JZ.out _ hcy).mono ?_
         rintro e w5 ⟨rfl,hb5⟩
         go_wp2_with fail
         go_meet
         exact⟨by simp,hb5⟩
       · go_wp2_with fail
         go_meet
         exact⟨by simp [hne],hyy⟩
      case rest =>
       obtain⟨rfl,hb5⟩:=hcut
       obtain⟨w5,rfl⟩:∃ w5:Su,w5=wc:=⟨_,rfl⟩
       have xN:=HT0.out _ _ hcy hb5
       have uS:=h_ (HBY.out.trans (hb5.mono HBY.out.size))
       generalize (t1 != t2||!EQ)=TB at *
       cases TB with
       | false =>
         have HS:=h_ (Dt.out _ uS.out (by rw [rH.out];rfl))
         clear Dt rH rO
         go_wp2_with fail
         go_meet
         exact HS.out
       | true =>
         have rP:=h_ (show kt eV evs' kn=[⟨3,kn,⟨#[]⟩,!t1,!t2,aZ,aZ,aD,aD,XC,YC,aM,aM⟩] by rw [rH.out];rfl)
         have hl3:w3.heap.size<w5.heap.size:=by have:=hb5.size;omega
         have hl4:w4.heap.size<w5.heap.size:=by have:=hb5.size;omega
         have ex:∀ (w':Su),kE w5 w3.heap.size w4.heap.size w'→∀ (j:Nat),w'.cell? ⟨w3.heap.size,j,none⟩=_:=fun w' h j=>Sw _ _ j _ 50 (0,0) (h.1.trans ((hb5.block _ (by omega)).trans HKX.out))
         have ey:∀ (w':Su),kE w5 w3.heap.size w4.heap.size w'→∀ (j:Nat),w'.cell? ⟨w4.heap.size,j,none⟩=_:=fun w' h j=>Sw _ _ j _ 50 (0,0) (h.2.trans ((hb5.block _ (by omega)).trans HKY.out))
         have QH:=h_ xN
         have HVB:=h_ (fun(b:Nat) (e:(SO av an ac).ownBlock=some b)=>(show b<w3.heap.size∧b<w4.heap.size from by have:=qi.out b e;omega))
         clear hyy hb5 rH Dt JZ hcy bx by_ xN mf HWY HKX HKY
         have hz5d:SF w5.heap.size w5 w5.drew:=(SQ _ _).drew
         have hk5d:kE w5 w3.heap.size w4.heap.size w5.drew:=⟨rfl,rfl⟩
         have HX5:=h_ (fun(w1:Su) (h:SF w5.heap.size w5 w1)=>(RU.out w1 (QH.out.trans (h.mono (iY.out _ QH.out)))).mono (fun e w' (p:zZ XC w1 e w')=>(show ∃ c:Ev,e=.returned (.agg #[.int .i64 c.id,.int .i64 c.inn,.int .i64 c.out,.string c.region,.int .u8 c.kind,.string c.speaker,.slice c.at_ c.rows.length c.cap])∧Hid (c.c=XC∧c.lies w'∧(∀ b,c.uses b→w1.heap.size≤b)∧SF w1.heap.size w1 w')∧SF w5.heap.size w5 w'∧kE w5 w3.heap.size w4.heap.size w' from p.imp fun c q=>⟨q.1,⟨q.2.1,q.2.2.1,q.2.2.2.1,q.2.2.2.2⟩,h.trans (q.2.2.2.2.mono h.size),.of hl3 hl4 (h.trans (q.2.2.2.2.mono h.size))⟩)))
         have HY5:=h_ (fun(w1:Su) (h:SF w5.heap.size w5 w1)=>(RT.out w1 (QH.out.trans (h.mono (iY.out _ QH.out)))).mono (fun e w' (p:zZ YC w1 e w')=>(show ∃ c:Ev,e=.returned (.agg #[.int .i64 c.id,.int .i64 c.inn,.int .i64 c.out,.string c.region,.int .u8 c.kind,.string c.speaker,.slice c.at_ c.rows.length c.cap])∧Hid (c.c=YC∧c.lies w'∧(∀ b,c.uses b→w1.heap.size≤b)∧SF w1.heap.size w1 w')∧SF w5.heap.size w5 w'∧kE w5 w3.heap.size w4.heap.size w' from p.imp fun c q=>⟨q.1,⟨q.2.1,q.2.2.1,q.2.2.2.1,q.2.2.2.2⟩,h.trans (q.2.2.2.2.mono h.size),.of hl3 hl4 (h.trans (q.2.2.2.2.mono h.size))⟩)))
         clear RU RT
         go_upto_region 26 with fail
         go_region_held3 (fun w'=>kE w5 w3.heap.size w4.heap.size w') (first|with_reducible assumption|with_reducible exact hk5d|exact .of hl3 hl4 (Kn.alloc Kn.size _)) (first
          | (go_at_call 40;(with_reducible refine(HX5.out _ ?_).mono ?_);assumption;rintro e w6 ⟨cx,rfl,hcx,hz6,hk6⟩)
          | (go_at_call 40;(with_reducible refine(HY5.out _ ?_).mono ?_);assumption;rintro e w7 ⟨cy,rfl,hcy,Kn,hk7⟩;obtain⟨zn,zf,hzn,hO,hP⟩:=rO.out w7 (uS.out.trans (Kn.mono uS.out.size));have HP:=h_ hP;have HO:=h_ hO;have Ag:=h_ (show w.heap.size+2≤w7.heap.size from by have:=iY.out _ QH.out;have:=Kn.size;omega);have HK7:=h_ (fun(cs:Array Sx) (w8:Su) (hg:(w7.alloc (.cells cs 54)).grownBy w8 (SO av an ac).ownBlock)=>hk7.grown (by have:=Kn.size;omega) (by have:=Kn.size;omega) hg HVB.out);clear hP hO)
          | (refine tP w7 _ rfl (.tmp 144) (.tmp 155) 29 rfl (w.heap.size+2) 54 j0 _ 59 568 SE JI.out J0.out J1.out J2.out J3.out (by decide) (.slice av an ac) zn zf (by rfl) HO.out w7.heap.size (by rfl) rfl rfl (fun u hu=>Chg.one (⟨3,kn,⟨#[]⟩,!t1,!t2,aZ,aZ,aD,aD,cx,cy,aM,aM⟩:Chg) u hu) (by unfold maxLen;omega) (by omega) Ag.out ?_;intro v' w8 hown hgrow hat;have hk8:=HK7.out _ _ hgrow;have HOW:=h_ hown;have HGR:=h_ hgrow;have HAT:=h_ hat;clear hown hgrow hat))
         have R:=h_ (HP.out (⟨3,kn,⟨#[]⟩,!t1,!t2,aZ,aZ,aD,aD,cx,cy,aM,aM⟩:Chg) _ v' w8 (by rw [rP.out,←hcx.out.1,←hcy.out.1];rfl) rfl HOW.out HGR.out HAT.out ⟨Ev.keeps _ _ _ hcy.out.2.2.2 hcx.out.2.1,hcy.out.2.1⟩ (fun b hu=>hu.elim (fun h=>SV uS.out.size (hcx.out.2.2.1 b h)) (fun h=>SV uS.out.size (SV hcx.out.2.2.2.size (hcy.out.2.2.1 b h)))))
         clear HOW HGR HAT HP HO rP HK7
         go_wp2_with fail
         go_meet
         exact R.out
     case rest =>
      clear rO Dt rH fD ji q0
      obtain⟨av',an',ac',rfl⟩:=hcut.1.slice
      have HC:=h_ hcut
      clear hcut
      go_wp2_with fail
      go_roundw
      case rel=>exact⟨k+1,by omega,by go_num,HC.out⟩
      all_goals first|(simp [intOf];done)|(simp [intOf];omega)
   · obtain rfl:k=es.length:=by omega
     have HN:=h_ (show DRel (P0++ls.flatMap (fun l=>bH rG regs' ⟨l.toArray⟩)++es.flatMap (kt eV evs')) (w.heap.size+2) W0 (.slice av an ac) wr from by
      have:=hR.1
      rwa [SK] at this)
     clear hR
     go_wp2_with fail
     go_meet
     exact HN.out
 case rest =>
 clear Hl
 have hbc:=hcut.below
 obtain⟨av,an,ac,rfl⟩:=hcut.slice
 have HD:=h_ hcut
 clear hcut
 go_wp2_with fail
 refine(mG.out _ (HB.out _ hbc)).mono ?_
 rintro e w3 ⟨kv,rfl,ho,hb3⟩
 obtain⟨ka,kc,rfl,KF⟩:=mu.of (v:=.slice av an ac) ho HD.out.lt
 have Hl:=h_ (show LRel (P0++ls.flatMap (fun l=>bH rG regs' ⟨l.toArray⟩)++es.flatMap (kt eV evs')) (ng cM cms') (SM .i64) cs ka (w.heap.size+2) W0 0 (.slice av an ac) w3 from⟨by simpa using HD.out.later hBW hb3,KF⟩)
 clear ho hb3 KF HD hbc
 go_upto_block 6 with fail
 go_cut [9] (fun s9 wx=>DRel (P0++ls.flatMap (fun l=>bH rG regs' ⟨l.toArray⟩)++es.flatMap (kt eV evs')++cs.flatMap (ng cM cms')) (w.heap.size+2) W0 s9 wx)
 case first =>
  go_wp2_with fail
  go_loopw [9,164] (fun s9 i wr=>∃ k:Nat,k≤cs.length∧i=.int .i64 k∧LRel (P0++ls.flatMap (fun l=>bH rG regs' ⟨l.toArray⟩)++es.flatMap (kt eV evs')) (ng cM cms') (SM .i64) cs ka (w.heap.size+2) W0 k s9 wr) (fun _ i _=>cs.length-(intOf i).toNat)
  case atStart=>exact⟨0,by omega,rfl,Hl.out⟩
  case round =>
   clear Hl
   obtain⟨k,hk,rfl,hR⟩:=hrel
   have hbr:=hR.1.below
   obtain⟨av,an,ac,rfl⟩:=hR.1.slice
   by_cases hlt:k<cs.length
   · obtain⟨kb,ko,l,rfl,hkl,hlk,hkc,_⟩:=hR.2.1.at_ hlt
     have q0:=hkc 0 _ rfl
     obtain⟨kn,hkn⟩:∃ kn:Int,kn=l:=⟨_,rfl⟩
     have rO:=h_ (fun(w1:Su) (hb:SF wr.heap.size wr w1)=>LRel.push hR hlk hBW hb (fun x=>JB _ _ _))
     have Dt:=h_ (fun(w1:Su) (hb:SF wr.heap.size wr w1) (hf:ng cM cms' kn=[])=>LRel.skip hR hlk hBW hb (hkn▸hf))
     obtain⟨x,i1,t1,hv1,hx1,ht1⟩:=vs (first (fun x:Cm=>x.id==kn) cM)
     obtain⟨y,i2,t2,hv2,hx2,ht2⟩:=vs (first (fun x:Cm=>x.id==kn) cms')
     have rH:=h_ (show ng cM cms' kn=if (t1 != t2||!cmEq x y)=true then [⟨4,kn,⟨#[]⟩,!t1,!t2,aZ,aZ,aD,aD,bC,bC,x,y⟩] else [] by rw [JA,hx1,hx2,ht1,ht2])
     have fD:=h_ (fun(w1:Su) (h:SF (w.heap.size+2) W0 w1)=>(show SB SD 43 #[.slice ca cM.length cc,.func (.func 42) #[] #[],.int .i64 kn] w1 (fun e w'=>e=.returned (.tuple #[.agg x.enc.toArray,.int .i64 i1,.bool t1])∧SF w1.heap.size w1 w') from(KT.out kn w1 (HB.out _ h)).mono (fun e w' p=>⟨by rw [←hv1];exact p.1,p.2⟩)))
     have ji:=h_ (fun(w1:Su) (h:SF (w.heap.size+2) W0 w1)=>(show SB SD 43 #[.slice ca' cms'.length cc',.func (.func 42) #[] #[],.int .i64 kn] w1 (fun e w'=>e=.returned (.tuple #[.agg y.enc.toArray,.int .i64 i2,.bool t2])∧SF w1.heap.size w1 w') from(Qc.out kn w1 (HB.out _ h)).mono (fun e w' p=>⟨by rw [←hv2];exact p.1,p.2⟩)))
     have hpr1:=sO (fun l=>bH rG regs' ⟨l.toArray⟩) (fun x=>ti _ _ _) ls
     have hpr2:=sO (kt eV evs') (fun x=>Df _ _ _) es
     have hpre:(P0++ls.flatMap (fun l=>bH rG regs' ⟨l.toArray⟩)++es.flatMap (kt eV evs')).length≤16000001:=by rw [SG,SG];omega
     simp only [←hkn,SW,SX] at q0 rO
     have qi:=h_ hR.1.lt
     have kI:=h_ hbr
     have hbs:=iY.out _ hbr
     clear hR hkc hlk hkn hv1 hv2 hx1 hx2 ht1 ht2
     have r1:=fun wx=>oP x y wx
     generalize Pn:cmEq x y=EQ at rH r1
     clear Pn
     obtain⟨xid,xev,xfrm,xtil,xau,xtx,xdn,xlo⟩:=x
     obtain⟨yid,yev,yfrm,ytil,yau,ytx,ydn,ylo⟩:=y
     simp only [Cm.enc] at r1 fD ji
     go_upto_block 7 with fail
     go_cut [9] (fun s9 wx=>LRel (P0++ls.flatMap (fun l=>bH rG regs' ⟨l.toArray⟩)++es.flatMap (kt eV evs')) (ng cM cms') (SM .i64) cs (some ⟨kb,ko,none⟩) (w.heap.size+2) W0 (k+1) s9 wx)
     case first =>
      go_wp2_with fail
      refine(fD.out _ hbr).mono ?_
      rintro e w3 ⟨rfl,hb3⟩
      have hc3:=HT0.out _ _ hbr hb3
      have Gr:∀ o,SF (w.heap.size+2) W0 (w3.alloc o):=fun o=>hc3.alloc (iY.out _ hc3) o
      have H3:=h_ hb3
      clear hb3 fD q0
      go_wp2_with fail
      refine(ji.out _ (Gr _)).mono ?_
      rintro e w4 ⟨rfl,hb4⟩
      have hc4:=HT0.out _ _ (Gr _) hb4
      have hs4:w3.heap.size+1≤w4.heap.size:=by have:=hb4.size;simpa using this
      have hk4:w4.heap[w3.heap.size]? =some (.cells #[.int .i64 xid,.int .i64 xev,.int .i64 xfrm,.int .i64 xtil,.string xau,.string xtx,.bool xdn,.bool xlo] 52 (0,0)):=(hb4.block _ (by simp)).trans (Sv w3 _)
      have mf:=h_ (fun(o:Obj)=>(show SF wr.heap.size wr (w4.alloc o) from((H3.out.alloc H3.out.size _).trans (hb4.mono (by have:=H3.out.size;simp;omega))).alloc (by have:=H3.out.size;omega) o))
      obtain⟨wq,hwq⟩:∃ wq,wq=w4.alloc (.cells #[.int .i64 yid,.int .i64 yev,.int .i64 yfrm,.int .i64 ytil,.string yau,.string ytx,.bool ydn,.bool ylo] 52):=⟨_,rfl⟩
      have cq3:∀ (j:Nat),wq.cell? ⟨w3.heap.size,j,none⟩=_:=fun j=>Sw _ _ j _ 52 (0,0) (show wq.heap[w3.heap.size]? =_ from hwq▸nL hk4)
      have cq4:∀ (j:Nat),wq.cell? ⟨w4.heap.size,j,none⟩=_:=fun j=>Sw _ _ j _ 52 (0,0) (show wq.heap[w4.heap.size]? =_ from hwq▸Sv w4 _)
      have Nv:=h_ (show SF wr.heap.size wr wq from hwq▸mf.out _)
      have Ag:=h_ (show w.heap.size+2≤wq.heap.size from by have:=Nv.out.size;omega)
      have PN:=h_ hwq
      clear hb4 ji hk4 H3 hc3 Gr mf hwq
      go_upto_region 33 with fail
      rw [←PN.out]
      go_cut [191] (fun sb wx=>sb=.bool (t1 != t2||!EQ)∧wx=wq)
      case first =>
       rcases Classical.em (t1=t2) with hne|hne
       · subst hne
         go_wp2_with fail
         go_meet
         exact⟨by simp,rfl⟩
       · go_wp2_with fail
         go_meet
         exact⟨by simp [hne],rfl⟩
      case rest =>
       obtain⟨rfl,rfl⟩:=hcut
       clear PN r1
       generalize (t1 != t2||!EQ)=TB at *
       cases TB with
       | false =>
         have HS:=h_ (Dt.out _ Nv.out (by rw [rH.out];rfl))
         clear Dt rH rO
         skip
         go_wp2_with fail
         go_meet
         exact HS.out
       | true =>
         have rP:=h_ (show ng cM cms' kn=[⟨4,kn,⟨#[]⟩,!t1,!t2,aZ,aZ,aD,aD,bC,bC,⟨xid,xev,xfrm,xtil,xau,xtx,xdn,xlo⟩,⟨yid,yev,yfrm,ytil,yau,ytx,ydn,ylo⟩⟩] by rw [rH.out];rfl)
         obtain⟨zn,zf,hzn,hO,hP⟩:=rO.out _ Nv.out
         have HP:=h_ hP
         clear hP rO rH Dt
         go_wp2_with (at_builtin;refine aI _ _ rfl (.tmp 192) (.tmp 201) 29 rfl (w.heap.size+2) 54 j0 _ 59 568 SE JI.out J0.out J1.out J2.out J3.out (by decide) _ _ _ rfl hO _ rfl rfl ?OC ?h1Cm ?Pq ?hbCm ?Jm ?_)
         try (case OC=>rfl)
         case h1Cm=>first|exact fun u hu=>Chg.one (⟨4,kn,⟨#[]⟩,!t1,!t2,aZ,aZ,aD,aD,aJ,aJ,⟨xid,xev,xfrm,xtil,xau,xtx,xdn,xlo⟩,⟨yid,yev,yfrm,ytil,yau,ytx,ydn,ylo⟩⟩:Chg) u hu|((repeat' apply And.intro)<;>rfl)
         case Pq=>unfold maxLen;omega
         case hbCm=>omega
         try (case Jm=>exact Ag.out)
         intro v' w2' hown hgrow hat
         have R:=h_ (HP.out (⟨4,kn,⟨#[]⟩,!t1,!t2,aZ,aZ,aD,aD,aJ,aJ,⟨xid,xev,xfrm,xtil,xau,xtx,xdn,xlo⟩,⟨yid,yev,yfrm,ytil,yau,ytx,ydn,ylo⟩⟩:Chg) _ v' w2' rP.out rfl hown hgrow hat (nC _ rfl rfl _).1 (fun b hu=>((nC _ rfl rfl wr).2 b hu).elim))
         clear hown hgrow hat HP hO rP
         go_wp2_with fail
         go_meet
         exact R.out
     case rest =>
      clear rO Dt rH fD ji q0 r1
      obtain⟨av',an',ac',rfl⟩:=hcut.1.slice
      have HC:=h_ hcut
      clear hcut
      go_wp2_with fail
      go_roundw
      case rel=>exact⟨k+1,by omega,by go_num,HC.out⟩
      all_goals first|(simp [intOf];done)|(simp [intOf];omega)
   · obtain rfl:k=cs.length:=by omega
     have HN:=h_ (show DRel (P0++ls.flatMap (fun l=>bH rG regs' ⟨l.toArray⟩)++es.flatMap (kt eV evs')++cs.flatMap (ng cM cms')) (w.heap.size+2) W0 (.slice av an ac) wr from by
      have:=hR.1
      rwa [SK] at this)
     clear hR
     go_wp2_with fail
     go_meet
     exact HN.out
 case rest =>
 clear Hl
 have hbc:=hcut.below
 obtain⟨av,an,ac,rfl⟩:=hcut.slice
 rw [rH.out] at hcut
 have aA:=h_ (HQ.out _ _ _ hBW HWW.out hcut)
 clear hcut
 go_wp2_with fail
 exact aA.out
end Go.Proofs.YtnlnmbcaongehaaGreatDoor
namespace Go.Proofs.YtnlnmbcaongehaaGreatDoor
open Go.RowKit
attribute [local go_sem ↓] Sy Sz
theorem MT (a b:Doc)(w:Su)(hE:Env w)(ha:a.lies w)(hb:b.lies w)(hfa:a.fits)(ln:b.fits)(h0:aL a=0)(h1:aL b=0) :
 SB SD 11 #[.agg a.enc.toArray,.agg b.enc.toArray] w (fT a b w):=by
 have HQ:=h_ (fun(v:Sx) (W0 w':Su) (hB:w.heap.size+2≤W0.heap.size) (hW:SF w.heap.size w W0) (h2:DRel (chgs a b) (w.heap.size+2) W0 v w')=>(show fT a b w (.returned (.tuple #[v,.int .i64 0])) w' from by
  unfold fT
  rw [if_neg (by simpa using h0),if_neg (by simpa using h1)]
  obtain⟨zs,⟨h4,h5,h6⟩,h3⟩:=h2
  exact⟨v,zs,rfl,⟨⟨h4.1,h4.2.imp id (fun⟨g,cap,cur,q1,q2,q3⟩=>⟨g,cap,cur,q1,by omega,q3⟩)⟩,fun z hz=>⟨(h5 z hz).1,fun b hu=>⟨((h5 z hz).2 b hu).1,by have:=((h5 z hz).2 b hu).2;omega⟩⟩,hW.trans (h6.mono (by omega))⟩,h3⟩))
 have DA:=h_ (fun(w1:Su) (h:SF w.heap.size w w1)=>eM a w1 (hE.below h (SU _)) (Doc.later ha h) hfa)
 have tu:=h_ (fun(w1:Su) (h:SF w.heap.size w w1)=>eM b w1 (hE.below h (SU _)) (Doc.later hb h) ln)
 have tr:=h_ (fun(wc:Su) (av:Option Addr) (an ac:Nat) hcut s0 s1 s4 s5 s6 s7 s8 s10 s11 s12 s13 j6 s15 s16 fh lq jj s20 kG ir iq s24 gP gO gN gM gL gK gJ fV gI gH gG gF gE gD gA gx gw gv s43 s44 gu gq gp gl s49 gj gh gf s53 gd iu f_ gT gS im ik ij ig ie jD j2 iw j1 s68 kF fB jZ s72 jY jX jW jV jU jT jS jR jQ s82 s83 jP jO jN s87 jM jL jC jB jA jy jx jw jv ju jt js bF bY bX bW bV bU cq ck dW dV dU dT eK eJ eI eH eG eF eE eD eC eB eA ew eu et ep eo en ek ej ei eh bT bS bR ef bQ ee bP cj cg dS dR dQ dP dN dM dL dK dJ dI dH dF dE dD dC dB dA dz dy dx dw dv du dq dp dm dj di dh dg df de cZ cY cX cW cV cU cT cS cR cQ cP cO cd b_ b9 b8 cN cL cK cH cG cF cE cD cB cA cw cu bO bN bM=>GK a b w wc ha hb hfa ln h0 h1 av an ac hcut s0 s1 s4 s5 s6 s7 s8 s10 s11 s12 s13 j6 s15 s16 fh lq jj s20 kG ir iq s24 gP gO gN gM gL gK gJ fV gI gH gG gF gE gD gA gx gw gv s43 s44 gu gq gp gl s49 gj gh gf s53 gd iu f_ gT gS im ik ij ig ie jD j2 iw j1 s68 kF fB jZ s72 jY jX jW jV jU jT jS jR jQ s82 s83 jP jO jN s87 jM jL jC jB jA jy jx jw jv ju jt js bF bY bX bW bV bU cq ck dW dV dU dT eK eJ eI eH eG eF eE eD eC eB eA ew eu et ep eo en ek ej ei eh bT bS bR ef bQ ee bP cj cg dS dR dQ dP dN dM dL dK dJ dI dH dF dE dD dC dB dA dz dy dx dw dv du dq dp dm dj di dh dg df de cZ cY cX cW cV cU cT cS cR cQ cP cO cd b_ b9 b8 cN cL cK cH cG cF cE cD cB cA cw cu bO bN bM)
 rw [h0] at DA
 rw [h1] at tu
 have Qp:=h_ (fun w1=>j3 a w1)
 have HHB:=h_ (fun w1=>j3 b w1)
 have HKR:=h_ (fun(w1:Su) (h:SF w.heap.size w w1)=>qF Flat.keeps a.ra b.ra a.rc b.rc a.rG b.rG w1 (ha.1.later h) (hb.1.later h) hfa.2.2.2.2.2.2.1 ln.2.2.2.2.2.2.1)
 have HKE:=h_ (fun(w1:Su) (h:SF w.heap.size w w1)=>qE Ev.keeps a.ea b.ea a.ec b.ec a.eV b.eV w1 (ha.2.1.later h) (hb.2.1.later h) hfa.2.2.2.2.2.2.2.2.1 ln.2.2.2.2.2.2.2.2.1)
 have mG:=h_ (fun(w1:Su) (h:SF w.heap.size w w1)=>qD Flat.keeps a.ca b.ca a.cc b.cc a.cM b.cM w1 (ha.2.2.later h) (hb.2.2.later h) hfa.2.2.2.2.2.2.2.2.2.2 ln.2.2.2.2.2.2.2.2.2.2)
 have Qw:=h_ (fun(k:ByteArray) (w1:Su) (h:SF w.heap.size w w1)=>kU Flat.keeps a.ra a.rc a.rG k w1 (ha.1.later h) (by have:=hfa.2.2.2.2.2.2.1;omega))
 have Dz:=h_ (fun(k:ByteArray) (w1:Su) (h:SF w.heap.size w w1)=>kU Flat.keeps b.ra b.rc b.rG k w1 (hb.1.later h) (by have:=ln.2.2.2.2.2.2.1;omega))
 have HGA:=h_ (fun(k:Int) (w1:Su) (h:SF w.heap.size w w1)=>kT Ev.keeps a.ea a.ec a.eV k w1 (ha.2.1.later h) (by have:=hfa.2.2.2.2.2.2.2.2.1;omega))
 have HGB:=h_ (fun(k:Int) (w1:Su) (h:SF w.heap.size w w1)=>kT Ev.keeps b.ea b.ec b.eV k w1 (hb.2.1.later h) (by have:=ln.2.2.2.2.2.2.2.2.1;omega))
 have Qy:=h_ (fun(p:Ev→Bool)=>C7 ha.2.1 hfa.2.2.2.2.2.2.2.1 p)
 have Qx:=h_ (fun(p:Ev→Bool)=>C7 hb.2.1 ln.2.2.2.2.2.2.2.1 p)
 have KT:=h_ (fun(k:Int) (w1:Su) (h:SF w.heap.size w w1)=>kS Flat.keeps a.ca a.cc a.cM k w1 (ha.2.2.later h) (by have:=hfa.2.2.2.2.2.2.2.2.2.2;omega))
 have Qc:=h_ (fun(k:Int) (w1:Su) (h:SF w.heap.size w w1)=>kS Flat.keeps b.ca b.cc b.cM k w1 (hb.2.2.later h) (by have:=ln.2.2.2.2.2.2.2.2.2.2;omega))
 have rH:=h_ (show((jn a.hd b.hd++(SC (fk ((a.rG++b.rG).map (fun x:Reg=>x.name.data.toList)))).flatMap (fun l=>bH a.rG b.rG ⟨l.toArray⟩))++(SC (aR ((a.eV++b.eV).map (fun x:Ev=>x.id)))).flatMap (kt a.eV b.eV))++(SC (aR ((a.cM++b.cM).map (fun x:Cm=>x.id)))).flatMap (ng a.cM b.cM)=chgs a b by
  unfold chgs zL pQ GF GU
  rw [SL,SJ,SJ])
 have hll:(SC (fk ((a.rG++b.rG).map (fun x:Reg=>x.name.data.toList)))).length≤8000000:=iG _ _ (by unfold fk;rw [SH,SI,SG];have:=hfa.2.2.2.2.2.2.1;have:=ln.2.2.2.2.2.2.1;omega)
 have hel:(SC (aR ((a.eV++b.eV).map (fun x:Ev=>x.id)))).length≤8000000:=iG _ _ (by unfold aR;rw [SH,SI,SG];have:=hfa.2.2.2.2.2.2.2.2.1;have:=ln.2.2.2.2.2.2.2.2.1;omega)
 have hcl:(SC (aR ((a.cM++b.cM).map (fun x:Cm=>x.id)))).length≤8000000:=iG _ _ (by unfold aR;rw [SH,SI,SG];have:=hfa.2.2.2.2.2.2.2.2.2.2;have:=ln.2.2.2.2.2.2.2.2.2.2;omega)
 generalize SC (fk ((a.rG++b.rG).map (fun x:Reg=>x.name.data.toList)))=ls at *
 generalize SC (aR ((a.eV++b.eV).map (fun x:Ev=>x.id)))=es at *
 generalize SC (aR ((a.cM++b.cM).map (fun x:Cm=>x.id)))=cs at *
 generalize chgs a b=CHG at *
 generalize hhd:a.hd=hd1 at *
 generalize Jg:b.hd=hd2 at *
 generalize fT a b w=Q at *
 obtain⟨title,lang,rate,drop,last,ra,rc,rG,ea,ec,eV,ca,cc,cM⟩:=a
 obtain⟨title',lang',rate',drop',last',ra',rc',regs',ea',ec',evs',ca',cc',cms'⟩:=b
 simp only [Doc.enc,Doc.hd] at *
 generalize hds:#[SN title,.string lang,.int .u8 rate,.bool drop,.int .i64 last,.slice ra rG.length rc,.slice ea eV.length ec,.slice ca cM.length cc]=ds
 generalize mV:#[SN title',.string lang',.int .u8 rate',.bool drop',.int .i64 last',.slice ra' regs'.length rc',.slice ea' evs'.length ec',.slice ca' cms'.length cc']=qs
 have f0:=aT w ds qs 27 27 0 (.string title) (by rw [←hds];rfl)
 have f1:=aT w ds qs 27 27 1 (.string lang) (by rw [←hds];rfl)
 have f2:=aT w ds qs 27 27 2 (.int .u8 rate) (by rw [←hds];rfl)
 have f3:=aT w ds qs 27 27 3 (.bool drop) (by rw [←hds];rfl)
 have f4:=aT w ds qs 27 27 4 (.int .i64 last) (by rw [←hds];rfl)
 have f5:=aT w ds qs 27 27 5 (.slice ra rG.length rc) (by rw [←hds];rfl)
 have f6:=aT w ds qs 27 27 6 (.slice ea eV.length ec) (by rw [←hds];rfl)
 have f7:=aT w ds qs 27 27 7 (.slice ca cM.length cc) (by rw [←hds];rfl)
 have g0:=aS w ds qs 27 27 0 (.string title') (by rw [←mV];rfl)
 have g1:=aS w ds qs 27 27 1 (.string lang') (by rw [←mV];rfl)
 have g2:=aS w ds qs 27 27 2 (.int .u8 rate') (by rw [←mV];rfl)
 have g3:=aS w ds qs 27 27 3 (.bool drop') (by rw [←mV];rfl)
 have g4:=aS w ds qs 27 27 4 (.int .i64 last') (by rw [←mV];rfl)
 have g5:=aS w ds qs 27 27 5 (.slice ra' regs'.length rc') (by rw [←mV];rfl)
 have g6:=aS w ds qs 27 27 6 (.slice ea' evs'.length ec') (by rw [←mV];rfl)
 have g7:=aS w ds qs 27 27 7 (.slice ca' cms'.length cc') (by rw [←mV];rfl)
 have HB:=h_ (fun(w1:Su) (h:SF (w.heap.size+2) ((w.alloc (.cells ds 27)).alloc (.cells qs 27)) w1)=>j4 h)
 have hb0:SF (w.heap.size+2) ((w.alloc (.cells ds 27)).alloc (.cells qs 27)) ((w.alloc (.cells ds 27)).alloc (.cells qs 27)):=SQ _ _
 have hsz:((w.alloc (.cells ds 27)).alloc (.cells qs 27)).heap.size=w.heap.size+2:=by simp
 generalize hW0:(w.alloc (.cells ds 27)).alloc (.cells qs 27)=W0 at *
 have HW0:=h_ hW0
 have bu:=h_ hsz
 have HT0:=h_ (fun(w2 w3:Su) (h:SF (w.heap.size+2) W0 w2) (h3:SF w2.heap.size w2 w3)=>(h.trans (h3.mono (by have:=h.size;rw [bu.out] at this;exact this)):SF (w.heap.size+2) W0 w3))
 have iY:=h_ (fun(w2:Su) (h:SF (w.heap.size+2) W0 w2)=>(show w.heap.size+2≤w2.heap.size by have:=h.size;rw [bu.out] at this;exact this))
 have HKS:=h_ (fun(o o':Array Sx) (w1:Su) (h:SF ((W0.alloc (.cells o 27)).alloc (.cells o' 27)).heap.size ((W0.alloc (.cells o 27)).alloc (.cells o' 27)) w1) (j:Nat)=>(show w1.cell? ⟨w.heap.size+1+1,j,none⟩=o[j]? by
  rw [show w.heap.size+1+1=W0.heap.size from bu.out.symm]
  have hk:w1.heap[W0.heap.size]? =some (.cells o 27 (0,0)):=by
   rw [h.block _ (by simp;omega),SS _ _ _ (by simp)]
   exact Sv W0 _
  exact Sw _ _ j o 27 (0,0) hk))
 have ka:∀ (o:Array Sx) (j:Nat),(W0.alloc (.cells o 27)).cell? ⟨w.heap.size+1+1,j,none⟩=o[j]?:=fun o j=>by
  rw [show w.heap.size+1+1=W0.heap.size from bu.out.symm]
  exact Sw _ _ j o 27 (0,0) (Sv W0 _)
 have HL2:=h_ (fun o o'=>((hb0.alloc (by rw [bu.out];omega) o).alloc (by rw [Su.size_alloc,bu.out];omega) o':SF (w.heap.size+2) W0 ((W0.alloc o).alloc o')))
 have HWW:=h_ (HB.out _ hb0)
 have hBW:w.heap.size+2≤W0.heap.size:=by rw [bu.out];exact SU _
 obtain⟨j0,jz,hj,hy0,hy1,hy2,hy3⟩:=GY
 have JI:=h_ hj;have J0:=h_ hy0;have J1:=h_ hy1;have J2:=h_ hy2;have J3:=h_ hy3
 clear hW0 hsz ha hb hE hfa ln h0 h1 hj hy0 hy1 hy2 hy3
 go_enter Tryz.func11,Tryz.ntmps11
 subst hds
 subst mV
 go_wp2_with fail
 rw [HW0.out]
 refine wp_loop_rounds 3 ?_
 rw [SA]
 go_wp2_with fail
 refine(DA.out _ (HB.out _ (HL2.out _ _))).mono ?_
 rintro e w1 ⟨rfl,hb1⟩
 have hc1:=HT0.out _ _ (HL2.out _ _) hb1
 have k0:=HKS.out _ _ _ hb1
 clear hb1 DA
 go_wp2_with fail
 have Qk:=h_ (fun o=>(hc1.alloc (iY.out _ hc1) o:SF (w.heap.size+2) W0 (w1.alloc o)))
 rw [SA]
 go_wp2_with fail
 refine(tu.out _ (HB.out _ (Qk.out _))).mono ?_
 rintro e w2 ⟨rfl,hb2⟩
 have hc2:=HT0.out _ _ (Qk.out _) hb2
 clear hb2 tu k0
 clear ka
 go_wp2_with fail
 rw [SA]
 go_upto_region 9 with fail
 go_cut [10,11] (fun s10 s11 wx=>∃ g h:Nat,s10=.pointer (some ⟨g,0,none⟩)∧s11=.pointer (some ⟨h,0,none⟩)∧HdAt g hd1 wx∧HdAt h hd2 wx∧SF (w.heap.size+2) W0 wx)
 case first =>
  have fD:=h_ (fun(w1:Su) (h:SF (w.heap.size+2) W0 w1)=>(Qp.out w1).mono (fun e w' (p:e=.returned (.agg hd1.enc.toArray)∧SF w1.heap.size w1 w')=>(show e=.returned (.agg hd1.enc.toArray)∧SF (w.heap.size+2) W0 w'∧SF w1.heap.size w1 w' from⟨p.1,HT0.out _ _ h p.2,p.2⟩)))
  have ji:=h_ (fun(w1:Su) (h:SF (w.heap.size+2) W0 w1)=>(HHB.out w1).mono (fun e w' (p:e=.returned (.agg hd2.enc.toArray)∧SF w1.heap.size w1 w')=>(show e=.returned (.agg hd2.enc.toArray)∧SF (w.heap.size+2) W0 w'∧SF w1.heap.size w1 w' from⟨p.1,HT0.out _ _ h p.2,p.2⟩)))
  have hc2d:SF (w.heap.size+2) W0 w2.drew:=hc2.drew
  have hw2:=iY.out _ hc2
  subst hhd
  subst Jg
  simp only [Hd.enc] at fD ji
  clear Qp HHB
  go_region_held3 (fun w'=>SF (w.heap.size+2) W0 w') (repeat (first|with_reducible assumption|with_reducible exact hc2d|with_reducible refine SF.setCell ?_ (by dsimp only;first|omega|(simp;omega)) _|with_reducible refine below_alloc1 ?_ hBW _|with_reducible refine SF.drew ?_)) (first|(go_at_call 33;(first|((with_reducible refine(fD.out _ ?_).mono ?_);assumption)|((with_reducible refine(ji.out _ ?_).mono ?_);assumption));rintro e w3 ⟨rfl,hb1,hr1⟩;have hs1:=iY.out _ hb1;(first|(have hZ:=O9 (g:=w2.heap.size) (g':=w2.heap.size+1) (w:=w2.drew) hr1 rfl rfl;have HZP:=h_ hZ;obtain⟨⟨l,c0,c1,c2,c3,c4,z0,z1,z2,z3,z4⟩,⟨l',c0',c1',c2',c3',c4',z0',z1',z2',z3',z4'⟩⟩:=hZ)|(have hZ:=hbox (g:=w2.heap.size) (w:=w2.drew) hr1 rfl;have HZK:=h_ hZ;obtain⟨l,c0,c1,c2,c3,c4,z0,z1,z2,z3,z4⟩:=hZ)|(have hZ:=O9 hr1 rfl rfl;obtain⟨⟨l,c0,c1,c2,c3,c4,z0,z1,z2,z3,z4⟩,⟨l',c0',c1',c2',c3',c4',z0',z1',z2',z3',z4'⟩⟩:=hZ)|(have hY:=HZK.out.later ((SQ _ _).alloc (SU _) (.cells zhd 41));have hZ:=hY.later hr1;have hZ2:=hbox hr1 rfl;obtain⟨l,c0,c1,c2,c3,c4,z0,z1,z2,z3,z4⟩:=hZ;obtain⟨l',c0',c1',c2',c3',c4',z0',z1',z2',z3',z4'⟩:=hZ2)|(have hZ:=HZP.out.1.later hr1;have hZ2:=HZP.out.2.later hr1;obtain⟨l,c0,c1,c2,c3,c4,z0,z1,z2,z3,z4⟩:=hZ;obtain⟨l',c0',c1',c2',c3',c4',z0',z1',z2',z3',z4'⟩:=hZ2)|(have hZ:=HZK.out.later hr1;obtain⟨l,c0,c1,c2,c3,c4,z0,z1,z2,z3,z4⟩:=hZ)|(have hZ:=hbox hr1 rfl;have HZK:=h_ hZ;obtain⟨l,c0,c1,c2,c3,c4,z0,z1,z2,z3,z4⟩:=hZ)|skip);clear hr1))
  all_goals
   go_wp2_with fail
   go_meet
   refine⟨_,_,rfl,rfl,?hx,?hy,by first|assumption|exact below_alloc1 (below_alloc1 (by assumption) hBW _) hBW _⟩
   case hx=>(repeat (first|with_reducible exact⟨l,c0,c1,c2,c3,c4,z0,z1,z2,z3,z4⟩|with_reducible exact⟨l',c0',c1',c2',c3',c4',z0',z1',z2',z3',z4'⟩|with_reducible exact HdAt.new (x:=⟨title,lang,rate,drop,last⟩) (by simp;done)|with_reducible exact HdAt.new (x:=aZ) (by simp;done)|with_reducible refine HdAt.set (x:=⟨title,lang,rate,drop,last⟩) ?_|with_reducible refine HdAt.other (y:=⟨title',lang',rate',drop',last'⟩) (by omega) ?_|with_reducible refine HdAt.alloc ?_ _))
   case hy=>(repeat (first|with_reducible exact⟨l,c0,c1,c2,c3,c4,z0,z1,z2,z3,z4⟩|with_reducible exact⟨l',c0',c1',c2',c3',c4',z0',z1',z2',z3',z4'⟩|with_reducible exact HdAt.new (x:=⟨title',lang',rate',drop',last'⟩) (by simp;done)|with_reducible exact HdAt.new (x:=aZ) (by simp;done)|with_reducible refine HdAt.set (x:=⟨title',lang',rate',drop',last'⟩) ?_|with_reducible refine HdAt.other (y:=⟨title,lang,rate,drop,last⟩) (by omega) ?_|with_reducible refine HdAt.alloc ?_ _))
 case rest =>
  obtain⟨g,h,rfl,rfl,hbx,hby,hbc⟩:=hcut
  have HX:=h_ hbx
  have HY:=h_ hby
  obtain⟨l,c0,c1,c2,c3,c4,z0,z1,z2,z3,z4⟩:=hbx
  obtain⟨l',c0',c1',c2',c3',c4',z0',z1',z2',z3',z4'⟩:=hby
  clear z0 z1 z2 z3 z4 z0' z1' z2' z3' z4'
  have r1:=fun wx=>Ix hd1 hd2 wx
  have P9:=h_ (show jn hd1 hd2=if hdEq hd1 hd2=true then [] else [⟨1,0,⟨#[]⟩,false,false,hd1,hd2,aD,aD,bC,bC,aM,aM⟩] from rfl)
  have hpl:=vx hd1 hd2
  subst hhd
  subst Jg
  simp only [Hd.enc] at r1 c0 c1 c2 c3 c4 c0' c1' c2' c3' c4'
  generalize hdEq _ _=HE at *
  generalize jn _ _=P0 at *
  go_upto_if 56 with fail
  go_cut [9] (fun s9 wx=>DRel P0 (w.heap.size+2) W0 s9 wx)
  case first =>
   cases HE with
   | true =>
     go_wp2_with fail
     go_meet
     rw [P9.out]
     exact⟨[],iO.start hbc,rfl⟩
   | false =>
     obtain⟨zs,hzl,hO,hP⟩:=DRel.owns (show DRel [] (w.heap.size+2) W0 (.slice none 0 0) wc from⟨[],iO.start hbc,rfl⟩)
     have HP:=h_ hP
     have hs:=iY.out _ hbc
     replace hzl:zs.length≤5:=by rw [hzl];simp
     generalize zs.flatMap Chg.enc=zf at *
     generalize zs.length=zn at *
     clear hP
     go_wp2_with (at_builtin;refine aI _ _ rfl (.tmp 57) (.tmp 61) 29 rfl (w.heap.size+2) 54 j0 _ 59 568 SE JI.out J0.out J1.out J2.out J3.out (by decide) _ _ _ rfl hO _ rfl rfl ?hsz ?h1 ?h63 ?hb ?hbase ?_)
     case hsz=>rfl
     case h1=>first|exact fun u hu=>Chg.one (⟨1,0,⟨#[]⟩,false,false,⟨title,lang,rate,drop,last⟩,⟨title',lang',rate',drop',last'⟩,aD,aD,aJ,aJ,aM,aM⟩:Chg) u hu|((repeat' apply And.intro)<;>rfl)
     case h63=>unfold maxLen;omega
     case hb=>omega
     case hbase=>omega
     intro v' w2' hown hgrow hat
     have R:=h_ (HP.out (⟨1,0,⟨#[]⟩,false,false,⟨title,lang,rate,drop,last⟩,⟨title',lang',rate',drop',last'⟩,aD,aD,aJ,aJ,aM,aM⟩:Chg) _ v' w2' rfl hown hgrow hat (nC _ rfl rfl _).1 (fun b hu=>((nC _ rfl rfl wc).2 b hu).elim) hBW)
     clear hown hgrow hat
     go_wp2_with fail
     go_meet
     rw [P9.out]
     exact R.out
  case rest =>
  clear HX HY l l' c0 c1 c2 c3 c4 c0' c1' c2' c3' c4' hbc
  have hbc:=hcut.below
  obtain⟨av,an,ac,rfl⟩:=hcut.slice
  have HD:=h_ hcut
  clear hcut
  go_wp2_with fail
  refine(HKR.out _ (HB.out _ hbc)).mono ?_
  rintro e w3 ⟨kv,rfl,ho,hb3⟩
  obtain⟨ka,kc,rfl,KF⟩:=mu.of (v:=.slice av an ac) ho HD.out.lt
  have Hl:=h_ (show LRel (P0) (fun l=>bH rG regs' ⟨l.toArray⟩) encStr ls ka (w.heap.size+2) W0 0 (.slice av an ac) w3 from⟨by simpa using HD.out.later hBW hb3,KF⟩)
  clear ho hb3 KF HD hbc
  go_upto_block 2 with fail
  go_cut [9] (fun s9 wx=>DRel (P0++ls.flatMap (fun l=>bH rG regs' ⟨l.toArray⟩)) (w.heap.size+2) W0 s9 wx)
  case first =>
   go_wp2_with fail
   go_loopw [9,69] (fun s9 i wr=>∃ k:Nat,k≤ls.length∧i=.int .i64 k∧LRel (P0) (fun l=>bH rG regs' ⟨l.toArray⟩) encStr ls ka (w.heap.size+2) W0 k s9 wr) (fun _ i _=>ls.length-(intOf i).toNat)
   case atStart=>exact⟨0,by omega,rfl,Hl.out⟩
   case round =>
    clear Hl
    obtain⟨k,hk,rfl,hR⟩:=hrel
    have hbr:=hR.1.below
    obtain⟨av,an,ac,rfl⟩:=hR.1.slice
    by_cases hlt:k<ls.length
    · obtain⟨kb,ko,l,rfl,hkl,hlk,hkc,_⟩:=hR.2.1.at_ hlt
      have q0:=hkc 0 _ rfl
      obtain⟨kn,hkn⟩:∃ kn:ByteArray,kn=⟨l.toArray⟩:=⟨_,rfl⟩
      have rO:=h_ (fun(w1:Su) (hb:SF wr.heap.size wr w1)=>LRel.push hR hlk hBW hb (fun x=>ti _ _ _))
      have Dt:=h_ (fun(w1:Su) (hb:SF wr.heap.size wr w1) (hf:bH rG regs' kn=[])=>LRel.skip hR hlk hBW hb (hkn▸hf))
      obtain⟨x,i1,t1,hv1,hx1,ht1⟩:=vu (first (fun x:Reg=>x.name.toList==kn.toList) rG)
      obtain⟨y,i2,t2,hv2,hx2,ht2⟩:=vu (first (fun x:Reg=>x.name.toList==kn.toList) regs')
      have rH:=h_ (show bH rG regs' kn=if (t1 != t2||!mD x y)=true then [⟨2,0,kn,!t1,!t2,aZ,aZ,x,y,bC,bC,aM,aM⟩] else [] by rw [GX,hx1,hx2,ht1,ht2])
      have fD:=h_ (fun(w1:Su) (h:SF (w.heap.size+2) W0 w1)=>(show SB SD 36 #[.slice ra rG.length rc,.func (.func 35) #[] #[],.string kn] w1 (fun e w'=>e=.returned (.tuple #[.agg x.enc.toArray,.int .i64 i1,.bool t1])∧SF w1.heap.size w1 w') from(Qw.out kn w1 (HB.out _ h)).mono (fun e w' p=>⟨by rw [←hv1];exact p.1,p.2⟩)))
      have ji:=h_ (fun(w1:Su) (h:SF (w.heap.size+2) W0 w1)=>(show SB SD 36 #[.slice ra' regs'.length rc',.func (.func 35) #[] #[],.string kn] w1 (fun e w'=>e=.returned (.tuple #[.agg y.enc.toArray,.int .i64 i2,.bool t2])∧SF w1.heap.size w1 w') from(Dz.out kn w1 (HB.out _ h)).mono (fun e w' p=>⟨by rw [←hv2];exact p.1,p.2⟩)))
      have hpre:P0.length≤1:=hpl
      simp only [encStr,←hkn,SW,SX] at q0 rO
      have qi:=h_ hR.1.lt
      have kI:=h_ hbr
      have hbs:=iY.out _ hbr
      clear hR hkc hlk hkn hv1 hv2 hx1 hx2 ht1 ht2
      have r1:=fun wx=>ym x y wx
      generalize Pn:mD x y=EQ at rH r1
      clear Pn
      obtain⟨xnm,xtop,xheight,xleft,xwidth,xalign,xbottom⟩:=x
      obtain⟨ynm,ytop,yheight,yleft,ywidth,yalign,ybottom⟩:=y
      simp only [Reg.enc] at r1 fD ji
      go_upto_block 3 with fail
      go_cut [9] (fun s9 wx=>LRel (P0) (fun l=>bH rG regs' ⟨l.toArray⟩) encStr ls (some ⟨kb,ko,none⟩) (w.heap.size+2) W0 (k+1) s9 wx)
      case first =>
       go_wp2_with fail
       refine(fD.out _ hbr).mono ?_
       rintro e w3 ⟨rfl,hb3⟩
       have hc3:=HT0.out _ _ hbr hb3
       have Gr:∀ o,SF (w.heap.size+2) W0 (w3.alloc o):=fun o=>hc3.alloc (iY.out _ hc3) o
       have H3:=h_ hb3
       clear hb3 fD q0
       go_wp2_with fail
       refine(ji.out _ (Gr _)).mono ?_
       rintro e w4 ⟨rfl,hb4⟩
       have hc4:=HT0.out _ _ (Gr _) hb4
       have hs4:w3.heap.size+1≤w4.heap.size:=by have:=hb4.size;simpa using this
       have hk4:w4.heap[w3.heap.size]? =some (.cells #[.string xnm,.int .i64 xtop,.int .i64 xheight,.int .i64 xleft,.int .i64 xwidth,.int .u8 xalign,.bool xbottom] 44 (0,0)):=(hb4.block _ (by simp)).trans (Sv w3 _)
       have mf:=h_ (fun(o:Obj)=>(show SF wr.heap.size wr (w4.alloc o) from((H3.out.alloc H3.out.size _).trans (hb4.mono (by have:=H3.out.size;simp;omega))).alloc (by have:=H3.out.size;omega) o))
       obtain⟨wq,hwq⟩:∃ wq,wq=w4.alloc (.cells #[.string ynm,.int .i64 ytop,.int .i64 yheight,.int .i64 yleft,.int .i64 ywidth,.int .u8 yalign,.bool ybottom] 44):=⟨_,rfl⟩
       have cq3:∀ (j:Nat),wq.cell? ⟨w3.heap.size,j,none⟩=_:=fun j=>Sw _ _ j _ 44 (0,0) (show wq.heap[w3.heap.size]? =_ from hwq▸nL hk4)
       have cq4:∀ (j:Nat),wq.cell? ⟨w4.heap.size,j,none⟩=_:=fun j=>Sw _ _ j _ 44 (0,0) (show wq.heap[w4.heap.size]? =_ from hwq▸Sv w4 _)
       have Nv:=h_ (show SF wr.heap.size wr wq from hwq▸mf.out _)
       have Ag:=h_ (show w.heap.size+2≤wq.heap.size from by have:=Nv.out.size;omega)
       have PN:=h_ hwq
       clear hb4 ji hk4 H3 hc3 Gr mf hwq
       go_upto_region 17 with fail
       rw [←PN.out]
       go_cut [96] (fun sb wx=>sb=.bool (t1 != t2||!EQ)∧wx=wq)
       case first =>
        rcases Classical.em (t1=t2) with hne|hne
        · subst hne
          go_wp2_with fail
          go_meet
          exact⟨by simp,rfl⟩
        · go_wp2_with fail
          go_meet
          exact⟨by simp [hne],rfl⟩
       case rest =>
        obtain⟨rfl,rfl⟩:=hcut
        clear PN r1
        generalize (t1 != t2||!EQ)=TB at *
        cases TB with
        | false =>
          have HS:=h_ (Dt.out _ Nv.out (by rw [rH.out];rfl))
          clear Dt rH rO
          skip
          go_wp2_with fail
          go_meet
          exact HS.out
        | true =>
          have rP:=h_ (show bH rG regs' kn=[⟨2,0,kn,!t1,!t2,aZ,aZ,⟨xnm,xtop,xheight,xleft,xwidth,xalign,xbottom⟩,⟨ynm,ytop,yheight,yleft,ywidth,yalign,ybottom⟩,bC,bC,aM,aM⟩] by rw [rH.out];rfl)
          obtain⟨zn,zf,hzn,hO,hP⟩:=rO.out _ Nv.out
          have HP:=h_ hP
          clear hP rO rH Dt
          go_wp2_with (at_builtin;refine aI _ _ rfl (.tmp 97) (.tmp 106) 29 rfl (w.heap.size+2) 54 j0 _ 59 568 SE JI.out J0.out J1.out J2.out J3.out (by decide) _ _ _ rfl hO _ rfl rfl ?Mf ?Ps ?MO ?Pc ?Gh ?_)
          try (case Mf=>rfl)
          case Ps=>first|exact fun u hu=>Chg.one (⟨2,0,kn,!t1,!t2,aZ,aZ,⟨xnm,xtop,xheight,xleft,xwidth,xalign,xbottom⟩,⟨ynm,ytop,yheight,yleft,ywidth,yalign,ybottom⟩,aJ,aJ,aM,aM⟩:Chg) u hu|((repeat' apply And.intro)<;>rfl)
          case MO=>unfold maxLen;omega
          case Pc=>omega
          try (case Gh=>exact Ag.out)
          intro v' w2' hown hgrow hat
          have R:=h_ (HP.out (⟨2,0,kn,!t1,!t2,aZ,aZ,⟨xnm,xtop,xheight,xleft,xwidth,xalign,xbottom⟩,⟨ynm,ytop,yheight,yleft,ywidth,yalign,ybottom⟩,aJ,aJ,aM,aM⟩:Chg) _ v' w2' rP.out rfl hown hgrow hat (nC _ rfl rfl _).1 (fun b hu=>((nC _ rfl rfl wr).2 b hu).elim))
          clear hown hgrow hat HP hO rP
          go_wp2_with fail
          go_meet
          exact R.out
      case rest =>
       clear rO Dt rH fD ji q0 r1
       obtain⟨av',an',ac',rfl⟩:=hcut.1.slice
       have HC:=h_ hcut
       clear hcut
       go_wp2_with fail
       go_roundw
       case rel=>exact⟨k+1,by omega,by go_num,HC.out⟩
       all_goals first|(simp [intOf];done)|(simp [intOf];omega)
    · obtain rfl:k=ls.length:=by omega
      have HN:=h_ (show DRel (P0++ls.flatMap (fun l=>bH rG regs' ⟨l.toArray⟩)) (w.heap.size+2) W0 (.slice av an ac) wr from by
       have:=hR.1
       rwa [SK] at this)
      clear hR
      go_wp2_with fail
      go_meet
      exact HN.out
  case rest =>
  clear Hl
  have hbc:=hcut.below
  obtain⟨av,an,ac,rfl⟩:=hcut.slice
  have HRR:=tr.out wc av an ac (by rw [HW0.out];exact hcut)
  rename_i K0 hK0
  refine hK0 _ _ ?_
  exact HRR _ _ _ _ _ _ _ _ _ _ _ _ _ _ _ _ _ _ _ _ _ _ _ _ _ _ _ _ _ _ _ _ _ _ _ _ _ _ _ _ _ _ _ _ _ _ _ _ _ _ _ _ _ _ _ _ _ _ _ _ _ _ _ _ _ _ _ _ _ _ _ _ _ _ _ _ _ _ _ _ _ _ _ _ _ _ _ _ _ _ _ _ _ _ _ _ _ _ _ _ _ _ _ _ _ _ _ _ _ _ _ _ _ _ _ _ _ _ _ _ _ _ _ _ _ _ _ _ _ _ _ _ _ _ _ _ _ _ _ _ _ _ _ _ _ _ _ _ _ _ _ _ _ _ _ _ _ _ _ _ _ _ _ _ _ _ _ _ _ _ _ _ _ _ _ _ _ _ _ _ _ _ _ _ _ _ _ _ _ _ _ _ _ _ _ _ _ _ _ _ _ _
end Go.Proofs.YtnlnmbcaongehaaGreatDoor
namespace Go.Proofs.YtnlnmbcaongehaaGreatDoor
open Go.RowKit
def GL (a b:Doc):Int:=if aL a≠0 then aL a else aL b
def Db (a b:Doc):List ChgC:=if aL a≠0 then [] else if aL b≠0 then [] else chgs a b
def xL (a b:Doc)(w:Su)(e:Ending)(w':Su):Prop:=∃ (A:Option Addr) (xs:List Chg) (c:Nat),e=.returned (.tuple #[.slice A xs.length c,.int .i64 (GL a b)])∧NG w' A xs∧xs.map Chg.c=Db a b∧SF w.heap.size w w'
theorem xL.of {a b:Doc} {w:Su} (e:Ending)(w':Su)(h:fT a b w e w'):xL a b w e w':=by
 unfold fT at h
 unfold xL GL Db
 by_cases h0:aL a≠0
 · rw [if_pos h0] at h
   rw [if_pos h0,if_pos h0]
   exact⟨none,[],0,h.1,.inl rfl,rfl,h.2⟩
 · rw [if_neg h0] at h
   rw [if_neg h0,if_neg h0]
   by_cases h1:aL b≠0
   · rw [if_pos h1] at h
     rw [if_pos h1]
     exact⟨none,[],0,h.1,.inl rfl,rfl,h.2⟩
   · rw [if_neg h1] at h
     rw [if_neg h1]
     obtain⟨v,xs,rfl,hG,hc⟩:=h
     obtain⟨A,c,rfl,hS⟩:=iO.slice (k:=59) (enc:=Chg.enc) Chg.len hG
     have h2:aL b=0:=by simpa using h1
     exact⟨A,xs,c,by rw [h2],hS,hc,hG.2.2⟩
end Go.Proofs.YtnlnmbcaongehaaGreatDoor
namespace Go.Proofs.YtnlnmbcaongehaaGreatDoor
open Go.RowKit
def sA:ByteArray:=⟨#[65]⟩
variable (pa ea ra ua ca qa fa sa ta da:Option Addr)(pc ec rc uc cc qc fc sc tc dc:Nat)
end Go.Proofs.YtnlnmbcaongehaaGreatDoor
namespace Go.Proofs.YtnlnmbcaongehaaGreatDoor
open Go.RowKit
theorem JE {w:Su} {b:Nat} {o o':Obj} (h:w.heap[b]? =some o):(w.alloc o').heap[b]? =some o:=by
 rw [SS _ _ _ (SY.1 h).1]
 exact h
structure Fld where
 name:ByteArray
 differs:Bool
def Fld.enc (f:Fld):List Sx:=[.string f.name,.bool f.differs]
def oD (fs:List Fld):List ByteArray:=(fs.filter (·.differs)).map Fld.name
end Go.Proofs.YtnlnmbcaongehaaGreatDoor
namespace Go.Proofs.YtnlnmbcaongehaaGreatDoor
open Go.RowKit
attribute [local go_sem ↓] Sy Sz
def vJ (B:Nat)(xs:List Ev)(g cap k:Nat)(w4 wr:Su):Prop :=
 ∃ zs:List Ev,zs.length=xs.length∧zs.map Ev.c=xs.map Ev.c∧wr.ownsRow B 50 7 (.slice (some ⟨g,0,none⟩) xs.length cap) xs.length (zs.flatMap Ev.enc)∧(∀ j z,zs[j]? =some z→z.lies wr∧(∀ b,z.uses b→b≠g∧(j<k→B≤b)))∧w4.heap.size≤wr.heap.size∧(∀ b,b<w4.heap.size→b≠g→wr.heap[b]? =w4.heap[b]?)
theorem sT:∀ (zs:List Ev)(k:Nat)(z y:Ev),zs[k]? =some z→y.c=z.c→(zs.set k y).map Ev.c=zs.map Ev.c
 | [],k,z,y,h,_=>by simp at h
 | x::l,0,z,y,h,hy=>by
   obtain rfl:x=z:=by simpa using h
   simp [hy]
 | x::l,k+1,z,y,h,hy=>by
   have:=sT l k z y (by simpa using h) hy
   simp [this]
theorem vJ.step {B:Nat} {xs zs:List Ev} {g cap k:Nat} {w4 wr w1 w2:Su} {z y:Ev} (hk:zs[k]? =some z)(h1:zs.length=xs.length)(h2:zs.map Ev.c=xs.map Ev.c)(h3:wr.ownsRow B 50 7 (.slice (some ⟨g,0,none⟩) xs.length cap) xs.length (zs.flatMap Ev.enc))
 (h4:∀ j z,zs[j]? =some z→z.lies wr∧(∀ b,z.uses b→b≠g∧(j<k→B≤b))) (h5:w4.heap.size≤wr.heap.size) (h6:∀ b,b<w4.heap.size→b≠g→wr.heap[b]? =w4.heap[b]?) (hB:B≤w4.heap.size)
 (hb:SF wr.heap.size wr w1) (y_:y.c=z.c) (hyl:y.lies w1) (hyu:∀ b,y.uses b→wr.heap.size≤b)
 (hw:w2=((((((w1.setCell ⟨g,k*7,none⟩ (.int .i64 y.id)).setCell ⟨g,k*7+1,none⟩ (.int .i64 y.inn)).setCell ⟨g,k*7+2,none⟩ (.int .i64 y.out)).setCell ⟨g,k*7+3,none⟩ (.string y.region)).setCell ⟨g,k*7+4,none⟩ (.int .u8 y.kind)).setCell ⟨g,k*7+5,none⟩ (.string y.speaker)).setCell ⟨g,k*7+6,none⟩ (.slice y.at_ y.rows.length y.cap)) :
 vJ B xs g cap (k+1) w4 w2:=by
 have hkl:k<zs.length:=(List.getElem?_eq_some_iff.1 hk).1
 have hg:=h3.lt g rfl
 obtain⟨s1,s2,s3⟩:=GB (aH h3 hb) h1 (by omega) y w2 hw
 have hs:=hb.size
 refine⟨zs.set k y,by simpa using h1,(sT zs k z y hk y_).trans h2,s1,fun j x hx=>?_,by omega,fun b hb1 hb2=>?_⟩
 · rw [List.getElem?_set] at hx
   by_cases hjk:k=j
   · rw [if_pos hjk,if_pos hkl] at hx
     obtain rfl:=Option.some.inj hx
     refine⟨Ev.frame hyl (by omega) fun b hu=>s3 b ?_,fun b hu=>⟨?_,fun _=>?_⟩⟩
     · have:=hyu b hu
       omega
     · have:=hyu b hu
       omega
     · have:=hyu b hu
       omega
   · rw [if_neg hjk] at hx
     obtain⟨q1,q2⟩:=h4 j x hx
     exact⟨Ev.frame (Ev.keeps _ _ _ hb q1) (by omega) fun b hu=>s3 b (q2 b hu).1,fun b hu=>⟨(q2 b hu).1,fun hj=>(q2 b hu).2 (by omega)⟩⟩
 · rw [s3 b hb2,hb.block b (by omega),h6 b hb1 hb2]
theorem uZ {α:Type} {K:Nat} {enc:α→List Sx} {w3:Su} {g i5 i7:Nat} {v5 v7:Sx} {a:Option Addr} {xs:List α} (h:af K enc Flat w3 a xs)(hf:∀ ad,a=some ad→g<ad.block):af K enc Flat ((w3.setCell ⟨g,i5,none⟩ v5).setCell ⟨g,i7,none⟩ v7) a xs :=
 af.frame h (by simp) (fun b hu=>by
  obtain⟨_,ad,e,rfl⟩:=hu
  have:=hf ad e
  rw [SR _ _ _ _ (by simp only;omega),SR _ _ _ _ (by simp only;omega)]) (fun _ _ _=>trivial)
end Go.Proofs.YtnlnmbcaongehaaGreatDoor
namespace Go.Proofs.YtnlnmbcaongehaaGreatDoor
open Go.RowKit
def kK:Array Sx:=#[.string ⟨#[]⟩,.string ⟨#[]⟩,.int .u8 0,.bool false,.int .i64 0,.slice none 0 0,.slice none 0 0,.slice none 0 0]
theorem Doc.one:∀ (x:Doc)(v:Sx),v∈x.enc→v.oneCell'=true:=by
 intro x v hv
 simp only [Doc.enc,List.mem_cons,List.not_mem_nil,or_false] at hv
 rcases hv with rfl|rfl|rfl|rfl|rfl|rfl|rfl|rfl<;>rfl
def JG (St:Int→Doc→Prop)(d:Doc)(g:Nat)(w:Su)(e:Ending)(w':Su):Prop :=
 ∃ (err:Int) (d':Doc),e=.returned (.int .i64 err)∧uU d' g w'∧(∀ b,d'.uses b→d.uses b∨w.heap.size≤b)∧w.grownBy w' (some g)∧St err d'
def rN (St:Nat→Doc→Prop)(w:Su)(k:Nat)(wr:Su):Prop :=
 ∃ d':Doc,uU d' w.heap.size wr∧St k d'∧(∀ b,d'.uses b→w.heap.size+2≤b)∧wr.heap[w.heap.size+1]? =some (.cells kK 27 (0,0))∧SF w.heap.size w wr
theorem rN.start {St:Nat→Doc→Prop} {w w2:Su} {d2:Doc} {cs:Array Sx} (hk:w2.heap[w.heap.size]? =some (.cells cs 27 (0,0)))(hz:w2.heap[w.heap.size+1]? =some (.cells kK 27 (0,0)))(hl:d2.lies w2)(hu:∀ b,d2.uses b→w.heap.size+2≤b)(hb:SF w.heap.size w w2)(h0:St 0 d2) :
 rN St w 0 (w2.setRow w.heap.size d2.enc.toArray) :=
 ⟨d2,⟨setRow_heap w2 _ cs _ 27 (0,0) hk,Doc.frame hl (by simp) (fun b h=>setRow_other w2 _ b _ (by have:=hu b h;omega)),fun b h=>by have:=hu b h;omega⟩,h0,hu,by rw [setRow_other _ _ _ _ (by omega)];exact hz,below_setRow hb (SU _) _⟩
theorem rN.step {St:Nat→Doc→Prop} {w wr w1 w2:Su} {d' d2:Doc} {k:Nat} (h3:∀ b,d'.uses b→w.heap.size+2≤b)(h4:wr.heap[w.heap.size+1]? =some (.cells kK 27 (0,0)))(h5:SF w.heap.size w wr)(hb:SF wr.heap.size wr w1)
 (q1:uU d2 w.heap.size w2) (q2:∀ b,d2.uses b→d'.uses b∨w1.heap.size≤b) (q3:w1.grownBy w2 (some w.heap.size)) (q4:St k d2):rN St w k w2:=by
 have hlt:w.heap.size+1<wr.heap.size:=(SY.1 h4).1
 have hs:=hb.size
 refine⟨d2,q1,q4,fun b h=>?_,?_,?_⟩
 · rcases q2 b h with h|h
   · exact h3 b h
   · omega
 · rw [q3.block _ (by omega) (by simp),hb.block _ hlt]
   exact h4
 · exact(h5.trans (hb.mono h5.size)).grown q3 (by have:=h5.size;omega) (fun j hj=>Nat.le_of_eq (Option.some.inj hj))
end Go.Proofs.YtnlnmbcaongehaaGreatDoor
