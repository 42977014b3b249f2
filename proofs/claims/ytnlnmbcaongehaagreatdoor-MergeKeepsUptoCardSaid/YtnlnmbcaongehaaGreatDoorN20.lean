/- merge.comments: an arm of a round's switch. merge.comments: an arm of a round's switch. merge.comments: an arm of a round's switch. merge.comments: an arm of a round's switch. merge.comments: the switch of a round. -/
import Derived.Test.YtnlnmbcaongehaaGreatDoorN19
set_option linter.unusedVariables false
set_option linter.unusedSimpArgs false
set_option maxRecDepth 100000
set_option maxHeartbeats 12800000
open Go.Lib renaming hid→h_
open Go renaming cell_of_row→Su,World→Sv,wpList_store_row→Sw,wp_cond_false→Sx,Value→Sy
open Go.Proofs.Tryz renaming prog→Sz,f81→SA
open Go.Value renaming int→SB
open Go.World renaming cell?_alloc_lt→SC,frozen?→SD
open Go.Instr renaming lookup→SE
open Go.Act renaming put→SF
open List renaming setIfInBounds_toArray→SG,getElem_cons_zero→SH,getElem_cons_succ→SI,getElem_toArray→SJ,set_cons_zero→SK,set_cons_succ→SL
open Array renaming toArray_toList→SM,getElem?_eq_some_iff→SN
open Go.RowKit renaming Below→SO
namespace Go.Proofs.YtnlnmbcaongehaaGreatDoor
open Go.RowKit
theorem Jx (m1:Mg)(B g G S:Nat)(id:Int)(x y z:Cm)(wr w0:Sv)(km:G<S)(hS:wr.heap.size≤S)(hB:B≤S)(hl:m1.cls.length≤60000)(hst:CSt m1 B g G S id x.enc.toArray y.enc.toArray z.enc.toArray x.enc.toArray m1.cls wr w0)(Q:Exit→Act→Sv→Prop) {s0 s1 s2 s3 s5 s6 s7 s8 s9 s10 s11 s12 s15 fh jj ir iq s24 gP gO gN gM gL gK gJ fV gI gH gG gF gE gD gA gx gw gv s43 s44 gu gq gp gl s49 gj gh gf s53 gd iu f_ gT gS im ik ij ig ie jD j2 iw j1 s68 kF fB jZ s72 jY jX jW jV jU jT jS jR jQ s82 s83 jP jO jN s87 jM jL jC jB jA jy jx jw jv ju jt js bF bY bX bW bV bU cq ck dW dV dU dT eK eJ eI eH eG eF eE eD eC eB eA ew eu et ep eo en ek ej ei eh bT bS bR ef bQ ee bP cj cg dS dR dQ dP dN dM dL dK dJ dI dH dF dE dD dC dB dA dz dy dx dw dv du dq dp dm dj di dh dg df de cZ cY cX cW cV cU cT cS cR cQ cP cO cd b_ b9 b8 cN cL cK cH cG cF cE cD cB cA cw cu bO bN bM ed oa n_ nW nV nU nT nS nR nQ nP nO mK:Sy}
 (hfin:∀ (K9 K8 K7 K6 K5 K4:Sy) (wx:Sv),CSt m1 B g G S id x.enc.toArray y.enc.toArray z.enc.toArray ({ y with frm:=0,til:=0,lost:=true }:Cm).enc.toArray (m1.cls++jK id [bK]) wr wx→Q .normal { tmps:=#[s0,s1,s2,s3,.pointer (some ⟨G,0,none⟩),s5,s6,s7,s8,s9,s10,s11,s12,.pointer (some ⟨S,0,none⟩),.pointer (some ⟨S+1,0,none⟩),s15,.pointer (some ⟨S+1+1,0,none⟩),fh,.pointer (some ⟨S+1+1+1,0,none⟩),jj,.func (.func 141) #[] #[.pointer (some ⟨G,0,none⟩),.pointer (some ⟨S,0,none⟩)],.pointer (some ⟨S+1+1+1+1,0,none⟩),ir,iq,s24,gP,gO,gN,gM,gL,gK,gJ,fV,gI,gH,gG,gF,gE,gD,gA,gx,gw,gv,s43,s44,gu,gq,gp,gl,s49,gj,gh,gf,s53,gd,iu,f_,gT,gS,im,ik,ij,ig,ie,jD,j2,iw,j1,s68,kF,fB,jZ,s72,jY,jX,jW,jV,jU,jT,jS,jR,jQ,s82,s83,K9,K8,K7,K6,K5,K4,jC,jB,jA,jy,jx,jw,jv,ju,jt,js,bF,bY,bX,bW,bV,bU,cq,ck,dW,dV,dU,dT,eK,eJ,eI,eH,eG,eF,eE,eD,eC,eB,eA,ew,eu,et,ep,eo,en,ek,ej,ei,eh,bT,bS,bR,ef,bQ,ee,bP,cj,cg,dS,dR,dQ,dP,dN,dM,dL,dK,dJ,dI,dH,dF,dE,dD,dC,dB,dA,dz,dy,dx,dw,dv,du,dq,dp,dm,dj,di,dh,dg,df,de,cZ,cY,cX,cW,cV,cU,cT,cS,cR,cQ,cP,cO,cd,b_,b9,b8,cN,cL,cK,cH,cG,cF,cE,cD,cB,cA,cw,cu,bO,bN,bM,ed,oa,n_,nW,nV,nU,nT,nS,nR,nQ,nP,nO,mK],defers:=[] } wx) :
 Code.wp Sz ((lD 12 (SA.body.getD .skip)).getD .skip) Q { tmps:=#[s0,s1,s2,s3,.pointer (some ⟨G,0,none⟩),s5,s6,s7,s8,s9,s10,s11,s12,.pointer (some ⟨S,0,none⟩),.pointer (some ⟨S+1,0,none⟩),s15,.pointer (some ⟨S+1+1,0,none⟩),fh,.pointer (some ⟨S+1+1+1,0,none⟩),jj,.func (.func 141) #[] #[.pointer (some ⟨G,0,none⟩),.pointer (some ⟨S,0,none⟩)],.pointer (some ⟨S+1+1+1+1,0,none⟩),ir,iq,s24,gP,gO,gN,gM,gL,gK,gJ,fV,gI,gH,gG,gF,gE,gD,gA,gx,gw,gv,s43,s44,gu,gq,gp,gl,s49,gj,gh,gf,s53,gd,iu,f_,gT,gS,im,ik,ij,ig,ie,jD,j2,iw,j1,s68,kF,fB,jZ,s72,jY,jX,jW,jV,jU,jT,jS,jR,jQ,s82,s83,jP,jO,jN,s87,jM,jL,jC,jB,jA,jy,jx,jw,jv,ju,jt,js,bF,bY,bX,bW,bV,bU,cq,ck,dW,dV,dU,dT,eK,eJ,eI,eH,eG,eF,eE,eD,eC,eB,eA,ew,eu,et,ep,eo,en,ek,ej,ei,eh,bT,bS,bR,ef,bQ,ee,bP,cj,cg,dS,dR,dQ,dP,dN,dM,dL,dK,dJ,dI,dH,dF,dE,dD,dC,dB,dA,dz,dy,dx,dw,dv,du,dq,dp,dm,dj,di,dh,dg,df,de,cZ,cY,cX,cW,cV,cU,cT,cS,cR,cQ,cP,cO,cd,b_,b9,b8,cN,cL,cK,cH,cG,cF,cE,cD,cB,cA,cw,cu,bO,bN,bM,ed,oa,n_,nW,nV,nU,nT,nS,nR,nQ,nP,nO,mK],defers:=[] } w0:=by
 have aA:=h_ hfin
 have HST:=h_ hst
 obtain⟨xid,xev,xfrm,xtil,xau,xtx,xdn,xlo⟩:=x
 obtain⟨yid,yev,yfrm,ytil,yau,ytx,ydn,ylo⟩:=y
 obtain⟨zid,zev,zfrm,ztil,zau,ztx,zdn,zlo⟩:=z
 simp only [Cm.enc] at *
 clear hfin hst
 have HT:=h_ (show CSt m1 B g G S id (#[SB .i64 xid,.int .i64 xev,.int .i64 xfrm,.int .i64 xtil,.string xau,.string xtx,.bool xdn,.bool xlo]) (#[SB .i64 yid,.int .i64 yev,.int .i64 yfrm,.int .i64 ytil,.string yau,.string ytx,.bool ydn,.bool ylo]) (#[SB .i64 zid,.int .i64 zev,.int .i64 zfrm,.int .i64 ztil,.string zau,.string ztx,.bool zdn,.bool zlo]) (#[SB .i64 yid,.int .i64 yev,.int .i64 0,.int .i64 0,.string yau,.string ytx,.bool ydn,.bool true]) m1.cls wr ((((w0.setRow (S+1+1+1+1) (#[SB .i64 yid,.int .i64 yev,.int .i64 yfrm,.int .i64 ytil,.string yau,.string ytx,.bool ydn,.bool ylo])).setCell ⟨S+1+1+1+1,2,none⟩ (.int .i64 0)).setCell ⟨S+1+1+1+1,3,none⟩ (.int .i64 0)).setCell ⟨S+1+1+1+1,7,none⟩ (.bool true)) from((((HST.out.row km hS (#[SB .i64 yid,.int .i64 yev,.int .i64 yfrm,.int .i64 ytil,.string yau,.string ytx,.bool ydn,.bool ylo])).set km hS 2 (.int .i64 0)).set km hS 3 (.int .i64 0)).set km hS 7 (.bool true)))
 have HN:=h_ (HT.out.note km (Nat.le_trans hB HT.out.size) (by omega) true bK)
 simp only [bK] at HN
 clear HT
 have fy:∀ j,w0.cell? ⟨S+1+1,j,none⟩=_:=fun j=>Su _ _ j _ 52 (0,0) HST.out.y
 have hb0:=HST.out.o
 clear HST
 have HB0:=h_ hb0
 have fo1:∀ j,(w0.setRow (S+1+1+1+1) (#[SB .i64 yid,.int .i64 yev,.int .i64 yfrm,.int .i64 ytil,.string yau,.string ytx,.bool ydn,.bool ylo])).cell? ⟨S+1+1+1+1,j,none⟩=_:=fun j=>Su _ _ j _ 52 (0,0) (setRow_heap _ _ _ _ _ _ hb0)
 have zo1:∀ j,(w0.setRow (S+1+1+1+1) (#[SB .i64 yid,.int .i64 yev,.int .i64 yfrm,.int .i64 ytil,.string yau,.string ytx,.bool ydn,.bool ylo])).frozen? ⟨S+1+1+1+1,j,none⟩=false:=fun j=>by simp [SD,setRow_heap _ _ _ _ _ _ hb0]
 clear hb0
 conv=>arg 2;whnf
 go_upto_region 13 with(refine Sw rfl 52 (.tmp 21) (.tmp 84) rfl (S+1+1+1+1) (#[SB .i64 yid,.int .i64 yev,.int .i64 yfrm,.int .i64 ytil,.string yau,.string ytx,.bool ydn,.bool ylo]) rfl rfl 52 _ HB0.out pK rfl (one8 _ _ _ _ _ _ _ _) ?_)
 generalize w0.setRow (S+1+1+1+1) (#[SB .i64 yid,.int .i64 yev,.int .i64 yfrm,.int .i64 ytil,.string yau,.string ytx,.bool ydn,.bool ylo])=w1 at *
 go_wp2_with fail
 refine HN.out.mono ?_
 rintro e w2 ⟨rfl,hs_⟩
 have HA:=h_ hs_
 clear hs_ HN fy fo1 zo1
 go_wp2_with fail
 exact aA.out _ _ _ _ _ _ _ HA.out
theorem GS (m1:Mg)(B g G S b5 b6 b7 b5e b6e b7e c5 c6 c7:Nat)(id:Int)(x y z pn nn rn:Cm)(E:Bool)(wr w0:Sv)(km:G<S)(hS:wr.heap.size≤S)(hB:B≤S)(hl:m1.cls.length≤60000)(hst:CSt m1 B g G S id x.enc.toArray y.enc.toArray z.enc.toArray x.enc.toArray m1.cls wr w0)
 (hb5:w0.heap[b5]? =some (.cells #[.map (some b5e),.map (some c5)] 148 (0,0))) (lb5:(SE 146 (.map (some c5)) (.int .i64 id) false).run Sz w0=.ok (.agg pn.enc.toArray) w0) (hb6:w0.heap[b6]? =some (.cells #[.map (some b6e),.map (some c6)] 148 (0,0))) (lb6:(SE 146 (.map (some c6)) (.int .i64 id) false).run Sz w0=.ok (.agg nn.enc.toArray) w0) (hcmp:(binOp .neq 52 (.agg nn.enc.toArray) (.agg pn.enc.toArray)).run Sz w0=.ok (.bool (!E)) w0):NF w0 G S b5 b6 b7 true false fun X wx=>(E=false∧X=.normal∧CSt m1 B g G S id x.enc.toArray y.enc.toArray z.enc.toArray y.enc.toArray (m1.cls++jK id [jJ]) wr wx)∨(E=true∧X=.exit 1∧wx=w0):=by
 intro Q
 intros
 rename_i hnone
 have eW:=h_ hnone
 have HST:=h_ hst
 obtain⟨xid,xev,xfrm,xtil,xau,xtx,xdn,xlo⟩:=x
 obtain⟨yid,yev,yfrm,ytil,yau,ytx,ydn,ylo⟩:=y
 obtain⟨zid,zev,zfrm,ztil,zau,ztx,zdn,zlo⟩:=z
 generalize pn.enc.toArray=PA at *
 generalize nn.enc.toArray=NA at *
 simp only [Cm.enc] at *
 have If:=h_ lb5
 have Qj:=h_ lb6
 have HCM:=h_ hcmp
 clear hnone hst lb5 hcmp lb6
 have HT:=h_ (show CSt m1 B g G S id (#[SB .i64 xid,.int .i64 xev,.int .i64 xfrm,.int .i64 xtil,.string xau,.string xtx,.bool xdn,.bool xlo]) (#[SB .i64 yid,.int .i64 yev,.int .i64 yfrm,.int .i64 ytil,.string yau,.string ytx,.bool ydn,.bool ylo]) (#[SB .i64 zid,.int .i64 zev,.int .i64 zfrm,.int .i64 ztil,.string zau,.string ztx,.bool zdn,.bool zlo]) (#[SB .i64 yid,.int .i64 yev,.int .i64 yfrm,.int .i64 ytil,.string yau,.string ytx,.bool ydn,.bool ylo]) m1.cls wr (w0.setRow (S+1+1+1+1) (#[SB .i64 yid,.int .i64 yev,.int .i64 yfrm,.int .i64 ytil,.string yau,.string ytx,.bool ydn,.bool ylo])) from(HST.out.row km hS (#[SB .i64 yid,.int .i64 yev,.int .i64 yfrm,.int .i64 ytil,.string yau,.string ytx,.bool ydn,.bool ylo])))
 have HN:=h_ (HT.out.note km (Nat.le_trans hB HT.out.size) (by omega) true jJ)
 simp only [jJ] at HN
 clear HT
 have fq:∀ j,w0.cell? ⟨S+1+1,j,none⟩=_:=fun j=>Su _ _ j _ 52 (0,0) HST.out.y
 have HB0:=h_ HST.out.o
 have fi:∀ j,w0.cell? ⟨S,j,none⟩=_:=fun j=>Su _ _ j _ 2 (0,0) HST.out.i
 have f5:∀ j,w0.cell? ⟨b5,j,none⟩=_:=fun j=>Su _ _ j _ 148 (0,0) hb5
 have f6:∀ j,w0.cell? ⟨b6,j,none⟩=_:=fun j=>Su _ _ j _ 148 (0,0) hb6
 clear HST
 conv=>arg 2;whnf
 cases E with
 | true =>
   have HE:=h_ (eW.out _ _ (.inr ⟨rfl,rfl,rfl⟩))
   clear eW HN
   go_upto_region 29 with fail
   go_step
   refine bg (v:=.bool true) (by rfl) (by go_simp) ?_
   try simp only [SF,SJ,SH,SI,SG,SK,SL,SM]
   refine bg (v:=.bool true) (by rfl) (by go_simp) ?_
   try simp only [SF,SJ,SH,SI,SG,SK,SL,SM]
   refine bg (v:=.pointer (some ⟨b6,1,none⟩)) (by rfl) (by go_simp) ?_
   try simp only [SF,SJ,SH,SI,SG,SK,SL,SM]
   refine bg (v:=.map (some c6)) (by rfl) (by go_simp) ?_
   try simp only [SF,SJ,SH,SI,SG,SK,SL,SM]
   refine bg (v:=.int .i64 id) (by rfl) (by go_simp) ?_
   try simp only [SF,SJ,SH,SI,SG,SK,SL,SM]
   refine jb (.tmp 177) (.tmp 178) 146 rfl (mv:=.map (some c6)) (key:=.int .i64 id) (v:=.agg NA) rfl rfl Qj.out (by rfl) ?_
   try simp only [SF,SJ,SH,SI,SG,SK,SL,SM]
   refine bg (v:=.pointer (some ⟨b5,1,none⟩)) (by rfl) (by go_simp) ?_
   try simp only [SF,SJ,SH,SI,SG,SK,SL,SM]
   refine bg (v:=.map (some c5)) (by rfl) (by go_simp) ?_
   try simp only [SF,SJ,SH,SI,SG,SK,SL,SM]
   refine bg (v:=.int .i64 id) (by rfl) (by go_simp) ?_
   try simp only [SF,SJ,SH,SI,SG,SK,SL,SM]
   refine jb (.tmp 181) (.tmp 182) 146 rfl (mv:=.map (some c5)) (key:=.int .i64 id) (v:=.agg PA) rfl rfl If.out (by rfl) ?_
   try simp only [SF,SJ,SH,SI,SG,SK,SL,SM]
   refine CQ (.tmp 179) (.tmp 183) rfl (X:=NA) (Y:=PA) (r:=false) rfl rfl HCM.out (by rfl) ?_
   try simp only [SF,SJ,SH,SI,SG,SK,SL,SM]
   refine bg (v:=.bool false) (by rfl) (by go_simp) ?_
   try simp only [SF,SJ,SH,SI,SG,SK,SL,SM]
   refine bg (v:=.bool false) (by rfl) (by go_simp) ?_
   try simp only [SF,SJ,SH,SI,SG,SK,SL,SM]
   go_wp2_with fail
   exact HE.out _ _ _ _ _ _ _ _ _ _ _ _ _ _ _ _ _ _ _ _ _ _ _ _ _ _ _ _ _ _ _ _
 | false =>
   have HE:=h_ (fun wx h=>eW.out .normal wx (.inl ⟨rfl,rfl,h⟩))
   clear eW
   skip
   go_upto_region 29 with fail
   go_step
   refine bg (v:=.bool true) (by rfl) (by go_simp) ?_
   try simp only [SF,SJ,SH,SI,SG,SK,SL,SM]
   refine bg (v:=.bool true) (by rfl) (by go_simp) ?_
   try simp only [SF,SJ,SH,SI,SG,SK,SL,SM]
   refine bg (v:=.pointer (some ⟨b6,1,none⟩)) (by rfl) (by go_simp) ?_
   try simp only [SF,SJ,SH,SI,SG,SK,SL,SM]
   refine bg (v:=.map (some c6)) (by rfl) (by go_simp) ?_
   try simp only [SF,SJ,SH,SI,SG,SK,SL,SM]
   refine bg (v:=.int .i64 id) (by rfl) (by go_simp) ?_
   try simp only [SF,SJ,SH,SI,SG,SK,SL,SM]
   refine jb (.tmp 177) (.tmp 178) 146 rfl (mv:=.map (some c6)) (key:=.int .i64 id) (v:=.agg NA) rfl rfl Qj.out (by rfl) ?_
   try simp only [SF,SJ,SH,SI,SG,SK,SL,SM]
   refine bg (v:=.pointer (some ⟨b5,1,none⟩)) (by rfl) (by go_simp) ?_
   try simp only [SF,SJ,SH,SI,SG,SK,SL,SM]
   refine bg (v:=.map (some c5)) (by rfl) (by go_simp) ?_
   try simp only [SF,SJ,SH,SI,SG,SK,SL,SM]
   refine bg (v:=.int .i64 id) (by rfl) (by go_simp) ?_
   try simp only [SF,SJ,SH,SI,SG,SK,SL,SM]
   refine jb (.tmp 181) (.tmp 182) 146 rfl (mv:=.map (some c5)) (key:=.int .i64 id) (v:=.agg PA) rfl rfl If.out (by rfl) ?_
   try simp only [SF,SJ,SH,SI,SG,SK,SL,SM]
   refine CQ (.tmp 179) (.tmp 183) rfl (X:=NA) (Y:=PA) (r:=true) rfl rfl HCM.out (by rfl) ?_
   try simp only [SF,SJ,SH,SI,SG,SK,SL,SM]
   refine bg (v:=.bool true) (by rfl) (by go_simp) ?_
   try simp only [SF,SJ,SH,SI,SG,SK,SL,SM]
   refine bg (v:=.bool true) (by rfl) (by go_simp) ?_
   try simp only [SF,SJ,SH,SI,SG,SK,SL,SM]
   go_upto_region 31 with(refine Sw rfl 52 (.tmp 21) (.tmp 186) rfl (S+1+1+1+1) (#[SB .i64 yid,.int .i64 yev,.int .i64 yfrm,.int .i64 ytil,.string yau,.string ytx,.bool ydn,.bool ylo]) rfl rfl 52 _ HB0.out pK rfl (one8 _ _ _ _ _ _ _ _) ?_)
   generalize w0.setRow (S+1+1+1+1) (#[SB .i64 yid,.int .i64 yev,.int .i64 yfrm,.int .i64 ytil,.string yau,.string ytx,.bool ydn,.bool ylo])=w3 at *
   go_wp2_with fail
   refine HN.out.mono ?_
   rintro e w1 ⟨rfl,hs_⟩
   have HA:=h_ hs_
   clear hs_ HN
   go_wp2_with fail
   exact HE.out _ HA.out _ _ _ _ _ _ _ _ _ _ _ _ _ _ _ _ _ _ _ _ _ _ _ _ _ _ _ _ _ _ _ _
theorem GQ (m1:Mg)(B g G S b5 b6 b7 b5e b6e b7e c5 c6 c7:Nat)(id:Int)(x y z pn nn rn:Cm)(E:Bool)(wr w0:Sv)(km:G<S)(hS:wr.heap.size≤S)(hB:B≤S)(hl:m1.cls.length≤60000)(hst:CSt m1 B g G S id x.enc.toArray y.enc.toArray z.enc.toArray x.enc.toArray m1.cls wr w0)
 (hb5:w0.heap[b5]? =some (.cells #[.map (some b5e),.map (some c5)] 148 (0,0))) (lb5:(SE 146 (.map (some c5)) (.int .i64 id) false).run Sz w0=.ok (.agg pn.enc.toArray) w0) (lO:w0.heap[b7]? =some (.cells #[.map (some b7e),.map (some c7)] 148 (0,0))) (lb7:(SE 146 (.map (some c7)) (.int .i64 id) false).run Sz w0=.ok (.agg rn.enc.toArray) w0) (hcmp:(binOp .neq 52 (.agg rn.enc.toArray) (.agg pn.enc.toArray)).run Sz w0=.ok (.bool (!E)) w0):NF w0 G S b5 b6 b7 false true fun X wx=>(E=false∧X=.normal∧CSt m1 B g G S id x.enc.toArray y.enc.toArray z.enc.toArray z.enc.toArray (m1.cls++jK id [jJ]) wr wx)∨(E=true∧X=.exit 1∧wx=w0):=by
 intro Q
 intros
 rename_i hnone
 have eW:=h_ hnone
 have HST:=h_ hst
 obtain⟨xid,xev,xfrm,xtil,xau,xtx,xdn,xlo⟩:=x
 obtain⟨yid,yev,yfrm,ytil,yau,ytx,ydn,ylo⟩:=y
 obtain⟨zid,zev,zfrm,ztil,zau,ztx,zdn,zlo⟩:=z
 generalize pn.enc.toArray=PA at *
 generalize rn.enc.toArray=NA at *
 simp only [Cm.enc] at *
 have If:=h_ lb5
 have Qj:=h_ lb7
 have HCM:=h_ hcmp
 clear hnone hst lb5 hcmp lb7
 have HT:=h_ (show CSt m1 B g G S id (#[SB .i64 xid,.int .i64 xev,.int .i64 xfrm,.int .i64 xtil,.string xau,.string xtx,.bool xdn,.bool xlo]) (#[SB .i64 yid,.int .i64 yev,.int .i64 yfrm,.int .i64 ytil,.string yau,.string ytx,.bool ydn,.bool ylo]) (#[SB .i64 zid,.int .i64 zev,.int .i64 zfrm,.int .i64 ztil,.string zau,.string ztx,.bool zdn,.bool zlo]) (#[SB .i64 zid,.int .i64 zev,.int .i64 zfrm,.int .i64 ztil,.string zau,.string ztx,.bool zdn,.bool zlo]) m1.cls wr (w0.setRow (S+1+1+1+1) (#[SB .i64 zid,.int .i64 zev,.int .i64 zfrm,.int .i64 ztil,.string zau,.string ztx,.bool zdn,.bool zlo])) from(HST.out.row km hS (#[SB .i64 zid,.int .i64 zev,.int .i64 zfrm,.int .i64 ztil,.string zau,.string ztx,.bool zdn,.bool zlo])))
 have HN:=h_ (HT.out.note km (Nat.le_trans hB HT.out.size) (by omega) true jJ)
 simp only [jJ] at HN
 clear HT
 have fq:∀ j,w0.cell? ⟨S+1+1+1,j,none⟩=_:=fun j=>Su _ _ j _ 52 (0,0) HST.out.z
 have HB0:=h_ HST.out.o
 have fi:∀ j,w0.cell? ⟨S,j,none⟩=_:=fun j=>Su _ _ j _ 2 (0,0) HST.out.i
 have f5:∀ j,w0.cell? ⟨b5,j,none⟩=_:=fun j=>Su _ _ j _ 148 (0,0) hb5
 have f6:∀ j,w0.cell? ⟨b7,j,none⟩=_:=fun j=>Su _ _ j _ 148 (0,0) lO
 clear HST
 conv=>arg 2;whnf
 cases E with
 | true =>
   have HE:=h_ (eW.out _ _ (.inr ⟨rfl,rfl,rfl⟩))
   clear eW HN
   go_upto_region 32 with fail
   go_step
   refine bg (v:=.bool true) (by rfl) (by go_simp) ?_
   try simp only [SF,SJ,SH,SI,SG,SK,SL,SM]
   refine bg (v:=.bool true) (by rfl) (by go_simp) ?_
   try simp only [SF,SJ,SH,SI,SG,SK,SL,SM]
   refine bg (v:=.pointer (some ⟨b7,1,none⟩)) (by rfl) (by go_simp) ?_
   try simp only [SF,SJ,SH,SI,SG,SK,SL,SM]
   refine bg (v:=.map (some c7)) (by rfl) (by go_simp) ?_
   try simp only [SF,SJ,SH,SI,SG,SK,SL,SM]
   refine bg (v:=.int .i64 id) (by rfl) (by go_simp) ?_
   try simp only [SF,SJ,SH,SI,SG,SK,SL,SM]
   refine jb (.tmp 193) (.tmp 194) 146 rfl (mv:=.map (some c7)) (key:=.int .i64 id) (v:=.agg NA) rfl rfl Qj.out (by rfl) ?_
   try simp only [SF,SJ,SH,SI,SG,SK,SL,SM]
   refine bg (v:=.pointer (some ⟨b5,1,none⟩)) (by rfl) (by go_simp) ?_
   try simp only [SF,SJ,SH,SI,SG,SK,SL,SM]
   refine bg (v:=.map (some c5)) (by rfl) (by go_simp) ?_
   try simp only [SF,SJ,SH,SI,SG,SK,SL,SM]
   refine bg (v:=.int .i64 id) (by rfl) (by go_simp) ?_
   try simp only [SF,SJ,SH,SI,SG,SK,SL,SM]
   refine jb (.tmp 197) (.tmp 198) 146 rfl (mv:=.map (some c5)) (key:=.int .i64 id) (v:=.agg PA) rfl rfl If.out (by rfl) ?_
   try simp only [SF,SJ,SH,SI,SG,SK,SL,SM]
   refine CQ (.tmp 195) (.tmp 199) rfl (X:=NA) (Y:=PA) (r:=false) rfl rfl HCM.out (by rfl) ?_
   try simp only [SF,SJ,SH,SI,SG,SK,SL,SM]
   refine bg (v:=.bool false) (by rfl) (by go_simp) ?_
   try simp only [SF,SJ,SH,SI,SG,SK,SL,SM]
   refine bg (v:=.bool false) (by rfl) (by go_simp) ?_
   try simp only [SF,SJ,SH,SI,SG,SK,SL,SM]
   go_wp2_with fail
   exact HE.out _ _ _ _ _ _ _ _ _ _ _ _ _ _ _ _ _ _ _ _ _ _ _ _ _ _ _ _ _ _ _ _
 | false =>
   have HE:=h_ (fun wx h=>eW.out .normal wx (.inl ⟨rfl,rfl,h⟩))
   clear eW
   skip
   go_upto_region 32 with fail
   go_step
   refine bg (v:=.bool true) (by rfl) (by go_simp) ?_
   try simp only [SF,SJ,SH,SI,SG,SK,SL,SM]
   refine bg (v:=.bool true) (by rfl) (by go_simp) ?_
   try simp only [SF,SJ,SH,SI,SG,SK,SL,SM]
   refine bg (v:=.pointer (some ⟨b7,1,none⟩)) (by rfl) (by go_simp) ?_
   try simp only [SF,SJ,SH,SI,SG,SK,SL,SM]
   refine bg (v:=.map (some c7)) (by rfl) (by go_simp) ?_
   try simp only [SF,SJ,SH,SI,SG,SK,SL,SM]
   refine bg (v:=.int .i64 id) (by rfl) (by go_simp) ?_
   try simp only [SF,SJ,SH,SI,SG,SK,SL,SM]
   refine jb (.tmp 193) (.tmp 194) 146 rfl (mv:=.map (some c7)) (key:=.int .i64 id) (v:=.agg NA) rfl rfl Qj.out (by rfl) ?_
   try simp only [SF,SJ,SH,SI,SG,SK,SL,SM]
   refine bg (v:=.pointer (some ⟨b5,1,none⟩)) (by rfl) (by go_simp) ?_
   try simp only [SF,SJ,SH,SI,SG,SK,SL,SM]
   refine bg (v:=.map (some c5)) (by rfl) (by go_simp) ?_
   try simp only [SF,SJ,SH,SI,SG,SK,SL,SM]
   refine bg (v:=.int .i64 id) (by rfl) (by go_simp) ?_
   try simp only [SF,SJ,SH,SI,SG,SK,SL,SM]
   refine jb (.tmp 197) (.tmp 198) 146 rfl (mv:=.map (some c5)) (key:=.int .i64 id) (v:=.agg PA) rfl rfl If.out (by rfl) ?_
   try simp only [SF,SJ,SH,SI,SG,SK,SL,SM]
   refine CQ (.tmp 195) (.tmp 199) rfl (X:=NA) (Y:=PA) (r:=true) rfl rfl HCM.out (by rfl) ?_
   try simp only [SF,SJ,SH,SI,SG,SK,SL,SM]
   refine bg (v:=.bool true) (by rfl) (by go_simp) ?_
   try simp only [SF,SJ,SH,SI,SG,SK,SL,SM]
   refine bg (v:=.bool true) (by rfl) (by go_simp) ?_
   try simp only [SF,SJ,SH,SI,SG,SK,SL,SM]
   go_upto_region 34 with(refine Sw rfl 52 (.tmp 21) (.tmp 202) rfl (S+1+1+1+1) (#[SB .i64 zid,.int .i64 zev,.int .i64 zfrm,.int .i64 ztil,.string zau,.string ztx,.bool zdn,.bool zlo]) rfl rfl 52 _ HB0.out pK rfl (one8 _ _ _ _ _ _ _ _) ?_)
   generalize w0.setRow (S+1+1+1+1) (#[SB .i64 zid,.int .i64 zev,.int .i64 zfrm,.int .i64 ztil,.string zau,.string ztx,.bool zdn,.bool zlo])=w3 at *
   go_wp2_with fail
   refine HN.out.mono ?_
   rintro e w1 ⟨rfl,hs_⟩
   have HA:=h_ hs_
   clear hs_ HN
   go_wp2_with fail
   exact HE.out _ HA.out _ _ _ _ _ _ _ _ _ _ _ _ _ _ _ _ _ _ _ _ _ _ _ _ _ _ _ _ _ _ _ _
theorem GP (m1:Mg)(B g G S b5 b6 b7 b5e b6e b7e c5 c6 c7:Nat)(id:Int)(x y z pn nn rn:Cm)(E:Bool)(wr w0:Sv)(km:G<S)(hS:wr.heap.size≤S)(hB:B≤S)(hl:m1.cls.length≤60000)(hst:CSt m1 B g G S id x.enc.toArray y.enc.toArray z.enc.toArray x.enc.toArray m1.cls wr w0)
 (hb5:w0.heap[b5]? =some (.cells #[.map (some b5e),.map (some c5)] 148 (0,0))) (lb5:(SE 146 (.map (some c5)) (.int .i64 id) false).run Sz w0=.ok (.agg pn.enc.toArray) w0):NF w0 G S b5 b6 b7 false false fun X wx=>X=.exit 1∧wx=w0:=by
 intro Q
 intros
 rename_i hnone
 have eW:=h_ hnone
 have HST:=h_ hst
 obtain⟨xid,xev,xfrm,xtil,xau,xtx,xdn,xlo⟩:=x
 obtain⟨yid,yev,yfrm,ytil,yau,ytx,ydn,ylo⟩:=y
 obtain⟨zid,zev,zfrm,ztil,zau,ztx,zdn,zlo⟩:=z
 generalize pn.enc.toArray=PA at *
 simp only [Cm.enc] at *
 have If:=h_ lb5
 clear hnone hst lb5 
 clear HST hb5 If
 conv=>arg 2;whnf
 go_wp2_with fail
 exact eW.out _ _ ⟨rfl,rfl⟩ _ _ _ _ _ _ _ _ _ _ _ _ _ _ _ _ _ _ _ _ _ _ _ _ _ _ _ _ _ _ _ _
theorem Iz (x y:(Int × Int × Int × Bool))(w:Sv):(binOp .neq 211 (.agg (bh x)) (.agg (bh y))).run Sz w=.ok (.bool (!(anc4 x y))) w:=by
 obtain⟨x0,x1,x2,x3⟩:=x
 obtain⟨y0,y1,y2,y3⟩:=y
 simp [go_sem,bh,anc4]
 repeat' split
 all_goals simp_all
theorem PB (m1:Mg)(B g G S b5 b6 b7:Nat)(id:Int)(x y z:Cm)(A C D Bt:Bool)(wr w0:Sv)(hst:CSt m1 B g G S id x.enc.toArray y.enc.toArray z.enc.toArray x.enc.toArray m1.cls wr w0)(xO:Bt=(!A&&C&&D&&!(anc4 (l_ y) (l_ z))))(Q:Exit→Act→Sv→Prop)(hP:∀ ch a a' w,a'.defers=a.defers→Q (.panic ch) a w→Q (.panic ch) a' w)(K:Act→Sv→Prop) {s0 s1 s2 s3 s8 s9 s10 s11 s12 ir iq s24 gP gO gN gM gL gK gJ fV gI gH gG gF gE gD gA gx gw gv s43 s44 gu gq gp gl s49 gj gh gf s53 gd iu f_ gT gS im ik ij ig ie jD j2 iw j1 s68 kF fB jZ s72 jY jX jW jV jU jT jS jR jQ s82 s83 jP jO jN s87 jM jL jC jB jA jy jx jw jv ju jt js bF bY bX bW bV bU cq ck dW dV dU dT eK eJ eI eH eG eF eE eD eC eB eA ew eu et ep eo en ek ej ei eh bT bS bR ef bQ ee bP cj cg dS dR dQ dP dN dM dL dK dJ dI dH dF dE dD dC dB dA dz dy dx dw dv du dq dp dm dj di dh dg df de cZ cY cX cW cV cU cT cS cR cQ cP cO cd b_ b9 b8 cN cL cK cH cG cF cE cD cB cA cw cu bO bN bM ed oa n_ nW nV nU nT nS nR nQ nP nO mK:Sy}
 (hK:∀ (u69 u70 Kh u72 u73 Kg u75 Kf Ke Kd Kc Kb Ka J_ J9:Sy) (wc:Sv),SO w0.heap.size w0 wc→K { tmps:=#[s0,s1,s2,s3,.pointer (some ⟨G,0,none⟩),.pointer (some ⟨b5,0,none⟩),.pointer (some ⟨b6,0,none⟩),.pointer (some ⟨b7,0,none⟩),s8,s9,s10,s11,s12,.pointer (some ⟨S,0,none⟩),.pointer (some ⟨S+1,0,none⟩),.bool A,.pointer (some ⟨S+1+1,0,none⟩),.bool C,.pointer (some ⟨S+1+1+1,0,none⟩),.bool D,.func (.func 141) #[] #[.pointer (some ⟨G,0,none⟩),.pointer (some ⟨S,0,none⟩)],.pointer (some ⟨S+1+1+1+1,0,none⟩),ir,iq,s24,gP,gO,gN,gM,gL,gK,gJ,fV,gI,gH,gG,gF,gE,gD,gA,gx,gw,gv,s43,s44,gu,gq,gp,gl,s49,gj,gh,gf,s53,gd,iu,f_,gT,gS,im,ik,ij,ig,ie,jD,j2,iw,j1,.bool Bt,u69,u70,Kh,u72,u73,Kg,u75,Kf,Ke,Kd,Kc,Kb,Ka,J_,J9,jP,jO,jN,s87,jM,jL,jC,jB,jA,jy,jx,jw,jv,ju,jt,js,bF,bY,bX,bW,bV,bU,cq,ck,dW,dV,dU,dT,eK,eJ,eI,eH,eG,eF,eE,eD,eC,eB,eA,ew,eu,et,ep,eo,en,ek,ej,ei,eh,bT,bS,bR,ef,bQ,ee,bP,cj,cg,dS,dR,dQ,dP,dN,dM,dL,dK,dJ,dI,dH,dF,dE,dD,dC,dB,dA,dz,dy,dx,dw,dv,du,dq,dp,dm,dj,di,dh,dg,df,de,cZ,cY,cX,cW,cV,cU,cT,cS,cR,cQ,cP,cO,cd,b_,b9,b8,cN,cL,cK,cH,cG,cF,cE,cD,cB,cA,cw,cu,bO,bN,bM,ed,oa,n_,nW,nV,nU,nT,nS,nR,nQ,nP,nO,mK],defers:=[] } wc) :
 Code.wp Sz ((mE 11 (SA.body.getD .skip)).getD .skip) (Exit.then K Q) { tmps:=#[s0,s1,s2,s3,.pointer (some ⟨G,0,none⟩),.pointer (some ⟨b5,0,none⟩),.pointer (some ⟨b6,0,none⟩),.pointer (some ⟨b7,0,none⟩),s8,s9,s10,s11,s12,.pointer (some ⟨S,0,none⟩),.pointer (some ⟨S+1,0,none⟩),.bool A,.pointer (some ⟨S+1+1,0,none⟩),.bool C,.pointer (some ⟨S+1+1+1,0,none⟩),.bool D,.func (.func 141) #[] #[.pointer (some ⟨G,0,none⟩),.pointer (some ⟨S,0,none⟩)],.pointer (some ⟨S+1+1+1+1,0,none⟩),ir,iq,s24,gP,gO,gN,gM,gL,gK,gJ,fV,gI,gH,gG,gF,gE,gD,gA,gx,gw,gv,s43,s44,gu,gq,gp,gl,s49,gj,gh,gf,s53,gd,iu,f_,gT,gS,im,ik,ij,ig,ie,jD,j2,iw,j1,s68,kF,fB,jZ,s72,jY,jX,jW,jV,jU,jT,jS,jR,jQ,s82,s83,jP,jO,jN,s87,jM,jL,jC,jB,jA,jy,jx,jw,jv,ju,jt,js,bF,bY,bX,bW,bV,bU,cq,ck,dW,dV,dU,dT,eK,eJ,eI,eH,eG,eF,eE,eD,eC,eB,eA,ew,eu,et,ep,eo,en,ek,ej,ei,eh,bT,bS,bR,ef,bQ,ee,bP,cj,cg,dS,dR,dQ,dP,dN,dM,dL,dK,dJ,dI,dH,dF,dE,dD,dC,dB,dA,dz,dy,dx,dw,dv,du,dq,dp,dm,dj,di,dh,dg,df,de,cZ,cY,cX,cW,cV,cU,cT,cS,cR,cQ,cP,cO,cd,b_,b9,b8,cN,cL,cK,cH,cG,cF,cE,cD,cB,cA,cw,cu,bO,bN,bM,ed,oa,n_,nW,nV,nU,nT,nS,nR,nQ,nP,nO,mK],defers:=[] } w0:=by
 have HK:=h_ hK
 have HST:=h_ hst
 have HP:=h_ hP
 have hbN:=h_ (fun nq=>Go.below_drewN (SO.refl w0.heap.size w0) nq)
 clear hK hst hP
 generalize Rv:Exit.then K Q=KQ at *
 conv=>arg 2;whnf
 cases A with
 | true =>
   obtain rfl:Bt=false:=by rw [xO];rfl
   clear xO
   go_wp2_with fail
   go_quiet (fail)
   go_wp2_with fail
   subst Rv
   exact HK.out _ _ _ _ _ _ _ _ _ _ _ _ _ _ _ _ (hbN.out _)
 | false =>
   cases C with
   | false =>
     obtain rfl:Bt=false:=by rw [xO];rfl
     clear xO
     go_wp2_with fail
     go_quiet (fail)
     go_wp2_with fail
     subst Rv
     exact HK.out _ _ _ _ _ _ _ _ _ _ _ _ _ _ _ _ (hbN.out _)
   | true =>
     cases D with
     | false =>
       obtain rfl:Bt=false:=by rw [xO];rfl
       clear xO
       go_wp2_with fail
       go_quiet (fail)
       go_wp2_with fail
       subst Rv
       exact HK.out _ _ _ _ _ _ _ _ _ _ _ _ _ _ _ _ (hbN.out _)
     | true =>
       generalize NT:anc4 (l_ y) (l_ z)=AN at *
       obtain rfl:Bt=!AN:=by rw [xO];simp
       have QI:=h_ (fun(w':Sv) (q:SO w0.heap.size w0 w')=>fN y w')
       have rP:=h_ (fun(w':Sv) (q:SO w0.heap.size w0 w')=>fN z w')
       have hneq:∀ w',(binOp .neq 211 (.agg (bh (l_ y))) (.agg (bh (l_ z)))).run Sz w'=.ok (.bool (!AN)) w':=fun w'=>by rw [Iz,NT]
       obtain⟨yid,yev,yfrm,ytil,yau,ytx,ydn,ylo⟩:=y
       obtain⟨zid,zev,zfrm,ztil,zau,ztx,zdn,zlo⟩:=z
       simp only [Cm.enc] at QI rP HST
       simp only [l_,bh] at QI rP hneq
       have hbd:SO w0.heap.size w0 w0.drew:=(SO.refl _ _).drew
       have hl7:S+4<w0.heap.size:=HST.out.lt
       have d2:∀ w',SO w0.heap.size w0 w'→∀ j,w'.cell? ⟨S+1+1,j,none⟩=_:=fun w' q j=>Su _ _ j _ 52 (0,0) ((q.block _ (by omega)).trans HST.out.y)
       have d3:∀ w',SO w0.heap.size w0 w'→∀ j,w'.cell? ⟨S+1+1+1,j,none⟩=_:=fun w' q j=>Su _ _ j _ 52 (0,0) ((q.block _ (by omega)).trans HST.out.z)
       have PS:=h_ (fun(w2 w3:Sv) (q:SO w0.heap.size w0 w2) (q3:SO w2.heap.size w2 w3)=>(q.trans (q3.mono q.size):SO w0.heap.size w0 w3))
       clear xO HST NT
       go_wp2_with fail
       go_region_held3 (fun w'=>SO w0.heap.size w0 w') (repeat (first|with_reducible assumption|with_reducible exact hbd)) (first
        | (go_at_call 142;(with_reducible refine(QI.out _ (by first|with_reducible assumption|with_reducible exact hbd)).mono ?_);rintro e v1 ⟨rfl,hv1⟩;have hcv1:=PS.out _ _ (by first|with_reducible assumption|with_reducible exact hbd) hv1;clear hv1)
        | (go_at_call 142;(with_reducible refine(rP.out _ (by first|with_reducible assumption|with_reducible exact hbd)).mono ?_);rintro e v2 ⟨rfl,hv2⟩;have hcv2:=PS.out _ _ (by first|with_reducible assumption|with_reducible exact hbd) hv2;clear hv2))
       all_goals
        go_wp2_with fail
        subst Rv
        exact HK.out _ _ _ _ _ _ _ _ _ _ _ _ _ _ _ _ (by assumption)
theorem GO (m1:Mg)(B g G S b5 b6 b7 b5e b6e b7e c5 c6 c7:Nat)(id:Int)(x y z pn nn rn:Cm)(A C D:Bool)(o:Option (Cm × List ByteArray))(wr w0:Sv)(km:G<S)(hS:wr.heap.size≤S)(hB:B≤S)(hl:m1.cls.length≤60000)(hst:CSt m1 B g G S id x.enc.toArray y.enc.toArray z.enc.toArray x.enc.toArray m1.cls wr w0)
 (h5:w0.heap[b5]? =some (.cells #[.map (some b5e),.map (some c5)] 148 (0,0))) (h6:w0.heap[b6]? =some (.cells #[.map (some b6e),.map (some c6)] 148 (0,0))) (h7:w0.heap[b7]? =some (.cells #[.map (some b7e),.map (some c7)] 148 (0,0)))
 (l5:∀ w',SO w0.heap.size w0 w'→(SE 146 (.map (some c5)) (.int .i64 id) false).run Sz w'=.ok (.agg pn.enc.toArray) w') (l6:∀ w',SO w0.heap.size w0 w'→(SE 146 (.map (some c6)) (.int .i64 id) false).run Sz w'=.ok (.agg nn.enc.toArray) w') (l7:∀ w',SO w0.heap.size w0 w'→(SE 146 (.map (some c7)) (.int .i64 id) false).run Sz w'=.ok (.agg rn.enc.toArray) w')
 (htz:D=false→z=aM) (ho:o=mF (some pn) (some nn) (some rn) (if A=true then some x else none) (if C=true then some y else none) (if D=true then some z else none)) (Q:Exit→Act→Sv→Prop) (hP:∀ ch a a' w,a'.defers=a.defers→Q (.panic ch) a w→Q (.panic ch) a' w) {s0 s1 s2 s3 s8 s9 s10 s11 s12 ir iq s24 gP gO gN gM gL gK gJ fV gI gH gG gF gE gD gA gx gw gv s43 s44 gu gq gp gl s49 gj gh gf s53 gd iu f_ gT gS im ik ij ig ie jD j2 iw j1 s68 kF fB jZ s72 jY jX jW jV jU jT jS jR jQ s82 s83 jP jO jN s87 jM jL jC jB jA jy jx jw jv ju jt js bF bY bX bW bV bU cq ck dW dV dU dT eK eJ eI eH eG eF eE eD eC eB eA ew eu et ep eo en ek ej ei eh bT bS bR ef bQ ee bP cj cg dS dR dQ dP dN dM dL dK dJ dI dH dF dE dD dC dB dA dz dy dx dw dv du dq dp dm dj di dh dg df de cZ cY cX cW cV cU cT cS cR cQ cP cO cd b_ b9 b8 cN cL cK cH cG cF cE cD cB cA cw cu bO bN bM ed oa n_ nW nV nU nT nS nR nQ nP nO mK:Sy}
 (hfin:∀ X wx,((∃ (c:Cm) (fs:List ByteArray),o=some (c,fs)∧X=.normal∧CSt m1 B g G S id x.enc.toArray y.enc.toArray z.enc.toArray c.enc.toArray (m1.cls++jK id fs) wr wx)∨(o=none∧X=.exit 1∧SO w0.heap.size w0 wx))→∀ (u22 u23 u68 u69 u70 Kh u72 u73 Kg u75 Kf Ke Kd Kc Kb Ka J_ J9 K9 K8 K7 K6 K5 K4 R8 R7 R6 u93 R5 R4 R3 R2 RZ RY Ll Lk Lj Li Lh u105 Fe Fc Bf Be Bd Bc vZ vY vX vW vV vU vT u119 vS vR vQ vP u124 vO vN u127 vM vL vK u131 Bb Lg Lf Le Ld Lc u138 u139 Fb Fa Ba A_ A9 A8 A7 A6 A5 A4 A0 AZ u152 AY u154 AX AW AV AU AS AR AQ u162 AP u164 AO AM AK AJ AI AH AG AF AE AB AA Az Ay Ax Aw Av Au As Ar Aq E_ E9 E8 E7 E6 Ap Ao An u193 u194 Am u196 Al u198 Ak Aj u201 Lb La K_:Sy),Q X { tmps:=#[s0,s1,s2,s3,.pointer (some ⟨G,0,none⟩),.pointer (some ⟨b5,0,none⟩),.pointer (some ⟨b6,0,none⟩),.pointer (some ⟨b7,0,none⟩),s8,s9,s10,s11,s12,.pointer (some ⟨S,0,none⟩),.pointer (some ⟨S+1,0,none⟩),.bool A,.pointer (some ⟨S+1+1,0,none⟩),.bool C,.pointer (some ⟨S+1+1+1,0,none⟩),.bool D,.func (.func 141) #[] #[.pointer (some ⟨G,0,none⟩),.pointer (some ⟨S,0,none⟩)],.pointer (some ⟨S+1+1+1+1,0,none⟩),u22,u23,s24,gP,gO,gN,gM,gL,gK,gJ,fV,gI,gH,gG,gF,gE,gD,gA,gx,gw,gv,s43,s44,gu,gq,gp,gl,s49,gj,gh,gf,s53,gd,iu,f_,gT,gS,im,ik,ij,ig,ie,jD,j2,iw,j1,u68,u69,u70,Kh,u72,u73,Kg,u75,Kf,Ke,Kd,Kc,Kb,Ka,J_,J9,K9,K8,K7,K6,K5,K4,R8,R7,R6,u93,R5,R4,R3,R2,RZ,RY,Ll,Lk,Lj,Li,Lh,u105,Fe,Fc,Bf,Be,Bd,Bc,vZ,vY,vX,vW,vV,vU,vT,u119,vS,vR,vQ,vP,u124,vO,vN,u127,vM,vL,vK,u131,Bb,Lg,Lf,Le,Ld,Lc,u138,u139,Fb,Fa,Ba,A_,A9,A8,A7,A6,A5,A4,A0,AZ,u152,AY,u154,AX,AW,AV,AU,AS,AR,AQ,u162,AP,u164,AO,AM,AK,AJ,AI,AH,AG,AF,AE,AB,AA,Az,Ay,Ax,Aw,Av,Au,As,Ar,Aq,E_,E9,E8,E7,E6,Ap,Ao,An,u193,u194,Am,u196,Al,u198,Ak,Aj,u201,Lb,La,K_,ed,oa,n_,nW,nV,nU,nT,nS,nR,nQ,nP,nO,mK],defers:=[] } wx) :
 Code.wp Sz ((lD 11 (SA.body.getD .skip)).getD .skip) Q { tmps:=#[s0,s1,s2,s3,.pointer (some ⟨G,0,none⟩),.pointer (some ⟨b5,0,none⟩),.pointer (some ⟨b6,0,none⟩),.pointer (some ⟨b7,0,none⟩),s8,s9,s10,s11,s12,.pointer (some ⟨S,0,none⟩),.pointer (some ⟨S+1,0,none⟩),.bool A,.pointer (some ⟨S+1+1,0,none⟩),.bool C,.pointer (some ⟨S+1+1+1,0,none⟩),.bool D,.func (.func 141) #[] #[.pointer (some ⟨G,0,none⟩),.pointer (some ⟨S,0,none⟩)],.pointer (some ⟨S+1+1+1+1,0,none⟩),ir,iq,s24,gP,gO,gN,gM,gL,gK,gJ,fV,gI,gH,gG,gF,gE,gD,gA,gx,gw,gv,s43,s44,gu,gq,gp,gl,s49,gj,gh,gf,s53,gd,iu,f_,gT,gS,im,ik,ij,ig,ie,jD,j2,iw,j1,s68,kF,fB,jZ,s72,jY,jX,jW,jV,jU,jT,jS,jR,jQ,s82,s83,jP,jO,jN,s87,jM,jL,jC,jB,jA,jy,jx,jw,jv,ju,jt,js,bF,bY,bX,bW,bV,bU,cq,ck,dW,dV,dU,dT,eK,eJ,eI,eH,eG,eF,eE,eD,eC,eB,eA,ew,eu,et,ep,eo,en,ek,ej,ei,eh,bT,bS,bR,ef,bQ,ee,bP,cj,cg,dS,dR,dQ,dP,dN,dM,dL,dK,dJ,dI,dH,dF,dE,dD,dC,dB,dA,dz,dy,dx,dw,dv,du,dq,dp,dm,dj,di,dh,dg,df,de,cZ,cY,cX,cW,cV,cU,cT,cS,cR,cQ,cP,cO,cd,b_,b9,b8,cN,cL,cK,cH,cG,cF,cE,cD,cB,cA,cw,cu,bO,bN,bM,ed,oa,n_,nW,nV,nU,nT,nS,nR,nQ,nP,nO,mK],defers:=[] } w0:=by
 have aA:=h_ (fun c fs h wx q=>hfin .normal wx (.inl ⟨c,fs,h,rfl,q⟩))
 have eW:=h_ (fun h wx q=>hfin (.exit 1) wx (.inr ⟨h,rfl,q⟩))
 have HO:=h_ ho
 have L5:=h_ l5
 have L6:=h_ l6
 have L7:=h_ l7
 have MP:=(SN.1 h5).1
 have h6lt:=(SN.1 h6).1
 have h7lt:=(SN.1 h7).1
 have HST:=h_ hst
 have tJ:=h_ hP
 clear hfin ho l5 l6 l7 hst hP
 conv=>arg 2;whnf
 refine wp_seq ?_
 refine PB m1 B g G S b5 b6 b7 id x y z A C D _ wr w0 HST.out rfl Q tJ.out _ ?_
 intro u69 u70 Kh u72 u73 Kg u75 Kf Ke Kd Kc Kb Ka J_ J9 wc hbc
 have hst:=HST.out.later km hbc
 obtain⟨AN,NT⟩:∃ AN,AN=anc4 (l_ y) (l_ z):=⟨_,rfl⟩
 rw [←NT]
 have N2:=h_ NT
 clear NT HST
 cases A with
 | true =>
   refine Sx rfl ?_
   cases C with
   | false =>
     cases D with
     | false =>
       go_upto_if 101 with fail
       refine Sx rfl ?_
       have ho1:o=none:=HO.out
       refine GP m1 B g G S b5 b6 b7 b5e b6e b7e c5 c6 c7 id x y z pn nn rn true wr wc km hS hB hl hst ((hbc.block _ MP).trans h5) (L5.out _ hbc) ?_
       intro X wx hX
       obtain⟨rfl,rfl⟩:=hX
       intros
       exact eW.out ho1 _ hbc _ _ _ _ _ _ _ _ _ _ _ _ _ _ _ _ _ _ _ _ _ _ _ _ _ _ _ _ _ _ _ _ _ _ _ _ _ _ _ _ _ _ _ _ _ _ _ _ _ _ _ _ _ _ _ _ _ _ _ _ _ _ _ _ _ _ _ _ _ _ _ _ _ _ _ _ _ _ _ _ _ _ _ _ _ _ _ _ _ _ _ _ _ _ _ _ _ _ _ _ _ _ _ _ _ _ _ _ _ _ _ _ _ _ _ _ _ _ _ _ _ _ _ _ _ _ _ _ _ _ _ _ _ _ _ _ _ _ _
     | true =>
       go_upto_if 101 with fail
       refine Sx rfl ?_
       have ho1:o=if cmEq rn pn=true then none else some (z,[jJ]):=HO.out
       have hcmp:=oP rn pn wc
       refine GQ m1 B g G S b5 b6 b7 b5e b6e b7e c5 c6 c7 id x y z pn nn rn (cmEq rn pn) wr wc km hS hB hl hst ((hbc.block _ MP).trans h5) (L5.out _ hbc) ((hbc.block _ h7lt).trans h7) (L7.out _ hbc) hcmp ?_
       intro X wx hX
       rcases hX with⟨hE,rfl,hc⟩|⟨hE,rfl,rfl⟩
       · rw [hE,if_neg Bool.false_ne_true] at ho1
         intros
         exact aA.out _ _ ho1 _ hc _ _ _ _ _ _ _ _ _ _ _ _ _ _ _ _ _ _ _ _ _ _ _ _ _ _ _ _ _ _ _ _ _ _ _ _ _ _ _ _ _ _ _ _ _ _ _ _ _ _ _ _ _ _ _ _ _ _ _ _ _ _ _ _ _ _ _ _ _ _ _ _ _ _ _ _ _ _ _ _ _ _ _ _ _ _ _ _ _ _ _ _ _ _ _ _ _ _ _ _ _ _ _ _ _ _ _ _ _ _ _ _ _ _ _ _ _ _ _ _ _ _ _ _ _ _ _ _ _ _ _ _ _ _ _ _ _ _ _
       · rw [hE,if_pos rfl] at ho1
         intros
         exact eW.out ho1 _ hbc _ _ _ _ _ _ _ _ _ _ _ _ _ _ _ _ _ _ _ _ _ _ _ _ _ _ _ _ _ _ _ _ _ _ _ _ _ _ _ _ _ _ _ _ _ _ _ _ _ _ _ _ _ _ _ _ _ _ _ _ _ _ _ _ _ _ _ _ _ _ _ _ _ _ _ _ _ _ _ _ _ _ _ _ _ _ _ _ _ _ _ _ _ _ _ _ _ _ _ _ _ _ _ _ _ _ _ _ _ _ _ _ _ _ _ _ _ _ _ _ _ _ _ _ _ _ _ _ _ _ _ _ _ _ _ _ _ _ _
   | true =>
     cases D with
     | false =>
       go_upto_if 101 with fail
       refine Sx rfl ?_
       have ho1:o=if cmEq nn pn=true then none else some (y,[jJ]):=HO.out
       have hcmp:=oP nn pn wc
       refine GS m1 B g G S b5 b6 b7 b5e b6e b7e c5 c6 c7 id x y z pn nn rn (cmEq nn pn) wr wc km hS hB hl hst ((hbc.block _ MP).trans h5) (L5.out _ hbc) ((hbc.block _ h6lt).trans h6) (L6.out _ hbc) hcmp ?_
       intro X wx hX
       rcases hX with⟨hE,rfl,hc⟩|⟨hE,rfl,rfl⟩
       · rw [hE,if_neg Bool.false_ne_true] at ho1
         intros
         exact aA.out _ _ ho1 _ hc _ _ _ _ _ _ _ _ _ _ _ _ _ _ _ _ _ _ _ _ _ _ _ _ _ _ _ _ _ _ _ _ _ _ _ _ _ _ _ _ _ _ _ _ _ _ _ _ _ _ _ _ _ _ _ _ _ _ _ _ _ _ _ _ _ _ _ _ _ _ _ _ _ _ _ _ _ _ _ _ _ _ _ _ _ _ _ _ _ _ _ _ _ _ _ _ _ _ _ _ _ _ _ _ _ _ _ _ _ _ _ _ _ _ _ _ _ _ _ _ _ _ _ _ _ _ _ _ _ _ _ _ _ _ _ _ _ _ _
       · rw [hE,if_pos rfl] at ho1
         intros
         exact eW.out ho1 _ hbc _ _ _ _ _ _ _ _ _ _ _ _ _ _ _ _ _ _ _ _ _ _ _ _ _ _ _ _ _ _ _ _ _ _ _ _ _ _ _ _ _ _ _ _ _ _ _ _ _ _ _ _ _ _ _ _ _ _ _ _ _ _ _ _ _ _ _ _ _ _ _ _ _ _ _ _ _ _ _ _ _ _ _ _ _ _ _ _ _ _ _ _ _ _ _ _ _ _ _ _ _ _ _ _ _ _ _ _ _ _ _ _ _ _ _ _ _ _ _ _ _ _ _ _ _ _ _ _ _ _ _ _ _ _ _ _ _ _ _
     | true =>
       have ho1:o=some (o0 x y z,kg x y z):=HO.out
       go_upto_if 101 with fail
       refine wp_cond_true rfl ?_
       refine Jw m1 B g G S id x y z wr wc km hS hB hl hst Q tJ.out ?_
       intros
       exact aA.out _ _ ho1 _ (by assumption) _ _ _ _ _ _ _ _ _ _ _ _ _ _ _ _ _ _ _ _ _ _ _ _ _ _ _ _ _ _ _ _ _ _ _ _ _ _ _ _ _ _ _ _ _ _ _ _ _ _ _ _ _ _ _ _ _ _ _ _ _ _ _ _ _ _ _ _ _ _ _ _ _ _ _ _ _ _ _ _ _ _ _ _ _ _ _ _ _ _ _ _ _ _ _ _ _ _ _ _ _ _ _ _ _ _ _ _ _ _ _ _ _ _ _ _ _ _ _ _ _ _ _ _ _ _ _ _ _ _ _ _ _ _ _ _ _ _ _
 | false =>
   cases C with
   | false =>
     have ho:o=some (z,[]):=by
      cases D with
      | true=>exact HO.out
      | false=>rw [htz rfl];exact HO.out
     clear HO htz
     obtain⟨xid,xev,xfrm,xtil,xau,xtx,xdn,xlo⟩:=x
     obtain⟨yid,yev,yfrm,ytil,yau,ytx,ydn,ylo⟩:=y
     obtain⟨zid,zev,zfrm,ztil,zau,ztx,zdn,zlo⟩:=z
     simp only [Cm.enc] at hst aA
     have HE:=h_ (aA.out ⟨zid,zev,zfrm,ztil,zau,ztx,zdn,zlo⟩ [] ho)
     have HB0:=h_ hst.o
     have fq:∀ j,wc.cell? ⟨S+1+1+1,j,none⟩=_:=fun j=>Su _ _ j _ 52 (0,0) hst.z
     have HR:=h_ (show CSt m1 B g G S id (#[SB .i64 xid,.int .i64 xev,.int .i64 xfrm,.int .i64 xtil,.string xau,.string xtx,.bool xdn,.bool xlo]) (#[SB .i64 yid,.int .i64 yev,.int .i64 yfrm,.int .i64 ytil,.string yau,.string ytx,.bool ydn,.bool ylo]) (#[SB .i64 zid,.int .i64 zev,.int .i64 zfrm,.int .i64 ztil,.string zau,.string ztx,.bool zdn,.bool zlo]) (#[SB .i64 zid,.int .i64 zev,.int .i64 zfrm,.int .i64 ztil,.string zau,.string ztx,.bool zdn,.bool zlo]) (m1.cls++jK id []) wr (wc.setRow (S+1+1+1+1) (#[SB .i64 zid,.int .i64 zev,.int .i64 zfrm,.int .i64 ztil,.string zau,.string ztx,.bool zdn,.bool zlo])) from by
      have:=hst.row km hS (#[SB .i64 zid,.int .i64 zev,.int .i64 zfrm,.int .i64 ztil,.string zau,.string ztx,.bool zdn,.bool zlo])
      simpa [jK] using this)
     clear hst aA eW ho
     refine Sx rfl ?_
     go_wp2_with (refine Sw rfl 52 (.tmp 21) (.tmp 100) rfl (S+1+1+1+1) (#[SB .i64 zid,.int .i64 zev,.int .i64 zfrm,.int .i64 ztil,.string zau,.string ztx,.bool zdn,.bool zlo]) rfl rfl 52 _ HB0.out pK rfl (one8 _ _ _ _ _ _ _ _) ?_)
     exact HE.out _ HR.out _ _ _ _ _ _ _ _ _ _ _ _ _ _ _ _ _ _ _ _ _ _ _ _ _ _ _ _ _ _ _ _ _ _ _ _ _ _ _ _ _ _ _ _ _ _ _ _ _ _ _ _ _ _ _ _ _ _ _ _ _ _ _ _ _ _ _ _ _ _ _ _ _ _ _ _ _ _ _ _ _ _ _ _ _ _ _ _ _ _ _ _ _ _ _ _ _ _ _ _ _ _ _ _ _ _ _ _ _ _ _ _ _ _ _ _ _ _ _ _ _ _ _ _ _ _ _ _ _ _ _ _ _ _ _ _ _ _ _
   | true =>
     cases D with
     | false =>
       have ho:o=some (y,[]):=HO.out
       clear HO htz
       obtain⟨xid,xev,xfrm,xtil,xau,xtx,xdn,xlo⟩:=x
       obtain⟨yid,yev,yfrm,ytil,yau,ytx,ydn,ylo⟩:=y
       obtain⟨zid,zev,zfrm,ztil,zau,ztx,zdn,zlo⟩:=z
       simp only [Cm.enc] at hst aA
       have HE:=h_ (aA.out ⟨yid,yev,yfrm,ytil,yau,ytx,ydn,ylo⟩ [] ho)
       have HB0:=h_ hst.o
       have fq:∀ j,wc.cell? ⟨S+1+1,j,none⟩=_:=fun j=>Su _ _ j _ 52 (0,0) hst.y
       have HR:=h_ (show CSt m1 B g G S id (#[SB .i64 xid,.int .i64 xev,.int .i64 xfrm,.int .i64 xtil,.string xau,.string xtx,.bool xdn,.bool xlo]) (#[SB .i64 yid,.int .i64 yev,.int .i64 yfrm,.int .i64 ytil,.string yau,.string ytx,.bool ydn,.bool ylo]) (#[SB .i64 zid,.int .i64 zev,.int .i64 zfrm,.int .i64 ztil,.string zau,.string ztx,.bool zdn,.bool zlo]) (#[SB .i64 yid,.int .i64 yev,.int .i64 yfrm,.int .i64 ytil,.string yau,.string ytx,.bool ydn,.bool ylo]) (m1.cls++jK id []) wr (wc.setRow (S+1+1+1+1) (#[SB .i64 yid,.int .i64 yev,.int .i64 yfrm,.int .i64 ytil,.string yau,.string ytx,.bool ydn,.bool ylo])) from by
        have:=hst.row km hS (#[SB .i64 yid,.int .i64 yev,.int .i64 yfrm,.int .i64 ytil,.string yau,.string ytx,.bool ydn,.bool ylo])
        simpa [jK] using this)
       clear hst aA eW ho
       refine Sx rfl ?_
       go_wp2_with (refine Sw rfl 52 (.tmp 21) (.tmp 96) rfl (S+1+1+1+1) (#[SB .i64 yid,.int .i64 yev,.int .i64 yfrm,.int .i64 ytil,.string yau,.string ytx,.bool ydn,.bool ylo]) rfl rfl 52 _ HB0.out pK rfl (one8 _ _ _ _ _ _ _ _) ?_)
       exact HE.out _ HR.out _ _ _ _ _ _ _ _ _ _ _ _ _ _ _ _ _ _ _ _ _ _ _ _ _ _ _ _ _ _ _ _ _ _ _ _ _ _ _ _ _ _ _ _ _ _ _ _ _ _ _ _ _ _ _ _ _ _ _ _ _ _ _ _ _ _ _ _ _ _ _ _ _ _ _ _ _ _ _ _ _ _ _ _ _ _ _ _ _ _ _ _ _ _ _ _ _ _ _ _ _ _ _ _ _ _ _ _ _ _ _ _ _ _ _ _ _ _ _ _ _ _ _ _ _ _ _ _ _ _ _ _ _ _ _ _ _ _ _
     | true =>
       have ho1:o=if AN=true then some (y,[]) else some ({ y with frm:=0,til:=0,lost:=true },[bK]):=by
        have:=HO.out
        rw [N2.out,←G5]
        exact this
       cases AN with
       | true =>
         have ho:o=some (y,[]):=ho1
         clear HO ho1 htz
         obtain⟨xid,xev,xfrm,xtil,xau,xtx,xdn,xlo⟩:=x
         obtain⟨yid,yev,yfrm,ytil,yau,ytx,ydn,ylo⟩:=y
         obtain⟨zid,zev,zfrm,ztil,zau,ztx,zdn,zlo⟩:=z
         simp only [Cm.enc] at hst aA
         have HE:=h_ (aA.out ⟨yid,yev,yfrm,ytil,yau,ytx,ydn,ylo⟩ [] ho)
         have HB0:=h_ hst.o
         have fq:∀ j,wc.cell? ⟨S+1+1,j,none⟩=_:=fun j=>Su _ _ j _ 52 (0,0) hst.y
         have HR:=h_ (show CSt m1 B g G S id (#[SB .i64 xid,.int .i64 xev,.int .i64 xfrm,.int .i64 xtil,.string xau,.string xtx,.bool xdn,.bool xlo]) (#[SB .i64 yid,.int .i64 yev,.int .i64 yfrm,.int .i64 ytil,.string yau,.string ytx,.bool ydn,.bool ylo]) (#[SB .i64 zid,.int .i64 zev,.int .i64 zfrm,.int .i64 ztil,.string zau,.string ztx,.bool zdn,.bool zlo]) (#[SB .i64 yid,.int .i64 yev,.int .i64 yfrm,.int .i64 ytil,.string yau,.string ytx,.bool ydn,.bool ylo]) (m1.cls++jK id []) wr (wc.setRow (S+1+1+1+1) (#[SB .i64 yid,.int .i64 yev,.int .i64 yfrm,.int .i64 ytil,.string yau,.string ytx,.bool ydn,.bool ylo])) from by
          have:=hst.row km hS (#[SB .i64 yid,.int .i64 yev,.int .i64 yfrm,.int .i64 ytil,.string yau,.string ytx,.bool ydn,.bool ylo])
          simpa [jK] using this)
         clear hst aA eW ho
         refine Sx rfl ?_
         go_wp2_with (refine Sw rfl 52 (.tmp 21) (.tmp 96) rfl (S+1+1+1+1) (#[SB .i64 yid,.int .i64 yev,.int .i64 yfrm,.int .i64 ytil,.string yau,.string ytx,.bool ydn,.bool ylo]) rfl rfl 52 _ HB0.out pK rfl (one8 _ _ _ _ _ _ _ _) ?_)
         exact HE.out _ HR.out _ _ _ _ _ _ _ _ _ _ _ _ _ _ _ _ _ _ _ _ _ _ _ _ _ _ _ _ _ _ _ _ _ _ _ _ _ _ _ _ _ _ _ _ _ _ _ _ _ _ _ _ _ _ _ _ _ _ _ _ _ _ _ _ _ _ _ _ _ _ _ _ _ _ _ _ _ _ _ _ _ _ _ _ _ _ _ _ _ _ _ _ _ _ _ _ _ _ _ _ _ _ _ _ _ _ _ _ _ _ _ _ _ _ _ _ _ _ _ _ _ _ _ _ _ _ _ _ _ _ _ _ _ _ _ _ _ _ _
       | false =>
         refine wp_cond_true rfl ?_
         refine Jx m1 B g G S id x y z wr wc km hS hB hl hst Q ?_
         intros
         exact aA.out _ _ ho1 _ (by assumption) _ _ _ _ _ _ _ _ _ _ _ _ _ _ _ _ _ _ _ _ _ _ _ _ _ _ _ _ _ _ _ _ _ _ _ _ _ _ _ _ _ _ _ _ _ _ _ _ _ _ _ _ _ _ _ _ _ _ _ _ _ _ _ _ _ _ _ _ _ _ _ _ _ _ _ _ _ _ _ _ _ _ _ _ _ _ _ _ _ _ _ _ _ _ _ _ _ _ _ _ _ _ _ _ _ _ _ _ _ _ _ _ _ _ _ _ _ _ _ _ _ _ _ _ _ _ _ _ _ _ _ _ _ _ _ _ _ _ _
def MW (K:Act→Sv→Prop)(X:Exit→Act→Sv→Prop)(F:List PanicEntry→List Deferred→Sv→Prop):Exit→Act→Sv→Prop
 | .normal,a,w=>K a w
 | .panic ch,a,w=>F ch a.defers w
 | e,a,w=>X e a w
theorem ED {P:Program} {s:Code} {a:Act} {w:Sv} {Q:Exit→Act→Sv→Prop} (hP:∀ ch a a' w,a'.defers=a.defers→Q (.panic ch) a w→Q (.panic ch) a' w)(h:s.wp P (MW (Q .normal) Q (fun ch d w=>∃ a,d=a.defers∧Q (.panic ch) a w)) a w):s.wp P Q a w:=by
 refine wp_mono h ?_
 intro e a' w' q
 cases e with
 | normal=>exact q
 | panic ch=>obtain⟨b,hd,hb⟩:=q;exact hP _ _ _ _ hd hb
 | exit id=>exact q
 | goto l=>exact q
 | ret=>exact q
 | outgrown=>exact q
theorem MU (mm:Mg)(B g G S:Nat)(c:Cm)(w0:Sv)(hat:mm.at_ B g w0)(hB:B≤w0.heap.size)(hG:w0.heap[G]? =some (.cells #[.pointer (some ⟨g,0,none⟩)] 140 (0,0)))(hO:w0.heap[S+1+1+1+1]? =some (.cells c.enc.toArray 52 (0,0)))(hl:mm.cM.length≤4000)(hn:¬ mm.mine g G)(hn2:¬ mm.mine g (S+1+1+1+1))(Q:Exit→Act→Sv→Prop)(hP:∀ ch a a' w,a'.defers=a.defers→Q (.panic ch) a w→Q (.panic ch) a' w) {s0 s1 s2 s3 s5 s6 s7 s8 s9 s10 s11 s12 s13 j6 s15 s16 fh lq jj s20 ir iq s24 gP gO gN gM gL gK gJ fV gI gH gG gF gE gD gA gx gw gv s43 s44 gu gq gp gl s49 gj gh gf s53 gd iu f_ gT gS im ik ij ig ie jD j2 iw j1 s68 kF fB jZ s72 jY jX jW jV jU jT jS jR jQ s82 s83 jP jO jN s87 jM jL jC jB jA jy jx jw jv ju jt js bF bY bX bW bV bU cq ck dW dV dU dT eK eJ eI eH eG eF eE eD eC eB eA ew eu et ep eo en ek ej ei eh bT bS bR ef bQ ee bP cj cg dS dR dQ dP dN dM dL dK dJ dI dH dF dE dD dC dB dA dz dy dx dw dv du dq dp dm dj di dh dg df de cZ cY cX cW cV cU cT cS cR cQ cP cO cd b_ b9 b8 cN cL cK cH cG cF cE cD cB cA cw cu bO bN bM ed oa n_ nW nV nU nT nS nR nQ nP nO mK:Sy}
 (hfin:∀ (Sg u206 Sf u208 Se u210 Sd Sc Sb Sa R_ R9:Sy) (cv':Sy) (wx:Sv),({ mm with cv:=cv',cM:=mm.cM++[c] }:Mg).at_ B g wx→Mg.step g mm { mm with cv:=cv',cM:=mm.cM++[c] } w0 wx→Q .normal { tmps:=#[s0,s1,s2,s3,.pointer (some ⟨G,0,none⟩),s5,s6,s7,s8,s9,s10,s11,s12,s13,j6,s15,s16,fh,lq,jj,s20,.pointer (some ⟨S+1+1+1+1,0,none⟩),ir,iq,s24,gP,gO,gN,gM,gL,gK,gJ,fV,gI,gH,gG,gF,gE,gD,gA,gx,gw,gv,s43,s44,gu,gq,gp,gl,s49,gj,gh,gf,s53,gd,iu,f_,gT,gS,im,ik,ij,ig,ie,jD,j2,iw,j1,s68,kF,fB,jZ,s72,jY,jX,jW,jV,jU,jT,jS,jR,jQ,s82,s83,jP,jO,jN,s87,jM,jL,jC,jB,jA,jy,jx,jw,jv,ju,jt,js,bF,bY,bX,bW,bV,bU,cq,ck,dW,dV,dU,dT,eK,eJ,eI,eH,eG,eF,eE,eD,eC,eB,eA,ew,eu,et,ep,eo,en,ek,ej,ei,eh,bT,bS,bR,ef,bQ,ee,bP,cj,cg,dS,dR,dQ,dP,dN,dM,dL,dK,dJ,dI,dH,dF,dE,dD,dC,dB,dA,dz,dy,dx,dw,dv,du,dq,dp,dm,dj,di,dh,dg,df,de,cZ,cY,cX,cW,cV,cU,cT,cS,cR,cQ,cP,cO,cd,b_,b9,b8,cN,cL,cK,cH,cG,cF,cE,cD,cB,cA,cw,cu,bO,bN,bM,Sg,u206,Sf,u208,Se,u210,Sd,Sc,Sb,Sa,R_,R9,mK],defers:=[] } wx) :
 Code.wp Sz ((mE 35 (SA.body.getD .skip)).getD .skip) Q { tmps:=#[s0,s1,s2,s3,.pointer (some ⟨G,0,none⟩),s5,s6,s7,s8,s9,s10,s11,s12,s13,j6,s15,s16,fh,lq,jj,s20,.pointer (some ⟨S+1+1+1+1,0,none⟩),ir,iq,s24,gP,gO,gN,gM,gL,gK,gJ,fV,gI,gH,gG,gF,gE,gD,gA,gx,gw,gv,s43,s44,gu,gq,gp,gl,s49,gj,gh,gf,s53,gd,iu,f_,gT,gS,im,ik,ij,ig,ie,jD,j2,iw,j1,s68,kF,fB,jZ,s72,jY,jX,jW,jV,jU,jT,jS,jR,jQ,s82,s83,jP,jO,jN,s87,jM,jL,jC,jB,jA,jy,jx,jw,jv,ju,jt,js,bF,bY,bX,bW,bV,bU,cq,ck,dW,dV,dU,dT,eK,eJ,eI,eH,eG,eF,eE,eD,eC,eB,eA,ew,eu,et,ep,eo,en,ek,ej,ei,eh,bT,bS,bR,ef,bQ,ee,bP,cj,cg,dS,dR,dQ,dP,dN,dM,dL,dK,dJ,dI,dH,dF,dE,dD,dC,dB,dA,dz,dy,dx,dw,dv,du,dq,dp,dm,dj,di,dh,dg,df,de,cZ,cY,cX,cW,cV,cU,cT,cS,cR,cQ,cP,cO,cd,b_,b9,b8,cN,cL,cK,cH,cG,cF,cE,cD,cB,cA,cw,cu,bO,bN,bM,ed,oa,n_,nW,nV,nU,nT,nS,nR,nQ,nP,nO,mK],defers:=[] } w0:=by
 have aA:=h_ hfin
 have tJ:=h_ hP
 have HAT:=h_ hat
 clear hfin hP
 obtain⟨i0,hi,hi0,hi1,hi2⟩:=info_parts Tryz.info52
 have II:=h_ hi;have I0:=h_ hi0;have I1:=h_ hi1;have I2:=h_ hi2
 clear hi hi0 hi1 hi2
 obtain⟨ka,kc,tE⟩:=hat.row7.slice
 have hgl:=hat.glt
 have hGl:=(SN.1 hG).1
 have hOl:=(SN.1 hO).1
 obtain⟨cid,cev,cfrm,ctil,cau,ctx,cdn,clo⟩:=c
 have HC8:=h_ (show mm.arr[7]? =some (.slice ka mm.cM.length kc) from tE▸rfl)
 have c7:w0.cell? ⟨g,7,none⟩=some (.slice ka mm.cM.length kc):=by
  rw [Su _ _ 7 mm.arr 142 (0,0) hat.cells];exact HC8.out
 have c7':∀ o,(w0.alloc o).cell? ⟨g,7,none⟩=some (.slice ka mm.cM.length kc):=fun o=>by
  rw [SC _ _ _ (by simpa using hgl)];exact c7
 have dG:∀ j,w0.cell? ⟨G,j,none⟩=_:=fun j=>Su _ _ j _ 140 (0,0) hG
 have dG':∀ o j,(w0.alloc o).cell? ⟨G,j,none⟩=_:=fun o j=>(SC _ _ _ (by simpa using hGl)).trans (dG j)
 have dO:∀ j,w0.cell? ⟨S+1+1+1+1,j,none⟩=_:=fun j=>Su _ _ j _ 52 (0,0) hO
 have dO':∀ o j,(w0.alloc o).cell? ⟨S+1+1+1+1,j,none⟩=_:=fun o j=>(SC _ _ _ (by simpa using hOl)).trans (dO j)
 have HDG:=h_ hG
 simp only [Cm.enc] at dO dO'
 have mixed:Sz.follows Departure.mixedOrders=true:=by kernel_rfl
 have kH:=h_ (fun(o:Obj)=>(show(w0.alloc o).drew.ownsRow B 52 8 (.slice ka mm.cM.length kc) mm.cM.length (mm.cM.flatMap Cm.enc) from tE▸hat.cM.alloc o))
 have HN:=h_ (wG w0 [SB .i64 cid,.int .i64 cev,.int .i64 cfrm,.int .i64 ctil,.string cau,.string ctx,.bool cdn,.bool clo] 52)
 have h63:=h_ (show mm.cM.length+1≤maxLen by unfold maxLen;omega)
 have Ag:=h_ (fun(o:Obj)=>(show B≤(w0.alloc o).drew.heap.size from by show B≤(w0.alloc o).heap.size;simp;omega))
 have HRW:=h_ (show lk 142 7 52 8 B g mm.arr (.slice ka mm.cM.length kc) mm.cM.length (mm.cM.flatMap Cm.enc) w0 from tE▸hat.row7)
 have Io:=h_ (fun(o:Obj) (v':Sy) (w2:Sv)=>mO (v':=v') (w2:=w2) (m:=mm.cM.length+1) (ys:=mm.cM.flatMap Cm.enc++[SB .i64 cid,.int .i64 cev,.int .i64 cfrm,.int .i64 ctil,.string cau,.string ctx,.bool cdn,.bool clo]) HRW.out (wH w0 o))
 have one8':=h_ (Cm.one (⟨cid,cev,cfrm,ctil,cau,ctx,cdn,clo⟩:Cm))
 simp only [Cm.enc] at one8'
 have HF:=h_ (fun(v':Sy) (w2:Sv) (ho:w2.ownsRow B 52 8 v' (mm.cM.length+1) (mm.cM.flatMap Cm.enc++[SB .i64 cid,.int .i64 cev,.int .i64 cfrm,.int .i64 ctil,.string cau,.string ctx,.bool cdn,.bool clo])) hg' hap hk hf=>(show ∃ cv',({ mm with cv:=cv',cM:=mm.cM++[(⟨cid,cev,cfrm,ctil,cau,ctx,cdn,clo⟩:Cm)] }:Mg).at_ B g (w2.setCell ⟨g,7,none⟩ v')∧Mg.step g mm { mm with cv:=cv',cM:=mm.cM++[(⟨cid,cev,cfrm,ctil,cau,ctx,cdn,clo⟩:Cm)] } w0 (w2.setCell ⟨g,7,none⟩ v') from hat.cm (tE▸mN (m:=(mm.cM++[(⟨cid,cev,cfrm,ctil,cau,ctx,cdn,clo⟩:Cm)]).length) (ys:=(mm.cM++[(⟨cid,cev,cfrm,ctil,cau,ctx,cdn,clo⟩:Cm)]).flatMap Cm.enc) HRW.out (by simpa [Cm.enc] using ho) hg' hap hk hf)))
 have HNG:=h_ (fun(w2:Sv) (hk:Kept (mOwn g (.slice ka mm.cM.length kc)) w0 w2)=>(hk.block G hGl (fun hm=>hn (by
  rcases hm with h|h
  · exact .inl h
  · exact .inr (.inr (.inr (.inl (tE▸h))))))).trans hG)
 clear hat hG hO tE hn hn2
 refine ED tJ.out ?_
 conv=>arg 2;whnf
 go_region_law_o (refine oM rfl (.tmp 210) (.tmp 212) 25 rfl B 52 i0 _ 8 72 Tryz.underlying25 II.out I0.out I1.out I2.out rfl (by decide) (.slice ka mm.cM.length kc) mm.cM.length (mm.cM.flatMap Cm.enc) (by rfl) (kH.out _) ⟨w0.heap.size,0,none⟩ 1 1 [SB .i64 cid,.int .i64 cev,.int .i64 cfrm,.int .i64 ctil,.string cau,.string ctx,.bool cdn,.bool clo] (by rfl) rfl HN.out one8'.out h63.out (by omega) (Ag.out _) ?_;intro v' w2 hown2 hgrow2 lg;obtain⟨hv',hgc,hap,hkp,hfr⟩:=Io.out _ _ _ hown2 hgrow2 lg;obtain⟨va,vc,rfl⟩:=hv';have c7n:w2.cell? ⟨g,7,none⟩=some (.slice ka mm.cM.length kc):=(Su _ _ 7 mm.arr 142 (0,0) hgc).trans HC8.out;have z7n:w2.frozen? ⟨g,7,none⟩=false:=(by simp [SD,hgc]);have dGn:∀ j,w2.cell? ⟨G,j,none⟩=_:=(fun j=>Su _ _ j _ 140 (0,0) (HNG.out w2 hkp));have Cp:=h_ hown2;have N0:=h_ hgc;have Im:=h_ hap;have JW:=h_ hkp;have tK:=h_ hfr;clear hown2 hgrow2 lg hgc hap hkp hfr)
 all_goals
  obtain⟨cv',q1,q2⟩:=HF.out _ _ Cp.out N0.out Im.out JW.out tK.out
  exact aA.out _ _ _ _ _ _ _ _ _ _ _ _ cv' _ q1 q2
end Go.Proofs.YtnlnmbcaongehaaGreatDoor
