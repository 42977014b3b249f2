/- merge.Merge: the finders of the three documents, in boxes. Documents in order, as a merge wants them: their comments' places and where their events lie. What a merge gives fits: the header, the regions, the comments. -/
import Derived.Test.YtnlnmbcaongehaaGreatDoorN17
import Derived.Test.YtnlnmbcaongehaaGreatDoorN21
set_option linter.unusedVariables false
set_option linter.unusedSimpArgs false
set_option maxRecDepth 100000
set_option maxHeartbeats 12800000
open Go.Lib renaming hid→h_
open Go renaming heap_alloc_last→Su,World→Sv,wpAnyH_ready→Sw,heap_setCell_same→Sx,Value→Sy,wp_store_row→Sz,below_setRow→SA,setRow_heap→SB,cell_of_row→SC
open Go.RowKit renaming Below→SD
open Array renaming getElem?_eq_some_iff→SE
open Nat renaming le_trans→SF,le_refl→SG
open Go.Proofs.Tryz renaming prog→SH
open Go.Value renaming string→SI,oneCell'→SJ
open Go.AllReadyH renaming cons→SK,nil→SL
open List renaming length_cons→SM,mem_of_find?_eq_some→SN,length_append→SO,flatMap_cons→SQ,mem_flatMap→SR
open Option.some renaming inj→SS
namespace Go.Proofs.YtnlnmbcaongehaaGreatDoor
open Go.RowKit
def Fd (d:Doc)(w7:Sv)(u v:Nat)(w':Sv):Prop:=VMap w' u d.eV.length (bA d.eV)∧VMap w' v d.cM.length (bp d.cM)∧w7.heap.size≤u∧w7.heap.size≤v
def Bx (w7:Sv)(p:Nat)(w':Sv):Prop:=w7.heap.size≤p∧w'.heap[p]? =some (.cells #[.map none,.map none] 148 (0,0))
theorem Fd.later {d:Doc} {w7 w' w2:Sv} {u v:Nat} (h:Fd d w7 u v w')(hb:SD w'.heap.size w' w2):Fd d w7 u v w2:=⟨h.1.below hb h.1.lt,h.2.1.below hb h.2.1.lt,h.2.2⟩
theorem Bx.later {w7 w' w2:Sv} {p:Nat} (h:Bx w7 p w')(hb:SD w'.heap.size w' w2):Bx w7 p w2:=⟨h.1,(hb.block _ (SE.1 h.2).1).trans h.2⟩
theorem Bx.ne {w7 w':Sv} {p:Nat} (h:Bx w7 p w'):p≠w'.heap.size:=Nat.ne_of_lt (SE.1 h.2).1
theorem bD (w:Sv)(p b:Nat)(cs:Array Sy)(hb:b≠p):(w.setRow p cs).heap[b]? =w.heap[b]?:=by
 unfold Sv.setRow
 show(w.heap.modify _ _)[b]? =w.heap[b]?
 rw [Array.getElem?_modify,if_neg (fun e=>hb e.symm)]
theorem Bx.row {w7 w':Sv} {p k:Nat} (h:Bx w7 p w')(hn:k≠p)(cs:Array Sy):Bx w7 p (w'.setRow k cs):=⟨h.1,(bD _ _ _ _ (fun e=>hn e.symm)).trans h.2⟩
theorem VMap.off {w':Sv} {b n p:Nat} {f:Int→Option Sy} {cs:Array Sy} {t:TypeId} {fr:Nat × Nat} (h:VMap w' b n f)(hp:w'.heap[p]? =some (.cells cs t fr)):b≠p:=by
 obtain⟨D,hD,_⟩:=h
 rintro rfl
 obtain⟨es,clock,h1,_⟩:=hD
 rw [h1] at hp
 cases hp
theorem Fd.row {d:Doc} {w7 w':Sv} {u v p:Nat} {cs:Array Sy} {t:TypeId} {fr:Nat × Nat} (h:Fd d w7 u v w')(hp:w'.heap[p]? =some (.cells cs t fr))(cs':Array Sy):Fd d w7 u v (w'.setRow p cs') :=
 ⟨h.1.kept (bD _ _ _ _ (h.1.off hp)),h.2.1.kept (bD _ _ _ _ (h.2.1.off hp)),h.2.2⟩
theorem aw {w w':Sv} (h:SD w.heap.size w w'):SD w.heap.size w (w'.alloc (.cells #[.map none,.map none] 148))∧SD w'.heap.size w' (w'.alloc (.cells #[.map none,.map none] 148)):=⟨h.alloc h.size _,(SD.refl _ _).alloc (SG _) _⟩
theorem wh:(SH.info? 148).map (·.size)=some 2:=by kernel_rfl
theorem one2 (a b:Nat):(#[Sy.map (some a),.map (some b)].all (·.oneCell'))=true:=by simp [SJ]
theorem IQ (x y z:Doc)(b1 b2 b3:Nat)(w7:Sv)(h1:w7.heap[b1]? =some (.cells x.enc.toArray 27 (0,0)))(h2:w7.heap[b2]? =some (.cells y.enc.toArray 27 (0,0)))(h3:w7.heap[b3]? =some (.cells z.enc.toArray 27 (0,0)))
 (c1:∀ w',SD w7.heap.size w7 w'→Calls SH 79 #[.agg x.enc.toArray] w' (iP x w')) (c2:∀ w',SD w7.heap.size w7 w'→Calls SH 79 #[.agg y.enc.toArray] w' (iP y w')) (c3:∀ w',SD w7.heap.size w7 w'→Calls SH 79 #[.agg z.enc.toArray] w' (iP z w'))
 (Q:Exit→Act→Sv→Prop) (hP:∀ ch a a' w,a'.defers=a.defers→Q (.panic ch) a w→Q (.panic ch) a' w) (s0 s1 s2 s6 s7 s8 s9 s10 s11 s12 s13 j6 s15 s16 fh lq jj s20 kG ir iq s24 gP gO gN gM gL gK gJ fV gI gH gG gF gE gD gA gx gw gv s43 s44 gu gq gp gl s49 gj gh gf s53 gd iu f_ gT gS im ik ij ig ie jD j2 iw j1 s68 kF fB jZ s72 jY jX jW jV jU jT jS jR jQ s82 s83 jP jO jN s87 jM jL jC jB jA jy jx jw jv ju jt js bF:Sy)
 (hfin:∀ (NI u66 NH u68 u69 u70:Sy) (p6 p7 p8 u1 v1 u2 v2 u3 v3:Nat) (wx:Sv),wx.heap[p6]? =some (.cells #[.map (some u1),.map (some v1)] 148 (0,0))→wx.heap[p7]? =some (.cells #[.map (some u2),.map (some v2)] 148 (0,0))→wx.heap[p8]? =some (.cells #[.map (some u3),.map (some v3)] 148 (0,0))→(w7.heap.size≤p6∧w7.heap.size≤p7∧w7.heap.size≤p8)→Fd x w7 u1 v1 wx→Fd y w7 u2 v2 wx→Fd z w7 u3 v3 wx→SD w7.heap.size w7 wx→Q .normal { tmps:=#[s0,s1,s2,.pointer (some ⟨b1,0,none⟩),.pointer (some ⟨b2,0,none⟩),.pointer (some ⟨b3,0,none⟩),s6,s7,s8,s9,s10,s11,s12,s13,j6,.pointer (some ⟨p6,0,none⟩),.pointer (some ⟨p7,0,none⟩),.pointer (some ⟨p8,0,none⟩),lq,jj,s20,kG,ir,iq,s24,gP,gO,gN,gM,gL,gK,gJ,fV,gI,gH,gG,gF,gE,gD,gA,gx,gw,gv,s43,s44,gu,gq,gp,gl,s49,gj,gh,gf,s53,gd,iu,f_,gT,gS,im,ik,ij,ig,ie,jD,NI,u66,NH,u68,u69,u70,jZ,s72,jY,jX,jW,jV,jU,jT,jS,jR,jQ,s82,s83,jP,jO,jN,s87,jM,jL,jC,jB,jA,jy,jx,jw,jv,ju,jt,js,bF],defers:=[] } wx) :
 Code.wp SH ((mE 14 (Tryz.f26.body.getD .skip)).getD .skip) Q { tmps:=#[s0,s1,s2,.pointer (some ⟨b1,0,none⟩),.pointer (some ⟨b2,0,none⟩),.pointer (some ⟨b3,0,none⟩),s6,s7,s8,s9,s10,s11,s12,s13,j6,s15,s16,fh,lq,jj,s20,kG,ir,iq,s24,gP,gO,gN,gM,gL,gK,gJ,fV,gI,gH,gG,gF,gE,gD,gA,gx,gw,gv,s43,s44,gu,gq,gp,gl,s49,gj,gh,gf,s53,gd,iu,f_,gT,gS,im,ik,ij,ig,ie,jD,j2,iw,j1,s68,kF,fB,jZ,s72,jY,jX,jW,jV,jU,jT,jS,jR,jQ,s82,s83,jP,jO,jN,s87,jM,jL,jC,jB,jA,jy,jx,jw,jv,ju,jt,js,bF],defers:=[] } w7:=by
 have aA:=h_ hfin
 have HP:=h_ hP
 have fD:=h_ c1
 have ji:=h_ c2
 have qk:=h_ c3
 unfold iP at fD ji qk
 have k1:∀ w',SD w7.heap.size w7 w'→∀ j,w'.cell? ⟨b1,j,none⟩=_:=fun w' q j=>SC _ _ j _ 27 (0,0) ((q.block _ (SE.1 h1).1).trans h1)
 have k2:∀ w',SD w7.heap.size w7 w'→∀ j,w'.cell? ⟨b2,j,none⟩=_:=fun w' q j=>SC _ _ j _ 27 (0,0) ((q.block _ (SE.1 h2).1).trans h2)
 have k3:∀ w',SD w7.heap.size w7 w'→∀ j,w'.cell? ⟨b3,j,none⟩=_:=fun w' q j=>SC _ _ j _ 27 (0,0) ((q.block _ (SE.1 h3).1).trans h3)
 have HT:=h_ (fun(w2 w3:Sv) (q:SD w7.heap.size w7 w2) (q3:SD w2.heap.size w2 w3)=>(q.trans (q3.mono q.size):SD w7.heap.size w7 w3))
 have hd0:SD w7.heap.size w7 w7.drew:=(SD.refl _ _).drew
 clear hfin hP c1 c2 c3 h1 h2 h3
 obtain⟨xt,xl,xr,xd,xla,xra,xrc,xregs,xea,xec,xevs,xca,xcc,xcms⟩:=x
 obtain⟨yt,yl,yr,yd,yla,yra,yrc,yregs,yea,yec,yevs,yca,ycc,ycms⟩:=y
 obtain⟨zt,zl,zr,zd,zla,zra,zrc,zregs,zea,zec,zevs,zca,zcc,zcms⟩:=z
 simp only [Doc.enc] at *
 conv=>arg 2;whnf
 refine wp_region_held_drew (S:=fun w'=>SD w7.heap.size w7 w') (by kernel_rfl) hd0 (fun _=>?_)
 try simp only [Act.put,List.getElem_toArray,List.getElem_cons_zero,List.getElem_cons_succ,List.setIfInBounds_toArray,List.set_cons_zero,List.set_cons_succ,Array.toArray_toList]
 refine ab HP.out 0 (.agg (#[SI xt,.string xl,.int .u8 xr,.bool xd,.int .i64 xla,.slice xra xregs.length xrc,.slice xea xevs.length xec,.slice xca xcms.length xcc])) hd0 ?_ (hy:=.inl ⟨by rfl,fun w_ rB=>by have q_:=k1 _ rB;go_simp⟩)
 refine ab HP.out 2 (.agg (#[SI yt,.string yl,.int .u8 yr,.bool yd,.int .i64 yla,.slice yra yregs.length yrc,.slice yea yevs.length yec,.slice yca ycms.length ycc])) hd0 ?_ (hy:=.inl ⟨by rfl,fun w_ rB=>by have q_:=k2 _ rB;go_simp⟩)
 refine ab HP.out 4 (.agg (#[SI zt,.string zl,.int .u8 zr,.bool zd,.int .i64 zla,.slice zra zregs.length zrc,.slice zea zevs.length zec,.slice zca zcms.length zcc])) hd0 ?_ (hy:=.inl ⟨by rfl,fun w_ rB=>by have q_:=k3 _ rB;go_simp⟩)
 generalize hG:wpAnyH SH _ _ _ _=G
 let FX:=Fd ⟨xt,xl,xr,xd,xla,xra,xrc,xregs,xea,xec,xevs,xca,xcc,xcms⟩ w7
 let FY:=Fd ⟨yt,yl,yr,yd,yla,yra,yrc,yregs,yea,yec,yevs,yca,ycc,ycms⟩ w7
 let FZ:=Fd ⟨zt,zl,zr,zd,zla,zra,zrc,zregs,zea,zec,zevs,zca,zcc,zcms⟩ w7
 let BX:=Bx w7
 let FR:Sy→Sy→Sy→Sy→Sy→Sy→Act:=fun a15 a16 a17 a66 a68 a70=>{ tmps:=#[s0,s1,s2,.pointer (some ⟨b1,0,none⟩),.pointer (some ⟨b2,0,none⟩),.pointer (some ⟨b3,0,none⟩),s6,s7,s8,s9,s10,s11,s12,s13,j6,a15,a16,a17,lq,jj,s20,kG,ir,iq,s24,gP,gO,gN,gM,gL,gK,gJ,fV,gI,gH,gG,gF,gE,gD,gA,gx,gw,gv,s43,s44,gu,gq,gp,gl,s49,gj,gh,gf,s53,gd,iu,f_,gT,gS,im,ik,ij,ig,ie,jD,.agg (#[SI xt,.string xl,.int .u8 xr,.bool xd,.int .i64 xla,.slice xra xregs.length xrc,.slice xea xevs.length xec,.slice xca xcms.length xcc]),a66,.agg (#[SI yt,.string yl,.int .u8 yr,.bool yd,.int .i64 yla,.slice yra yregs.length yrc,.slice yea yevs.length yec,.slice yca ycms.length ycc]),a68,.agg (#[SI zt,.string zl,.int .u8 zr,.bool zd,.int .i64 zla,.slice zra zregs.length zrc,.slice zea zevs.length zec,.slice zca zcms.length zcc]),a70,jZ,s72,jY,jX,jW,jV,jU,jT,jS,jR,jQ,s82,s83,jP,jO,jN,s87,jM,jL,jC,jB,jA,jy,jx,jw,jv,ju,jt,js,bF],defers:=[] }
 clear k1 k2 k3
 have xG:=h_ (show ∀ (w':Sv) (u1 v1 u2 v2 u3 v3 p6 p7 p8:Nat),SD w7.heap.size w7 w'→FX u1 v1 w'→FY u2 v2 w'→FZ u3 v3 w'→BX p6 w'→BX p7 w'→BX p8 w'→p6≠p7→p6≠p8→p7≠p8→G 3 #[true,true,true,true,true,true,true,true,true,false,false,false] (FR (.pointer (some ⟨p6,0,none⟩)) (.pointer (some ⟨p7,0,none⟩)) (.pointer (some ⟨p8,0,none⟩)) (.agg #[.map (some u1),.map (some v1)]) (.agg #[.map (some u2),.map (some v2)]) (.agg #[.map (some u3),.map (some v3)])) w' from by
  intro w' u1 v1 u2 v2 u3 v3 p6 p7 p8 hS f0 f1 f2 f3 f4 f5 f6 f7 f8
  rw [←hG]
  simp only [FR]
  refine aq 9 (fun K hK=>?_)
  rw [if_pos (by rfl)]
  refine Sz 148 (.tmp 15) (.tmp 66) rfl p6 #[.map (some u1),.map (some v1)] rfl rfl 148 _ f3.2 wh rfl (one2 _ _) ?_
  have hS0:=SA hS f3.1 #[.map (some u1),.map (some v1)]
  have g01:FX u1 v1 (w'.setRow p6 #[.map (some u1),.map (some v1)]):=Fd.row f0 f3.2 _
  have g02:FY u2 v2 (w'.setRow p6 #[.map (some u1),.map (some v1)]):=Fd.row f1 f3.2 _
  have g03:FZ u3 v3 (w'.setRow p6 #[.map (some u1),.map (some v1)]):=Fd.row f2 f3.2 _
  have x07:BX p7 (w'.setRow p6 #[.map (some u1),.map (some v1)]):=Bx.row f4 (fun e=>f6 e) _
  have x08:BX p8 (w'.setRow p6 #[.map (some u1),.map (some v1)]):=Bx.row f5 (fun e=>f7 e) _
  have y06:(w'.setRow p6 #[.map (some u1),.map (some v1)]).heap[p6]? =some (.cells #[.map (some u1),.map (some v1)] 148 (0,0)):=SB _ _ _ _ _ _ f3.2
  refine goOn hK hS0 ?_
  clear hK
  refine aq 10 (fun K hK=>?_)
  rw [if_pos (by rfl)]
  refine Sz 148 (.tmp 16) (.tmp 68) rfl p7 #[.map (some u2),.map (some v2)] rfl rfl 148 _ x07.2 wh rfl (one2 _ _) ?_
  have hS1:=SA hS0 x07.1 #[.map (some u2),.map (some v2)]
  have g11:FX u1 v1 ((w'.setRow p6 #[.map (some u1),.map (some v1)]).setRow p7 #[.map (some u2),.map (some v2)]):=Fd.row g01 x07.2 _
  have g12:FY u2 v2 ((w'.setRow p6 #[.map (some u1),.map (some v1)]).setRow p7 #[.map (some u2),.map (some v2)]):=Fd.row g02 x07.2 _
  have g13:FZ u3 v3 ((w'.setRow p6 #[.map (some u1),.map (some v1)]).setRow p7 #[.map (some u2),.map (some v2)]):=Fd.row g03 x07.2 _
  have x18:BX p8 ((w'.setRow p6 #[.map (some u1),.map (some v1)]).setRow p7 #[.map (some u2),.map (some v2)]):=Bx.row x08 (fun e=>f8 e) _
  have y16:((w'.setRow p6 #[.map (some u1),.map (some v1)]).setRow p7 #[.map (some u2),.map (some v2)]).heap[p6]? =some (.cells #[.map (some u1),.map (some v1)] 148 (0,0)):=(bD _ _ _ _ f6).trans y06
  have y17:((w'.setRow p6 #[.map (some u1),.map (some v1)]).setRow p7 #[.map (some u2),.map (some v2)]).heap[p7]? =some (.cells #[.map (some u2),.map (some v2)] 148 (0,0)):=SB _ _ _ _ _ _ x07.2
  refine goOn hK hS1 ?_
  clear hK
  refine aq 11 (fun K hK=>?_)
  rw [if_pos (by rfl)]
  refine Sz 148 (.tmp 17) (.tmp 70) rfl p8 #[.map (some u3),.map (some v3)] rfl rfl 148 _ x18.2 wh rfl (one2 _ _) ?_
  have hS2:=SA hS1 x18.1 #[.map (some u3),.map (some v3)]
  have g21:FX u1 v1 (((w'.setRow p6 #[.map (some u1),.map (some v1)]).setRow p7 #[.map (some u2),.map (some v2)]).setRow p8 #[.map (some u3),.map (some v3)]):=Fd.row g11 x18.2 _
  have g22:FY u2 v2 (((w'.setRow p6 #[.map (some u1),.map (some v1)]).setRow p7 #[.map (some u2),.map (some v2)]).setRow p8 #[.map (some u3),.map (some v3)]):=Fd.row g12 x18.2 _
  have g23:FZ u3 v3 (((w'.setRow p6 #[.map (some u1),.map (some v1)]).setRow p7 #[.map (some u2),.map (some v2)]).setRow p8 #[.map (some u3),.map (some v3)]):=Fd.row g13 x18.2 _
  have y26:(((w'.setRow p6 #[.map (some u1),.map (some v1)]).setRow p7 #[.map (some u2),.map (some v2)]).setRow p8 #[.map (some u3),.map (some v3)]).heap[p6]? =some (.cells #[.map (some u1),.map (some v1)] 148 (0,0)):=(bD _ _ _ _ f7).trans y16
  have y27:(((w'.setRow p6 #[.map (some u1),.map (some v1)]).setRow p7 #[.map (some u2),.map (some v2)]).setRow p8 #[.map (some u3),.map (some v3)]).heap[p7]? =some (.cells #[.map (some u2),.map (some v2)] 148 (0,0)):=(bD _ _ _ _ f8).trans y17
  have y28:(((w'.setRow p6 #[.map (some u1),.map (some v1)]).setRow p7 #[.map (some u2),.map (some v2)]).setRow p8 #[.map (some u3),.map (some v3)]).heap[p8]? =some (.cells #[.map (some u3),.map (some v3)] 148 (0,0)):=SB _ _ _ _ _ _ x18.2
  refine goOn hK hS2 ?_
  clear hK
  refine wpAnyH_done (by kernel_rfl) ?_ _
  exact aA.out _ _ _ _ _ _ _ _ _ _ _ _ _ _ _ _ y26 y27 y28 ⟨f3.1,f4.1,f5.1⟩ g21 g22 g23 hS2)
 have Ht:=h_ (show ∀ (w':Sv) (u1 v1 u2 v2 u3 v3 p6 p7:Nat),SD w7.heap.size w7 w'→FX u1 v1 w'→FY u2 v2 w'→FZ u3 v3 w'→BX p6 w'→BX p7 w'→p6≠p7→G 4 #[true,true,true,true,true,true,true,true,false,false,false,false] (FR (.pointer (some ⟨p6,0,none⟩)) (.pointer (some ⟨p7,0,none⟩)) fh (.agg #[.map (some u1),.map (some v1)]) (.agg #[.map (some u2),.map (some v2)]) (.agg #[.map (some u3),.map (some v3)])) w' from by
  intro w' u1 v1 u2 v2 u3 v3 p6 p7 hS f0 f1 f2 f3 f4 f5
  rw [←hG]
  simp only [FR]
  refine aq 8 (fun K hK=>?_)
  · go_simp
    obtain⟨hal,hbe⟩:=aw hS
    refine hK.out _ _ hal (fun _=>?_)
    rw [hG]
    exact xG.out _ _ _ _ _ _ _ _ _ _ hal (Fd.later f0 hbe) (Fd.later f1 hbe) (Fd.later f2 hbe) (Bx.later f3 hbe) (Bx.later f4 hbe) ⟨hS.size,Su w' _⟩ f5 (Bx.ne f3) (Bx.ne f4))
 have Hs:=h_ (show ∀ (w':Sv) (u1 v1 u2 v2 u3 v3 p6 p8:Nat),SD w7.heap.size w7 w'→FX u1 v1 w'→FY u2 v2 w'→FZ u3 v3 w'→BX p6 w'→BX p8 w'→p6≠p8→G 4 #[true,true,true,true,true,true,true,false,true,false,false,false] (FR (.pointer (some ⟨p6,0,none⟩)) s16 (.pointer (some ⟨p8,0,none⟩)) (.agg #[.map (some u1),.map (some v1)]) (.agg #[.map (some u2),.map (some v2)]) (.agg #[.map (some u3),.map (some v3)])) w' from by
  intro w' u1 v1 u2 v2 u3 v3 p6 p8 hS f0 f1 f2 f3 f4 f5
  rw [←hG]
  simp only [FR]
  refine aq 7 (fun K hK=>?_)
  · go_simp
    obtain⟨hal,hbe⟩:=aw hS
    refine hK.out _ _ hal (fun _=>?_)
    rw [hG]
    exact xG.out _ _ _ _ _ _ _ _ _ _ hal (Fd.later f0 hbe) (Fd.later f1 hbe) (Fd.later f2 hbe) (Bx.later f3 hbe) ⟨hS.size,Su w' _⟩ (Bx.later f4 hbe) (Bx.ne f3) f5 (fun e=>Bx.ne f4 e.symm))
 have Hr:=h_ (show ∀ (w':Sv) (u1 v1 u2 v2 u3 v3 p7 p8:Nat),SD w7.heap.size w7 w'→FX u1 v1 w'→FY u2 v2 w'→FZ u3 v3 w'→BX p7 w'→BX p8 w'→p7≠p8→G 4 #[true,true,true,true,true,true,false,true,true,false,false,false] (FR s15 (.pointer (some ⟨p7,0,none⟩)) (.pointer (some ⟨p8,0,none⟩)) (.agg #[.map (some u1),.map (some v1)]) (.agg #[.map (some u2),.map (some v2)]) (.agg #[.map (some u3),.map (some v3)])) w' from by
  intro w' u1 v1 u2 v2 u3 v3 p7 p8 hS f0 f1 f2 f3 f4 f5
  rw [←hG]
  simp only [FR]
  refine aq 6 (fun K hK=>?_)
  · go_simp
    obtain⟨hal,hbe⟩:=aw hS
    refine hK.out _ _ hal (fun _=>?_)
    rw [hG]
    exact xG.out _ _ _ _ _ _ _ _ _ _ hal (Fd.later f0 hbe) (Fd.later f1 hbe) (Fd.later f2 hbe) ⟨hS.size,Su w' _⟩ (Bx.later f3 hbe) (Bx.later f4 hbe) (fun e=>Bx.ne f3 e.symm) (fun e=>Bx.ne f4 e.symm) f5)
 have QP:=h_ (show ∀ (w':Sv) (u1 v1 u2 v2 u3 v3 p6:Nat),SD w7.heap.size w7 w'→FX u1 v1 w'→FY u2 v2 w'→FZ u3 v3 w'→BX p6 w'→G 5 #[true,true,true,true,true,true,true,false,false,false,false,false] (FR (.pointer (some ⟨p6,0,none⟩)) s16 fh (.agg #[.map (some u1),.map (some v1)]) (.agg #[.map (some u2),.map (some v2)]) (.agg #[.map (some u3),.map (some v3)])) w' from by
  intro w' u1 v1 u2 v2 u3 v3 p6 hS f0 f1 f2 f3
  rw [←hG]
  simp only [FR]
  refine eZ 7 8 (fun K hK=>?_) (fun K hK=>?_)
  · go_simp
    obtain⟨hal,hbe⟩:=aw hS
    refine hK.out _ _ hal (fun _=>?_)
    rw [hG]
    exact Ht.out _ _ _ _ _ _ _ _ _ hal (Fd.later f0 hbe) (Fd.later f1 hbe) (Fd.later f2 hbe) (Bx.later f3 hbe) ⟨hS.size,Su w' _⟩ (Bx.ne f3)
  · go_simp
    obtain⟨hal,hbe⟩:=aw hS
    refine hK.out _ _ hal (fun _=>?_)
    rw [hG]
    exact Hs.out _ _ _ _ _ _ _ _ _ hal (Fd.later f0 hbe) (Fd.later f1 hbe) (Fd.later f2 hbe) (Bx.later f3 hbe) ⟨hS.size,Su w' _⟩ (Bx.ne f3))
 have QO:=h_ (show ∀ (w':Sv) (u1 v1 u2 v2 u3 v3 p7:Nat),SD w7.heap.size w7 w'→FX u1 v1 w'→FY u2 v2 w'→FZ u3 v3 w'→BX p7 w'→G 5 #[true,true,true,true,true,true,false,true,false,false,false,false] (FR s15 (.pointer (some ⟨p7,0,none⟩)) fh (.agg #[.map (some u1),.map (some v1)]) (.agg #[.map (some u2),.map (some v2)]) (.agg #[.map (some u3),.map (some v3)])) w' from by
  intro w' u1 v1 u2 v2 u3 v3 p7 hS f0 f1 f2 f3
  rw [←hG]
  simp only [FR]
  refine eZ 6 8 (fun K hK=>?_) (fun K hK=>?_)
  · go_simp
    obtain⟨hal,hbe⟩:=aw hS
    refine hK.out _ _ hal (fun _=>?_)
    rw [hG]
    exact Ht.out _ _ _ _ _ _ _ _ _ hal (Fd.later f0 hbe) (Fd.later f1 hbe) (Fd.later f2 hbe) ⟨hS.size,Su w' _⟩ (Bx.later f3 hbe) (fun e=>Bx.ne f3 e.symm)
  · go_simp
    obtain⟨hal,hbe⟩:=aw hS
    refine hK.out _ _ hal (fun _=>?_)
    rw [hG]
    exact Hr.out _ _ _ _ _ _ _ _ _ hal (Fd.later f0 hbe) (Fd.later f1 hbe) (Fd.later f2 hbe) (Bx.later f3 hbe) ⟨hS.size,Su w' _⟩ (Bx.ne f3))
 have QN:=h_ (show ∀ (w':Sv) (u1 v1 u2 v2 u3 v3 p8:Nat),SD w7.heap.size w7 w'→FX u1 v1 w'→FY u2 v2 w'→FZ u3 v3 w'→BX p8 w'→G 5 #[true,true,true,true,true,true,false,false,true,false,false,false] (FR s15 s16 (.pointer (some ⟨p8,0,none⟩)) (.agg #[.map (some u1),.map (some v1)]) (.agg #[.map (some u2),.map (some v2)]) (.agg #[.map (some u3),.map (some v3)])) w' from by
  intro w' u1 v1 u2 v2 u3 v3 p8 hS f0 f1 f2 f3
  rw [←hG]
  simp only [FR]
  refine eZ 6 7 (fun K hK=>?_) (fun K hK=>?_)
  · go_simp
    obtain⟨hal,hbe⟩:=aw hS
    refine hK.out _ _ hal (fun _=>?_)
    rw [hG]
    exact Hs.out _ _ _ _ _ _ _ _ _ hal (Fd.later f0 hbe) (Fd.later f1 hbe) (Fd.later f2 hbe) ⟨hS.size,Su w' _⟩ (Bx.later f3 hbe) (fun e=>Bx.ne f3 e.symm)
  · go_simp
    obtain⟨hal,hbe⟩:=aw hS
    refine hK.out _ _ hal (fun _=>?_)
    rw [hG]
    exact Hr.out _ _ _ _ _ _ _ _ _ hal (Fd.later f0 hbe) (Fd.later f1 hbe) (Fd.later f2 hbe) ⟨hS.size,Su w' _⟩ (Bx.later f3 hbe) (fun e=>Bx.ne f3 e.symm))
 have H3_:=h_ (show ∀ (w':Sv) (u1 v1 u2 v2 u3 v3:Nat),SD w7.heap.size w7 w'→FX u1 v1 w'→FY u2 v2 w'→FZ u3 v3 w'→G 6 #[true,true,true,true,true,true,false,false,false,false,false,false] (FR s15 s16 fh (.agg #[.map (some u1),.map (some v1)]) (.agg #[.map (some u2),.map (some v2)]) (.agg #[.map (some u3),.map (some v3)])) w' from by
  intro w' u1 v1 u2 v2 u3 v3 hS f0 f1 f2
  rw [←hG]
  simp only [FR]
  refine Sw (rs:=[6,7,8]) (by kernel_rfl) (by simp) ?_
  refine SK rfl (fun K hK=>?_) (SK rfl (fun K hK=>?_) (SK rfl (fun K hK=>?_) SL))
  · go_simp
    obtain⟨hal,hbe⟩:=aw hS
    refine hK.out _ _ hal (fun _=>?_)
    rw [hG]
    exact QP.out _ _ _ _ _ _ _ _ hal (Fd.later f0 hbe) (Fd.later f1 hbe) (Fd.later f2 hbe) ⟨hS.size,Su w' _⟩
  · go_simp
    obtain⟨hal,hbe⟩:=aw hS
    refine hK.out _ _ hal (fun _=>?_)
    rw [hG]
    exact QO.out _ _ _ _ _ _ _ _ hal (Fd.later f0 hbe) (Fd.later f1 hbe) (Fd.later f2 hbe) ⟨hS.size,Su w' _⟩
  · go_simp
    obtain⟨hal,hbe⟩:=aw hS
    refine hK.out _ _ hal (fun _=>?_)
    rw [hG]
    exact QN.out _ _ _ _ _ _ _ _ hal (Fd.later f0 hbe) (Fd.later f1 hbe) (Fd.later f2 hbe) ⟨hS.size,Su w' _⟩)
 have xH:=h_ (show ∀ (w':Sv) (u1 v1 u2 v2 p6 p7 p8:Nat),SD w7.heap.size w7 w'→FX u1 v1 w'→FY u2 v2 w'→BX p6 w'→BX p7 w'→BX p8 w'→p6≠p7→p6≠p8→p7≠p8→G 4 #[true,true,true,true,true,false,true,true,true,false,false,false] (FR (.pointer (some ⟨p6,0,none⟩)) (.pointer (some ⟨p7,0,none⟩)) (.pointer (some ⟨p8,0,none⟩)) (.agg #[.map (some u1),.map (some v1)]) (.agg #[.map (some u2),.map (some v2)]) fB) w' from by
  intro w' u1 v1 u2 v2 p6 p7 p8 hS f0 f1 f2 f3 f4 f5 f6 f7
  rw [←hG]
  simp only [FR]
  refine aq 5 (fun K hK=>?_)
  · go_simp
    refine(qk.out _ hS).mono ?_
    rintro e wn ⟨un,vn,rfl,hv1,hv2,hl1,hl2,ai⟩
    have hc:=HT.out _ _ hS ai
    have bn:FZ un vn wn:=⟨hv1,hv2,SF hS.size hl1,SF hS.size hl2⟩
    go_wp2_with fail
    refine hK.out _ _ hc (fun _=>?_)
    rw [hG]
    exact xG.out _ _ _ _ _ _ _ _ _ _ hc (Fd.later f0 ai) (Fd.later f1 ai) bn (Bx.later f2 ai) (Bx.later f3 ai) (Bx.later f4 ai) f5 f6 f7)
 have Hw:=h_ (show ∀ (w':Sv) (u1 v1 u2 v2 p6 p7:Nat),SD w7.heap.size w7 w'→FX u1 v1 w'→FY u2 v2 w'→BX p6 w'→BX p7 w'→p6≠p7→G 5 #[true,true,true,true,true,false,true,true,false,false,false,false] (FR (.pointer (some ⟨p6,0,none⟩)) (.pointer (some ⟨p7,0,none⟩)) fh (.agg #[.map (some u1),.map (some v1)]) (.agg #[.map (some u2),.map (some v2)]) fB) w' from by
  intro w' u1 v1 u2 v2 p6 p7 hS f0 f1 f2 f3 f4
  rw [←hG]
  simp only [FR]
  refine eZ 5 8 (fun K hK=>?_) (fun K hK=>?_)
  · go_simp
    refine(qk.out _ hS).mono ?_
    rintro e wn ⟨un,vn,rfl,hv1,hv2,hl1,hl2,ai⟩
    have hc:=HT.out _ _ hS ai
    have bn:FZ un vn wn:=⟨hv1,hv2,SF hS.size hl1,SF hS.size hl2⟩
    go_wp2_with fail
    refine hK.out _ _ hc (fun _=>?_)
    rw [hG]
    exact Ht.out _ _ _ _ _ _ _ _ _ hc (Fd.later f0 ai) (Fd.later f1 ai) bn (Bx.later f2 ai) (Bx.later f3 ai) f4
  · go_simp
    obtain⟨hal,hbe⟩:=aw hS
    refine hK.out _ _ hal (fun _=>?_)
    rw [hG]
    exact xH.out _ _ _ _ _ _ _ _ hal (Fd.later f0 hbe) (Fd.later f1 hbe) (Bx.later f2 hbe) (Bx.later f3 hbe) ⟨hS.size,Su w' _⟩ f4 (Bx.ne f2) (Bx.ne f3))
 have Hv:=h_ (show ∀ (w':Sv) (u1 v1 u2 v2 p6 p8:Nat),SD w7.heap.size w7 w'→FX u1 v1 w'→FY u2 v2 w'→BX p6 w'→BX p8 w'→p6≠p8→G 5 #[true,true,true,true,true,false,true,false,true,false,false,false] (FR (.pointer (some ⟨p6,0,none⟩)) s16 (.pointer (some ⟨p8,0,none⟩)) (.agg #[.map (some u1),.map (some v1)]) (.agg #[.map (some u2),.map (some v2)]) fB) w' from by
  intro w' u1 v1 u2 v2 p6 p8 hS f0 f1 f2 f3 f4
  rw [←hG]
  simp only [FR]
  refine eZ 5 7 (fun K hK=>?_) (fun K hK=>?_)
  · go_simp
    refine(qk.out _ hS).mono ?_
    rintro e wn ⟨un,vn,rfl,hv1,hv2,hl1,hl2,ai⟩
    have hc:=HT.out _ _ hS ai
    have bn:FZ un vn wn:=⟨hv1,hv2,SF hS.size hl1,SF hS.size hl2⟩
    go_wp2_with fail
    refine hK.out _ _ hc (fun _=>?_)
    rw [hG]
    exact Hs.out _ _ _ _ _ _ _ _ _ hc (Fd.later f0 ai) (Fd.later f1 ai) bn (Bx.later f2 ai) (Bx.later f3 ai) f4
  · go_simp
    obtain⟨hal,hbe⟩:=aw hS
    refine hK.out _ _ hal (fun _=>?_)
    rw [hG]
    exact xH.out _ _ _ _ _ _ _ _ hal (Fd.later f0 hbe) (Fd.later f1 hbe) (Bx.later f2 hbe) ⟨hS.size,Su w' _⟩ (Bx.later f3 hbe) (Bx.ne f2) f4 (fun e=>Bx.ne f3 e.symm))
 have Hu:=h_ (show ∀ (w':Sv) (u1 v1 u2 v2 p7 p8:Nat),SD w7.heap.size w7 w'→FX u1 v1 w'→FY u2 v2 w'→BX p7 w'→BX p8 w'→p7≠p8→G 5 #[true,true,true,true,true,false,false,true,true,false,false,false] (FR s15 (.pointer (some ⟨p7,0,none⟩)) (.pointer (some ⟨p8,0,none⟩)) (.agg #[.map (some u1),.map (some v1)]) (.agg #[.map (some u2),.map (some v2)]) fB) w' from by
  intro w' u1 v1 u2 v2 p7 p8 hS f0 f1 f2 f3 f4
  rw [←hG]
  simp only [FR]
  refine eZ 5 6 (fun K hK=>?_) (fun K hK=>?_)
  · go_simp
    refine(qk.out _ hS).mono ?_
    rintro e wn ⟨un,vn,rfl,hv1,hv2,hl1,hl2,ai⟩
    have hc:=HT.out _ _ hS ai
    have bn:FZ un vn wn:=⟨hv1,hv2,SF hS.size hl1,SF hS.size hl2⟩
    go_wp2_with fail
    refine hK.out _ _ hc (fun _=>?_)
    rw [hG]
    exact Hr.out _ _ _ _ _ _ _ _ _ hc (Fd.later f0 ai) (Fd.later f1 ai) bn (Bx.later f2 ai) (Bx.later f3 ai) f4
  · go_simp
    obtain⟨hal,hbe⟩:=aw hS
    refine hK.out _ _ hal (fun _=>?_)
    rw [hG]
    exact xH.out _ _ _ _ _ _ _ _ hal (Fd.later f0 hbe) (Fd.later f1 hbe) ⟨hS.size,Su w' _⟩ (Bx.later f2 hbe) (Bx.later f3 hbe) (fun e=>Bx.ne f2 e.symm) (fun e=>Bx.ne f3 e.symm) f4)
 have QS:=h_ (show ∀ (w':Sv) (u1 v1 u2 v2 p6:Nat),SD w7.heap.size w7 w'→FX u1 v1 w'→FY u2 v2 w'→BX p6 w'→G 6 #[true,true,true,true,true,false,true,false,false,false,false,false] (FR (.pointer (some ⟨p6,0,none⟩)) s16 fh (.agg #[.map (some u1),.map (some v1)]) (.agg #[.map (some u2),.map (some v2)]) fB) w' from by
  intro w' u1 v1 u2 v2 p6 hS f0 f1 f2
  rw [←hG]
  simp only [FR]
  refine Sw (rs:=[5,7,8]) (by kernel_rfl) (by simp) ?_
  refine SK rfl (fun K hK=>?_) (SK rfl (fun K hK=>?_) (SK rfl (fun K hK=>?_) SL))
  · go_simp
    refine(qk.out _ hS).mono ?_
    rintro e wn ⟨un,vn,rfl,hv1,hv2,hl1,hl2,ai⟩
    have hc:=HT.out _ _ hS ai
    have bn:FZ un vn wn:=⟨hv1,hv2,SF hS.size hl1,SF hS.size hl2⟩
    go_wp2_with fail
    refine hK.out _ _ hc (fun _=>?_)
    rw [hG]
    exact QP.out _ _ _ _ _ _ _ _ hc (Fd.later f0 ai) (Fd.later f1 ai) bn (Bx.later f2 ai)
  · go_simp
    obtain⟨hal,hbe⟩:=aw hS
    refine hK.out _ _ hal (fun _=>?_)
    rw [hG]
    exact Hw.out _ _ _ _ _ _ _ hal (Fd.later f0 hbe) (Fd.later f1 hbe) (Bx.later f2 hbe) ⟨hS.size,Su w' _⟩ (Bx.ne f2)
  · go_simp
    obtain⟨hal,hbe⟩:=aw hS
    refine hK.out _ _ hal (fun _=>?_)
    rw [hG]
    exact Hv.out _ _ _ _ _ _ _ hal (Fd.later f0 hbe) (Fd.later f1 hbe) (Bx.later f2 hbe) ⟨hS.size,Su w' _⟩ (Bx.ne f2))
 have QR:=h_ (show ∀ (w':Sv) (u1 v1 u2 v2 p7:Nat),SD w7.heap.size w7 w'→FX u1 v1 w'→FY u2 v2 w'→BX p7 w'→G 6 #[true,true,true,true,true,false,false,true,false,false,false,false] (FR s15 (.pointer (some ⟨p7,0,none⟩)) fh (.agg #[.map (some u1),.map (some v1)]) (.agg #[.map (some u2),.map (some v2)]) fB) w' from by
  intro w' u1 v1 u2 v2 p7 hS f0 f1 f2
  rw [←hG]
  simp only [FR]
  refine Sw (rs:=[5,6,8]) (by kernel_rfl) (by simp) ?_
  refine SK rfl (fun K hK=>?_) (SK rfl (fun K hK=>?_) (SK rfl (fun K hK=>?_) SL))
  · go_simp
    refine(qk.out _ hS).mono ?_
    rintro e wn ⟨un,vn,rfl,hv1,hv2,hl1,hl2,ai⟩
    have hc:=HT.out _ _ hS ai
    have bn:FZ un vn wn:=⟨hv1,hv2,SF hS.size hl1,SF hS.size hl2⟩
    go_wp2_with fail
    refine hK.out _ _ hc (fun _=>?_)
    rw [hG]
    exact QO.out _ _ _ _ _ _ _ _ hc (Fd.later f0 ai) (Fd.later f1 ai) bn (Bx.later f2 ai)
  · go_simp
    obtain⟨hal,hbe⟩:=aw hS
    refine hK.out _ _ hal (fun _=>?_)
    rw [hG]
    exact Hw.out _ _ _ _ _ _ _ hal (Fd.later f0 hbe) (Fd.later f1 hbe) ⟨hS.size,Su w' _⟩ (Bx.later f2 hbe) (fun e=>Bx.ne f2 e.symm)
  · go_simp
    obtain⟨hal,hbe⟩:=aw hS
    refine hK.out _ _ hal (fun _=>?_)
    rw [hG]
    exact Hu.out _ _ _ _ _ _ _ hal (Fd.later f0 hbe) (Fd.later f1 hbe) (Bx.later f2 hbe) ⟨hS.size,Su w' _⟩ (Bx.ne f2))
 have QQ:=h_ (show ∀ (w':Sv) (u1 v1 u2 v2 p8:Nat),SD w7.heap.size w7 w'→FX u1 v1 w'→FY u2 v2 w'→BX p8 w'→G 6 #[true,true,true,true,true,false,false,false,true,false,false,false] (FR s15 s16 (.pointer (some ⟨p8,0,none⟩)) (.agg #[.map (some u1),.map (some v1)]) (.agg #[.map (some u2),.map (some v2)]) fB) w' from by
  intro w' u1 v1 u2 v2 p8 hS f0 f1 f2
  rw [←hG]
  simp only [FR]
  refine Sw (rs:=[5,6,7]) (by kernel_rfl) (by simp) ?_
  refine SK rfl (fun K hK=>?_) (SK rfl (fun K hK=>?_) (SK rfl (fun K hK=>?_) SL))
  · go_simp
    refine(qk.out _ hS).mono ?_
    rintro e wn ⟨un,vn,rfl,hv1,hv2,hl1,hl2,ai⟩
    have hc:=HT.out _ _ hS ai
    have bn:FZ un vn wn:=⟨hv1,hv2,SF hS.size hl1,SF hS.size hl2⟩
    go_wp2_with fail
    refine hK.out _ _ hc (fun _=>?_)
    rw [hG]
    exact QN.out _ _ _ _ _ _ _ _ hc (Fd.later f0 ai) (Fd.later f1 ai) bn (Bx.later f2 ai)
  · go_simp
    obtain⟨hal,hbe⟩:=aw hS
    refine hK.out _ _ hal (fun _=>?_)
    rw [hG]
    exact Hv.out _ _ _ _ _ _ _ hal (Fd.later f0 hbe) (Fd.later f1 hbe) ⟨hS.size,Su w' _⟩ (Bx.later f2 hbe) (fun e=>Bx.ne f2 e.symm)
  · go_simp
    obtain⟨hal,hbe⟩:=aw hS
    refine hK.out _ _ hal (fun _=>?_)
    rw [hG]
    exact Hu.out _ _ _ _ _ _ _ hal (Fd.later f0 hbe) (Fd.later f1 hbe) ⟨hS.size,Su w' _⟩ (Bx.later f2 hbe) (fun e=>Bx.ne f2 e.symm))
 have H2_:=h_ (show ∀ (w':Sv) (u1 v1 u2 v2:Nat),SD w7.heap.size w7 w'→FX u1 v1 w'→FY u2 v2 w'→G 7 #[true,true,true,true,true,false,false,false,false,false,false,false] (FR s15 s16 fh (.agg #[.map (some u1),.map (some v1)]) (.agg #[.map (some u2),.map (some v2)]) fB) w' from by
  intro w' u1 v1 u2 v2 hS f0 f1
  rw [←hG]
  simp only [FR]
  refine Sw (rs:=[5,6,7,8]) (by kernel_rfl) (by simp) ?_
  refine SK rfl (fun K hK=>?_) (SK rfl (fun K hK=>?_) (SK rfl (fun K hK=>?_) (SK rfl (fun K hK=>?_) SL)))
  · go_simp
    refine(qk.out _ hS).mono ?_
    rintro e wn ⟨un,vn,rfl,hv1,hv2,hl1,hl2,ai⟩
    have hc:=HT.out _ _ hS ai
    have bn:FZ un vn wn:=⟨hv1,hv2,SF hS.size hl1,SF hS.size hl2⟩
    go_wp2_with fail
    refine hK.out _ _ hc (fun _=>?_)
    rw [hG]
    exact H3_.out _ _ _ _ _ _ _ hc (Fd.later f0 ai) (Fd.later f1 ai) bn
  · go_simp
    obtain⟨hal,hbe⟩:=aw hS
    refine hK.out _ _ hal (fun _=>?_)
    rw [hG]
    exact QS.out _ _ _ _ _ _ hal (Fd.later f0 hbe) (Fd.later f1 hbe) ⟨hS.size,Su w' _⟩
  · go_simp
    obtain⟨hal,hbe⟩:=aw hS
    refine hK.out _ _ hal (fun _=>?_)
    rw [hG]
    exact QR.out _ _ _ _ _ _ hal (Fd.later f0 hbe) (Fd.later f1 hbe) ⟨hS.size,Su w' _⟩
  · go_simp
    obtain⟨hal,hbe⟩:=aw hS
    refine hK.out _ _ hal (fun _=>?_)
    rw [hG]
    exact QQ.out _ _ _ _ _ _ hal (Fd.later f0 hbe) (Fd.later f1 hbe) ⟨hS.size,Su w' _⟩)
 have xI:=h_ (show ∀ (w':Sv) (u1 v1 p6 p7 p8:Nat),SD w7.heap.size w7 w'→FX u1 v1 w'→BX p6 w'→BX p7 w'→BX p8 w'→p6≠p7→p6≠p8→p7≠p8→G 5 #[true,true,true,false,true,false,true,true,true,false,false,false] (FR (.pointer (some ⟨p6,0,none⟩)) (.pointer (some ⟨p7,0,none⟩)) (.pointer (some ⟨p8,0,none⟩)) (.agg #[.map (some u1),.map (some v1)]) s68 fB) w' from by
  intro w' u1 v1 p6 p7 p8 hS f0 f1 f2 f3 f4 f5 f6
  rw [←hG]
  simp only [FR]
  refine aq 3 (fun K hK=>?_)
  · go_simp
    refine(ji.out _ hS).mono ?_
    rintro e wn ⟨un,vn,rfl,hv1,hv2,hl1,hl2,ai⟩
    have hc:=HT.out _ _ hS ai
    have bn:FY un vn wn:=⟨hv1,hv2,SF hS.size hl1,SF hS.size hl2⟩
    go_wp2_with fail
    refine hK.out _ _ hc (fun _=>?_)
    rw [hG]
    exact xH.out _ _ _ _ _ _ _ _ hc (Fd.later f0 ai) bn (Bx.later f1 ai) (Bx.later f2 ai) (Bx.later f3 ai) f4 f5 f6)
 have Hz:=h_ (show ∀ (w':Sv) (u1 v1 p6 p7:Nat),SD w7.heap.size w7 w'→FX u1 v1 w'→BX p6 w'→BX p7 w'→p6≠p7→G 6 #[true,true,true,false,true,false,true,true,false,false,false,false] (FR (.pointer (some ⟨p6,0,none⟩)) (.pointer (some ⟨p7,0,none⟩)) fh (.agg #[.map (some u1),.map (some v1)]) s68 fB) w' from by
  intro w' u1 v1 p6 p7 hS f0 f1 f2 f3
  rw [←hG]
  simp only [FR]
  refine eZ 3 8 (fun K hK=>?_) (fun K hK=>?_)
  · go_simp
    refine(ji.out _ hS).mono ?_
    rintro e wn ⟨un,vn,rfl,hv1,hv2,hl1,hl2,ai⟩
    have hc:=HT.out _ _ hS ai
    have bn:FY un vn wn:=⟨hv1,hv2,SF hS.size hl1,SF hS.size hl2⟩
    go_wp2_with fail
    refine hK.out _ _ hc (fun _=>?_)
    rw [hG]
    exact Hw.out _ _ _ _ _ _ _ hc (Fd.later f0 ai) bn (Bx.later f1 ai) (Bx.later f2 ai) f3
  · go_simp
    obtain⟨hal,hbe⟩:=aw hS
    refine hK.out _ _ hal (fun _=>?_)
    rw [hG]
    exact xI.out _ _ _ _ _ _ hal (Fd.later f0 hbe) (Bx.later f1 hbe) (Bx.later f2 hbe) ⟨hS.size,Su w' _⟩ f3 (Bx.ne f1) (Bx.ne f2))
 have Hy:=h_ (show ∀ (w':Sv) (u1 v1 p6 p8:Nat),SD w7.heap.size w7 w'→FX u1 v1 w'→BX p6 w'→BX p8 w'→p6≠p8→G 6 #[true,true,true,false,true,false,true,false,true,false,false,false] (FR (.pointer (some ⟨p6,0,none⟩)) s16 (.pointer (some ⟨p8,0,none⟩)) (.agg #[.map (some u1),.map (some v1)]) s68 fB) w' from by
  intro w' u1 v1 p6 p8 hS f0 f1 f2 f3
  rw [←hG]
  simp only [FR]
  refine eZ 3 7 (fun K hK=>?_) (fun K hK=>?_)
  · go_simp
    refine(ji.out _ hS).mono ?_
    rintro e wn ⟨un,vn,rfl,hv1,hv2,hl1,hl2,ai⟩
    have hc:=HT.out _ _ hS ai
    have bn:FY un vn wn:=⟨hv1,hv2,SF hS.size hl1,SF hS.size hl2⟩
    go_wp2_with fail
    refine hK.out _ _ hc (fun _=>?_)
    rw [hG]
    exact Hv.out _ _ _ _ _ _ _ hc (Fd.later f0 ai) bn (Bx.later f1 ai) (Bx.later f2 ai) f3
  · go_simp
    obtain⟨hal,hbe⟩:=aw hS
    refine hK.out _ _ hal (fun _=>?_)
    rw [hG]
    exact xI.out _ _ _ _ _ _ hal (Fd.later f0 hbe) (Bx.later f1 hbe) ⟨hS.size,Su w' _⟩ (Bx.later f2 hbe) (Bx.ne f1) f3 (fun e=>Bx.ne f2 e.symm))
 have Hx:=h_ (show ∀ (w':Sv) (u1 v1 p7 p8:Nat),SD w7.heap.size w7 w'→FX u1 v1 w'→BX p7 w'→BX p8 w'→p7≠p8→G 6 #[true,true,true,false,true,false,false,true,true,false,false,false] (FR s15 (.pointer (some ⟨p7,0,none⟩)) (.pointer (some ⟨p8,0,none⟩)) (.agg #[.map (some u1),.map (some v1)]) s68 fB) w' from by
  intro w' u1 v1 p7 p8 hS f0 f1 f2 f3
  rw [←hG]
  simp only [FR]
  refine eZ 3 6 (fun K hK=>?_) (fun K hK=>?_)
  · go_simp
    refine(ji.out _ hS).mono ?_
    rintro e wn ⟨un,vn,rfl,hv1,hv2,hl1,hl2,ai⟩
    have hc:=HT.out _ _ hS ai
    have bn:FY un vn wn:=⟨hv1,hv2,SF hS.size hl1,SF hS.size hl2⟩
    go_wp2_with fail
    refine hK.out _ _ hc (fun _=>?_)
    rw [hG]
    exact Hu.out _ _ _ _ _ _ _ hc (Fd.later f0 ai) bn (Bx.later f1 ai) (Bx.later f2 ai) f3
  · go_simp
    obtain⟨hal,hbe⟩:=aw hS
    refine hK.out _ _ hal (fun _=>?_)
    rw [hG]
    exact xI.out _ _ _ _ _ _ hal (Fd.later f0 hbe) ⟨hS.size,Su w' _⟩ (Bx.later f1 hbe) (Bx.later f2 hbe) (fun e=>Bx.ne f1 e.symm) (fun e=>Bx.ne f2 e.symm) f3)
 have QV:=h_ (show ∀ (w':Sv) (u1 v1 p6:Nat),SD w7.heap.size w7 w'→FX u1 v1 w'→BX p6 w'→G 7 #[true,true,true,false,true,false,true,false,false,false,false,false] (FR (.pointer (some ⟨p6,0,none⟩)) s16 fh (.agg #[.map (some u1),.map (some v1)]) s68 fB) w' from by
  intro w' u1 v1 p6 hS f0 f1
  rw [←hG]
  simp only [FR]
  refine Sw (rs:=[3,7,8]) (by kernel_rfl) (by simp) ?_
  refine SK rfl (fun K hK=>?_) (SK rfl (fun K hK=>?_) (SK rfl (fun K hK=>?_) SL))
  · go_simp
    refine(ji.out _ hS).mono ?_
    rintro e wn ⟨un,vn,rfl,hv1,hv2,hl1,hl2,ai⟩
    have hc:=HT.out _ _ hS ai
    have bn:FY un vn wn:=⟨hv1,hv2,SF hS.size hl1,SF hS.size hl2⟩
    go_wp2_with fail
    refine hK.out _ _ hc (fun _=>?_)
    rw [hG]
    exact QS.out _ _ _ _ _ _ hc (Fd.later f0 ai) bn (Bx.later f1 ai)
  · go_simp
    obtain⟨hal,hbe⟩:=aw hS
    refine hK.out _ _ hal (fun _=>?_)
    rw [hG]
    exact Hz.out _ _ _ _ _ hal (Fd.later f0 hbe) (Bx.later f1 hbe) ⟨hS.size,Su w' _⟩ (Bx.ne f1)
  · go_simp
    obtain⟨hal,hbe⟩:=aw hS
    refine hK.out _ _ hal (fun _=>?_)
    rw [hG]
    exact Hy.out _ _ _ _ _ hal (Fd.later f0 hbe) (Bx.later f1 hbe) ⟨hS.size,Su w' _⟩ (Bx.ne f1))
 have QU:=h_ (show ∀ (w':Sv) (u1 v1 p7:Nat),SD w7.heap.size w7 w'→FX u1 v1 w'→BX p7 w'→G 7 #[true,true,true,false,true,false,false,true,false,false,false,false] (FR s15 (.pointer (some ⟨p7,0,none⟩)) fh (.agg #[.map (some u1),.map (some v1)]) s68 fB) w' from by
  intro w' u1 v1 p7 hS f0 f1
  rw [←hG]
  simp only [FR]
  refine Sw (rs:=[3,6,8]) (by kernel_rfl) (by simp) ?_
  refine SK rfl (fun K hK=>?_) (SK rfl (fun K hK=>?_) (SK rfl (fun K hK=>?_) SL))
  · go_simp
    refine(ji.out _ hS).mono ?_
    rintro e wn ⟨un,vn,rfl,hv1,hv2,hl1,hl2,ai⟩
    have hc:=HT.out _ _ hS ai
    have bn:FY un vn wn:=⟨hv1,hv2,SF hS.size hl1,SF hS.size hl2⟩
    go_wp2_with fail
    refine hK.out _ _ hc (fun _=>?_)
    rw [hG]
    exact QR.out _ _ _ _ _ _ hc (Fd.later f0 ai) bn (Bx.later f1 ai)
  · go_simp
    obtain⟨hal,hbe⟩:=aw hS
    refine hK.out _ _ hal (fun _=>?_)
    rw [hG]
    exact Hz.out _ _ _ _ _ hal (Fd.later f0 hbe) ⟨hS.size,Su w' _⟩ (Bx.later f1 hbe) (fun e=>Bx.ne f1 e.symm)
  · go_simp
    obtain⟨hal,hbe⟩:=aw hS
    refine hK.out _ _ hal (fun _=>?_)
    rw [hG]
    exact Hx.out _ _ _ _ _ hal (Fd.later f0 hbe) (Bx.later f1 hbe) ⟨hS.size,Su w' _⟩ (Bx.ne f1))
 have QT:=h_ (show ∀ (w':Sv) (u1 v1 p8:Nat),SD w7.heap.size w7 w'→FX u1 v1 w'→BX p8 w'→G 7 #[true,true,true,false,true,false,false,false,true,false,false,false] (FR s15 s16 (.pointer (some ⟨p8,0,none⟩)) (.agg #[.map (some u1),.map (some v1)]) s68 fB) w' from by
  intro w' u1 v1 p8 hS f0 f1
  rw [←hG]
  simp only [FR]
  refine Sw (rs:=[3,6,7]) (by kernel_rfl) (by simp) ?_
  refine SK rfl (fun K hK=>?_) (SK rfl (fun K hK=>?_) (SK rfl (fun K hK=>?_) SL))
  · go_simp
    refine(ji.out _ hS).mono ?_
    rintro e wn ⟨un,vn,rfl,hv1,hv2,hl1,hl2,ai⟩
    have hc:=HT.out _ _ hS ai
    have bn:FY un vn wn:=⟨hv1,hv2,SF hS.size hl1,SF hS.size hl2⟩
    go_wp2_with fail
    refine hK.out _ _ hc (fun _=>?_)
    rw [hG]
    exact QQ.out _ _ _ _ _ _ hc (Fd.later f0 ai) bn (Bx.later f1 ai)
  · go_simp
    obtain⟨hal,hbe⟩:=aw hS
    refine hK.out _ _ hal (fun _=>?_)
    rw [hG]
    exact Hy.out _ _ _ _ _ hal (Fd.later f0 hbe) ⟨hS.size,Su w' _⟩ (Bx.later f1 hbe) (fun e=>Bx.ne f1 e.symm)
  · go_simp
    obtain⟨hal,hbe⟩:=aw hS
    refine hK.out _ _ hal (fun _=>?_)
    rw [hG]
    exact Hx.out _ _ _ _ _ hal (Fd.later f0 hbe) ⟨hS.size,Su w' _⟩ (Bx.later f1 hbe) (fun e=>Bx.ne f1 e.symm))
 have H1_:=h_ (show ∀ (w':Sv) (u1 v1:Nat),SD w7.heap.size w7 w'→FX u1 v1 w'→G 8 #[true,true,true,false,true,false,false,false,false,false,false,false] (FR s15 s16 fh (.agg #[.map (some u1),.map (some v1)]) s68 fB) w' from by
  intro w' u1 v1 hS f0
  rw [←hG]
  simp only [FR]
  refine Sw (rs:=[3,6,7,8]) (by kernel_rfl) (by simp) ?_
  refine SK rfl (fun K hK=>?_) (SK rfl (fun K hK=>?_) (SK rfl (fun K hK=>?_) (SK rfl (fun K hK=>?_) SL)))
  · go_simp
    refine(ji.out _ hS).mono ?_
    rintro e wn ⟨un,vn,rfl,hv1,hv2,hl1,hl2,ai⟩
    have hc:=HT.out _ _ hS ai
    have bn:FY un vn wn:=⟨hv1,hv2,SF hS.size hl1,SF hS.size hl2⟩
    go_wp2_with fail
    refine hK.out _ _ hc (fun _=>?_)
    rw [hG]
    exact H2_.out _ _ _ _ _ hc (Fd.later f0 ai) bn
  · go_simp
    obtain⟨hal,hbe⟩:=aw hS
    refine hK.out _ _ hal (fun _=>?_)
    rw [hG]
    exact QV.out _ _ _ _ hal (Fd.later f0 hbe) ⟨hS.size,Su w' _⟩
  · go_simp
    obtain⟨hal,hbe⟩:=aw hS
    refine hK.out _ _ hal (fun _=>?_)
    rw [hG]
    exact QU.out _ _ _ _ hal (Fd.later f0 hbe) ⟨hS.size,Su w' _⟩
  · go_simp
    obtain⟨hal,hbe⟩:=aw hS
    refine hK.out _ _ hal (fun _=>?_)
    rw [hG]
    exact QT.out _ _ _ _ hal (Fd.later f0 hbe) ⟨hS.size,Su w' _⟩)
 have Cx:=h_ (show ∀ (w':Sv) (p6 p7 p8:Nat),SD w7.heap.size w7 w'→BX p6 w'→BX p7 w'→BX p8 w'→p6≠p7→p6≠p8→p7≠p8→G 6 #[true,false,true,false,true,false,true,true,true,false,false,false] (FR (.pointer (some ⟨p6,0,none⟩)) (.pointer (some ⟨p7,0,none⟩)) (.pointer (some ⟨p8,0,none⟩)) iw s68 fB) w' from by
  intro w' p6 p7 p8 hS f0 f1 f2 f3 f4 f5
  rw [←hG]
  simp only [FR]
  refine aq 1 (fun K hK=>?_)
  · go_simp
    refine(fD.out _ hS).mono ?_
    rintro e wn ⟨un,vn,rfl,hv1,hv2,hl1,hl2,ai⟩
    have hc:=HT.out _ _ hS ai
    have bn:FX un vn wn:=⟨hv1,hv2,SF hS.size hl1,SF hS.size hl2⟩
    go_wp2_with fail
    refine hK.out _ _ hc (fun _=>?_)
    rw [hG]
    exact xI.out _ _ _ _ _ _ hc bn (Bx.later f0 ai) (Bx.later f1 ai) (Bx.later f2 ai) f3 f4 f5)
 have K1:=h_ (show ∀ (w':Sv) (p6 p7:Nat),SD w7.heap.size w7 w'→BX p6 w'→BX p7 w'→p6≠p7→G 7 #[true,false,true,false,true,false,true,true,false,false,false,false] (FR (.pointer (some ⟨p6,0,none⟩)) (.pointer (some ⟨p7,0,none⟩)) fh iw s68 fB) w' from by
  intro w' p6 p7 hS f0 f1 f2
  rw [←hG]
  simp only [FR]
  refine eZ 1 8 (fun K hK=>?_) (fun K hK=>?_)
  · go_simp
    refine(fD.out _ hS).mono ?_
    rintro e wn ⟨un,vn,rfl,hv1,hv2,hl1,hl2,ai⟩
    have hc:=HT.out _ _ hS ai
    have bn:FX un vn wn:=⟨hv1,hv2,SF hS.size hl1,SF hS.size hl2⟩
    go_wp2_with fail
    refine hK.out _ _ hc (fun _=>?_)
    rw [hG]
    exact Hz.out _ _ _ _ _ hc bn (Bx.later f0 ai) (Bx.later f1 ai) f2
  · go_simp
    obtain⟨hal,hbe⟩:=aw hS
    refine hK.out _ _ hal (fun _=>?_)
    rw [hG]
    exact Cx.out _ _ _ _ hal (Bx.later f0 hbe) (Bx.later f1 hbe) ⟨hS.size,Su w' _⟩ f2 (Bx.ne f0) (Bx.ne f1))
 have KZ:=h_ (show ∀ (w':Sv) (p6 p8:Nat),SD w7.heap.size w7 w'→BX p6 w'→BX p8 w'→p6≠p8→G 7 #[true,false,true,false,true,false,true,false,true,false,false,false] (FR (.pointer (some ⟨p6,0,none⟩)) s16 (.pointer (some ⟨p8,0,none⟩)) iw s68 fB) w' from by
  intro w' p6 p8 hS f0 f1 f2
  rw [←hG]
  simp only [FR]
  refine eZ 1 7 (fun K hK=>?_) (fun K hK=>?_)
  · go_simp
    refine(fD.out _ hS).mono ?_
    rintro e wn ⟨un,vn,rfl,hv1,hv2,hl1,hl2,ai⟩
    have hc:=HT.out _ _ hS ai
    have bn:FX un vn wn:=⟨hv1,hv2,SF hS.size hl1,SF hS.size hl2⟩
    go_wp2_with fail
    refine hK.out _ _ hc (fun _=>?_)
    rw [hG]
    exact Hy.out _ _ _ _ _ hc bn (Bx.later f0 ai) (Bx.later f1 ai) f2
  · go_simp
    obtain⟨hal,hbe⟩:=aw hS
    refine hK.out _ _ hal (fun _=>?_)
    rw [hG]
    exact Cx.out _ _ _ _ hal (Bx.later f0 hbe) ⟨hS.size,Su w' _⟩ (Bx.later f1 hbe) (Bx.ne f0) f2 (fun e=>Bx.ne f1 e.symm))
 have KY:=h_ (show ∀ (w':Sv) (p7 p8:Nat),SD w7.heap.size w7 w'→BX p7 w'→BX p8 w'→p7≠p8→G 7 #[true,false,true,false,true,false,false,true,true,false,false,false] (FR s15 (.pointer (some ⟨p7,0,none⟩)) (.pointer (some ⟨p8,0,none⟩)) iw s68 fB) w' from by
  intro w' p7 p8 hS f0 f1 f2
  rw [←hG]
  simp only [FR]
  refine eZ 1 6 (fun K hK=>?_) (fun K hK=>?_)
  · go_simp
    refine(fD.out _ hS).mono ?_
    rintro e wn ⟨un,vn,rfl,hv1,hv2,hl1,hl2,ai⟩
    have hc:=HT.out _ _ hS ai
    have bn:FX un vn wn:=⟨hv1,hv2,SF hS.size hl1,SF hS.size hl2⟩
    go_wp2_with fail
    refine hK.out _ _ hc (fun _=>?_)
    rw [hG]
    exact Hx.out _ _ _ _ _ hc bn (Bx.later f0 ai) (Bx.later f1 ai) f2
  · go_simp
    obtain⟨hal,hbe⟩:=aw hS
    refine hK.out _ _ hal (fun _=>?_)
    rw [hG]
    exact Cx.out _ _ _ _ hal ⟨hS.size,Su w' _⟩ (Bx.later f0 hbe) (Bx.later f1 hbe) (fun e=>Bx.ne f0 e.symm) (fun e=>Bx.ne f1 e.symm) f2)
 have H0_6:=h_ (show ∀ (w':Sv) (p6:Nat),SD w7.heap.size w7 w'→BX p6 w'→G 8 #[true,false,true,false,true,false,true,false,false,false,false,false] (FR (.pointer (some ⟨p6,0,none⟩)) s16 fh iw s68 fB) w' from by
  intro w' p6 hS f0
  rw [←hG]
  simp only [FR]
  refine Sw (rs:=[1,7,8]) (by kernel_rfl) (by simp) ?_
  refine SK rfl (fun K hK=>?_) (SK rfl (fun K hK=>?_) (SK rfl (fun K hK=>?_) SL))
  · go_simp
    refine(fD.out _ hS).mono ?_
    rintro e wn ⟨un,vn,rfl,hv1,hv2,hl1,hl2,ai⟩
    have hc:=HT.out _ _ hS ai
    have bn:FX un vn wn:=⟨hv1,hv2,SF hS.size hl1,SF hS.size hl2⟩
    go_wp2_with fail
    refine hK.out _ _ hc (fun _=>?_)
    rw [hG]
    exact QV.out _ _ _ _ hc bn (Bx.later f0 ai)
  · go_simp
    obtain⟨hal,hbe⟩:=aw hS
    refine hK.out _ _ hal (fun _=>?_)
    rw [hG]
    exact K1.out _ _ _ hal (Bx.later f0 hbe) ⟨hS.size,Su w' _⟩ (Bx.ne f0)
  · go_simp
    obtain⟨hal,hbe⟩:=aw hS
    refine hK.out _ _ hal (fun _=>?_)
    rw [hG]
    exact KZ.out _ _ _ hal (Bx.later f0 hbe) ⟨hS.size,Su w' _⟩ (Bx.ne f0))
 have H0_7:=h_ (show ∀ (w':Sv) (p7:Nat),SD w7.heap.size w7 w'→BX p7 w'→G 8 #[true,false,true,false,true,false,false,true,false,false,false,false] (FR s15 (.pointer (some ⟨p7,0,none⟩)) fh iw s68 fB) w' from by
  intro w' p7 hS f0
  rw [←hG]
  simp only [FR]
  refine Sw (rs:=[1,6,8]) (by kernel_rfl) (by simp) ?_
  refine SK rfl (fun K hK=>?_) (SK rfl (fun K hK=>?_) (SK rfl (fun K hK=>?_) SL))
  · go_simp
    refine(fD.out _ hS).mono ?_
    rintro e wn ⟨un,vn,rfl,hv1,hv2,hl1,hl2,ai⟩
    have hc:=HT.out _ _ hS ai
    have bn:FX un vn wn:=⟨hv1,hv2,SF hS.size hl1,SF hS.size hl2⟩
    go_wp2_with fail
    refine hK.out _ _ hc (fun _=>?_)
    rw [hG]
    exact QU.out _ _ _ _ hc bn (Bx.later f0 ai)
  · go_simp
    obtain⟨hal,hbe⟩:=aw hS
    refine hK.out _ _ hal (fun _=>?_)
    rw [hG]
    exact K1.out _ _ _ hal ⟨hS.size,Su w' _⟩ (Bx.later f0 hbe) (fun e=>Bx.ne f0 e.symm)
  · go_simp
    obtain⟨hal,hbe⟩:=aw hS
    refine hK.out _ _ hal (fun _=>?_)
    rw [hG]
    exact KY.out _ _ _ hal (Bx.later f0 hbe) ⟨hS.size,Su w' _⟩ (Bx.ne f0))
 have H0_8:=h_ (show ∀ (w':Sv) (p8:Nat),SD w7.heap.size w7 w'→BX p8 w'→G 8 #[true,false,true,false,true,false,false,false,true,false,false,false] (FR s15 s16 (.pointer (some ⟨p8,0,none⟩)) iw s68 fB) w' from by
  intro w' p8 hS f0
  rw [←hG]
  simp only [FR]
  refine Sw (rs:=[1,6,7]) (by kernel_rfl) (by simp) ?_
  refine SK rfl (fun K hK=>?_) (SK rfl (fun K hK=>?_) (SK rfl (fun K hK=>?_) SL))
  · go_simp
    refine(fD.out _ hS).mono ?_
    rintro e wn ⟨un,vn,rfl,hv1,hv2,hl1,hl2,ai⟩
    have hc:=HT.out _ _ hS ai
    have bn:FX un vn wn:=⟨hv1,hv2,SF hS.size hl1,SF hS.size hl2⟩
    go_wp2_with fail
    refine hK.out _ _ hc (fun _=>?_)
    rw [hG]
    exact QT.out _ _ _ _ hc bn (Bx.later f0 ai)
  · go_simp
    obtain⟨hal,hbe⟩:=aw hS
    refine hK.out _ _ hal (fun _=>?_)
    rw [hG]
    exact KZ.out _ _ _ hal ⟨hS.size,Su w' _⟩ (Bx.later f0 hbe) (fun e=>Bx.ne f0 e.symm)
  · go_simp
    obtain⟨hal,hbe⟩:=aw hS
    refine hK.out _ _ hal (fun _=>?_)
    rw [hG]
    exact KY.out _ _ _ hal ⟨hS.size,Su w' _⟩ (Bx.later f0 hbe) (fun e=>Bx.ne f0 e.symm))
 have H0_:=h_ (show ∀ (w':Sv),SD w7.heap.size w7 w'→G 9 #[true,false,true,false,true,false,false,false,false,false,false,false] (FR s15 s16 fh iw s68 fB) w' from by
  intro w'  hS 
  rw [←hG]
  simp only [FR]
  refine Sw (rs:=[1,6,7,8]) (by kernel_rfl) (by simp) ?_
  refine SK rfl (fun K hK=>?_) (SK rfl (fun K hK=>?_) (SK rfl (fun K hK=>?_) (SK rfl (fun K hK=>?_) SL)))
  · go_simp
    refine(fD.out _ hS).mono ?_
    rintro e wn ⟨un,vn,rfl,hv1,hv2,hl1,hl2,ai⟩
    have hc:=HT.out _ _ hS ai
    have bn:FX un vn wn:=⟨hv1,hv2,SF hS.size hl1,SF hS.size hl2⟩
    go_wp2_with fail
    refine hK.out _ _ hc (fun _=>?_)
    rw [hG]
    exact H1_.out _ _ _ hc bn
  · go_simp
    obtain⟨hal,hbe⟩:=aw hS
    refine hK.out _ _ hal (fun _=>?_)
    rw [hG]
    exact H0_6.out _ _ hal ⟨hS.size,Su w' _⟩
  · go_simp
    obtain⟨hal,hbe⟩:=aw hS
    refine hK.out _ _ hal (fun _=>?_)
    rw [hG]
    exact H0_7.out _ _ hal ⟨hS.size,Su w' _⟩
  · go_simp
    obtain⟨hal,hbe⟩:=aw hS
    refine hK.out _ _ hal (fun _=>?_)
    rw [hG]
    exact H0_8.out _ _ hal ⟨hS.size,Su w' _⟩)
 exact H0_.out _ hd0
theorem yS:∀ (l:List Int)(acc:Int),0≤acc→(∀ z∈l,z≤4000000)→sC l acc≤acc+4000000*l.length
 | [],acc,h,_=>by simp [sC]
 | n::l,acc,h,hz=>by
   unfold sC
   split
   · simp only [SM];omega
   · have:=yS l (acc+n) (by omega) fun z hq=>hz z (List.mem_cons_of_mem _ hq)
     have h2:=hz n List.mem_cons_self
     simp only [SM]
     omega
theorem Ju {x:Ev} (h:x.fits):m_ x.rows≤100000000000000:=by
 have h1:=sz x.rows h.2.2.2.2.2.2.2.1
 have h2:=yS (e9 x.rows) (max ((x.rows.length:Int)-1) 0) (by omega) h1
 have h3:(e9 x.rows).length=x.rows.length:=by simp [e9]
 have h4:x.rows.length≤4000000:=h.2.2.2.2.2.2.2.2
 unfold m_
 rw [h3] at h2
 omega
theorem xi {d:Doc} (h0:aL d=0)(hf:d.fits):∀ c∈d.cM,c.tame:=by
 intro c hc
 refine⟨hf.2.2.2.2.2.2.2.2.2.1 c hc,fun hl=>?_⟩
 have hp:=(kp h0).2.2.2.2
 unfold kr at hp
 split at hp
 · cases hp
 · have:=qS _ _ _ _ _ hp c hc
   unfold ct at this
   split at this
   · cases this
   · rw [hl,if_neg (by decide)] at this
     split at this
     · cases this
     · rename_i i hi
       split at this
       · cases this
       · rename_i hn
         have hb:m_ ((d.eV[i]?.map Ev.rows).getD [])≤100000000000000:=by
          cases hq:d.eV[i]? with
          | none=>exact(by decide:m_ []≤100000000000000)
          | some x=>exact Ju (hf.2.2.2.2.2.2.2.1 x (List.mem_of_getElem? hq))
         omega
theorem pU {d:Doc} {w:Sv} {g:Nat} (h:d.lies w)(hf:d.fits)(hu:∀ b,d.uses b→b<g):pG d.eV g w:=by
 intro e he
 refine⟨?_,hf.2.2.2.2.2.2.2.1 e he,fun b hb=>hu b (.inr (.inl ?_))⟩
 · obtain⟨i,hi⟩:=List.mem_iff_getElem?.1 he
   obtain⟨_,_,x,_,_,hx,_,hl⟩:=h.2.1.at_ (List.getElem?_eq_some_iff.1 hi).1
   rw [hi] at hx
   cases hx
   exact hl
 · exact .inr ⟨e,he,hb⟩
theorem FM {x y z:Hd} {la:Int} (hx:x.fits)(hy:y.fits)(hz:z.fits)(hl:i64 la):(mgHd x y z la).fits:=by
 have h1:=jk fH x.title y.title z.title (fun p=>p.size≤4000000) hx.1 hy.1 hz.1
 have h2:=jk fH x.lang y.lang z.lang (fun p=>p.size≤4000000) hx.2.1 hy.2.1 hz.2.1
 have h3:=jk gX (x.rate,x.drop) (y.rate,y.drop) (z.rate,z.drop) (fun p=>0≤p.1∧p.1≤255) ⟨hx.2.2.1,hx.2.2.2.1⟩ ⟨hy.2.2.1,hy.2.2.2.1⟩ ⟨hz.2.2.1,hz.2.2.2.1⟩
 exact⟨h1,h2,h3.1,h3.2,hl⟩
theorem mP {l:List Reg} (h:∀ r∈l,r.fits)(n:ByteArray):∀ r,bI l n=some r→r.fits:=fun r hr=>h r (SN hr)
theorem BB {x y z:List Reg} (hx:∀ r∈x,r.fits)(hy:∀ r∈y,r.fits)(hz:∀ r∈z,r.fits)(ns:List ByteArray):∀ r∈fW x y z ns,r.fits:=by
 intro r hr
 unfold fW at hr
 obtain⟨n,_,h⟩:=SR.1 hr
 have:=jk FQ (bI x n) (bI y n) (bI z n) (fun o=>∀ q,o=some q→q.fits) (mP hx n) (mP hy n) (mP hz n)
 have h2:(pT x y z n).1=some r:=by simpa using h
 exact this r h2
theorem pS (x y z:List Reg):∀ ns:List ByteArray,(fW x y z ns).length≤ns.length∧(fG x y z ns).length≤ns.length
 | []=>⟨SG _,SG _⟩
 | n::ns=>by
   have ih:=pS x y z ns
   have h1:((pT x y z n).1.toList).length≤1:=by cases (pT x y z n).1<;>simp
   have h2:(clIf (pT x y z n).2 ⟨2,0,n,bf⟩).length≤1:=by unfold clIf;split<;>simp
   unfold fW fG at *
   rw [SQ,SQ,SO,SO,SM]
   omega
theorem D1 {ox oy oz x y z:Option Cm} (hx:∀ c,x=some c→c.fits)(hy:∀ c,y=some c→c.fits)(hz:∀ c,z=some c→c.fits) {p:Cm × List ByteArray} (h:mF ox oy oz x y z=some p):p.1.fits:=by
 cases x with
 | none =>
   cases y with
   | none =>
     rw [mF] at h
     obtain rfl:=SS h
     cases z with
     | none=>exact⟨eS,eS,eS,eS,by decide,by decide⟩
     | some z=>exact hz z rfl
   | some y =>
     cases z with
     | none =>
       rw [mF] at h
       obtain rfl:=SS h
       exact hy y rfl
     | some z =>
       rw [mF] at h
       split at h
       · obtain rfl:=SS h
         exact hy y rfl
       · obtain rfl:=SS h
         obtain⟨c1,c2,c3,c4,c5,c6⟩:=hy y rfl
         exact⟨c1,c2,eS,eS,c5,c6⟩
 | some x =>
   cases y with
   | none =>
     cases z with
     | none=>rw [mF] at h;cases h
     | some z =>
       rw [mF] at h
       split at h
       · cases h
       · obtain rfl:=SS h
         exact hz z rfl
   | some y =>
     cases z with
     | none =>
       rw [mF] at h
       split at h
       · cases h
       · obtain rfl:=SS h
         exact hy y rfl
     | some z =>
       rw [mF] at h
       obtain rfl:=SS h
       exact wK (hx x rfl) (hy y rfl) (hz z rfl)
theorem mS {txs:List EvC} {a:DocC} (ha:∀ e∈a.eV,e.fits)(ht:∀ e∈txs,e.fits)(hc:∀ c∈a.cM,c.tame)(z:Int):∀ c,(bB a.cM z).map (lC a.eV txs)=some c→c.fits:=by
 intro c h
 obtain⟨q,hq,rfl⟩:=Option.map_eq_some_iff.1 h
 exact BC ha ht (hc q (SN hq))
theorem D0 {txs:List EvC} {a b c:DocC} (ht:∀ e∈txs,e.fits)(ha:(∀ e∈a.eV,e.fits)∧∀ q∈a.cM,q.tame)(hb:(∀ e∈b.eV,e.fits)∧∀ q∈b.cM,q.tame)(hc:(∀ e∈c.eV,e.fits)∧∀ q∈c.cM,q.tame)(ids:List Int):∀ q∈mU txs a b c ids,q.fits:=by
 intro q hq
 unfold mU at hq
 obtain⟨id,_,h⟩:=SR.1 hq
 cases hm:mgCm txs a b c id with
 | none=>rw [hm] at h;simp at h
 | some p =>
   rw [hm] at h
   obtain rfl:q=p.1:=by simpa using h
   exact D1 (mS ha.1 ht ha.2 id) (mS hb.1 ht hb.2 id) (mS hc.1 ht hc.2 id) hm
theorem nE {xs:List Ev} (h:∀ e∈xs,e.fits):∀ e∈xs.map Ev.c,e.fits:=by
 intro e he
 obtain⟨x,hx,rfl⟩:=List.mem_map.1 he
 exact(Ev.fits_c _).2 (h x hx)
theorem rm {rG:List Reg} {xs ys zs:List EvC} {eV:List Ev} (h:eV.map Ev.c=fM (jl rG xs ys zs (aY xs ys zs))):eV.length≤xs.length+ys.length+zs.length:=by
 have h1:eV.length=(jl rG xs ys zs (aY xs ys zs)).length:=by
  rw [←List.length_map (f:=Ev.c),h,(iK _).length_eq]
 have h2:=(mT rG xs ys zs (aY xs ys zs)).1
 have h3:=sW xs ys zs
 omega
def tp (x y z:DocC)(w:Sv)(e:Ending)(w':Sv):Prop:=∃ (d:Doc) (kv:Sy),e=.returned (.tuple #[.agg d.enc.toArray,kv,.int .i64 (fL x y z)])∧d.c=jm x y z∧d.lies w'∧d.fits∧(∀ b,d.uses b→w.heap.size≤b)∧w'.ownsRow w.heap.size 135 4 kv (mgCl x y z).length ((mgCl x y z).flatMap Cl.enc)∧SD w.heap.size w w'
theorem rR (b n:Nat):zDoc.uses b→n≤b:=by
 rintro (⟨h,_⟩|(⟨h,_⟩|⟨x,hx,_⟩)|⟨h,_⟩)
 · exact absurd rfl h
 · exact absurd rfl h
 · cases hx
 · exact absurd rfl h
theorem nK {t:DocC} (h:cErr t=0):0≤t.hd.last:=by
 have hp:=(kp (d:=t.rep) h).1
 unfold lN at hp
 split at hp
 · cases hp
 · split at hp
   · cases hp
   · split at hp
     · cases hp
     · split at hp
       · rename_i h1
         rw [hp] at h1
         cases h1
       · split at hp
         · cases hp
         · rename_i h1
           have:t.rep.last=t.hd.last:=rfl
           omega
theorem wJ {x y z:DocC} (h:a_ x y z≠0):fL x y z=a_ x y z∧jm x y z=EY∧mgCl x y z=[]:=by
 have h1:fL x y z=a_ x y z:=by
  unfold fL
  rw [if_pos h]
 refine⟨h1,?_,?_⟩
 · unfold jm
   rw [if_neg (by rw [h1];exact h)]
 · unfold mgCl
   rw [if_neg (by rw [h1];exact h)]
theorem bZ.mono {w:Sv} {b1 b2 n k:Nat} {xs:List Ev} {ys:List Cm} (h:bZ w b1 b2 n xs ys)(hn:n≤k):bZ w b1 b2 k xs ys:=⟨h.ev.mono hn,h.cm.mono hn⟩
theorem Mg.at_.doc_low {m:Mg} {B g:Nat} {w:Sv} (h:m.at_ B g w):∃ d:Doc,d.lies w∧d.hd=m.hd∧d.rG=m.rG∧d.eV=m.eV∧d.cM=m.cM∧m.arr=(d.enc++[m.kv]).toArray∧∀ b,d.uses b→g≤b:=by
 obtain⟨a1,c1,e1,h1⟩:=ay (k:=7) (enc:=Reg.enc) (Ok:=Flat) (fun _=>rfl) h.rG (fun _ _=>trivial)
 obtain⟨a2,c2,e2,h2⟩:=ay (k:=7) (enc:=Ev.enc) (Ok:=Ev.lies) (fun _=>rfl) h.eV h.each
 obtain⟨a3,c3,e3,h3⟩:=ay (k:=8) (enc:=Cm.enc) (Ok:=Flat) (fun _=>rfl) h.cM (fun _ _=>trivial)
 have hl:=h.lt
 refine⟨⟨m.hd.title,m.hd.lang,m.hd.rate,m.hd.drop,m.hd.last,a1,c1,m.rG,a2,c2,m.eV,a3,c3,m.cM⟩,⟨h1,h2,h3⟩,rfl,rfl,rfl,rfl,?_,?_⟩
 · simp only [Mg.arr,Doc.enc,e1,e2,e3]
   rfl
 · rintro b (⟨_,ad,ha,rfl⟩|(⟨_,ad,ha,rfl⟩|⟨x,hx,hb⟩)|⟨_,ad,ha,rfl⟩)
   · have ha':a1=some ad:=ha
     have:=(h.rG.lt ad.block (by rw [e1,ha'];rfl)).1
     omega
   · have ha':a2=some ad:=ha
     have:=(h.eV.lt ad.block (by rw [e2,ha'];rfl)).1
     omega
   · exact h.low x hx b hb
   · have ha':a3=some ad:=ha
     have:=(h.cM.lt ad.block (by rw [e3,ha'];rfl)).1
     omega
theorem aQ:(SH.info? 27).map (·.size)=some 8:=by kernel_rfl
theorem pR (a b:ByteArray)(c:Int)(d:Bool)(e:Int)(f1 f2 f3:Option Addr)(n1 n2 n3 m1 m2 m3:Nat):(#[SI a,.string b,.int .u8 c,.bool d,.int .i64 e,.slice f1 n1 m1,.slice f2 n2 m2,.slice f3 n3 m3].all (·.oneCell'))=true:=by simp [SJ]
theorem size_setRow (w:Sv)(g:Nat)(cs:Array Sy):(w.setRow g cs).heap.size=w.heap.size:=by unfold Sv.setRow;simp
theorem CU (w:Sv)(g:Nat)(cs:Array Sy):Kept (fun b=>b=g) w (w.drew.setRow g cs):=⟨rfl,rfl,rfl,by rw [size_setRow];exact SG _,fun k _ hn=>bD _ _ _ _ hn⟩
theorem MS {w:Sv} {g:Nat} {v0 v1 v2 v3 v4 v5 v6 v7 a0 a1 a2 a3 a4 a5 a6 a7:Sy} (h:w.heap[g]? =some (.cells #[v0,v1,v2,v3,v4,v5,v6,v7] 27 (0,0))) :
 ((((((((w.setCell ⟨g,0,none⟩ a0).setCell ⟨g,1,none⟩ a1).setCell ⟨g,2,none⟩ a2).setCell ⟨g,3,none⟩ a3).setCell ⟨g,4,none⟩ a4).setCell ⟨g,5,none⟩ a5).setCell ⟨g,6,none⟩ a6).setCell ⟨g,7,none⟩ a7).heap[g]? =some (.cells #[a0,a1,a2,a3,a4,a5,a6,a7] 27 (0,0)):=by
 rw [Sx _ _ _ _ _ _ (Sx _ _ _ _ _ _ (Sx _ _ _ _ _ _ (Sx _ _ _ _ _ _ (Sx _ _ _ _ _ _ (Sx _ _ _ _ _ _ (Sx _ _ _ _ _ _ (Sx _ _ _ _ _ _ h))))))),put8]
end Go.Proofs.YtnlnmbcaongehaaGreatDoor
