/- merge.Merge: the finders of the three documents, in boxes. (printed by gen_mgfind3.py) -/
import Derived.Test.YtnlnmbcaongehaaGreatDoorM22
set_option linter.unusedVariables false
set_option linter.unusedSimpArgs false
set_option maxRecDepth 100000
set_option maxHeartbeats 12800000
open Go.Lib renaming hid→h_
open Go renaming heap_alloc_last→fm,wpAnyH_ready→fp,World→ft,Value→fu,wp_store_row→fw,below_setRow→fB,wpAnyH_take→fC,setRow_heap→fD,cell_of_row→fE
open Go.RowKit renaming Below→fF
open Array renaming toArray_toList→fG,getElem?_eq_some_iff→fH
open Go.RowKit.Below renaming refl→fI
open Go.Act renaming put→fJ
open List renaming setIfInBounds_toArray→fK,getElem_cons_zero→fL,getElem_cons_succ→fM,getElem_toArray→fN,set_cons_zero→fO,set_cons_succ→fP
open Go.Value renaming string→fQ
open Go.AllReadyH renaming cons→fR,nil→fS
open Nat renaming le_trans→fT,le_refl→fU
namespace Go.Proofs.YtnlnmbcaongehaaGreatDoor
open Go.RowKit
def Fd (d:Doc)(w7:ft)(u v:Nat)(w':ft):Prop:=VMap w' u d.evs.length (aM d.evs)∧VMap w' v d.cms.length (aK d.cms)∧w7.heap.size≤u∧w7.heap.size≤v
def Bx (w7:ft)(p:Nat)(w':ft):Prop:=w7.heap.size≤p∧w'.heap[p]? =some (.cells #[.map none,.map none] 148 (0,0))
theorem Fd.later {d:Doc} {w7 w' w2:ft} {u v:Nat} (h:Fd d w7 u v w')(hb:fF w'.heap.size w' w2):Fd d w7 u v w2:=⟨h.1.below hb h.1.lt,h.2.1.below hb h.2.1.lt,h.2.2⟩
theorem Bx.later {w7 w' w2:ft} {p:Nat} (h:Bx w7 p w')(hb:fF w'.heap.size w' w2):Bx w7 p w2:=⟨h.1,(hb.block _ (fH.1 h.2).1).trans h.2⟩
theorem Bx.ne {w7 w':ft} {p:Nat} (h:Bx w7 p w'):p≠w'.heap.size:=Nat.ne_of_lt (fH.1 h.2).1
theorem dZ (w:ft)(p b:Nat)(cs:Array fu)(hb:b≠p):(w.setRow p cs).heap[b]? =w.heap[b]?:=by
 unfold ft.setRow
 show(w.heap.modify _ _)[b]? =w.heap[b]?
 rw [Array.getElem?_modify,if_neg (fun e=>hb e.symm)]
theorem Bx.row {w7 w':ft} {p k:Nat} (h:Bx w7 p w')(hn:k≠p)(cs:Array fu):Bx w7 p (w'.setRow k cs):=⟨h.1,(dZ _ _ _ _ (fun e=>hn e.symm)).trans h.2⟩
theorem VMap.off {w':ft} {b n p:Nat} {f:Int→Option fu} {cs:Array fu} {t:TypeId} {fr:Nat × Nat} (h:VMap w' b n f)(hp:w'.heap[p]? =some (.cells cs t fr)):b≠p:=by
 obtain⟨D,hD,_⟩:=h
 rintro rfl
 obtain⟨es,clock,h1,_⟩:=hD
 rw [h1] at hp
 cases hp
theorem Fd.row {d:Doc} {w7 w':ft} {u v p:Nat} {cs:Array fu} {t:TypeId} {fr:Nat × Nat} (h:Fd d w7 u v w')(hp:w'.heap[p]? =some (.cells cs t fr))(cs':Array fu):Fd d w7 u v (w'.setRow p cs') :=
 ⟨h.1.kept (dZ _ _ _ _ (h.1.off hp)),h.2.1.kept (dZ _ _ _ _ (h.2.1.off hp)),h.2.2⟩
theorem zed:(Tryz.prog.info? 148).map (·.size)=some 2:=by kernel_rfl
theorem one2 (a b:Nat):(#[fu.map (some a),.map (some b)].all (·.oneCell'))=true:=by simp [fu.oneCell']
theorem zjt (x y z:Doc)(b1 b2 b3:Nat)(w7:ft)(h1:w7.heap[b1]? =some (.cells x.enc.toArray 27 (0,0)))(h2:w7.heap[b2]? =some (.cells y.enc.toArray 27 (0,0)))(h3:w7.heap[b3]? =some (.cells z.enc.toArray 27 (0,0)))
 (c1:∀ w',fF w7.heap.size w7 w'→Calls Tryz.prog 79 #[.agg x.enc.toArray] w' (cw x w')) (c2:∀ w',fF w7.heap.size w7 w'→Calls Tryz.prog 79 #[.agg y.enc.toArray] w' (cw y w')) (c3:∀ w',fF w7.heap.size w7 w'→Calls Tryz.prog 79 #[.agg z.enc.toArray] w' (cw z w'))
 (Q:Exit→Act→ft→Prop) (hP:∀ ch a a' w,a'.defers=a.defers→Q (.panic ch) a w→Q (.panic ch) a' w) (s0 s1 s2 s6 s7 s8 s9 s10 s11 s12 s13 s14 s15 s16 s17 s18 s19 s20 s21 s22 s23 s24 s25 s26 s27 s28 s29 s30 s31 s32 s33 s34 s35 s36 s37 s38 s39 s40 s41 s42 s43 s44 s45 s46 s47 s48 s49 s50 s51 s52 s53 s54 s55 s56 s57 s58 s59 s60 s61 s62 s63 s64 s65 s66 s67 s68 s69 s70 s71 s72 s73 s74 s75 s76 s77 s78 s79 s80 s81 s82 s83 s84 s85 s86 s87 s88 s89 s90 s91 s92 s93 s94 s95 s96 s97 s98 s99 s100:fu)
 (hfin:∀ (u65 u66 u67 u68 u69 u70:fu) (p6 p7 p8 u1 v1 u2 v2 u3 v3:Nat) (wx:ft),wx.heap[p6]? =some (.cells #[.map (some u1),.map (some v1)] 148 (0,0))→wx.heap[p7]? =some (.cells #[.map (some u2),.map (some v2)] 148 (0,0))→wx.heap[p8]? =some (.cells #[.map (some u3),.map (some v3)] 148 (0,0))→(w7.heap.size≤p6∧w7.heap.size≤p7∧w7.heap.size≤p8)→Fd x w7 u1 v1 wx→Fd y w7 u2 v2 wx→Fd z w7 u3 v3 wx→fF w7.heap.size w7 wx→Q .normal { tmps:=#[s0,s1,s2,.pointer (some ⟨b1,0,none⟩),.pointer (some ⟨b2,0,none⟩),.pointer (some ⟨b3,0,none⟩),s6,s7,s8,s9,s10,s11,s12,s13,s14,.pointer (some ⟨p6,0,none⟩),.pointer (some ⟨p7,0,none⟩),.pointer (some ⟨p8,0,none⟩),s18,s19,s20,s21,s22,s23,s24,s25,s26,s27,s28,s29,s30,s31,s32,s33,s34,s35,s36,s37,s38,s39,s40,s41,s42,s43,s44,s45,s46,s47,s48,s49,s50,s51,s52,s53,s54,s55,s56,s57,s58,s59,s60,s61,s62,s63,s64,u65,u66,u67,u68,u69,u70,s71,s72,s73,s74,s75,s76,s77,s78,s79,s80,s81,s82,s83,s84,s85,s86,s87,s88,s89,s90,s91,s92,s93,s94,s95,s96,s97,s98,s99,s100],defers:=[] } wx) :
 Code.wp Tryz.prog ((zeq 14 (Tryz.f26.body.getD .skip)).getD .skip) Q { tmps:=#[s0,s1,s2,.pointer (some ⟨b1,0,none⟩),.pointer (some ⟨b2,0,none⟩),.pointer (some ⟨b3,0,none⟩),s6,s7,s8,s9,s10,s11,s12,s13,s14,s15,s16,s17,s18,s19,s20,s21,s22,s23,s24,s25,s26,s27,s28,s29,s30,s31,s32,s33,s34,s35,s36,s37,s38,s39,s40,s41,s42,s43,s44,s45,s46,s47,s48,s49,s50,s51,s52,s53,s54,s55,s56,s57,s58,s59,s60,s61,s62,s63,s64,s65,s66,s67,s68,s69,s70,s71,s72,s73,s74,s75,s76,s77,s78,s79,s80,s81,s82,s83,s84,s85,s86,s87,s88,s89,s90,s91,s92,s93,s94,s95,s96,s97,s98,s99,s100],defers:=[] } w7:=by
 have HFIN:=h_ hfin
 have HP:=h_ hP
 have HF1:=h_ c1
 have HF2:=h_ c2
 have HF3:=h_ c3
 unfold cw at HF1 HF2 HF3
 have k1:∀ w',fF w7.heap.size w7 w'→∀ j,w'.cell? ⟨b1,j,none⟩=_:=fun w' q j=>fE _ _ j _ 27 (0,0) ((q.block _ (fH.1 h1).1).trans h1)
 have k2:∀ w',fF w7.heap.size w7 w'→∀ j,w'.cell? ⟨b2,j,none⟩=_:=fun w' q j=>fE _ _ j _ 27 (0,0) ((q.block _ (fH.1 h2).1).trans h2)
 have k3:∀ w',fF w7.heap.size w7 w'→∀ j,w'.cell? ⟨b3,j,none⟩=_:=fun w' q j=>fE _ _ j _ 27 (0,0) ((q.block _ (fH.1 h3).1).trans h3)
 have HT:=h_ (fun(w2 w3:ft) (q:fF w7.heap.size w7 w2) (q3:fF w2.heap.size w2 w3)=>(q.trans (q3.mono q.size):fF w7.heap.size w7 w3))
 have hd0:fF w7.heap.size w7 w7.drew:=(fI _ _).drew
 clear hfin hP c1 c2 c3 h1 h2 h3
 obtain⟨xt,xl,xr,xd,xla,xra,xrc,xregs,xea,xec,xevs,xca,xcc,xcms⟩:=x
 obtain⟨yt,yl,yr,yd,yla,yra,yrc,yregs,yea,yec,yevs,yca,ycc,ycms⟩:=y
 obtain⟨zt,zl,zr,zd,zla,zra,zrc,zregs,zea,zec,zevs,zca,zcc,zcms⟩:=z
 simp only [Doc.enc] at *
 conv=>arg 2;whnf
 refine wp_region_held_drew (S:=fun w'=>fF w7.heap.size w7 w') (by kernel_rfl) hd0 (fun _=>?_)
 try simp only [fJ,fN,fL,fM,fK,fO,fP,fG]
 refine fC (i:=0) (v:=.agg (#[fQ xt,.string xl,.int .u8 xr,.bool xd,.int .i64 xla,.slice xra xregs.length xrc,.slice xea xevs.length xec,.slice xca xcms.length xcc])) rfl (by kernel_rfl) (by kernel_rfl) (by kernel_rfl) (fun _ _ _ h=>HP.out _ _ _ _ (by rfl) h) (.inl ⟨by rfl,fun w_ hS_=>by have q_:=k1 _ hS_;go_simp⟩) hd0 ?_
 try simp only [fJ,fN,fL,fM,fK,fO,fP,fG]
 refine fC (i:=2) (v:=.agg (#[fQ yt,.string yl,.int .u8 yr,.bool yd,.int .i64 yla,.slice yra yregs.length yrc,.slice yea yevs.length yec,.slice yca ycms.length ycc])) rfl (by kernel_rfl) (by kernel_rfl) (by kernel_rfl) (fun _ _ _ h=>HP.out _ _ _ _ (by rfl) h) (.inl ⟨by rfl,fun w_ hS_=>by have q_:=k2 _ hS_;go_simp⟩) hd0 ?_
 try simp only [fJ,fN,fL,fM,fK,fO,fP,fG]
 refine fC (i:=4) (v:=.agg (#[fQ zt,.string zl,.int .u8 zr,.bool zd,.int .i64 zla,.slice zra zregs.length zrc,.slice zea zevs.length zec,.slice zca zcms.length zcc])) rfl (by kernel_rfl) (by kernel_rfl) (by kernel_rfl) (fun _ _ _ h=>HP.out _ _ _ _ (by rfl) h) (.inl ⟨by rfl,fun w_ hS_=>by have q_:=k3 _ hS_;go_simp⟩) hd0 ?_
 try simp only [fJ,fN,fL,fM,fK,fO,fP,fG]
 generalize hG:wpAnyH Tryz.prog _ _ _ _=G
 let FX:=Fd ⟨xt,xl,xr,xd,xla,xra,xrc,xregs,xea,xec,xevs,xca,xcc,xcms⟩ w7
 let FY:=Fd ⟨yt,yl,yr,yd,yla,yra,yrc,yregs,yea,yec,yevs,yca,ycc,ycms⟩ w7
 let FZ:=Fd ⟨zt,zl,zr,zd,zla,zra,zrc,zregs,zea,zec,zevs,zca,zcc,zcms⟩ w7
 let BX:=Bx w7
 let FR:fu→fu→fu→fu→fu→fu→Act:=fun a15 a16 a17 a66 a68 a70=>{ tmps:=#[s0,s1,s2,.pointer (some ⟨b1,0,none⟩),.pointer (some ⟨b2,0,none⟩),.pointer (some ⟨b3,0,none⟩),s6,s7,s8,s9,s10,s11,s12,s13,s14,a15,a16,a17,s18,s19,s20,s21,s22,s23,s24,s25,s26,s27,s28,s29,s30,s31,s32,s33,s34,s35,s36,s37,s38,s39,s40,s41,s42,s43,s44,s45,s46,s47,s48,s49,s50,s51,s52,s53,s54,s55,s56,s57,s58,s59,s60,s61,s62,s63,s64,.agg (#[fQ xt,.string xl,.int .u8 xr,.bool xd,.int .i64 xla,.slice xra xregs.length xrc,.slice xea xevs.length xec,.slice xca xcms.length xcc]),a66,.agg (#[fQ yt,.string yl,.int .u8 yr,.bool yd,.int .i64 yla,.slice yra yregs.length yrc,.slice yea yevs.length yec,.slice yca ycms.length ycc]),a68,.agg (#[fQ zt,.string zl,.int .u8 zr,.bool zd,.int .i64 zla,.slice zra zregs.length zrc,.slice zea zevs.length zec,.slice zca zcms.length zcc]),a70,s71,s72,s73,s74,s75,s76,s77,s78,s79,s80,s81,s82,s83,s84,s85,s86,s87,s88,s89,s90,s91,s92,s93,s94,s95,s96,s97,s98,s99,s100],defers:=[] }
 clear k1 k2 k3
 have H3_678:=h_ (show ∀ (w':ft) (u1 v1 u2 v2 u3 v3 p6 p7 p8:Nat),fF w7.heap.size w7 w'→FX u1 v1 w'→FY u2 v2 w'→FZ u3 v3 w'→BX p6 w'→BX p7 w'→BX p8 w'→p6≠p7→p6≠p8→p7≠p8→G 3 #[true,true,true,true,true,true,true,true,true,false,false,false] (FR (.pointer (some ⟨p6,0,none⟩)) (.pointer (some ⟨p7,0,none⟩)) (.pointer (some ⟨p8,0,none⟩)) (.agg #[.map (some u1),.map (some v1)]) (.agg #[.map (some u2),.map (some v2)]) (.agg #[.map (some u3),.map (some v3)])) w' from by
  intro w' u1 v1 u2 v2 u3 v3 p6 p7 p8 hS f0 f1 f2 f3 f4 f5 f6 f7 f8
  rw [←hG]
  simp only [FR]
  refine fp (rs:=[9]) (by kernel_rfl) (by simp) ?_
  refine fR rfl (fun K hK=>?_) fS
  rw [if_pos (by rfl)]
  refine fw 148 (.tmp 15) (.tmp 66) rfl p6 #[.map (some u1),.map (some v1)] rfl rfl 148 _ f3.2 zed rfl (one2 _ _) ?_
  have hS0:=fB hS f3.1 #[.map (some u1),.map (some v1)]
  have g01:FX u1 v1 (w'.setRow p6 #[.map (some u1),.map (some v1)]):=Fd.row f0 f3.2 _
  have g02:FY u2 v2 (w'.setRow p6 #[.map (some u1),.map (some v1)]):=Fd.row f1 f3.2 _
  have g03:FZ u3 v3 (w'.setRow p6 #[.map (some u1),.map (some v1)]):=Fd.row f2 f3.2 _
  have x07:BX p7 (w'.setRow p6 #[.map (some u1),.map (some v1)]):=Bx.row f4 (fun e=>f6 e) _
  have x08:BX p8 (w'.setRow p6 #[.map (some u1),.map (some v1)]):=Bx.row f5 (fun e=>f7 e) _
  have y06:(w'.setRow p6 #[.map (some u1),.map (some v1)]).heap[p6]? =some (.cells #[.map (some u1),.map (some v1)] 148 (0,0)):=fD _ _ _ _ _ _ f3.2
  refine hK.out _ _ hS0 (fun _=>?_)
  clear hK
  try simp only [fJ,fN,fL,fM,fK,fO,fP,fG]
  refine fp (rs:=[10]) (by kernel_rfl) (by simp) ?_
  refine fR rfl (fun K hK=>?_) fS
  rw [if_pos (by rfl)]
  refine fw 148 (.tmp 16) (.tmp 68) rfl p7 #[.map (some u2),.map (some v2)] rfl rfl 148 _ x07.2 zed rfl (one2 _ _) ?_
  have hS1:=fB hS0 x07.1 #[.map (some u2),.map (some v2)]
  have g11:FX u1 v1 ((w'.setRow p6 #[.map (some u1),.map (some v1)]).setRow p7 #[.map (some u2),.map (some v2)]):=Fd.row g01 x07.2 _
  have g12:FY u2 v2 ((w'.setRow p6 #[.map (some u1),.map (some v1)]).setRow p7 #[.map (some u2),.map (some v2)]):=Fd.row g02 x07.2 _
  have g13:FZ u3 v3 ((w'.setRow p6 #[.map (some u1),.map (some v1)]).setRow p7 #[.map (some u2),.map (some v2)]):=Fd.row g03 x07.2 _
  have x18:BX p8 ((w'.setRow p6 #[.map (some u1),.map (some v1)]).setRow p7 #[.map (some u2),.map (some v2)]):=Bx.row x08 (fun e=>f8 e) _
  have y16:((w'.setRow p6 #[.map (some u1),.map (some v1)]).setRow p7 #[.map (some u2),.map (some v2)]).heap[p6]? =some (.cells #[.map (some u1),.map (some v1)] 148 (0,0)):=(dZ _ _ _ _ f6).trans y06
  have y17:((w'.setRow p6 #[.map (some u1),.map (some v1)]).setRow p7 #[.map (some u2),.map (some v2)]).heap[p7]? =some (.cells #[.map (some u2),.map (some v2)] 148 (0,0)):=fD _ _ _ _ _ _ x07.2
  refine hK.out _ _ hS1 (fun _=>?_)
  clear hK
  try simp only [fJ,fN,fL,fM,fK,fO,fP,fG]
  refine fp (rs:=[11]) (by kernel_rfl) (by simp) ?_
  refine fR rfl (fun K hK=>?_) fS
  rw [if_pos (by rfl)]
  refine fw 148 (.tmp 17) (.tmp 70) rfl p8 #[.map (some u3),.map (some v3)] rfl rfl 148 _ x18.2 zed rfl (one2 _ _) ?_
  have hS2:=fB hS1 x18.1 #[.map (some u3),.map (some v3)]
  have g21:FX u1 v1 (((w'.setRow p6 #[.map (some u1),.map (some v1)]).setRow p7 #[.map (some u2),.map (some v2)]).setRow p8 #[.map (some u3),.map (some v3)]):=Fd.row g11 x18.2 _
  have g22:FY u2 v2 (((w'.setRow p6 #[.map (some u1),.map (some v1)]).setRow p7 #[.map (some u2),.map (some v2)]).setRow p8 #[.map (some u3),.map (some v3)]):=Fd.row g12 x18.2 _
  have g23:FZ u3 v3 (((w'.setRow p6 #[.map (some u1),.map (some v1)]).setRow p7 #[.map (some u2),.map (some v2)]).setRow p8 #[.map (some u3),.map (some v3)]):=Fd.row g13 x18.2 _
  have y26:(((w'.setRow p6 #[.map (some u1),.map (some v1)]).setRow p7 #[.map (some u2),.map (some v2)]).setRow p8 #[.map (some u3),.map (some v3)]).heap[p6]? =some (.cells #[.map (some u1),.map (some v1)] 148 (0,0)):=(dZ _ _ _ _ f7).trans y16
  have y27:(((w'.setRow p6 #[.map (some u1),.map (some v1)]).setRow p7 #[.map (some u2),.map (some v2)]).setRow p8 #[.map (some u3),.map (some v3)]).heap[p7]? =some (.cells #[.map (some u2),.map (some v2)] 148 (0,0)):=(dZ _ _ _ _ f8).trans y17
  have y28:(((w'.setRow p6 #[.map (some u1),.map (some v1)]).setRow p7 #[.map (some u2),.map (some v2)]).setRow p8 #[.map (some u3),.map (some v3)]).heap[p8]? =some (.cells #[.map (some u3),.map (some v3)] 148 (0,0)):=fD _ _ _ _ _ _ x18.2
  refine hK.out _ _ hS2 (fun _=>?_)
  clear hK
  try simp only [fJ,fN,fL,fM,fK,fO,fP,fG]
  refine wpAnyH_done (by kernel_rfl) ?_ _
  exact HFIN.out _ _ _ _ _ _ _ _ _ _ _ _ _ _ _ _ y26 y27 y28 ⟨f3.1,f4.1,f5.1⟩ g21 g22 g23 hS2)
 have H3_67:=h_ (show ∀ (w':ft) (u1 v1 u2 v2 u3 v3 p6 p7:Nat),fF w7.heap.size w7 w'→FX u1 v1 w'→FY u2 v2 w'→FZ u3 v3 w'→BX p6 w'→BX p7 w'→p6≠p7→G 4 #[true,true,true,true,true,true,true,true,false,false,false,false] (FR (.pointer (some ⟨p6,0,none⟩)) (.pointer (some ⟨p7,0,none⟩)) s17 (.agg #[.map (some u1),.map (some v1)]) (.agg #[.map (some u2),.map (some v2)]) (.agg #[.map (some u3),.map (some v3)])) w' from by
  intro w' u1 v1 u2 v2 u3 v3 p6 p7 hS f0 f1 f2 f3 f4 f5
  rw [←hG]
  simp only [FR]
  refine fp (rs:=[8]) (by kernel_rfl) (by simp) ?_
  refine fR rfl (fun K hK=>?_) fS
  · go_simp
    have hal:=hS.alloc hS.size (.cells #[.map none,.map none] 148)
    have hbe:fF w'.heap.size w' (w'.alloc (.cells #[.map none,.map none] 148)):=(fI _ _).alloc (fU _) _
    refine hK.out _ _ hal (fun _=>?_)
    clear hK
    rw [hG]
    exact H3_678.out _ _ _ _ _ _ _ _ _ _ hal (Fd.later f0 hbe) (Fd.later f1 hbe) (Fd.later f2 hbe) (Bx.later f3 hbe) (Bx.later f4 hbe) ⟨hS.size,fm w' _⟩ f5 (Bx.ne f3) (Bx.ne f4))
 have H3_68:=h_ (show ∀ (w':ft) (u1 v1 u2 v2 u3 v3 p6 p8:Nat),fF w7.heap.size w7 w'→FX u1 v1 w'→FY u2 v2 w'→FZ u3 v3 w'→BX p6 w'→BX p8 w'→p6≠p8→G 4 #[true,true,true,true,true,true,true,false,true,false,false,false] (FR (.pointer (some ⟨p6,0,none⟩)) s16 (.pointer (some ⟨p8,0,none⟩)) (.agg #[.map (some u1),.map (some v1)]) (.agg #[.map (some u2),.map (some v2)]) (.agg #[.map (some u3),.map (some v3)])) w' from by
  intro w' u1 v1 u2 v2 u3 v3 p6 p8 hS f0 f1 f2 f3 f4 f5
  rw [←hG]
  simp only [FR]
  refine fp (rs:=[7]) (by kernel_rfl) (by simp) ?_
  refine fR rfl (fun K hK=>?_) fS
  · go_simp
    have hal:=hS.alloc hS.size (.cells #[.map none,.map none] 148)
    have hbe:fF w'.heap.size w' (w'.alloc (.cells #[.map none,.map none] 148)):=(fI _ _).alloc (fU _) _
    refine hK.out _ _ hal (fun _=>?_)
    clear hK
    rw [hG]
    exact H3_678.out _ _ _ _ _ _ _ _ _ _ hal (Fd.later f0 hbe) (Fd.later f1 hbe) (Fd.later f2 hbe) (Bx.later f3 hbe) ⟨hS.size,fm w' _⟩ (Bx.later f4 hbe) (Bx.ne f3) f5 (fun e=>Bx.ne f4 e.symm))
 have H3_78:=h_ (show ∀ (w':ft) (u1 v1 u2 v2 u3 v3 p7 p8:Nat),fF w7.heap.size w7 w'→FX u1 v1 w'→FY u2 v2 w'→FZ u3 v3 w'→BX p7 w'→BX p8 w'→p7≠p8→G 4 #[true,true,true,true,true,true,false,true,true,false,false,false] (FR s15 (.pointer (some ⟨p7,0,none⟩)) (.pointer (some ⟨p8,0,none⟩)) (.agg #[.map (some u1),.map (some v1)]) (.agg #[.map (some u2),.map (some v2)]) (.agg #[.map (some u3),.map (some v3)])) w' from by
  intro w' u1 v1 u2 v2 u3 v3 p7 p8 hS f0 f1 f2 f3 f4 f5
  rw [←hG]
  simp only [FR]
  refine fp (rs:=[6]) (by kernel_rfl) (by simp) ?_
  refine fR rfl (fun K hK=>?_) fS
  · go_simp
    have hal:=hS.alloc hS.size (.cells #[.map none,.map none] 148)
    have hbe:fF w'.heap.size w' (w'.alloc (.cells #[.map none,.map none] 148)):=(fI _ _).alloc (fU _) _
    refine hK.out _ _ hal (fun _=>?_)
    clear hK
    rw [hG]
    exact H3_678.out _ _ _ _ _ _ _ _ _ _ hal (Fd.later f0 hbe) (Fd.later f1 hbe) (Fd.later f2 hbe) ⟨hS.size,fm w' _⟩ (Bx.later f3 hbe) (Bx.later f4 hbe) (fun e=>Bx.ne f3 e.symm) (fun e=>Bx.ne f4 e.symm) f5)
 have H3_6:=h_ (show ∀ (w':ft) (u1 v1 u2 v2 u3 v3 p6:Nat),fF w7.heap.size w7 w'→FX u1 v1 w'→FY u2 v2 w'→FZ u3 v3 w'→BX p6 w'→G 5 #[true,true,true,true,true,true,true,false,false,false,false,false] (FR (.pointer (some ⟨p6,0,none⟩)) s16 s17 (.agg #[.map (some u1),.map (some v1)]) (.agg #[.map (some u2),.map (some v2)]) (.agg #[.map (some u3),.map (some v3)])) w' from by
  intro w' u1 v1 u2 v2 u3 v3 p6 hS f0 f1 f2 f3
  rw [←hG]
  simp only [FR]
  refine fp (rs:=[7,8]) (by kernel_rfl) (by simp) ?_
  refine fR rfl (fun K hK=>?_) (fR rfl (fun K hK=>?_) fS)
  · go_simp
    have hal:=hS.alloc hS.size (.cells #[.map none,.map none] 148)
    have hbe:fF w'.heap.size w' (w'.alloc (.cells #[.map none,.map none] 148)):=(fI _ _).alloc (fU _) _
    refine hK.out _ _ hal (fun _=>?_)
    clear hK
    rw [hG]
    exact H3_67.out _ _ _ _ _ _ _ _ _ hal (Fd.later f0 hbe) (Fd.later f1 hbe) (Fd.later f2 hbe) (Bx.later f3 hbe) ⟨hS.size,fm w' _⟩ (Bx.ne f3)
  · go_simp
    have hal:=hS.alloc hS.size (.cells #[.map none,.map none] 148)
    have hbe:fF w'.heap.size w' (w'.alloc (.cells #[.map none,.map none] 148)):=(fI _ _).alloc (fU _) _
    refine hK.out _ _ hal (fun _=>?_)
    clear hK
    rw [hG]
    exact H3_68.out _ _ _ _ _ _ _ _ _ hal (Fd.later f0 hbe) (Fd.later f1 hbe) (Fd.later f2 hbe) (Bx.later f3 hbe) ⟨hS.size,fm w' _⟩ (Bx.ne f3))
 have H3_7:=h_ (show ∀ (w':ft) (u1 v1 u2 v2 u3 v3 p7:Nat),fF w7.heap.size w7 w'→FX u1 v1 w'→FY u2 v2 w'→FZ u3 v3 w'→BX p7 w'→G 5 #[true,true,true,true,true,true,false,true,false,false,false,false] (FR s15 (.pointer (some ⟨p7,0,none⟩)) s17 (.agg #[.map (some u1),.map (some v1)]) (.agg #[.map (some u2),.map (some v2)]) (.agg #[.map (some u3),.map (some v3)])) w' from by
  intro w' u1 v1 u2 v2 u3 v3 p7 hS f0 f1 f2 f3
  rw [←hG]
  simp only [FR]
  refine fp (rs:=[6,8]) (by kernel_rfl) (by simp) ?_
  refine fR rfl (fun K hK=>?_) (fR rfl (fun K hK=>?_) fS)
  · go_simp
    have hal:=hS.alloc hS.size (.cells #[.map none,.map none] 148)
    have hbe:fF w'.heap.size w' (w'.alloc (.cells #[.map none,.map none] 148)):=(fI _ _).alloc (fU _) _
    refine hK.out _ _ hal (fun _=>?_)
    clear hK
    rw [hG]
    exact H3_67.out _ _ _ _ _ _ _ _ _ hal (Fd.later f0 hbe) (Fd.later f1 hbe) (Fd.later f2 hbe) ⟨hS.size,fm w' _⟩ (Bx.later f3 hbe) (fun e=>Bx.ne f3 e.symm)
  · go_simp
    have hal:=hS.alloc hS.size (.cells #[.map none,.map none] 148)
    have hbe:fF w'.heap.size w' (w'.alloc (.cells #[.map none,.map none] 148)):=(fI _ _).alloc (fU _) _
    refine hK.out _ _ hal (fun _=>?_)
    clear hK
    rw [hG]
    exact H3_78.out _ _ _ _ _ _ _ _ _ hal (Fd.later f0 hbe) (Fd.later f1 hbe) (Fd.later f2 hbe) (Bx.later f3 hbe) ⟨hS.size,fm w' _⟩ (Bx.ne f3))
 have H3_8:=h_ (show ∀ (w':ft) (u1 v1 u2 v2 u3 v3 p8:Nat),fF w7.heap.size w7 w'→FX u1 v1 w'→FY u2 v2 w'→FZ u3 v3 w'→BX p8 w'→G 5 #[true,true,true,true,true,true,false,false,true,false,false,false] (FR s15 s16 (.pointer (some ⟨p8,0,none⟩)) (.agg #[.map (some u1),.map (some v1)]) (.agg #[.map (some u2),.map (some v2)]) (.agg #[.map (some u3),.map (some v3)])) w' from by
  intro w' u1 v1 u2 v2 u3 v3 p8 hS f0 f1 f2 f3
  rw [←hG]
  simp only [FR]
  refine fp (rs:=[6,7]) (by kernel_rfl) (by simp) ?_
  refine fR rfl (fun K hK=>?_) (fR rfl (fun K hK=>?_) fS)
  · go_simp
    have hal:=hS.alloc hS.size (.cells #[.map none,.map none] 148)
    have hbe:fF w'.heap.size w' (w'.alloc (.cells #[.map none,.map none] 148)):=(fI _ _).alloc (fU _) _
    refine hK.out _ _ hal (fun _=>?_)
    clear hK
    rw [hG]
    exact H3_68.out _ _ _ _ _ _ _ _ _ hal (Fd.later f0 hbe) (Fd.later f1 hbe) (Fd.later f2 hbe) ⟨hS.size,fm w' _⟩ (Bx.later f3 hbe) (fun e=>Bx.ne f3 e.symm)
  · go_simp
    have hal:=hS.alloc hS.size (.cells #[.map none,.map none] 148)
    have hbe:fF w'.heap.size w' (w'.alloc (.cells #[.map none,.map none] 148)):=(fI _ _).alloc (fU _) _
    refine hK.out _ _ hal (fun _=>?_)
    clear hK
    rw [hG]
    exact H3_78.out _ _ _ _ _ _ _ _ _ hal (Fd.later f0 hbe) (Fd.later f1 hbe) (Fd.later f2 hbe) ⟨hS.size,fm w' _⟩ (Bx.later f3 hbe) (fun e=>Bx.ne f3 e.symm))
 have H3_:=h_ (show ∀ (w':ft) (u1 v1 u2 v2 u3 v3:Nat),fF w7.heap.size w7 w'→FX u1 v1 w'→FY u2 v2 w'→FZ u3 v3 w'→G 6 #[true,true,true,true,true,true,false,false,false,false,false,false] (FR s15 s16 s17 (.agg #[.map (some u1),.map (some v1)]) (.agg #[.map (some u2),.map (some v2)]) (.agg #[.map (some u3),.map (some v3)])) w' from by
  intro w' u1 v1 u2 v2 u3 v3 hS f0 f1 f2
  rw [←hG]
  simp only [FR]
  refine fp (rs:=[6,7,8]) (by kernel_rfl) (by simp) ?_
  refine fR rfl (fun K hK=>?_) (fR rfl (fun K hK=>?_) (fR rfl (fun K hK=>?_) fS))
  · go_simp
    have hal:=hS.alloc hS.size (.cells #[.map none,.map none] 148)
    have hbe:fF w'.heap.size w' (w'.alloc (.cells #[.map none,.map none] 148)):=(fI _ _).alloc (fU _) _
    refine hK.out _ _ hal (fun _=>?_)
    clear hK
    rw [hG]
    exact H3_6.out _ _ _ _ _ _ _ _ hal (Fd.later f0 hbe) (Fd.later f1 hbe) (Fd.later f2 hbe) ⟨hS.size,fm w' _⟩
  · go_simp
    have hal:=hS.alloc hS.size (.cells #[.map none,.map none] 148)
    have hbe:fF w'.heap.size w' (w'.alloc (.cells #[.map none,.map none] 148)):=(fI _ _).alloc (fU _) _
    refine hK.out _ _ hal (fun _=>?_)
    clear hK
    rw [hG]
    exact H3_7.out _ _ _ _ _ _ _ _ hal (Fd.later f0 hbe) (Fd.later f1 hbe) (Fd.later f2 hbe) ⟨hS.size,fm w' _⟩
  · go_simp
    have hal:=hS.alloc hS.size (.cells #[.map none,.map none] 148)
    have hbe:fF w'.heap.size w' (w'.alloc (.cells #[.map none,.map none] 148)):=(fI _ _).alloc (fU _) _
    refine hK.out _ _ hal (fun _=>?_)
    clear hK
    rw [hG]
    exact H3_8.out _ _ _ _ _ _ _ _ hal (Fd.later f0 hbe) (Fd.later f1 hbe) (Fd.later f2 hbe) ⟨hS.size,fm w' _⟩)
 have H2_678:=h_ (show ∀ (w':ft) (u1 v1 u2 v2 p6 p7 p8:Nat),fF w7.heap.size w7 w'→FX u1 v1 w'→FY u2 v2 w'→BX p6 w'→BX p7 w'→BX p8 w'→p6≠p7→p6≠p8→p7≠p8→G 4 #[true,true,true,true,true,false,true,true,true,false,false,false] (FR (.pointer (some ⟨p6,0,none⟩)) (.pointer (some ⟨p7,0,none⟩)) (.pointer (some ⟨p8,0,none⟩)) (.agg #[.map (some u1),.map (some v1)]) (.agg #[.map (some u2),.map (some v2)]) s70) w' from by
  intro w' u1 v1 u2 v2 p6 p7 p8 hS f0 f1 f2 f3 f4 f5 f6 f7
  rw [←hG]
  simp only [FR]
  refine fp (rs:=[5]) (by kernel_rfl) (by simp) ?_
  refine fR rfl (fun K hK=>?_) fS
  · go_simp
    refine(HF3.out _ hS).mono ?_
    rintro e wn ⟨un,vn,rfl,hv1,hv2,hl1,hl2,hb_⟩
    have hc:=HT.out _ _ hS hb_
    have hfd:FZ un vn wn:=⟨hv1,hv2,fT hS.size hl1,fT hS.size hl2⟩
    go_wp2_with fail
    refine hK.out _ _ hc (fun _=>?_)
    clear hK
    rw [hG]
    exact H3_678.out _ _ _ _ _ _ _ _ _ _ hc (Fd.later f0 hb_) (Fd.later f1 hb_) hfd (Bx.later f2 hb_) (Bx.later f3 hb_) (Bx.later f4 hb_) f5 f6 f7)
 have H2_67:=h_ (show ∀ (w':ft) (u1 v1 u2 v2 p6 p7:Nat),fF w7.heap.size w7 w'→FX u1 v1 w'→FY u2 v2 w'→BX p6 w'→BX p7 w'→p6≠p7→G 5 #[true,true,true,true,true,false,true,true,false,false,false,false] (FR (.pointer (some ⟨p6,0,none⟩)) (.pointer (some ⟨p7,0,none⟩)) s17 (.agg #[.map (some u1),.map (some v1)]) (.agg #[.map (some u2),.map (some v2)]) s70) w' from by
  intro w' u1 v1 u2 v2 p6 p7 hS f0 f1 f2 f3 f4
  rw [←hG]
  simp only [FR]
  refine fp (rs:=[5,8]) (by kernel_rfl) (by simp) ?_
  refine fR rfl (fun K hK=>?_) (fR rfl (fun K hK=>?_) fS)
  · go_simp
    refine(HF3.out _ hS).mono ?_
    rintro e wn ⟨un,vn,rfl,hv1,hv2,hl1,hl2,hb_⟩
    have hc:=HT.out _ _ hS hb_
    have hfd:FZ un vn wn:=⟨hv1,hv2,fT hS.size hl1,fT hS.size hl2⟩
    go_wp2_with fail
    refine hK.out _ _ hc (fun _=>?_)
    clear hK
    rw [hG]
    exact H3_67.out _ _ _ _ _ _ _ _ _ hc (Fd.later f0 hb_) (Fd.later f1 hb_) hfd (Bx.later f2 hb_) (Bx.later f3 hb_) f4
  · go_simp
    have hal:=hS.alloc hS.size (.cells #[.map none,.map none] 148)
    have hbe:fF w'.heap.size w' (w'.alloc (.cells #[.map none,.map none] 148)):=(fI _ _).alloc (fU _) _
    refine hK.out _ _ hal (fun _=>?_)
    clear hK
    rw [hG]
    exact H2_678.out _ _ _ _ _ _ _ _ hal (Fd.later f0 hbe) (Fd.later f1 hbe) (Bx.later f2 hbe) (Bx.later f3 hbe) ⟨hS.size,fm w' _⟩ f4 (Bx.ne f2) (Bx.ne f3))
 have H2_68:=h_ (show ∀ (w':ft) (u1 v1 u2 v2 p6 p8:Nat),fF w7.heap.size w7 w'→FX u1 v1 w'→FY u2 v2 w'→BX p6 w'→BX p8 w'→p6≠p8→G 5 #[true,true,true,true,true,false,true,false,true,false,false,false] (FR (.pointer (some ⟨p6,0,none⟩)) s16 (.pointer (some ⟨p8,0,none⟩)) (.agg #[.map (some u1),.map (some v1)]) (.agg #[.map (some u2),.map (some v2)]) s70) w' from by
  intro w' u1 v1 u2 v2 p6 p8 hS f0 f1 f2 f3 f4
  rw [←hG]
  simp only [FR]
  refine fp (rs:=[5,7]) (by kernel_rfl) (by simp) ?_
  refine fR rfl (fun K hK=>?_) (fR rfl (fun K hK=>?_) fS)
  · go_simp
    refine(HF3.out _ hS).mono ?_
    rintro e wn ⟨un,vn,rfl,hv1,hv2,hl1,hl2,hb_⟩
    have hc:=HT.out _ _ hS hb_
    have hfd:FZ un vn wn:=⟨hv1,hv2,fT hS.size hl1,fT hS.size hl2⟩
    go_wp2_with fail
    refine hK.out _ _ hc (fun _=>?_)
    clear hK
    rw [hG]
    exact H3_68.out _ _ _ _ _ _ _ _ _ hc (Fd.later f0 hb_) (Fd.later f1 hb_) hfd (Bx.later f2 hb_) (Bx.later f3 hb_) f4
  · go_simp
    have hal:=hS.alloc hS.size (.cells #[.map none,.map none] 148)
    have hbe:fF w'.heap.size w' (w'.alloc (.cells #[.map none,.map none] 148)):=(fI _ _).alloc (fU _) _
    refine hK.out _ _ hal (fun _=>?_)
    clear hK
    rw [hG]
    exact H2_678.out _ _ _ _ _ _ _ _ hal (Fd.later f0 hbe) (Fd.later f1 hbe) (Bx.later f2 hbe) ⟨hS.size,fm w' _⟩ (Bx.later f3 hbe) (Bx.ne f2) f4 (fun e=>Bx.ne f3 e.symm))
 have H2_78:=h_ (show ∀ (w':ft) (u1 v1 u2 v2 p7 p8:Nat),fF w7.heap.size w7 w'→FX u1 v1 w'→FY u2 v2 w'→BX p7 w'→BX p8 w'→p7≠p8→G 5 #[true,true,true,true,true,false,false,true,true,false,false,false] (FR s15 (.pointer (some ⟨p7,0,none⟩)) (.pointer (some ⟨p8,0,none⟩)) (.agg #[.map (some u1),.map (some v1)]) (.agg #[.map (some u2),.map (some v2)]) s70) w' from by
  intro w' u1 v1 u2 v2 p7 p8 hS f0 f1 f2 f3 f4
  rw [←hG]
  simp only [FR]
  refine fp (rs:=[5,6]) (by kernel_rfl) (by simp) ?_
  refine fR rfl (fun K hK=>?_) (fR rfl (fun K hK=>?_) fS)
  · go_simp
    refine(HF3.out _ hS).mono ?_
    rintro e wn ⟨un,vn,rfl,hv1,hv2,hl1,hl2,hb_⟩
    have hc:=HT.out _ _ hS hb_
    have hfd:FZ un vn wn:=⟨hv1,hv2,fT hS.size hl1,fT hS.size hl2⟩
    go_wp2_with fail
    refine hK.out _ _ hc (fun _=>?_)
    clear hK
    rw [hG]
    exact H3_78.out _ _ _ _ _ _ _ _ _ hc (Fd.later f0 hb_) (Fd.later f1 hb_) hfd (Bx.later f2 hb_) (Bx.later f3 hb_) f4
  · go_simp
    have hal:=hS.alloc hS.size (.cells #[.map none,.map none] 148)
    have hbe:fF w'.heap.size w' (w'.alloc (.cells #[.map none,.map none] 148)):=(fI _ _).alloc (fU _) _
    refine hK.out _ _ hal (fun _=>?_)
    clear hK
    rw [hG]
    exact H2_678.out _ _ _ _ _ _ _ _ hal (Fd.later f0 hbe) (Fd.later f1 hbe) ⟨hS.size,fm w' _⟩ (Bx.later f2 hbe) (Bx.later f3 hbe) (fun e=>Bx.ne f2 e.symm) (fun e=>Bx.ne f3 e.symm) f4)
 have H2_6:=h_ (show ∀ (w':ft) (u1 v1 u2 v2 p6:Nat),fF w7.heap.size w7 w'→FX u1 v1 w'→FY u2 v2 w'→BX p6 w'→G 6 #[true,true,true,true,true,false,true,false,false,false,false,false] (FR (.pointer (some ⟨p6,0,none⟩)) s16 s17 (.agg #[.map (some u1),.map (some v1)]) (.agg #[.map (some u2),.map (some v2)]) s70) w' from by
  intro w' u1 v1 u2 v2 p6 hS f0 f1 f2
  rw [←hG]
  simp only [FR]
  refine fp (rs:=[5,7,8]) (by kernel_rfl) (by simp) ?_
  refine fR rfl (fun K hK=>?_) (fR rfl (fun K hK=>?_) (fR rfl (fun K hK=>?_) fS))
  · go_simp
    refine(HF3.out _ hS).mono ?_
    rintro e wn ⟨un,vn,rfl,hv1,hv2,hl1,hl2,hb_⟩
    have hc:=HT.out _ _ hS hb_
    have hfd:FZ un vn wn:=⟨hv1,hv2,fT hS.size hl1,fT hS.size hl2⟩
    go_wp2_with fail
    refine hK.out _ _ hc (fun _=>?_)
    clear hK
    rw [hG]
    exact H3_6.out _ _ _ _ _ _ _ _ hc (Fd.later f0 hb_) (Fd.later f1 hb_) hfd (Bx.later f2 hb_)
  · go_simp
    have hal:=hS.alloc hS.size (.cells #[.map none,.map none] 148)
    have hbe:fF w'.heap.size w' (w'.alloc (.cells #[.map none,.map none] 148)):=(fI _ _).alloc (fU _) _
    refine hK.out _ _ hal (fun _=>?_)
    clear hK
    rw [hG]
    exact H2_67.out _ _ _ _ _ _ _ hal (Fd.later f0 hbe) (Fd.later f1 hbe) (Bx.later f2 hbe) ⟨hS.size,fm w' _⟩ (Bx.ne f2)
  · go_simp
    have hal:=hS.alloc hS.size (.cells #[.map none,.map none] 148)
    have hbe:fF w'.heap.size w' (w'.alloc (.cells #[.map none,.map none] 148)):=(fI _ _).alloc (fU _) _
    refine hK.out _ _ hal (fun _=>?_)
    clear hK
    rw [hG]
    exact H2_68.out _ _ _ _ _ _ _ hal (Fd.later f0 hbe) (Fd.later f1 hbe) (Bx.later f2 hbe) ⟨hS.size,fm w' _⟩ (Bx.ne f2))
 have H2_7:=h_ (show ∀ (w':ft) (u1 v1 u2 v2 p7:Nat),fF w7.heap.size w7 w'→FX u1 v1 w'→FY u2 v2 w'→BX p7 w'→G 6 #[true,true,true,true,true,false,false,true,false,false,false,false] (FR s15 (.pointer (some ⟨p7,0,none⟩)) s17 (.agg #[.map (some u1),.map (some v1)]) (.agg #[.map (some u2),.map (some v2)]) s70) w' from by
  intro w' u1 v1 u2 v2 p7 hS f0 f1 f2
  rw [←hG]
  simp only [FR]
  refine fp (rs:=[5,6,8]) (by kernel_rfl) (by simp) ?_
  refine fR rfl (fun K hK=>?_) (fR rfl (fun K hK=>?_) (fR rfl (fun K hK=>?_) fS))
  · go_simp
    refine(HF3.out _ hS).mono ?_
    rintro e wn ⟨un,vn,rfl,hv1,hv2,hl1,hl2,hb_⟩
    have hc:=HT.out _ _ hS hb_
    have hfd:FZ un vn wn:=⟨hv1,hv2,fT hS.size hl1,fT hS.size hl2⟩
    go_wp2_with fail
    refine hK.out _ _ hc (fun _=>?_)
    clear hK
    rw [hG]
    exact H3_7.out _ _ _ _ _ _ _ _ hc (Fd.later f0 hb_) (Fd.later f1 hb_) hfd (Bx.later f2 hb_)
  · go_simp
    have hal:=hS.alloc hS.size (.cells #[.map none,.map none] 148)
    have hbe:fF w'.heap.size w' (w'.alloc (.cells #[.map none,.map none] 148)):=(fI _ _).alloc (fU _) _
    refine hK.out _ _ hal (fun _=>?_)
    clear hK
    rw [hG]
    exact H2_67.out _ _ _ _ _ _ _ hal (Fd.later f0 hbe) (Fd.later f1 hbe) ⟨hS.size,fm w' _⟩ (Bx.later f2 hbe) (fun e=>Bx.ne f2 e.symm)
  · go_simp
    have hal:=hS.alloc hS.size (.cells #[.map none,.map none] 148)
    have hbe:fF w'.heap.size w' (w'.alloc (.cells #[.map none,.map none] 148)):=(fI _ _).alloc (fU _) _
    refine hK.out _ _ hal (fun _=>?_)
    clear hK
    rw [hG]
    exact H2_78.out _ _ _ _ _ _ _ hal (Fd.later f0 hbe) (Fd.later f1 hbe) (Bx.later f2 hbe) ⟨hS.size,fm w' _⟩ (Bx.ne f2))
 have H2_8:=h_ (show ∀ (w':ft) (u1 v1 u2 v2 p8:Nat),fF w7.heap.size w7 w'→FX u1 v1 w'→FY u2 v2 w'→BX p8 w'→G 6 #[true,true,true,true,true,false,false,false,true,false,false,false] (FR s15 s16 (.pointer (some ⟨p8,0,none⟩)) (.agg #[.map (some u1),.map (some v1)]) (.agg #[.map (some u2),.map (some v2)]) s70) w' from by
  intro w' u1 v1 u2 v2 p8 hS f0 f1 f2
  rw [←hG]
  simp only [FR]
  refine fp (rs:=[5,6,7]) (by kernel_rfl) (by simp) ?_
  refine fR rfl (fun K hK=>?_) (fR rfl (fun K hK=>?_) (fR rfl (fun K hK=>?_) fS))
  · go_simp
    refine(HF3.out _ hS).mono ?_
    rintro e wn ⟨un,vn,rfl,hv1,hv2,hl1,hl2,hb_⟩
    have hc:=HT.out _ _ hS hb_
    have hfd:FZ un vn wn:=⟨hv1,hv2,fT hS.size hl1,fT hS.size hl2⟩
    go_wp2_with fail
    refine hK.out _ _ hc (fun _=>?_)
    clear hK
    rw [hG]
    exact H3_8.out _ _ _ _ _ _ _ _ hc (Fd.later f0 hb_) (Fd.later f1 hb_) hfd (Bx.later f2 hb_)
  · go_simp
    have hal:=hS.alloc hS.size (.cells #[.map none,.map none] 148)
    have hbe:fF w'.heap.size w' (w'.alloc (.cells #[.map none,.map none] 148)):=(fI _ _).alloc (fU _) _
    refine hK.out _ _ hal (fun _=>?_)
    clear hK
    rw [hG]
    exact H2_68.out _ _ _ _ _ _ _ hal (Fd.later f0 hbe) (Fd.later f1 hbe) ⟨hS.size,fm w' _⟩ (Bx.later f2 hbe) (fun e=>Bx.ne f2 e.symm)
  · go_simp
    have hal:=hS.alloc hS.size (.cells #[.map none,.map none] 148)
    have hbe:fF w'.heap.size w' (w'.alloc (.cells #[.map none,.map none] 148)):=(fI _ _).alloc (fU _) _
    refine hK.out _ _ hal (fun _=>?_)
    clear hK
    rw [hG]
    exact H2_78.out _ _ _ _ _ _ _ hal (Fd.later f0 hbe) (Fd.later f1 hbe) ⟨hS.size,fm w' _⟩ (Bx.later f2 hbe) (fun e=>Bx.ne f2 e.symm))
 have H2_:=h_ (show ∀ (w':ft) (u1 v1 u2 v2:Nat),fF w7.heap.size w7 w'→FX u1 v1 w'→FY u2 v2 w'→G 7 #[true,true,true,true,true,false,false,false,false,false,false,false] (FR s15 s16 s17 (.agg #[.map (some u1),.map (some v1)]) (.agg #[.map (some u2),.map (some v2)]) s70) w' from by
  intro w' u1 v1 u2 v2 hS f0 f1
  rw [←hG]
  simp only [FR]
  refine fp (rs:=[5,6,7,8]) (by kernel_rfl) (by simp) ?_
  refine fR rfl (fun K hK=>?_) (fR rfl (fun K hK=>?_) (fR rfl (fun K hK=>?_) (fR rfl (fun K hK=>?_) fS)))
  · go_simp
    refine(HF3.out _ hS).mono ?_
    rintro e wn ⟨un,vn,rfl,hv1,hv2,hl1,hl2,hb_⟩
    have hc:=HT.out _ _ hS hb_
    have hfd:FZ un vn wn:=⟨hv1,hv2,fT hS.size hl1,fT hS.size hl2⟩
    go_wp2_with fail
    refine hK.out _ _ hc (fun _=>?_)
    clear hK
    rw [hG]
    exact H3_.out _ _ _ _ _ _ _ hc (Fd.later f0 hb_) (Fd.later f1 hb_) hfd
  · go_simp
    have hal:=hS.alloc hS.size (.cells #[.map none,.map none] 148)
    have hbe:fF w'.heap.size w' (w'.alloc (.cells #[.map none,.map none] 148)):=(fI _ _).alloc (fU _) _
    refine hK.out _ _ hal (fun _=>?_)
    clear hK
    rw [hG]
    exact H2_6.out _ _ _ _ _ _ hal (Fd.later f0 hbe) (Fd.later f1 hbe) ⟨hS.size,fm w' _⟩
  · go_simp
    have hal:=hS.alloc hS.size (.cells #[.map none,.map none] 148)
    have hbe:fF w'.heap.size w' (w'.alloc (.cells #[.map none,.map none] 148)):=(fI _ _).alloc (fU _) _
    refine hK.out _ _ hal (fun _=>?_)
    clear hK
    rw [hG]
    exact H2_7.out _ _ _ _ _ _ hal (Fd.later f0 hbe) (Fd.later f1 hbe) ⟨hS.size,fm w' _⟩
  · go_simp
    have hal:=hS.alloc hS.size (.cells #[.map none,.map none] 148)
    have hbe:fF w'.heap.size w' (w'.alloc (.cells #[.map none,.map none] 148)):=(fI _ _).alloc (fU _) _
    refine hK.out _ _ hal (fun _=>?_)
    clear hK
    rw [hG]
    exact H2_8.out _ _ _ _ _ _ hal (Fd.later f0 hbe) (Fd.later f1 hbe) ⟨hS.size,fm w' _⟩)
 have H1_678:=h_ (show ∀ (w':ft) (u1 v1 p6 p7 p8:Nat),fF w7.heap.size w7 w'→FX u1 v1 w'→BX p6 w'→BX p7 w'→BX p8 w'→p6≠p7→p6≠p8→p7≠p8→G 5 #[true,true,true,false,true,false,true,true,true,false,false,false] (FR (.pointer (some ⟨p6,0,none⟩)) (.pointer (some ⟨p7,0,none⟩)) (.pointer (some ⟨p8,0,none⟩)) (.agg #[.map (some u1),.map (some v1)]) s68 s70) w' from by
  intro w' u1 v1 p6 p7 p8 hS f0 f1 f2 f3 f4 f5 f6
  rw [←hG]
  simp only [FR]
  refine fp (rs:=[3]) (by kernel_rfl) (by simp) ?_
  refine fR rfl (fun K hK=>?_) fS
  · go_simp
    refine(HF2.out _ hS).mono ?_
    rintro e wn ⟨un,vn,rfl,hv1,hv2,hl1,hl2,hb_⟩
    have hc:=HT.out _ _ hS hb_
    have hfd:FY un vn wn:=⟨hv1,hv2,fT hS.size hl1,fT hS.size hl2⟩
    go_wp2_with fail
    refine hK.out _ _ hc (fun _=>?_)
    clear hK
    rw [hG]
    exact H2_678.out _ _ _ _ _ _ _ _ hc (Fd.later f0 hb_) hfd (Bx.later f1 hb_) (Bx.later f2 hb_) (Bx.later f3 hb_) f4 f5 f6)
 have H1_67:=h_ (show ∀ (w':ft) (u1 v1 p6 p7:Nat),fF w7.heap.size w7 w'→FX u1 v1 w'→BX p6 w'→BX p7 w'→p6≠p7→G 6 #[true,true,true,false,true,false,true,true,false,false,false,false] (FR (.pointer (some ⟨p6,0,none⟩)) (.pointer (some ⟨p7,0,none⟩)) s17 (.agg #[.map (some u1),.map (some v1)]) s68 s70) w' from by
  intro w' u1 v1 p6 p7 hS f0 f1 f2 f3
  rw [←hG]
  simp only [FR]
  refine fp (rs:=[3,8]) (by kernel_rfl) (by simp) ?_
  refine fR rfl (fun K hK=>?_) (fR rfl (fun K hK=>?_) fS)
  · go_simp
    refine(HF2.out _ hS).mono ?_
    rintro e wn ⟨un,vn,rfl,hv1,hv2,hl1,hl2,hb_⟩
    have hc:=HT.out _ _ hS hb_
    have hfd:FY un vn wn:=⟨hv1,hv2,fT hS.size hl1,fT hS.size hl2⟩
    go_wp2_with fail
    refine hK.out _ _ hc (fun _=>?_)
    clear hK
    rw [hG]
    exact H2_67.out _ _ _ _ _ _ _ hc (Fd.later f0 hb_) hfd (Bx.later f1 hb_) (Bx.later f2 hb_) f3
  · go_simp
    have hal:=hS.alloc hS.size (.cells #[.map none,.map none] 148)
    have hbe:fF w'.heap.size w' (w'.alloc (.cells #[.map none,.map none] 148)):=(fI _ _).alloc (fU _) _
    refine hK.out _ _ hal (fun _=>?_)
    clear hK
    rw [hG]
    exact H1_678.out _ _ _ _ _ _ hal (Fd.later f0 hbe) (Bx.later f1 hbe) (Bx.later f2 hbe) ⟨hS.size,fm w' _⟩ f3 (Bx.ne f1) (Bx.ne f2))
 have H1_68:=h_ (show ∀ (w':ft) (u1 v1 p6 p8:Nat),fF w7.heap.size w7 w'→FX u1 v1 w'→BX p6 w'→BX p8 w'→p6≠p8→G 6 #[true,true,true,false,true,false,true,false,true,false,false,false] (FR (.pointer (some ⟨p6,0,none⟩)) s16 (.pointer (some ⟨p8,0,none⟩)) (.agg #[.map (some u1),.map (some v1)]) s68 s70) w' from by
  intro w' u1 v1 p6 p8 hS f0 f1 f2 f3
  rw [←hG]
  simp only [FR]
  refine fp (rs:=[3,7]) (by kernel_rfl) (by simp) ?_
  refine fR rfl (fun K hK=>?_) (fR rfl (fun K hK=>?_) fS)
  · go_simp
    refine(HF2.out _ hS).mono ?_
    rintro e wn ⟨un,vn,rfl,hv1,hv2,hl1,hl2,hb_⟩
    have hc:=HT.out _ _ hS hb_
    have hfd:FY un vn wn:=⟨hv1,hv2,fT hS.size hl1,fT hS.size hl2⟩
    go_wp2_with fail
    refine hK.out _ _ hc (fun _=>?_)
    clear hK
    rw [hG]
    exact H2_68.out _ _ _ _ _ _ _ hc (Fd.later f0 hb_) hfd (Bx.later f1 hb_) (Bx.later f2 hb_) f3
  · go_simp
    have hal:=hS.alloc hS.size (.cells #[.map none,.map none] 148)
    have hbe:fF w'.heap.size w' (w'.alloc (.cells #[.map none,.map none] 148)):=(fI _ _).alloc (fU _) _
    refine hK.out _ _ hal (fun _=>?_)
    clear hK
    rw [hG]
    exact H1_678.out _ _ _ _ _ _ hal (Fd.later f0 hbe) (Bx.later f1 hbe) ⟨hS.size,fm w' _⟩ (Bx.later f2 hbe) (Bx.ne f1) f3 (fun e=>Bx.ne f2 e.symm))
 have H1_78:=h_ (show ∀ (w':ft) (u1 v1 p7 p8:Nat),fF w7.heap.size w7 w'→FX u1 v1 w'→BX p7 w'→BX p8 w'→p7≠p8→G 6 #[true,true,true,false,true,false,false,true,true,false,false,false] (FR s15 (.pointer (some ⟨p7,0,none⟩)) (.pointer (some ⟨p8,0,none⟩)) (.agg #[.map (some u1),.map (some v1)]) s68 s70) w' from by
  intro w' u1 v1 p7 p8 hS f0 f1 f2 f3
  rw [←hG]
  simp only [FR]
  refine fp (rs:=[3,6]) (by kernel_rfl) (by simp) ?_
  refine fR rfl (fun K hK=>?_) (fR rfl (fun K hK=>?_) fS)
  · go_simp
    refine(HF2.out _ hS).mono ?_
    rintro e wn ⟨un,vn,rfl,hv1,hv2,hl1,hl2,hb_⟩
    have hc:=HT.out _ _ hS hb_
    have hfd:FY un vn wn:=⟨hv1,hv2,fT hS.size hl1,fT hS.size hl2⟩
    go_wp2_with fail
    refine hK.out _ _ hc (fun _=>?_)
    clear hK
    rw [hG]
    exact H2_78.out _ _ _ _ _ _ _ hc (Fd.later f0 hb_) hfd (Bx.later f1 hb_) (Bx.later f2 hb_) f3
  · go_simp
    have hal:=hS.alloc hS.size (.cells #[.map none,.map none] 148)
    have hbe:fF w'.heap.size w' (w'.alloc (.cells #[.map none,.map none] 148)):=(fI _ _).alloc (fU _) _
    refine hK.out _ _ hal (fun _=>?_)
    clear hK
    rw [hG]
    exact H1_678.out _ _ _ _ _ _ hal (Fd.later f0 hbe) ⟨hS.size,fm w' _⟩ (Bx.later f1 hbe) (Bx.later f2 hbe) (fun e=>Bx.ne f1 e.symm) (fun e=>Bx.ne f2 e.symm) f3)
 have H1_6:=h_ (show ∀ (w':ft) (u1 v1 p6:Nat),fF w7.heap.size w7 w'→FX u1 v1 w'→BX p6 w'→G 7 #[true,true,true,false,true,false,true,false,false,false,false,false] (FR (.pointer (some ⟨p6,0,none⟩)) s16 s17 (.agg #[.map (some u1),.map (some v1)]) s68 s70) w' from by
  intro w' u1 v1 p6 hS f0 f1
  rw [←hG]
  simp only [FR]
  refine fp (rs:=[3,7,8]) (by kernel_rfl) (by simp) ?_
  refine fR rfl (fun K hK=>?_) (fR rfl (fun K hK=>?_) (fR rfl (fun K hK=>?_) fS))
  · go_simp
    refine(HF2.out _ hS).mono ?_
    rintro e wn ⟨un,vn,rfl,hv1,hv2,hl1,hl2,hb_⟩
    have hc:=HT.out _ _ hS hb_
    have hfd:FY un vn wn:=⟨hv1,hv2,fT hS.size hl1,fT hS.size hl2⟩
    go_wp2_with fail
    refine hK.out _ _ hc (fun _=>?_)
    clear hK
    rw [hG]
    exact H2_6.out _ _ _ _ _ _ hc (Fd.later f0 hb_) hfd (Bx.later f1 hb_)
  · go_simp
    have hal:=hS.alloc hS.size (.cells #[.map none,.map none] 148)
    have hbe:fF w'.heap.size w' (w'.alloc (.cells #[.map none,.map none] 148)):=(fI _ _).alloc (fU _) _
    refine hK.out _ _ hal (fun _=>?_)
    clear hK
    rw [hG]
    exact H1_67.out _ _ _ _ _ hal (Fd.later f0 hbe) (Bx.later f1 hbe) ⟨hS.size,fm w' _⟩ (Bx.ne f1)
  · go_simp
    have hal:=hS.alloc hS.size (.cells #[.map none,.map none] 148)
    have hbe:fF w'.heap.size w' (w'.alloc (.cells #[.map none,.map none] 148)):=(fI _ _).alloc (fU _) _
    refine hK.out _ _ hal (fun _=>?_)
    clear hK
    rw [hG]
    exact H1_68.out _ _ _ _ _ hal (Fd.later f0 hbe) (Bx.later f1 hbe) ⟨hS.size,fm w' _⟩ (Bx.ne f1))
 have H1_7:=h_ (show ∀ (w':ft) (u1 v1 p7:Nat),fF w7.heap.size w7 w'→FX u1 v1 w'→BX p7 w'→G 7 #[true,true,true,false,true,false,false,true,false,false,false,false] (FR s15 (.pointer (some ⟨p7,0,none⟩)) s17 (.agg #[.map (some u1),.map (some v1)]) s68 s70) w' from by
  intro w' u1 v1 p7 hS f0 f1
  rw [←hG]
  simp only [FR]
  refine fp (rs:=[3,6,8]) (by kernel_rfl) (by simp) ?_
  refine fR rfl (fun K hK=>?_) (fR rfl (fun K hK=>?_) (fR rfl (fun K hK=>?_) fS))
  · go_simp
    refine(HF2.out _ hS).mono ?_
    rintro e wn ⟨un,vn,rfl,hv1,hv2,hl1,hl2,hb_⟩
    have hc:=HT.out _ _ hS hb_
    have hfd:FY un vn wn:=⟨hv1,hv2,fT hS.size hl1,fT hS.size hl2⟩
    go_wp2_with fail
    refine hK.out _ _ hc (fun _=>?_)
    clear hK
    rw [hG]
    exact H2_7.out _ _ _ _ _ _ hc (Fd.later f0 hb_) hfd (Bx.later f1 hb_)
  · go_simp
    have hal:=hS.alloc hS.size (.cells #[.map none,.map none] 148)
    have hbe:fF w'.heap.size w' (w'.alloc (.cells #[.map none,.map none] 148)):=(fI _ _).alloc (fU _) _
    refine hK.out _ _ hal (fun _=>?_)
    clear hK
    rw [hG]
    exact H1_67.out _ _ _ _ _ hal (Fd.later f0 hbe) ⟨hS.size,fm w' _⟩ (Bx.later f1 hbe) (fun e=>Bx.ne f1 e.symm)
  · go_simp
    have hal:=hS.alloc hS.size (.cells #[.map none,.map none] 148)
    have hbe:fF w'.heap.size w' (w'.alloc (.cells #[.map none,.map none] 148)):=(fI _ _).alloc (fU _) _
    refine hK.out _ _ hal (fun _=>?_)
    clear hK
    rw [hG]
    exact H1_78.out _ _ _ _ _ hal (Fd.later f0 hbe) (Bx.later f1 hbe) ⟨hS.size,fm w' _⟩ (Bx.ne f1))
 have H1_8:=h_ (show ∀ (w':ft) (u1 v1 p8:Nat),fF w7.heap.size w7 w'→FX u1 v1 w'→BX p8 w'→G 7 #[true,true,true,false,true,false,false,false,true,false,false,false] (FR s15 s16 (.pointer (some ⟨p8,0,none⟩)) (.agg #[.map (some u1),.map (some v1)]) s68 s70) w' from by
  intro w' u1 v1 p8 hS f0 f1
  rw [←hG]
  simp only [FR]
  refine fp (rs:=[3,6,7]) (by kernel_rfl) (by simp) ?_
  refine fR rfl (fun K hK=>?_) (fR rfl (fun K hK=>?_) (fR rfl (fun K hK=>?_) fS))
  · go_simp
    refine(HF2.out _ hS).mono ?_
    rintro e wn ⟨un,vn,rfl,hv1,hv2,hl1,hl2,hb_⟩
    have hc:=HT.out _ _ hS hb_
    have hfd:FY un vn wn:=⟨hv1,hv2,fT hS.size hl1,fT hS.size hl2⟩
    go_wp2_with fail
    refine hK.out _ _ hc (fun _=>?_)
    clear hK
    rw [hG]
    exact H2_8.out _ _ _ _ _ _ hc (Fd.later f0 hb_) hfd (Bx.later f1 hb_)
  · go_simp
    have hal:=hS.alloc hS.size (.cells #[.map none,.map none] 148)
    have hbe:fF w'.heap.size w' (w'.alloc (.cells #[.map none,.map none] 148)):=(fI _ _).alloc (fU _) _
    refine hK.out _ _ hal (fun _=>?_)
    clear hK
    rw [hG]
    exact H1_68.out _ _ _ _ _ hal (Fd.later f0 hbe) ⟨hS.size,fm w' _⟩ (Bx.later f1 hbe) (fun e=>Bx.ne f1 e.symm)
  · go_simp
    have hal:=hS.alloc hS.size (.cells #[.map none,.map none] 148)
    have hbe:fF w'.heap.size w' (w'.alloc (.cells #[.map none,.map none] 148)):=(fI _ _).alloc (fU _) _
    refine hK.out _ _ hal (fun _=>?_)
    clear hK
    rw [hG]
    exact H1_78.out _ _ _ _ _ hal (Fd.later f0 hbe) ⟨hS.size,fm w' _⟩ (Bx.later f1 hbe) (fun e=>Bx.ne f1 e.symm))
 have H1_:=h_ (show ∀ (w':ft) (u1 v1:Nat),fF w7.heap.size w7 w'→FX u1 v1 w'→G 8 #[true,true,true,false,true,false,false,false,false,false,false,false] (FR s15 s16 s17 (.agg #[.map (some u1),.map (some v1)]) s68 s70) w' from by
  intro w' u1 v1 hS f0
  rw [←hG]
  simp only [FR]
  refine fp (rs:=[3,6,7,8]) (by kernel_rfl) (by simp) ?_
  refine fR rfl (fun K hK=>?_) (fR rfl (fun K hK=>?_) (fR rfl (fun K hK=>?_) (fR rfl (fun K hK=>?_) fS)))
  · go_simp
    refine(HF2.out _ hS).mono ?_
    rintro e wn ⟨un,vn,rfl,hv1,hv2,hl1,hl2,hb_⟩
    have hc:=HT.out _ _ hS hb_
    have hfd:FY un vn wn:=⟨hv1,hv2,fT hS.size hl1,fT hS.size hl2⟩
    go_wp2_with fail
    refine hK.out _ _ hc (fun _=>?_)
    clear hK
    rw [hG]
    exact H2_.out _ _ _ _ _ hc (Fd.later f0 hb_) hfd
  · go_simp
    have hal:=hS.alloc hS.size (.cells #[.map none,.map none] 148)
    have hbe:fF w'.heap.size w' (w'.alloc (.cells #[.map none,.map none] 148)):=(fI _ _).alloc (fU _) _
    refine hK.out _ _ hal (fun _=>?_)
    clear hK
    rw [hG]
    exact H1_6.out _ _ _ _ hal (Fd.later f0 hbe) ⟨hS.size,fm w' _⟩
  · go_simp
    have hal:=hS.alloc hS.size (.cells #[.map none,.map none] 148)
    have hbe:fF w'.heap.size w' (w'.alloc (.cells #[.map none,.map none] 148)):=(fI _ _).alloc (fU _) _
    refine hK.out _ _ hal (fun _=>?_)
    clear hK
    rw [hG]
    exact H1_7.out _ _ _ _ hal (Fd.later f0 hbe) ⟨hS.size,fm w' _⟩
  · go_simp
    have hal:=hS.alloc hS.size (.cells #[.map none,.map none] 148)
    have hbe:fF w'.heap.size w' (w'.alloc (.cells #[.map none,.map none] 148)):=(fI _ _).alloc (fU _) _
    refine hK.out _ _ hal (fun _=>?_)
    clear hK
    rw [hG]
    exact H1_8.out _ _ _ _ hal (Fd.later f0 hbe) ⟨hS.size,fm w' _⟩)
 have H0_678:=h_ (show ∀ (w':ft) (p6 p7 p8:Nat),fF w7.heap.size w7 w'→BX p6 w'→BX p7 w'→BX p8 w'→p6≠p7→p6≠p8→p7≠p8→G 6 #[true,false,true,false,true,false,true,true,true,false,false,false] (FR (.pointer (some ⟨p6,0,none⟩)) (.pointer (some ⟨p7,0,none⟩)) (.pointer (some ⟨p8,0,none⟩)) s66 s68 s70) w' from by
  intro w' p6 p7 p8 hS f0 f1 f2 f3 f4 f5
  rw [←hG]
  simp only [FR]
  refine fp (rs:=[1]) (by kernel_rfl) (by simp) ?_
  refine fR rfl (fun K hK=>?_) fS
  · go_simp
    refine(HF1.out _ hS).mono ?_
    rintro e wn ⟨un,vn,rfl,hv1,hv2,hl1,hl2,hb_⟩
    have hc:=HT.out _ _ hS hb_
    have hfd:FX un vn wn:=⟨hv1,hv2,fT hS.size hl1,fT hS.size hl2⟩
    go_wp2_with fail
    refine hK.out _ _ hc (fun _=>?_)
    clear hK
    rw [hG]
    exact H1_678.out _ _ _ _ _ _ hc hfd (Bx.later f0 hb_) (Bx.later f1 hb_) (Bx.later f2 hb_) f3 f4 f5)
 have H0_67:=h_ (show ∀ (w':ft) (p6 p7:Nat),fF w7.heap.size w7 w'→BX p6 w'→BX p7 w'→p6≠p7→G 7 #[true,false,true,false,true,false,true,true,false,false,false,false] (FR (.pointer (some ⟨p6,0,none⟩)) (.pointer (some ⟨p7,0,none⟩)) s17 s66 s68 s70) w' from by
  intro w' p6 p7 hS f0 f1 f2
  rw [←hG]
  simp only [FR]
  refine fp (rs:=[1,8]) (by kernel_rfl) (by simp) ?_
  refine fR rfl (fun K hK=>?_) (fR rfl (fun K hK=>?_) fS)
  · go_simp
    refine(HF1.out _ hS).mono ?_
    rintro e wn ⟨un,vn,rfl,hv1,hv2,hl1,hl2,hb_⟩
    have hc:=HT.out _ _ hS hb_
    have hfd:FX un vn wn:=⟨hv1,hv2,fT hS.size hl1,fT hS.size hl2⟩
    go_wp2_with fail
    refine hK.out _ _ hc (fun _=>?_)
    clear hK
    rw [hG]
    exact H1_67.out _ _ _ _ _ hc hfd (Bx.later f0 hb_) (Bx.later f1 hb_) f2
  · go_simp
    have hal:=hS.alloc hS.size (.cells #[.map none,.map none] 148)
    have hbe:fF w'.heap.size w' (w'.alloc (.cells #[.map none,.map none] 148)):=(fI _ _).alloc (fU _) _
    refine hK.out _ _ hal (fun _=>?_)
    clear hK
    rw [hG]
    exact H0_678.out _ _ _ _ hal (Bx.later f0 hbe) (Bx.later f1 hbe) ⟨hS.size,fm w' _⟩ f2 (Bx.ne f0) (Bx.ne f1))
 have H0_68:=h_ (show ∀ (w':ft) (p6 p8:Nat),fF w7.heap.size w7 w'→BX p6 w'→BX p8 w'→p6≠p8→G 7 #[true,false,true,false,true,false,true,false,true,false,false,false] (FR (.pointer (some ⟨p6,0,none⟩)) s16 (.pointer (some ⟨p8,0,none⟩)) s66 s68 s70) w' from by
  intro w' p6 p8 hS f0 f1 f2
  rw [←hG]
  simp only [FR]
  refine fp (rs:=[1,7]) (by kernel_rfl) (by simp) ?_
  refine fR rfl (fun K hK=>?_) (fR rfl (fun K hK=>?_) fS)
  · go_simp
    refine(HF1.out _ hS).mono ?_
    rintro e wn ⟨un,vn,rfl,hv1,hv2,hl1,hl2,hb_⟩
    have hc:=HT.out _ _ hS hb_
    have hfd:FX un vn wn:=⟨hv1,hv2,fT hS.size hl1,fT hS.size hl2⟩
    go_wp2_with fail
    refine hK.out _ _ hc (fun _=>?_)
    clear hK
    rw [hG]
    exact H1_68.out _ _ _ _ _ hc hfd (Bx.later f0 hb_) (Bx.later f1 hb_) f2
  · go_simp
    have hal:=hS.alloc hS.size (.cells #[.map none,.map none] 148)
    have hbe:fF w'.heap.size w' (w'.alloc (.cells #[.map none,.map none] 148)):=(fI _ _).alloc (fU _) _
    refine hK.out _ _ hal (fun _=>?_)
    clear hK
    rw [hG]
    exact H0_678.out _ _ _ _ hal (Bx.later f0 hbe) ⟨hS.size,fm w' _⟩ (Bx.later f1 hbe) (Bx.ne f0) f2 (fun e=>Bx.ne f1 e.symm))
 have H0_78:=h_ (show ∀ (w':ft) (p7 p8:Nat),fF w7.heap.size w7 w'→BX p7 w'→BX p8 w'→p7≠p8→G 7 #[true,false,true,false,true,false,false,true,true,false,false,false] (FR s15 (.pointer (some ⟨p7,0,none⟩)) (.pointer (some ⟨p8,0,none⟩)) s66 s68 s70) w' from by
  intro w' p7 p8 hS f0 f1 f2
  rw [←hG]
  simp only [FR]
  refine fp (rs:=[1,6]) (by kernel_rfl) (by simp) ?_
  refine fR rfl (fun K hK=>?_) (fR rfl (fun K hK=>?_) fS)
  · go_simp
    refine(HF1.out _ hS).mono ?_
    rintro e wn ⟨un,vn,rfl,hv1,hv2,hl1,hl2,hb_⟩
    have hc:=HT.out _ _ hS hb_
    have hfd:FX un vn wn:=⟨hv1,hv2,fT hS.size hl1,fT hS.size hl2⟩
    go_wp2_with fail
    refine hK.out _ _ hc (fun _=>?_)
    clear hK
    rw [hG]
    exact H1_78.out _ _ _ _ _ hc hfd (Bx.later f0 hb_) (Bx.later f1 hb_) f2
  · go_simp
    have hal:=hS.alloc hS.size (.cells #[.map none,.map none] 148)
    have hbe:fF w'.heap.size w' (w'.alloc (.cells #[.map none,.map none] 148)):=(fI _ _).alloc (fU _) _
    refine hK.out _ _ hal (fun _=>?_)
    clear hK
    rw [hG]
    exact H0_678.out _ _ _ _ hal ⟨hS.size,fm w' _⟩ (Bx.later f0 hbe) (Bx.later f1 hbe) (fun e=>Bx.ne f0 e.symm) (fun e=>Bx.ne f1 e.symm) f2)
 have H0_6:=h_ (show ∀ (w':ft) (p6:Nat),fF w7.heap.size w7 w'→BX p6 w'→G 8 #[true,false,true,false,true,false,true,false,false,false,false,false] (FR (.pointer (some ⟨p6,0,none⟩)) s16 s17 s66 s68 s70) w' from by
  intro w' p6 hS f0
  rw [←hG]
  simp only [FR]
  refine fp (rs:=[1,7,8]) (by kernel_rfl) (by simp) ?_
  refine fR rfl (fun K hK=>?_) (fR rfl (fun K hK=>?_) (fR rfl (fun K hK=>?_) fS))
  · go_simp
    refine(HF1.out _ hS).mono ?_
    rintro e wn ⟨un,vn,rfl,hv1,hv2,hl1,hl2,hb_⟩
    have hc:=HT.out _ _ hS hb_
    have hfd:FX un vn wn:=⟨hv1,hv2,fT hS.size hl1,fT hS.size hl2⟩
    go_wp2_with fail
    refine hK.out _ _ hc (fun _=>?_)
    clear hK
    rw [hG]
    exact H1_6.out _ _ _ _ hc hfd (Bx.later f0 hb_)
  · go_simp
    have hal:=hS.alloc hS.size (.cells #[.map none,.map none] 148)
    have hbe:fF w'.heap.size w' (w'.alloc (.cells #[.map none,.map none] 148)):=(fI _ _).alloc (fU _) _
    refine hK.out _ _ hal (fun _=>?_)
    clear hK
    rw [hG]
    exact H0_67.out _ _ _ hal (Bx.later f0 hbe) ⟨hS.size,fm w' _⟩ (Bx.ne f0)
  · go_simp
    have hal:=hS.alloc hS.size (.cells #[.map none,.map none] 148)
    have hbe:fF w'.heap.size w' (w'.alloc (.cells #[.map none,.map none] 148)):=(fI _ _).alloc (fU _) _
    refine hK.out _ _ hal (fun _=>?_)
    clear hK
    rw [hG]
    exact H0_68.out _ _ _ hal (Bx.later f0 hbe) ⟨hS.size,fm w' _⟩ (Bx.ne f0))
 have H0_7:=h_ (show ∀ (w':ft) (p7:Nat),fF w7.heap.size w7 w'→BX p7 w'→G 8 #[true,false,true,false,true,false,false,true,false,false,false,false] (FR s15 (.pointer (some ⟨p7,0,none⟩)) s17 s66 s68 s70) w' from by
  intro w' p7 hS f0
  rw [←hG]
  simp only [FR]
  refine fp (rs:=[1,6,8]) (by kernel_rfl) (by simp) ?_
  refine fR rfl (fun K hK=>?_) (fR rfl (fun K hK=>?_) (fR rfl (fun K hK=>?_) fS))
  · go_simp
    refine(HF1.out _ hS).mono ?_
    rintro e wn ⟨un,vn,rfl,hv1,hv2,hl1,hl2,hb_⟩
    have hc:=HT.out _ _ hS hb_
    have hfd:FX un vn wn:=⟨hv1,hv2,fT hS.size hl1,fT hS.size hl2⟩
    go_wp2_with fail
    refine hK.out _ _ hc (fun _=>?_)
    clear hK
    rw [hG]
    exact H1_7.out _ _ _ _ hc hfd (Bx.later f0 hb_)
  · go_simp
    have hal:=hS.alloc hS.size (.cells #[.map none,.map none] 148)
    have hbe:fF w'.heap.size w' (w'.alloc (.cells #[.map none,.map none] 148)):=(fI _ _).alloc (fU _) _
    refine hK.out _ _ hal (fun _=>?_)
    clear hK
    rw [hG]
    exact H0_67.out _ _ _ hal ⟨hS.size,fm w' _⟩ (Bx.later f0 hbe) (fun e=>Bx.ne f0 e.symm)
  · go_simp
    have hal:=hS.alloc hS.size (.cells #[.map none,.map none] 148)
    have hbe:fF w'.heap.size w' (w'.alloc (.cells #[.map none,.map none] 148)):=(fI _ _).alloc (fU _) _
    refine hK.out _ _ hal (fun _=>?_)
    clear hK
    rw [hG]
    exact H0_78.out _ _ _ hal (Bx.later f0 hbe) ⟨hS.size,fm w' _⟩ (Bx.ne f0))
 have H0_8:=h_ (show ∀ (w':ft) (p8:Nat),fF w7.heap.size w7 w'→BX p8 w'→G 8 #[true,false,true,false,true,false,false,false,true,false,false,false] (FR s15 s16 (.pointer (some ⟨p8,0,none⟩)) s66 s68 s70) w' from by
  intro w' p8 hS f0
  rw [←hG]
  simp only [FR]
  refine fp (rs:=[1,6,7]) (by kernel_rfl) (by simp) ?_
  refine fR rfl (fun K hK=>?_) (fR rfl (fun K hK=>?_) (fR rfl (fun K hK=>?_) fS))
  · go_simp
    refine(HF1.out _ hS).mono ?_
    rintro e wn ⟨un,vn,rfl,hv1,hv2,hl1,hl2,hb_⟩
    have hc:=HT.out _ _ hS hb_
    have hfd:FX un vn wn:=⟨hv1,hv2,fT hS.size hl1,fT hS.size hl2⟩
    go_wp2_with fail
    refine hK.out _ _ hc (fun _=>?_)
    clear hK
    rw [hG]
    exact H1_8.out _ _ _ _ hc hfd (Bx.later f0 hb_)
  · go_simp
    have hal:=hS.alloc hS.size (.cells #[.map none,.map none] 148)
    have hbe:fF w'.heap.size w' (w'.alloc (.cells #[.map none,.map none] 148)):=(fI _ _).alloc (fU _) _
    refine hK.out _ _ hal (fun _=>?_)
    clear hK
    rw [hG]
    exact H0_68.out _ _ _ hal ⟨hS.size,fm w' _⟩ (Bx.later f0 hbe) (fun e=>Bx.ne f0 e.symm)
  · go_simp
    have hal:=hS.alloc hS.size (.cells #[.map none,.map none] 148)
    have hbe:fF w'.heap.size w' (w'.alloc (.cells #[.map none,.map none] 148)):=(fI _ _).alloc (fU _) _
    refine hK.out _ _ hal (fun _=>?_)
    clear hK
    rw [hG]
    exact H0_78.out _ _ _ hal ⟨hS.size,fm w' _⟩ (Bx.later f0 hbe) (fun e=>Bx.ne f0 e.symm))
 have H0_:=h_ (show ∀ (w':ft),fF w7.heap.size w7 w'→G 9 #[true,false,true,false,true,false,false,false,false,false,false,false] (FR s15 s16 s17 s66 s68 s70) w' from by
  intro w'  hS 
  rw [←hG]
  simp only [FR]
  refine fp (rs:=[1,6,7,8]) (by kernel_rfl) (by simp) ?_
  refine fR rfl (fun K hK=>?_) (fR rfl (fun K hK=>?_) (fR rfl (fun K hK=>?_) (fR rfl (fun K hK=>?_) fS)))
  · go_simp
    refine(HF1.out _ hS).mono ?_
    rintro e wn ⟨un,vn,rfl,hv1,hv2,hl1,hl2,hb_⟩
    have hc:=HT.out _ _ hS hb_
    have hfd:FX un vn wn:=⟨hv1,hv2,fT hS.size hl1,fT hS.size hl2⟩
    go_wp2_with fail
    refine hK.out _ _ hc (fun _=>?_)
    clear hK
    rw [hG]
    exact H1_.out _ _ _ hc hfd
  · go_simp
    have hal:=hS.alloc hS.size (.cells #[.map none,.map none] 148)
    have hbe:fF w'.heap.size w' (w'.alloc (.cells #[.map none,.map none] 148)):=(fI _ _).alloc (fU _) _
    refine hK.out _ _ hal (fun _=>?_)
    clear hK
    rw [hG]
    exact H0_6.out _ _ hal ⟨hS.size,fm w' _⟩
  · go_simp
    have hal:=hS.alloc hS.size (.cells #[.map none,.map none] 148)
    have hbe:fF w'.heap.size w' (w'.alloc (.cells #[.map none,.map none] 148)):=(fI _ _).alloc (fU _) _
    refine hK.out _ _ hal (fun _=>?_)
    clear hK
    rw [hG]
    exact H0_7.out _ _ hal ⟨hS.size,fm w' _⟩
  · go_simp
    have hal:=hS.alloc hS.size (.cells #[.map none,.map none] 148)
    have hbe:fF w'.heap.size w' (w'.alloc (.cells #[.map none,.map none] 148)):=(fI _ _).alloc (fU _) _
    refine hK.out _ _ hal (fun _=>?_)
    clear hK
    rw [hG]
    exact H0_8.out _ _ hal ⟨hS.size,fm w' _⟩)
 exact H0_.out _ hd0
end Go.Proofs.YtnlnmbcaongehaaGreatDoor
