/- What the merge of comments gives, in plain words: IDs and sizes. merge.refused: the error of three documents ahead of a merge; merge.anchorOf. merge.comments, within a round: the boxes of the round and the merger. -/
import Derived.Test.YtnlnmbcaongehaaGreatDoorN18
set_option linter.unusedVariables false
set_option linter.unusedSimpArgs false
set_option maxRecDepth 100000
set_option maxHeartbeats 12800000
open Go.Lib renaming hid→h_
open Go renaming cell_of_row→Su,World→Sv,heap_alloc_last→Sw,wpAnyH_done→Sx,setRow_heap→Sy,Value→Sz,wp_store_row→SA,below_setRow→SB,rounds_succ→SC,wp_region_held_drew→SD
open Nat renaming le_trans→SE,le_refl→SF
open List renaming toArray→SG,length_append→SH,setIfInBounds_toArray→SI,getElem_cons_zero→SJ,getElem_cons_succ→SK,getElem_toArray→SL,flatMap_append→SM,set_cons_zero→SN,set_cons_succ→SO,take_add_one→SQ,flatMap_cons→SR
open Option.some renaming inj→SS
open Go.Proofs.Tryz renaming prog→SU
open Go.RowKit renaming Below→SV
open Go.Value renaming int→SW,string→SX,oneCell'→SY
open Array renaming getElem?_eq_some_iff→SZ,toArray_toList→S5
open Go.World renaming frozen?→S6,setRow→S7
namespace Go.Proofs.YtnlnmbcaongehaaGreatDoor
open Go.RowKit
theorem Od (xs ts:List EvC)(ys:List Cm)(z:Int):(fI xs ts ys z).isSome=(bB ys z).isSome:=by
 unfold fI bB cmAt
 rw [Option.isSome_map,Option.isSome_map]
theorem Jy {a b c:DocC} {txs:List EvC} {l:List Int} (h1:l.Pairwise (·<·))(F:Nat→Int→Option Sz)(hF:F 0=fI a.eV txs a.cM∧F 1=fI b.eV txs b.cM∧F 2=fI c.eV txs c.cM)(h2:∀ z,z∈l↔∃ j,j<3∧(F j z).isSome=true):l=iF a.cM b.cM c.cM:=by
 obtain⟨q1,q2⟩:=zK a.cM b.cM c.cM
 have key:∀ (xs:List EvC) (ys:List Cm) (k:Int),(fI xs txs ys k).isSome=true↔∃ e∈ys,e.id=k:=fun xs ys k=>by
  rw [Od]
  unfold bB
  rw [List.find?_isSome]
  constructor
  · rintro ⟨e,he,hk⟩
    exact⟨e,he,by simpa [cmAt] using hk⟩
  · rintro ⟨e,he,hk⟩
    exact⟨e,he,by simpa [cmAt] using hk⟩
 refine tk (fun a b:Int=>a<b) (fun a h=>by omega) (fun a b h h'=>by omega) _ _ h1 q1 fun k=>?_
 rw [h2,q2,←key a.eV,←key b.eV,←key c.eV,←hF.1,←hF.2.1,←hF.2.2]
 constructor
 · rintro ⟨j,hj,h⟩
   rcases(show j=0∨j=1∨j=2 by omega) with rfl|rfl|rfl
   · exact .inl h
   · exact .inr (.inl h)
   · exact .inr (.inr h)
 · rintro (h|h|h)
   · exact⟨0,by omega,h⟩
   · exact⟨1,by omega,h⟩
   · exact⟨2,by omega,h⟩
theorem zJ (a b c:List Cm):(iF a b c).length≤a.length+b.length+c.length:=by
 refine SE (Lib.compact_length_le _) ?_
 unfold aR
 rw [List.length_mergeSort]
 simp
 omega
theorem GV {a b c:List Cm} (ha:∀ e∈a,e.fits)(hb:∀ e∈b,e.fits)(hc:∀ e∈c,e.fits) {id:Int} (h:id∈iF a b c):i64 id:=by
 rcases((zK a b c).2 id).1 h with⟨e,he,rfl⟩|⟨e,he,rfl⟩|⟨e,he,rfl⟩
 · exact(ha e he).1
 · exact(hb e he).1
 · exact(hc e he).1
theorem yO (x y z:Cm):(kg x y z).length≤4:=by
 unfold kg
 simp only [SH]
 have h1:=lQ (yP x y z).2 bK
 have h2:=lQ (rK x y z).2 g_
 have h3:=lQ (CR x y z).2 ug
 have h4:=lQ (CS x y z).2 En
 omega
theorem FP {ox oy oz x y z:Option Cm} {p:Cm × List ByteArray} (h:mF ox oy oz x y z=some p):p.2.length≤4:=by
 cases x<;>cases y<;>cases z<;>simp only [mF,Option.some.injEq,reduceCtorEq] at h
 all_goals first
  | (rw [←h];exact yO _ _ _)
  | (rw [←h];simp;done)
  | (split at h
     · rw [←SS h];simp
     · rw [←SS h];simp)
  | (split at h
     · cases h
     · rw [←SS h];simp)
theorem sv (txs:List EvC)(a b c:DocC):∀ ids:List Int,(mU txs a b c ids).length≤ids.length∧(kN txs a b c ids).length≤4*ids.length
 | []=>by simp [mU,kN]
 | id::l=>by
   have ih:=sv txs a b c l
   have h1:((mgCm txs a b c id).map (·.1)).toList.length≤1:=by cases (mgCm txs a b c id)<;>simp
   have h2:((((mgCm txs a b c id).map (·.2)).getD []).map fun f=>(⟨4,id,aG,f⟩:Cl)).length≤4:=by
    cases hq:mgCm txs a b c id with
    | none=>simp
    | some p =>
      have:=FP hq
      simpa using this
   unfold mU kN at *
   rw [SR,SR,SH,SH,List.length_cons]
   omega
def jK (id:Int)(fs:List ByteArray):List Cl:=fs.map fun f=>⟨4,id,aG,f⟩
theorem vl (txs:List EvC)(a b c:DocC)(ids:List Int)(k:Nat)(id:Int)(h:ids[k]? =some id):mU txs a b c (ids.take (k+1))=mU txs a b c (ids.take k)++((mgCm txs a b c id).map (·.1)).toList:=by
 unfold mU
 rw [SQ,h,SM]
 simp
theorem sw (txs:List EvC)(a b c:DocC)(ids:List Int)(k:Nat)(id:Int)(h:ids[k]? =some id):kN txs a b c (ids.take (k+1))=kN txs a b c (ids.take k)++jK id (((mgCm txs a b c id).map (·.2)).getD []):=by
 unfold kN jK
 rw [SQ,h,SM]
 simp
theorem eS:i64 0:=⟨by decide,by decide⟩
theorem zx {c:Cm} (h:c.tame)(hl:c.lost=false) {a b:List Nat} (ha:a.length≤20000000000000)(hb:b.length≤20000000000000):(mY c a b).fits:=by
 obtain⟨h1,h2⟩:=h
 obtain⟨⟨f1,f2⟩,g1,g2⟩:=h2 hl
 have hp:=nM a b
 have hs:=tm a b (alike a b)
 obtain⟨c1,c2,c3,c4,c5,c6⟩:=h1
 rw [pX]
 simp only
 split
 · exact⟨c1,c2,eS,eS,c5,c6⟩
 · refine⟨c1,c2,?_,?_,c5,c6⟩
   · show i64 (kQ a.length b.length (alike a b) (kA a b (alike a b)) c.frm c.til).1
     unfold kQ i64
     simp only
     split
     · omega
     · split<;>omega
   · show i64 (kQ a.length b.length (alike a b) (kA a b (alike a b)) c.frm c.til).2
     unfold kQ i64
     simp only
     split
     · omega
     · split<;>omega
theorem yj {s:ByteArray} (h:s.size≤20000000000000):(runes s).length≤20000000000000:=SE (lr s s.size 0) h
theorem xV:(kV none).size≤20000000000000:=by decide
theorem qM {l:List EvC} (h:∀ e∈l,e.fits)(z:Int):(kV (aj l z)).size≤20000000000000:=by
 cases hf:aj l z with
 | none=>exact xV
 | some x =>
   have hx:=h x (List.mem_of_find?_eq_some hf)
   have:=oJ (x:=x.rep) ((Ev.fits_c _).1 (by rw [EvC.rep_c];exact hx))
   rwa [EvC.rep_c] at this
theorem BC {fr txs:List EvC} (hf:∀ e∈fr,e.fits)(ht:∀ e∈txs,e.fits) {c:Cm} (h:c.tame):(lC fr txs c).fits:=by
 unfold lC
 split
 · exact h.1
 · rename_i hl
   have hl':c.lost=false:=by simpa using hl
   split
   · obtain⟨c1,c2,c3,c4,c5,c6⟩:=h.1
     exact⟨c1,c2,eS,eS,c5,c6⟩
   · rename_i x hx
     refine zx h hl' (yj (qM hf _)) (yj ?_)
     have:=qM ht c.ev
     rwa [hx] at this
theorem DU (x y z:Cm)(P:Cm→Prop)(hx:P x)(hy:P y)(hz:P z):P (yP x y z).1:=jk Cf x y z P hx hy hz
theorem wK {x y z:Cm} (hx:x.fits)(hy:y.fits)(hz:z.fits):(o0 x y z).fits:=by
 obtain⟨x1,x2,x3,x4,x5,x6⟩:=hx
 obtain⟨y1,y2,y3,y4,y5,y6⟩:=hy
 obtain⟨z1,z2,z3,z4,z5,z6⟩:=hz
 have h1:=DU x y z (fun c=>i64 c.ev∧i64 c.frm∧i64 c.til) ⟨x2,x3,x4⟩ ⟨y2,y3,y4⟩ ⟨z2,z3,z4⟩
 have h2:=jk fH x.author y.author z.author (fun p=>p.size≤4000000) x5 y5 z5
 have h3:=jk fH x.text y.text z.text (fun p=>p.size≤4000000) x6 y6 z6
 exact⟨x1,h1.1,h1.2.1,h1.2.2,h2,h3⟩
def l_ (c:Cm):Int × Int × Int × Bool:=(c.ev,c.frm,c.til,c.lost)
theorem fN (c:Cm)(w:Sv):Calls SU 142 #[.agg c.enc.toArray] w fun e w'=>e=.returned (.agg (bh (l_ c)))∧SV w.heap.size w w':=by
 obtain⟨id,ev,frm,til,au,tx,dn,lo⟩:=c
 simp only [Cm.enc,l_,bh]
 go_enter Tryz.func142,Tryz.ntmps142
 go_wp2_with fail
 refine bodyPost_ret (v:=.agg #[.int .i64 ev,.int .i64 frm,.int .i64 til,.bool lo]) (by simp [results,Tryz.results142,go_sem]) rfl ⟨rfl,?_⟩
 repeat refine SV.setCell ?_ (by simp) _
 exact((SV.refl _ _).alloc (SF _) _).alloc (by simp) _
theorem DP (a b c:Doc):a_ a.c b.c c.c=if aL a≠0 then aL a else if aL b≠0 then aL b else if aL c≠0 then aL c else if b.last<a.last∨c.last<a.last then 8 else 0:=by
 unfold a_
 rw [←eN,←eN,←eN]
 rfl
theorem wC (x y z:Doc)(w:Sv)(hE:Env w)(hx:x.lies w)(hy:y.lies w)(hz:z.lies w)(fx:x.fits)(fy:y.fits)(fz:z.fits) :
 Calls SU 74 #[.agg x.enc.toArray,.agg y.enc.toArray,.agg z.enc.toArray] w fun e w'=>e=.returned (.int .i64 (a_ x.c y.c z.c))∧SV w.heap.size w w':=by
 have H1:=h_ (fun w1 (h:SV w.heap.size w w1)=>eM x w1 (hE.below h (SF _)) (Doc.later hx h) fx)
 have H2:=h_ (fun w1 (h:SV w.heap.size w w1)=>eM y w1 (hE.below h (SF _)) (Doc.later hy h) fy)
 have H3:=h_ (fun w1 (h:SV w.heap.size w w1)=>eM z w1 (hE.below h (SF _)) (Doc.later hz h) fz)
 rw [DP]
 generalize aL x=e1 at *
 generalize aL y=e2 at *
 generalize aL z=e3 at *
 have hlx:i64 x.last:=fx.2.2.2.2.1
 have lG:i64 y.last:=fy.2.2.2.2.1
 have hlz:i64 z.last:=fz.2.2.2.2.1
 generalize hQ:(fun(e:Ending) (w':Sv)=>e=.returned (.int .i64 (if e1≠0 then e1 else if e2≠0 then e2 else if e3≠0 then e3 else if y.last<x.last∨z.last<x.last then 8 else 0))∧SV w.heap.size w w')=Q
 have HQ:=h_ (fun(v:Int) (hv:(if e1≠0 then e1 else if e2≠0 then e2 else if e3≠0 then e3 else if y.last<x.last∨z.last<x.last then 8 else 0)=v) w' (hb:SV w.heap.size w w')=>show Q (.returned (.int .i64 v)) w' from hQ▸⟨by rw [hv],hb⟩)
 clear hQ hx hy hz fx fy fz
 obtain⟨xt,xl,xr,xd,xla,xra,xrc,xregs,xea,xec,xevs,xca,xcc,xcms⟩:=x
 obtain⟨yt,yl,yr,yd,yla,yra,yrc,yregs,yea,yec,yevs,yca,ycc,ycms⟩:=y
 obtain⟨zt,zl,zr,zd,zla,zra,zrc,zregs,zea,zec,zevs,zca,zcc,zcms⟩:=z
 simp only at HQ hlx lG hlz
 simp only [Doc.enc] at *
 have HV:=h_ (fun wx (h:SV (w.heap.size+4) ((((w.alloc (.cells #[SX xt,.string xl,.int .u8 xr,.bool xd,.int .i64 xla,.slice xra xregs.length xrc,.slice xea xevs.length xec,.slice xca xcms.length xcc] 27)).alloc (.cells #[SX yt,.string yl,.int .u8 yr,.bool yd,.int .i64 yla,.slice yra yregs.length yrc,.slice yea yevs.length yec,.slice yca ycms.length ycc] 27)).alloc (.cells #[SX zt,.string zl,.int .u8 zr,.bool zd,.int .i64 zla,.slice zra zregs.length zrc,.slice zea zevs.length zec,.slice zca zcms.length zcc] 27)).alloc (.cells #[SX xt,.string xl,.int .u8 xr,.bool xd,.int .i64 xla,.slice xra xregs.length xrc,.slice xea xevs.length xec,.slice xca xcms.length xcc,SX yt,.string yl,.int .u8 yr,.bool yd,.int .i64 yla,.slice yra yregs.length yrc,.slice yea yevs.length yec,.slice yca ycms.length ycc,SX zt,.string zl,.int .u8 zr,.bool zd,.int .i64 zla,.slice zra zregs.length zrc,.slice zea zevs.length zec,.slice zca zcms.length zcc] 27)) wx)=>lp w #[SX xt,.string xl,.int .u8 xr,.bool xd,.int .i64 xla,.slice xra xregs.length xrc,.slice xea xevs.length xec,.slice xca xcms.length xcc] #[SX yt,.string yl,.int .u8 yr,.bool yd,.int .i64 yla,.slice yra yregs.length yrc,.slice yea yevs.length yec,.slice yca ycms.length ycc] #[SX zt,.string zl,.int .u8 zr,.bool zd,.int .i64 zla,.slice zra zregs.length zrc,.slice zea zevs.length zec,.slice zca zcms.length zcc] #[SX xt,.string xl,.int .u8 xr,.bool xd,.int .i64 xla,.slice xra xregs.length xrc,.slice xea xevs.length xec,.slice xca xcms.length xcc,SX yt,.string yl,.int .u8 yr,.bool yd,.int .i64 yla,.slice yra yregs.length yrc,.slice yea yevs.length yec,.slice yca ycms.length ycc,SX zt,.string zl,.int .u8 zr,.bool zd,.int .i64 zla,.slice zra zregs.length zrc,.slice zea zevs.length zec,.slice zca zcms.length zcc] 27 wx h)
 have HB:=h_ (fun wx (h:SV (w.heap.size+4) ((((w.alloc (.cells #[SX xt,.string xl,.int .u8 xr,.bool xd,.int .i64 xla,.slice xra xregs.length xrc,.slice xea xevs.length xec,.slice xca xcms.length xcc] 27)).alloc (.cells #[SX yt,.string yl,.int .u8 yr,.bool yd,.int .i64 yla,.slice yra yregs.length yrc,.slice yea yevs.length yec,.slice yca ycms.length ycc] 27)).alloc (.cells #[SX zt,.string zl,.int .u8 zr,.bool zd,.int .i64 zla,.slice zra zregs.length zrc,.slice zea zevs.length zec,.slice zca zcms.length zcc] 27)).alloc (.cells #[SX xt,.string xl,.int .u8 xr,.bool xd,.int .i64 xla,.slice xra xregs.length xrc,.slice xea xevs.length xec,.slice xca xcms.length xcc,SX yt,.string yl,.int .u8 yr,.bool yd,.int .i64 yla,.slice yra yregs.length yrc,.slice yea yevs.length yec,.slice yca ycms.length ycc,SX zt,.string zl,.int .u8 zr,.bool zd,.int .i64 zla,.slice zra zregs.length zrc,.slice zea zevs.length zec,.slice zca zcms.length zcc] 27)) wx)=>(show SV w.heap.size w wx from(bJ w _ _ _ _).trans (h.mono (by omega))))
 have hsz:((((w.alloc (.cells #[SX xt,.string xl,.int .u8 xr,.bool xd,.int .i64 xla,.slice xra xregs.length xrc,.slice xea xevs.length xec,.slice xca xcms.length xcc] 27)).alloc (.cells #[SX yt,.string yl,.int .u8 yr,.bool yd,.int .i64 yla,.slice yra yregs.length yrc,.slice yea yevs.length yec,.slice yca ycms.length ycc] 27)).alloc (.cells #[SX zt,.string zl,.int .u8 zr,.bool zd,.int .i64 zla,.slice zra zregs.length zrc,.slice zea zevs.length zec,.slice zca zcms.length zcc] 27)).alloc (.cells #[SX xt,.string xl,.int .u8 xr,.bool xd,.int .i64 xla,.slice xra xregs.length xrc,.slice xea xevs.length xec,.slice xca xcms.length xcc,SX yt,.string yl,.int .u8 yr,.bool yd,.int .i64 yla,.slice yra yregs.length yrc,.slice yea yevs.length yec,.slice yca ycms.length ycc,SX zt,.string zl,.int .u8 zr,.bool zd,.int .i64 zla,.slice zra zregs.length zrc,.slice zea zevs.length zec,.slice zca zcms.length zcc] 27)).heap.size=w.heap.size+4:=by simp
 go_enter Tryz.func74,Tryz.ntmps74
 go_wp2_with fail
 generalize ((((w.alloc (.cells #[SX xt,.string xl,.int .u8 xr,.bool xd,.int .i64 xla,.slice xra xregs.length xrc,.slice xea xevs.length xec,.slice xca xcms.length xcc] 27)).alloc (.cells #[SX yt,.string yl,.int .u8 yr,.bool yd,.int .i64 yla,.slice yra yregs.length yrc,.slice yea yevs.length yec,.slice yca ycms.length ycc] 27)).alloc (.cells #[SX zt,.string zl,.int .u8 zr,.bool zd,.int .i64 zla,.slice zra zregs.length zrc,.slice zea zevs.length zec,.slice zca zcms.length zcc] 27)).alloc (.cells #[SX xt,.string xl,.int .u8 xr,.bool xd,.int .i64 xla,.slice xra xregs.length xrc,.slice xea xevs.length xec,.slice xca xcms.length xcc,SX yt,.string yl,.int .u8 yr,.bool yd,.int .i64 yla,.slice yra yregs.length yrc,.slice yea yevs.length yec,.slice yca ycms.length ycc,SX zt,.string zl,.int .u8 zr,.bool zd,.int .i64 zla,.slice zra zregs.length zrc,.slice zea zevs.length zec,.slice zca zcms.length zcc] 27))=W0 at *
 have hb0:SV (w.heap.size+4) W0 W0:=SV.refl _ _
 have bu:=h_ hsz
 have HT:=h_ (fun(w2 w3:Sv) (o:Obj) (h:SV (w.heap.size+4) W0 w2) (h3:SV (w2.alloc o).heap.size (w2.alloc o) w3)=>((h.alloc (by have:=h.size;rw [bu.out] at this;exact this) o).trans (h3.mono (by have:=h.size;rw [bu.out] at this;simp;omega)):SV (w.heap.size+4) W0 w3))
 have JN:=h_ (fun(w2:Sv) (o:Obj) (h:SV (w.heap.size+4) W0 w2)=>(h.alloc (by have:=h.size;rw [bu.out] at this;exact this) o:SV (w.heap.size+4) W0 (w2.alloc o)))
 clear hsz
 refine wp_loop_rounds 4 ?_
 rw [SC]
 have fn1:∀ j,W0.cell? ⟨w.heap.size+1+1+1,j,none⟩=_:=fun j=>Su _ _ j _ 27 (0,0) (HV.out _ hb0).2.2.2
 go_wp2_with fail
 refine(H1.out _ (HB.out _ (JN.out _ _ hb0))).mono ?_
 rintro e w1 ⟨rfl,Pb⟩
 have hb1:=HT.out _ _ _ hb0 Pb
 clear Pb fn1
 by_cases he1:e1=0
 · subst he1
   go_wp2_with fail
   rw [SC]
   have fn2:∀ j,w1.cell? ⟨w.heap.size+1+1+1,j,none⟩=_:=fun j=>Su _ _ j _ 27 (0,0) (HV.out _ hb1).2.2.2
   go_wp2_with fail
   refine(H2.out _ (HB.out _ (JN.out _ _ hb1))).mono ?_
   rintro e w2 ⟨rfl,Pa⟩
   have hb2:=HT.out _ _ _ hb1 Pa
   clear Pa fn2
   by_cases he2:e2=0
   · subst he2
     go_wp2_with fail
     rw [SC]
     have fn3:∀ j,w2.cell? ⟨w.heap.size+1+1+1,j,none⟩=_:=fun j=>Su _ _ j _ 27 (0,0) (HV.out _ hb2).2.2.2
     go_wp2_with fail
     refine(H3.out _ (HB.out _ (JN.out _ _ hb2))).mono ?_
     rintro e w3 ⟨rfl,O_⟩
     have hb3:=HT.out _ _ _ hb2 O_
     clear O_ fn3
     by_cases he3:e3=0
     · subst he3
       go_wp2_with fail
       rw [SC]
       have q0:∀ j,w3.cell? ⟨w.heap.size,j,none⟩=_:=fun j=>Su _ _ j _ 27 (0,0) (HV.out _ hb3).1
       have q1:∀ j,w3.cell? ⟨w.heap.size+1,j,none⟩=_:=fun j=>Su _ _ j _ 27 (0,0) (HV.out _ hb3).2.1
       have q2:∀ j,w3.cell? ⟨w.heap.size+1+1,j,none⟩=_:=fun j=>Su _ _ j _ 27 (0,0) (HV.out _ hb3).2.2.1
       have HB3:=h_ (HB.out _ hb3)
       clear hb0 hb1 hb2 hb3 HV HB HT JN H1 H2 H3
       rcases(by omega:yla<xla∨xla≤yla) with hA|hA
       · have HE:=h_ (HQ.out 8 (by simp;omega) w3 HB3.out)
         clear HQ
         go_wp2_with fail
         exact HE.out
       · rcases(by omega:zla<xla∨xla≤zla) with hB|hB
         · have HE:=h_ (HQ.out 8 (by simp;omega) w3 HB3.out)
           clear HQ
           go_wp2_with fail
           exact HE.out
         · have HE:=h_ (HQ.out 0 (by simp;omega) w3 HB3.out)
           clear HQ
           go_wp2_with fail
           exact HE.out
     · have HE:=h_ (HQ.out e3 (by simp [he3]) w3 (HB.out _ hb3))
       have hn:¬ (e3=0):=he3
       clear HQ
       go_wp2_with fail
       exact HE.out
   · have HE:=h_ (HQ.out e2 (by simp [he2]) w2 (HB.out _ hb2))
     have hn:¬ (e2=0):=he2
     clear HQ
     go_wp2_with fail
     exact HE.out
 · have HE:=h_ (HQ.out e1 (by simp [he1]) w1 (HB.out _ hb1))
   have hn:¬ (e1=0):=he1
   clear HQ
   go_wp2_with fail
   exact HE.out
end Go.Proofs.YtnlnmbcaongehaaGreatDoor
namespace Go.Proofs.YtnlnmbcaongehaaGreatDoor
open Go.RowKit
structure CSt (m1:Mg)(B g G S:Nat)(id:Int)(X Y Z O:Array Sz)(cls:List Cl)(wr wx:Sv):Prop where
 b0:wx.heap[G]? =some (.cells #[.pointer (some ⟨g,0,none⟩)] 140 (0,0))
 i:wx.heap[S]? =some (.cells #[.int .i64 id] 2 (0,0))
 x:wx.heap[S+1]? =some (.cells X 52 (0,0))
 y:wx.heap[S+1+1]? =some (.cells Y 52 (0,0))
 z:wx.heap[S+1+1+1]? =some (.cells Z 52 (0,0))
 o:wx.heap[S+1+1+1+1]? =some (.cells O 52 (0,0))
 m:∃ kv,({ m1 with kv:=kv,cls:=cls }:Mg).at_ B g wx∧Mg.step g m1 { m1 with kv:=kv,cls:=cls } wr wx∧∀ b,({ m1 with kv:=kv,cls:=cls }:Mg).mine g b→b≠G∧(b<S∨S+5≤b)
 u:∀ e∈m1.eV,∀ b,e.uses b→b<S
section
variable {m1:Mg} {B g G S:Nat} {id:Int} {X Y Z O:Array Sz} {cls:List Cl} {wr wx w':Sv}
theorem CSt.lt (h:CSt m1 B g G S id X Y Z O cls wr wx):S+4<wx.heap.size:=(SZ.1 h.o).1
theorem CSt.later (h:CSt m1 B g G S id X Y Z O cls wr wx)(hG:G<S)(hb:SV wx.heap.size wx w'):CSt m1 B g G S id X Y Z O cls wr w':=by
 have hl:=h.lt
 obtain⟨kv,h1,h2,h3⟩:=h.m
 exact⟨(hb.block _ (by omega)).trans h.b0,(hb.block _ (by omega)).trans h.i,(hb.block _ (by omega)).trans h.x,(hb.block _ (by omega)).trans h.y,(hb.block _ (by omega)).trans h.z,(hb.block _ (by omega)).trans h.o,⟨kv,h1.later hb,h2.trans (Mg.step.of_below hb),h3⟩,h.u⟩
theorem CSt.set (h:CSt m1 B g G S id X Y Z O cls wr wx)(hG:G<S)(hS:wr.heap.size≤S)(j:Nat)(u:Sz):CSt m1 B g G S id X Y Z (O.setIfInBounds j u) cls wr (wx.setCell ⟨S+1+1+1+1,j,none⟩ u):=by
 have hs:∀ b,b≠S+1+1+1+1→(wx.setCell ⟨S+1+1+1+1,j,none⟩ u).heap[b]? =wx.heap[b]?:=fun b hb=>SV.heap_setCell _ _ _ _ hb
 obtain⟨kv,h1,h2,h3⟩:=h.m
 have hk:Kept (Mg.mine g m1) wr (wx.setCell ⟨S+1+1+1+1,j,none⟩ u):=h2.1.setCell (.inl (by simp only;omega)) _
 refine⟨(hs _ (by omega)).trans h.b0,(hs _ (by omega)).trans h.i,(hs _ (by omega)).trans h.x,(hs _ (by omega)).trans h.y,(hs _ (by omega)).trans h.z,heap_setCell_same _ _ _ _ _ _ h.o,⟨kv,?_,⟨hk,h2.2⟩,h3⟩,h.u⟩
 refine h1.kept (by simp) fun b hb hm=>hs b ?_
 rcases hm with hm|⟨e,he,hm⟩
 · have:=h3 b hm
   omega
 · have:=h.u e he b hm
   omega
theorem CSt.note (h:CSt m1 B g G S id X Y Z O cls wr wx)(hG:G<S)(hB:B≤wx.heap.size)(hl:cls.length≤900000)(is:Bool)(f:ByteArray) :
 Calls SU 141 #[.bool is,.string f,.pointer (some ⟨G,0,none⟩),.pointer (some ⟨S,0,none⟩)] wx fun e w'=>e=.returned (.tuple #[])∧CSt m1 B g G S id X Y Z O (cls++clIf is ⟨4,id,aG,f⟩) wr w':=by
 have hlt:=h.lt
 obtain⟨kv,h1,h2,h3⟩:=h.m
 refine(wI B g G S { m1 with kv:=kv,cls:=cls } is f id wx h1 hB (by simp only;omega) (by rw [Su _ _ 0 _ 140 (0,0) h.b0];rfl) (by rw [Su _ _ 0 _ 2 (0,0) h.i];rfl)).mono fun e w' p=>?_
 obtain⟨he,kv',q1,q2⟩:=p
 have hk:∀ b,b<wx.heap.size→(b=G∨(S≤b∧b<S+5))→w'.heap[b]? =wx.heap[b]?:=fun b hb hc=>q2.1.block b hb fun hm=>by
  have:=h3 b hm
  omega
 refine⟨he,(hk _ (by omega) (.inl rfl)).trans h.b0,(hk _ (by omega) (.inr (by omega))).trans h.i,(hk _ (by omega) (.inr (by omega))).trans h.x,(hk _ (by omega) (.inr (by omega))).trans h.y,(hk _ (by omega) (.inr (by omega))).trans h.z,(hk _ (by omega) (.inr (by omega))).trans h.o,⟨kv',q1,h2.trans q2,fun b hb=>?_⟩,h.u⟩
 rcases q2.2 b hb with hm|hm
 · exact h3 b hm
 · omega
end
end Go.Proofs.YtnlnmbcaongehaaGreatDoor
namespace Go.Proofs.YtnlnmbcaongehaaGreatDoor
open Go.RowKit
def Kk (n:Nat):Code→Bool
 | .region id _ _=>id==n
 | .seq a _=>Kk n a
 | _=>false
def lD (n:Nat):Code→Option Code
 | .seq a b=>if Kk n (.seq a b)=true then some (.seq a b) else (lD n a).orElse fun _=>lD n b
 | .block _ c=>lD n c
 | .loop c=>lD n c
 | .cond _ a b=>(lD n a).orElse fun _=>lD n b
 | _=>none
def mE (n:Nat):Code→Option Code
 | .region id ops b=>if id==n then some (.region id ops b) else none
 | .seq a b=>(mE n a).orElse fun _=>mE n b
 | .block _ c=>mE n c
 | .loop c=>mE n c
 | .cond _ a b=>(mE n a).orElse fun _=>mE n b
 | _=>none
theorem CSt.drew {m1:Mg} {B g G S:Nat} {id:Int} {X Y Z O:Array Sz} {cls:List Cl} {wr wx:Sv} (h:CSt m1 B g G S id X Y Z O cls wr wx)(hG:G<S):CSt m1 B g G S id X Y Z O cls wr wx.drew:=h.later hG (SV.refl _ _).drew
theorem CSt.size {m1:Mg} {B g G S:Nat} {id:Int} {X Y Z O:Array Sz} {cls:List Cl} {wr wx:Sv} (h:CSt m1 B g G S id X Y Z O cls wr wx):S≤wx.heap.size:=by have:=h.lt;omega
theorem CSt.row {m1:Mg} {B g G S:Nat} {id:Int} {X Y Z O:Array Sz} {cls:List Cl} {wr wx:Sv} (h:CSt m1 B g G S id X Y Z O cls wr wx)(hG:G<S)(hS:wr.heap.size≤S)(O':Array Sz):CSt m1 B g G S id X Y Z O' cls wr (wx.setRow (S+1+1+1+1) O'):=by
 have hs:∀ b,b≠S+1+1+1+1→(wx.setRow (S+1+1+1+1) O').heap[b]? =wx.heap[b]?:=fun b hb=>by
  unfold S7
  show(wx.heap.modify _ _)[b]? =wx.heap[b]?
  rw [Array.getElem?_modify,if_neg (fun e=>hb e.symm)]
 have hz:(wx.setRow (S+1+1+1+1) O').heap.size=wx.heap.size:=by unfold S7;simp
 obtain⟨kv,h1,h2,h3⟩:=h.m
 have hk:Kept (Mg.mine g m1) wr (wx.setRow (S+1+1+1+1) O'):=h2.1.trans (S':=fun k=>k=S+1+1+1+1) ⟨rfl,rfl,rfl,Nat.le_of_eq hz.symm,fun k hk hn=>hs k hn⟩ (fun i hi e=>absurd hi (by have e':i=S+1+1+1+1:=e;omega))
 refine⟨(hs _ (by omega)).trans h.b0,(hs _ (by omega)).trans h.i,(hs _ (by omega)).trans h.x,(hs _ (by omega)).trans h.y,(hs _ (by omega)).trans h.z,Sy _ _ _ _ _ _ h.o,⟨kv,?_,⟨hk,h2.2⟩,h3⟩,h.u⟩
 refine h1.kept (by rw [hz];exact SF _) fun b hb hm=>hs b ?_
 rcases hm with hm|⟨e,he,hm⟩
 · have:=h3 b hm
   omega
 · have:=h.u e he b hm
   omega
theorem bg {P:Program} {ops:Array Oper} {Q:Exit→Act→Sv→Prop} {o:Oper} {os:List Oper} {a:Act} {w:Sv} {v:Sz} (hw:Region.wanted o (yielded ops a.tmps)=true)(hy:(execOp a.eval o).run P w=.ok (.value v) w)(h:wpList P ops Q os (a.put o.dst v) w):wpList P ops Q (o::os) a w:=BigFrame.wpList_want hw fun K hK=>by
 unfold Oper.wp
 rw [hy]
 exact hK _ _ h
theorem jb {P:Program} {ops:Array Oper} {Q:Exit→Act→Sv→Prop} {o:Oper} {os:List Oper} {a:Act} {w:Sv} (m x:Operand)(t:TypeId)(hop:o.op=Op.lookup t m x false) {mv key v:Sz} (hm:a.eval m=mv)(hx:a.eval x=key)
 (hrun:(Instr.lookup t mv key false).run P w=.ok v w) (hw:Region.wanted o (yielded ops a.tmps)=true) (h:wpList P ops Q os (a.put o.dst v) w):wpList P ops Q (o::os) a w :=
 bg hw (by simp [execOp,hop,hm,hx,hrun,Result.andThen]) h
theorem CQ {ops:Array Oper} {Q:Exit→Act→Sv→Prop} {o:Oper} {os:List Oper} {a:Act} {w:Sv} (x y:Operand)(hop:o.op=Op.binOp .neq 52 x y 52) {X Y:Array Sz} {r:Bool} (hm:a.eval x=.agg X)(hx:a.eval y=.agg Y)
 (hrun:(binOp .neq 52 (.agg X) (.agg Y)).run SU w=.ok (.bool r) w) (hw:Region.wanted o (yielded ops a.tmps)=true) (h:wpList SU ops Q os (a.put o.dst (.bool r)) w):wpList SU ops Q (o::os) a w :=
 bg hw (by
  have hg:(eqGuard .neq 52 x y (.agg X) (.agg Y)).run SU w=.ok () w:=by simp [go_sem]
  simp [execOp,hop,hm,hx,hrun,hg,Result.andThen]) h
theorem pK:(SU.info? 52).map (·.size)=some 8:=by kernel_rfl
theorem one8 (a b c d:Int)(e f:ByteArray)(g h:Bool):(#[SW .i64 a,.int .i64 b,.int .i64 c,.int .i64 d,.string e,.string f,.bool g,.bool h].all (·.oneCell'))=true:=by simp [SY]
theorem oO:(SU.info? 211).map (·.size)=some 4:=by kernel_rfl
theorem px (id:Int)(b:Bool)(f:ByteArray):jK id (fIf b f)=clIf b ⟨4,id,aG,f⟩:=by cases b<;>rfl
theorem th (id:Int)(a b:List ByteArray):jK id (a++b)=jK id a++jK id b:=by unfold jK;exact List.map_append ..
theorem G5 (x y:Cm):Cf x y=anc4 (l_ x) (l_ y):=by
 simp only [Cf,anc4,l_,Bool.and_assoc]
theorem one4 (a b c:Int)(d:Bool):(#[SW .i64 a,.int .i64 b,.int .i64 c,.bool d].all (·.oneCell'))=true:=by simp [SY]
theorem CV {b:Nat} {w w':Sv} (h:Kept (fun k=>k=b) w w')(j:Nat)(v:Sz):Kept (fun k=>k=b) w (w'.setCell ⟨b,j,none⟩ v):=h.setCell (p:=⟨b,j,none⟩) (.inr rfl) v
theorem nJ (b:Bool)(c:Cl):(clIf b c).length≤1:=by cases b<;>simp [clIf]
theorem Jw (m1:Mg)(B g G S:Nat)(id:Int)(x y z:Cm)(wr w0:Sv)(km:G<S)(hS:wr.heap.size≤S)(hB:B≤S)(hl:m1.cls.length≤60000)(hst:CSt m1 B g G S id x.enc.toArray y.enc.toArray z.enc.toArray x.enc.toArray m1.cls wr w0)(Q:Exit→Act→Sv→Prop)(hP:∀ ch a a' w,a'.defers=a.defers→Q (.panic ch) a w→Q (.panic ch) a' w) {s0 s1 s2 s3 s5 s6 s7 s8 s9 s10 s11 s12 s15 fh jj ir iq s24 gP gO gN gM gL gK gJ fV gI gH gG gF gE gD gA gx gw gv s43 s44 gu gq gp gl s49 gj gh gf s53 gd iu f_ gT gS im ik ij ig ie jD j2 iw j1 s68 kF fB jZ s72 jY jX jW jV jU jT jS jR jQ s82 s83 jP jO jN s87 jM jL jC jB jA jy jx jw jv ju jt js bF bY bX bW bV bU cq ck dW dV dU dT eK eJ eI eH eG eF eE eD eC eB eA ew eu et ep eo en ek ej ei eh bT bS bR ef bQ ee bP cj cg dS dR dQ dP dN dM dL dK dJ dI dH dF dE dD dC dB dA dz dy dx dw dv du dq dp dm dj di dh dg df de cZ cY cX cW cV cU cT cS cR cQ cP cO cd b_ b9 b8 cN cL cK cH cG cF cE cD cB cA cw cu bO bN bM ed oa n_ nW nV nU nT nS nR nQ nP nO mK:Sz}
 (hfin:∀ (u22 u23 Fe Fc Bf Be Bd Bc vZ vY vX vW vV vU vT u119 vS vR vQ vP u124 vO vN u127 vM vL vK u131 Bb Lg Lf Le Ld Lc u138 u139 Fb Fa Ba A_ A9 A8 A7 A6 A5 A4 A0 AZ u152 AY u154 AX AW AV AU AS AR AQ u162 AP u164 AO AM AK AJ AI AH AG AF:Sz) (wx:Sv),CSt m1 B g G S id x.enc.toArray y.enc.toArray z.enc.toArray (o0 x y z).enc.toArray (m1.cls++jK id (kg x y z)) wr wx→Q .normal { tmps:=#[s0,s1,s2,s3,.pointer (some ⟨G,0,none⟩),s5,s6,s7,s8,s9,s10,s11,s12,.pointer (some ⟨S,0,none⟩),.pointer (some ⟨S+1,0,none⟩),s15,.pointer (some ⟨S+1+1,0,none⟩),fh,.pointer (some ⟨S+1+1+1,0,none⟩),jj,.func (.func 141) #[] #[.pointer (some ⟨G,0,none⟩),.pointer (some ⟨S,0,none⟩)],.pointer (some ⟨S+1+1+1+1,0,none⟩),u22,u23,s24,gP,gO,gN,gM,gL,gK,gJ,fV,gI,gH,gG,gF,gE,gD,gA,gx,gw,gv,s43,s44,gu,gq,gp,gl,s49,gj,gh,gf,s53,gd,iu,f_,gT,gS,im,ik,ij,ig,ie,jD,j2,iw,j1,s68,kF,fB,jZ,s72,jY,jX,jW,jV,jU,jT,jS,jR,jQ,s82,s83,jP,jO,jN,s87,jM,jL,jC,jB,jA,jy,jx,jw,jv,ju,jt,js,bF,bY,bX,bW,bV,bU,Fe,Fc,Bf,Be,Bd,Bc,vZ,vY,vX,vW,vV,vU,vT,u119,vS,vR,vQ,vP,u124,vO,vN,u127,vM,vL,vK,u131,Bb,Lg,Lf,Le,Ld,Lc,u138,u139,Fb,Fa,Ba,A_,A9,A8,A7,A6,A5,A4,A0,AZ,u152,AY,u154,AX,AW,AV,AU,AS,AR,AQ,u162,AP,u164,AO,AM,AK,AJ,AI,AH,AG,AF,de,cZ,cY,cX,cW,cV,cU,cT,cS,cR,cQ,cP,cO,cd,b_,b9,b8,cN,cL,cK,cH,cG,cF,cE,cD,cB,cA,cw,cu,bO,bN,bM,ed,oa,n_,nW,nV,nU,nT,nS,nR,nQ,nP,nO,mK],defers:=[] } wx) :
 Code.wp SU ((lD 20 (Tryz.f81.body.getD .skip)).getD .skip) Q { tmps:=#[s0,s1,s2,s3,.pointer (some ⟨G,0,none⟩),s5,s6,s7,s8,s9,s10,s11,s12,.pointer (some ⟨S,0,none⟩),.pointer (some ⟨S+1,0,none⟩),s15,.pointer (some ⟨S+1+1,0,none⟩),fh,.pointer (some ⟨S+1+1+1,0,none⟩),jj,.func (.func 141) #[] #[.pointer (some ⟨G,0,none⟩),.pointer (some ⟨S,0,none⟩)],.pointer (some ⟨S+1+1+1+1,0,none⟩),ir,iq,s24,gP,gO,gN,gM,gL,gK,gJ,fV,gI,gH,gG,gF,gE,gD,gA,gx,gw,gv,s43,s44,gu,gq,gp,gl,s49,gj,gh,gf,s53,gd,iu,f_,gT,gS,im,ik,ij,ig,ie,jD,j2,iw,j1,s68,kF,fB,jZ,s72,jY,jX,jW,jV,jU,jT,jS,jR,jQ,s82,s83,jP,jO,jN,s87,jM,jL,jC,jB,jA,jy,jx,jw,jv,ju,jt,js,bF,bY,bX,bW,bV,bU,cq,ck,dW,dV,dU,dT,eK,eJ,eI,eH,eG,eF,eE,eD,eC,eB,eA,ew,eu,et,ep,eo,en,ek,ej,ei,eh,bT,bS,bR,ef,bQ,ee,bP,cj,cg,dS,dR,dQ,dP,dN,dM,dL,dK,dJ,dI,dH,dF,dE,dD,dC,dB,dA,dz,dy,dx,dw,dv,du,dq,dp,dm,dj,di,dh,dg,df,de,cZ,cY,cX,cW,cV,cU,cT,cS,cR,cQ,cP,cO,cd,b_,b9,b8,cN,cL,cK,cH,cG,cF,cE,cD,cB,cA,cw,cu,bO,bN,bM,ed,oa,n_,nW,nV,nU,nT,nS,nR,nQ,nP,nO,mK],defers:=[] } w0:=by
 have aA:=h_ hfin
 have HP:=h_ hP
 clear hfin hP
 have hp:=rJ l_ Cf anc4 G5 x y z
 obtain⟨p1,h1⟩:∃ p,p=yP x y z:=⟨_,rfl⟩
 obtain⟨p2,h2⟩:∃ p,p=rK x y z:=⟨_,rfl⟩
 obtain⟨p3,h3⟩:∃ p,p=CR x y z:=⟨_,rfl⟩
 obtain⟨p4,h4⟩:∃ p,p=CS x y z:=⟨_,rfl⟩
 have HV:=h_ (fun w1=>tM (l_ x) (l_ y) (l_ z) w1)
 rw [←hp,show aF Cf x y z=p1 from h1.symm] at HV
 have HX:=h_ (fun w1=>fN x w1)
 have HY:=h_ (fun w1=>fN y w1)
 have HZ:=h_ (fun w1=>fN z w1)
 have Ia:=h_ (fun w1=>e_ x.author y.author z.author w1)
 have H_:=h_ (fun w1=>e_ x.text y.text z.text w1)
 have EV:=h_ (fun w1=>r_ x.done y.done z.done w1)
 rw [show aF fH x.author y.author z.author=p2 from h2.symm] at Ia
 rw [show aF fH x.text y.text z.text=p3 from h3.symm] at H_
 rw [show aF mo x.done y.done z.done=p4 from h4.symm] at EV
 have e1:(o0 x y z).enc.toArray=#[SW .i64 x.id,.int .i64 p1.1.ev,.int .i64 p1.1.frm,.int .i64 p1.1.til,.string p2.1,.string p3.1,.bool p4.1,.bool p1.1.lost]:=by rw [h1,h2,h3,h4];rfl
 have e2:jK id (kg x y z)=clIf p1.2 ⟨4,id,aG,bK⟩++clIf p2.2 ⟨4,id,aG,g_⟩++clIf p3.2 ⟨4,id,aG,ug⟩++clIf p4.2 ⟨4,id,aG,En⟩:=by
  rw [h1,h2,h3,h4];unfold kg
  rw [th,th,th,px,px,px,px]
 rw [e1,e2] at aA
 clear e1 e2 h1 h2 h3 h4 hp
 obtain⟨⟨aid,aev,afrm,atil,aau,atx,adn,alo⟩,c1⟩:=p1
 obtain⟨b2,c2⟩:=p2
 obtain⟨b3,c3⟩:=p3
 obtain⟨b4,c4⟩:=p4
 obtain⟨xid,xev,xfrm,xtil,xau,xtx,xdn,xlo⟩:=x
 obtain⟨yid,yev,yfrm,ytil,yau,ytx,ydn,ylo⟩:=y
 obtain⟨zid,zev,zfrm,ztil,zau,ztx,zdn,zlo⟩:=z
 simp only [Cm.enc,l_,bh] at *
 have HST:=h_ hst
 have HT:=h_ (fun(w2 w3:Sv) (q:SV w0.heap.size w0 w2) (q3:SV w2.heap.size w2 w3)=>(q.trans (q3.mono q.size):SV w0.heap.size w0 w3))
 have iY:=h_ hst.lt
 have kx:∀ w',SV w0.heap.size w0 w'→∀ j,w'.cell? ⟨S+1,j,none⟩=_:=fun w' q j=>Su _ _ j _ 52 (0,0) ((q.block _ (by have:=iY.out;omega)).trans HST.out.x)
 have ky:∀ w',SV w0.heap.size w0 w'→∀ j,w'.cell? ⟨S+1+1,j,none⟩=_:=fun w' q j=>Su _ _ j _ 52 (0,0) ((q.block _ (by have:=iY.out;omega)).trans HST.out.y)
 have kz:∀ w',SV w0.heap.size w0 w'→∀ j,w'.cell? ⟨S+1+1+1,j,none⟩=_:=fun w' q j=>Su _ _ j _ 52 (0,0) ((q.block _ (by have:=iY.out;omega)).trans HST.out.z)
 have hd0:SV w0.heap.size w0 w0.drew:=(SV.refl _ _).drew
 clear hst
 conv=>arg 2;whnf
 go_upto_region 20 with fail
 go_cut [22,23] from 106 to 172 (fun t22 t23 wx=>∃ g2,t22=.pointer (some ⟨g2,0,none⟩)∧t23=.bool c1∧w0.heap.size≤g2∧SV w0.heap.size w0 wx∧wx.heap[g2]? =some (.cells #[SW .i64 aev,.int .i64 afrm,.int .i64 atil,.bool alo] 211 (0,0)))
 case first =>
  refine SD (S:=fun w'=>SV w0.heap.size w0 w') (by kernel_rfl) hd0 (fun _=>?_)
  try simp only [Act.put,SL,SJ,SK,SI,SN,SO,S5]
  refine ab HP.out 0 (.agg #[SW .i64 xid,.int .i64 xev,.int .i64 xfrm,.int .i64 xtil,.string xau,.string xtx,.bool xdn,.bool xlo]) hd0 ?_ (hy:=.inl ⟨by rfl,fun w_ rB=>by have q_:=kx _ rB;go_simp⟩)
  refine ab HP.out 2 (.agg #[SW .i64 yid,.int .i64 yev,.int .i64 yfrm,.int .i64 ytil,.string yau,.string ytx,.bool ydn,.bool ylo]) hd0 ?_ (hy:=.inl ⟨by rfl,fun w_ rB=>by have q_:=ky _ rB;go_simp⟩)
  refine ab HP.out 4 (.agg #[SW .i64 zid,.int .i64 zev,.int .i64 zfrm,.int .i64 ztil,.string zau,.string ztx,.bool zdn,.bool zlo]) hd0 ?_ (hy:=.inl ⟨by rfl,fun w_ rB=>by have q_:=kz _ rB;go_simp⟩)
  refine eZ 1 10 (fun K hK=>?_) (fun K hK=>?_)
  · skip
    go_simp
    refine(HX.out _).mono ?_
    rintro e v1 ⟨rfl,ai⟩
    have hv1:=HT.out _ _ hd0 ai
    clear ai
    go_wp2_with fail
    refine goOn hK hv1 ?_
    clear hK
    refine eZ 3 10 (fun K hK=>?_) (fun K hK=>?_)
    · skip
      go_simp
      refine(HY.out _).mono ?_
      rintro e v2 ⟨rfl,ai⟩
      have hv2:=HT.out _ _ hv1 ai
      clear ai
      go_wp2_with fail
      refine goOn hK hv2 ?_
      clear hK
      refine eZ 5 10 (fun K hK=>?_) (fun K hK=>?_)
      · skip
        go_simp
        refine(HZ.out _).mono ?_
        rintro e v3 ⟨rfl,ai⟩
        have hv3:=HT.out _ _ hv2 ai
        clear ai
        go_wp2_with fail
        refine goOn hK hv3 ?_
        clear hK
        refine eZ 6 10 (fun K hK=>?_) (fun K hK=>?_)
        · skip
          go_simp
          refine(HV.out _).mono ?_
          rintro e v4 ⟨rfl,ai⟩
          have hv4:=HT.out _ _ hv3 ai
          clear ai
          go_wp2_with fail
          refine goOn hK hv4 ?_
          clear hK
          refine ab HP.out 7 (.tuple #[.agg #[SW .i64 aev,.int .i64 afrm,.int .i64 atil,.bool alo],.bool c1]) hv4 ?_
          refine ab HP.out 8 (.agg #[SW .i64 aev,.int .i64 afrm,.int .i64 atil,.bool alo]) hv4 ?_
          refine ab HP.out 9 (.bool c1) hv4 ?_
          refine aq 10 (fun K hK=>?_)
          go_simp
          have hal:SV w0.heap.size w0 (v4.alloc (.cells #[.int .i64 0,.int .i64 0,.int .i64 0,.bool false] 211)):=hv4.alloc hv4.size _
          have ral:(v4.alloc (.cells #[.int .i64 0,.int .i64 0,.int .i64 0,.bool false] 211)).heap[v4.heap.size]? =some (.cells #[.int .i64 0,.int .i64 0,.int .i64 0,.bool false] 211 (0,0)):=Sw _ _
          have hg:w0.heap.size≤v4.heap.size:=hv4.size
          refine goOn hK hal ?_
          clear hK
          refine aq 11 (fun K hK=>?_)
          rw [if_pos (by rfl)]
          refine SA 211 (.tmp 22) (.tmp 114) rfl (v4.heap.size) (SG [SW .i64 aev,.int .i64 afrm,.int .i64 atil,.bool alo]) rfl rfl 211 _ ral oO rfl (one4 _ _ _ _) ?_
          have fR:=SB hal hg (SG [SW .i64 aev,.int .i64 afrm,.int .i64 atil,.bool alo])
          have JK:=h_ (Sy (v4.alloc (.cells #[.int .i64 0,.int .i64 0,.int .i64 0,.bool false] 211)) (v4.heap.size) _ (SG [SW .i64 aev,.int .i64 afrm,.int .i64 atil,.bool alo]) _ _ ral)
          refine goOn hK fR ?_
          clear hK
          refine ab HP.out 12 (.bool c1) fR ?_
          refine Sx (by kernel_rfl) ?_ _
          go_wp2_with fail
          go_meet
          exact⟨v4.heap.size,rfl,rfl,hg,fR,JK.out⟩
        · skip
          go_simp
          have hal:SV w0.heap.size w0 (v3.alloc (.cells #[.int .i64 0,.int .i64 0,.int .i64 0,.bool false] 211)):=hv3.alloc hv3.size _
          have ral:(v3.alloc (.cells #[.int .i64 0,.int .i64 0,.int .i64 0,.bool false] 211)).heap[v3.heap.size]? =some (.cells #[.int .i64 0,.int .i64 0,.int .i64 0,.bool false] 211 (0,0)):=Sw _ _
          have hg:w0.heap.size≤v3.heap.size:=hv3.size
          refine goOn hK hal ?_
          clear hK
          refine aq 6 (fun K hK=>?_)
          go_simp
          refine(HV.out _).mono ?_
          rintro e v4 ⟨rfl,ai⟩
          have hv4:=HT.out _ _ hal ai
          have rv4:=(ai.block _ (SZ.1 ral).1).trans ral
          clear ai
          go_wp2_with fail
          refine goOn hK hv4 ?_
          clear hK
          refine ab HP.out 7 (.tuple #[.agg #[SW .i64 aev,.int .i64 afrm,.int .i64 atil,.bool alo],.bool c1]) hv4 ?_
          refine ab HP.out 8 (.agg #[SW .i64 aev,.int .i64 afrm,.int .i64 atil,.bool alo]) hv4 ?_
          refine ab HP.out 9 (.bool c1) hv4 ?_
          refine aq 11 (fun K hK=>?_)
          rw [if_pos (by rfl)]
          refine SA 211 (.tmp 22) (.tmp 114) rfl (v3.heap.size) (SG [SW .i64 aev,.int .i64 afrm,.int .i64 atil,.bool alo]) rfl rfl 211 _ rv4 oO rfl (one4 _ _ _ _) ?_
          have fR:=SB hv4 hg (SG [SW .i64 aev,.int .i64 afrm,.int .i64 atil,.bool alo])
          have JK:=h_ (Sy v4 (v3.heap.size) _ (SG [SW .i64 aev,.int .i64 afrm,.int .i64 atil,.bool alo]) _ _ rv4)
          refine goOn hK fR ?_
          clear hK
          refine ab HP.out 12 (.bool c1) fR ?_
          refine Sx (by kernel_rfl) ?_ _
          go_wp2_with fail
          go_meet
          exact⟨v3.heap.size,rfl,rfl,hg,fR,JK.out⟩
      · skip
        go_simp
        have hal:SV w0.heap.size w0 (v2.alloc (.cells #[.int .i64 0,.int .i64 0,.int .i64 0,.bool false] 211)):=hv2.alloc hv2.size _
        have ral:(v2.alloc (.cells #[.int .i64 0,.int .i64 0,.int .i64 0,.bool false] 211)).heap[v2.heap.size]? =some (.cells #[.int .i64 0,.int .i64 0,.int .i64 0,.bool false] 211 (0,0)):=Sw _ _
        have hg:w0.heap.size≤v2.heap.size:=hv2.size
        refine goOn hK hal ?_
        clear hK
        refine aq 5 (fun K hK=>?_)
        go_simp
        refine(HZ.out _).mono ?_
        rintro e v3 ⟨rfl,ai⟩
        have hv3:=HT.out _ _ hal ai
        have rv3:=(ai.block _ (SZ.1 ral).1).trans ral
        clear ai
        go_wp2_with fail
        refine goOn hK hv3 ?_
        clear hK
        refine aq 6 (fun K hK=>?_)
        go_simp
        refine(HV.out _).mono ?_
        rintro e v4 ⟨rfl,ai⟩
        have hv4:=HT.out _ _ hv3 ai
        have rv4:=(ai.block _ (SZ.1 rv3).1).trans rv3
        clear ai
        go_wp2_with fail
        refine goOn hK hv4 ?_
        clear hK
        refine ab HP.out 7 (.tuple #[.agg #[SW .i64 aev,.int .i64 afrm,.int .i64 atil,.bool alo],.bool c1]) hv4 ?_
        refine ab HP.out 8 (.agg #[SW .i64 aev,.int .i64 afrm,.int .i64 atil,.bool alo]) hv4 ?_
        refine ab HP.out 9 (.bool c1) hv4 ?_
        refine aq 11 (fun K hK=>?_)
        rw [if_pos (by rfl)]
        refine SA 211 (.tmp 22) (.tmp 114) rfl (v2.heap.size) (SG [SW .i64 aev,.int .i64 afrm,.int .i64 atil,.bool alo]) rfl rfl 211 _ rv4 oO rfl (one4 _ _ _ _) ?_
        have fR:=SB hv4 hg (SG [SW .i64 aev,.int .i64 afrm,.int .i64 atil,.bool alo])
        have JK:=h_ (Sy v4 (v2.heap.size) _ (SG [SW .i64 aev,.int .i64 afrm,.int .i64 atil,.bool alo]) _ _ rv4)
        refine goOn hK fR ?_
        clear hK
        refine ab HP.out 12 (.bool c1) fR ?_
        refine Sx (by kernel_rfl) ?_ _
        go_wp2_with fail
        go_meet
        exact⟨v2.heap.size,rfl,rfl,hg,fR,JK.out⟩
    · skip
      go_simp
      have hal:SV w0.heap.size w0 (v1.alloc (.cells #[.int .i64 0,.int .i64 0,.int .i64 0,.bool false] 211)):=hv1.alloc hv1.size _
      have ral:(v1.alloc (.cells #[.int .i64 0,.int .i64 0,.int .i64 0,.bool false] 211)).heap[v1.heap.size]? =some (.cells #[.int .i64 0,.int .i64 0,.int .i64 0,.bool false] 211 (0,0)):=Sw _ _
      have hg:w0.heap.size≤v1.heap.size:=hv1.size
      refine goOn hK hal ?_
      clear hK
      refine aq 3 (fun K hK=>?_)
      go_simp
      refine(HY.out _).mono ?_
      rintro e v2 ⟨rfl,ai⟩
      have hv2:=HT.out _ _ hal ai
      have rv2:=(ai.block _ (SZ.1 ral).1).trans ral
      clear ai
      go_wp2_with fail
      refine goOn hK hv2 ?_
      clear hK
      refine aq 5 (fun K hK=>?_)
      go_simp
      refine(HZ.out _).mono ?_
      rintro e v3 ⟨rfl,ai⟩
      have hv3:=HT.out _ _ hv2 ai
      have rv3:=(ai.block _ (SZ.1 rv2).1).trans rv2
      clear ai
      go_wp2_with fail
      refine goOn hK hv3 ?_
      clear hK
      refine aq 6 (fun K hK=>?_)
      go_simp
      refine(HV.out _).mono ?_
      rintro e v4 ⟨rfl,ai⟩
      have hv4:=HT.out _ _ hv3 ai
      have rv4:=(ai.block _ (SZ.1 rv3).1).trans rv3
      clear ai
      go_wp2_with fail
      refine goOn hK hv4 ?_
      clear hK
      refine ab HP.out 7 (.tuple #[.agg #[SW .i64 aev,.int .i64 afrm,.int .i64 atil,.bool alo],.bool c1]) hv4 ?_
      refine ab HP.out 8 (.agg #[SW .i64 aev,.int .i64 afrm,.int .i64 atil,.bool alo]) hv4 ?_
      refine ab HP.out 9 (.bool c1) hv4 ?_
      refine aq 11 (fun K hK=>?_)
      rw [if_pos (by rfl)]
      refine SA 211 (.tmp 22) (.tmp 114) rfl (v1.heap.size) (SG [SW .i64 aev,.int .i64 afrm,.int .i64 atil,.bool alo]) rfl rfl 211 _ rv4 oO rfl (one4 _ _ _ _) ?_
      have fR:=SB hv4 hg (SG [SW .i64 aev,.int .i64 afrm,.int .i64 atil,.bool alo])
      have JK:=h_ (Sy v4 (v1.heap.size) _ (SG [SW .i64 aev,.int .i64 afrm,.int .i64 atil,.bool alo]) _ _ rv4)
      refine goOn hK fR ?_
      clear hK
      refine ab HP.out 12 (.bool c1) fR ?_
      refine Sx (by kernel_rfl) ?_ _
      go_wp2_with fail
      go_meet
      exact⟨v1.heap.size,rfl,rfl,hg,fR,JK.out⟩
  · skip
    go_simp
    have hal:SV w0.heap.size w0 (w0.drew.alloc (.cells #[.int .i64 0,.int .i64 0,.int .i64 0,.bool false] 211)):=hd0.alloc hd0.size _
    have ral:(w0.drew.alloc (.cells #[.int .i64 0,.int .i64 0,.int .i64 0,.bool false] 211)).heap[w0.drew.heap.size]? =some (.cells #[.int .i64 0,.int .i64 0,.int .i64 0,.bool false] 211 (0,0)):=Sw _ _
    have hg:w0.heap.size≤w0.drew.heap.size:=hd0.size
    refine goOn hK hal ?_
    clear hK
    refine aq 1 (fun K hK=>?_)
    go_simp
    refine(HX.out _).mono ?_
    rintro e v1 ⟨rfl,ai⟩
    have hv1:=HT.out _ _ hal ai
    have rv1:=(ai.block _ (SZ.1 ral).1).trans ral
    clear ai
    go_wp2_with fail
    refine goOn hK hv1 ?_
    clear hK
    refine aq 3 (fun K hK=>?_)
    go_simp
    refine(HY.out _).mono ?_
    rintro e v2 ⟨rfl,ai⟩
    have hv2:=HT.out _ _ hv1 ai
    have rv2:=(ai.block _ (SZ.1 rv1).1).trans rv1
    clear ai
    go_wp2_with fail
    refine goOn hK hv2 ?_
    clear hK
    refine aq 5 (fun K hK=>?_)
    go_simp
    refine(HZ.out _).mono ?_
    rintro e v3 ⟨rfl,ai⟩
    have hv3:=HT.out _ _ hv2 ai
    have rv3:=(ai.block _ (SZ.1 rv2).1).trans rv2
    clear ai
    go_wp2_with fail
    refine goOn hK hv3 ?_
    clear hK
    refine aq 6 (fun K hK=>?_)
    go_simp
    refine(HV.out _).mono ?_
    rintro e v4 ⟨rfl,ai⟩
    have hv4:=HT.out _ _ hv3 ai
    have rv4:=(ai.block _ (SZ.1 rv3).1).trans rv3
    clear ai
    go_wp2_with fail
    refine goOn hK hv4 ?_
    clear hK
    refine ab HP.out 7 (.tuple #[.agg #[SW .i64 aev,.int .i64 afrm,.int .i64 atil,.bool alo],.bool c1]) hv4 ?_
    refine ab HP.out 8 (.agg #[SW .i64 aev,.int .i64 afrm,.int .i64 atil,.bool alo]) hv4 ?_
    refine ab HP.out 9 (.bool c1) hv4 ?_
    refine aq 11 (fun K hK=>?_)
    rw [if_pos (by rfl)]
    refine SA 211 (.tmp 22) (.tmp 114) rfl (w0.drew.heap.size) (SG [SW .i64 aev,.int .i64 afrm,.int .i64 atil,.bool alo]) rfl rfl 211 _ rv4 oO rfl (one4 _ _ _ _) ?_
    have fR:=SB hv4 hg (SG [SW .i64 aev,.int .i64 afrm,.int .i64 atil,.bool alo])
    have JK:=h_ (Sy v4 (w0.drew.heap.size) _ (SG [SW .i64 aev,.int .i64 afrm,.int .i64 atil,.bool alo]) _ _ rv4)
    refine goOn hK fR ?_
    clear hK
    refine ab HP.out 12 (.bool c1) fR ?_
    refine Sx (by kernel_rfl) ?_ _
    go_wp2_with fail
    go_meet
    exact⟨w0.drew.heap.size,rfl,rfl,hg,fR,JK.out⟩
 case rest =>
  obtain⟨g2,rfl,rfl,hge,hbw,hrow⟩:=hcut
  have lF:=h_ (HST.out.later km hbw)
  clear HST kx ky kz hd0 HV HX HY HZ hbw
  have fg:∀ w',Kept (fun b=>b=S+1+1+1+1) wc w'→∀ j,w'.cell? ⟨g2,j,none⟩=_:=fun w' q j=>Su _ _ j _ 211 (0,0) ((q.block _ (SZ.1 hrow).1 (by have:=iY.out;omega)).trans hrow)
  have hgo:g2≠S+1+1+1+1:=by have:=iY.out;omega
  go_upto_region 21 with fail
  have hd1:SV wc.heap.size wc wc.drew:=(SV.refl _ _).drew
  have HS2:=h_ (lF.out.drew km)
  refine SD (S:=fun w'=>Kept (fun b=>b=S+1+1+1+1) wc w') (by kernel_rfl) (Kept.of_below hd1) (fun _=>?_)
  try simp only [Act.put,SL,SJ,SK,SI,SN,SO,S5]
  refine ab HP.out 0 (.pointer (some ⟨g2,0,none⟩)) (Kept.of_below hd1) ?_
  refine ab HP.out 1 (.int .i64 aev) (Kept.of_below hd1) ?_ (hy:=.inl ⟨by rfl,fun w_ rB=>by have q_:=fg _ rB;go_simp⟩)
  refine ab HP.out 2 (.pointer (some ⟨g2,1,none⟩)) (Kept.of_below hd1) ?_
  refine ab HP.out 3 (.int .i64 afrm) (Kept.of_below hd1) ?_ (hy:=.inl ⟨by rfl,fun w_ rB=>by have q_:=fg _ rB;go_simp⟩)
  refine ab HP.out 4 (.pointer (some ⟨g2,2,none⟩)) (Kept.of_below hd1) ?_
  refine ab HP.out 5 (.int .i64 atil) (Kept.of_below hd1) ?_ (hy:=.inl ⟨by rfl,fun w_ rB=>by have q_:=fg _ rB;go_simp⟩)
  refine ab HP.out 6 (.pointer (some ⟨g2,3,none⟩)) (Kept.of_below hd1) ?_
  refine ab HP.out 7 (.bool alo) (Kept.of_below hd1) ?_ (hy:=.inl ⟨by rfl,fun w_ rB=>by have q_:=fg _ rB;go_simp⟩)
  refine ab HP.out 8 (.pointer (some ⟨S+1+1+1+1,1,none⟩)) (Kept.of_below hd1) ?_
  refine aq 9 (fun K hK=>?_)
  have z_:∀ j,wc.frozen? ⟨S+1+1+1+1,j,none⟩=false:=fun j=>by simp [S6,lF.out.o]
  have c_:∀ j,wc.cell? ⟨S+1+1+1+1,j,none⟩=_:=fun j=>Su _ _ j _ 52 (0,0) lF.out.o
  go_simp
  have xR:=h_ (HS2.out.set km hS 1 (.int .i64 aev))
  have hk1:Kept (fun b=>b=S+1+1+1+1) wc (wc.drew.setCell ⟨S+1+1+1+1,1,none⟩ (.int .i64 aev)):=CV (Kept.of_below hd1) _ _
  refine goOn hK hk1 ?_
  clear hK z_ c_
  refine ab HP.out 10 (.pointer (some ⟨S+1+1+1+1,2,none⟩)) hk1 ?_
  refine aq 11 (fun K hK=>?_)
  have z_:∀ j,wc.frozen? ⟨S+1+1+1+1,j,none⟩=false:=fun j=>by simp [S6,lF.out.o]
  have c_:∀ j,wc.cell? ⟨S+1+1+1+1,j,none⟩=_:=fun j=>Su _ _ j _ 52 (0,0) lF.out.o
  go_simp
  have xQ:=h_ (xR.out.set km hS 2 (.int .i64 afrm))
  have hk2:Kept (fun b=>b=S+1+1+1+1) wc ((wc.drew.setCell ⟨S+1+1+1+1,1,none⟩ (.int .i64 aev)).setCell ⟨S+1+1+1+1,2,none⟩ (.int .i64 afrm)):=CV hk1 _ _
  refine goOn hK hk2 ?_
  clear hK z_ c_
  refine ab HP.out 12 (.pointer (some ⟨S+1+1+1+1,3,none⟩)) hk2 ?_
  refine aq 13 (fun K hK=>?_)
  have z_:∀ j,wc.frozen? ⟨S+1+1+1+1,j,none⟩=false:=fun j=>by simp [S6,lF.out.o]
  have c_:∀ j,wc.cell? ⟨S+1+1+1+1,j,none⟩=_:=fun j=>Su _ _ j _ 52 (0,0) lF.out.o
  go_simp
  have xP:=h_ (xQ.out.set km hS 3 (.int .i64 atil))
  have hk3:Kept (fun b=>b=S+1+1+1+1) wc (((wc.drew.setCell ⟨S+1+1+1+1,1,none⟩ (.int .i64 aev)).setCell ⟨S+1+1+1+1,2,none⟩ (.int .i64 afrm)).setCell ⟨S+1+1+1+1,3,none⟩ (.int .i64 atil)):=CV hk2 _ _
  refine goOn hK hk3 ?_
  clear hK z_ c_
  refine ab HP.out 14 (.pointer (some ⟨S+1+1+1+1,7,none⟩)) hk3 ?_
  refine aq 15 (fun K hK=>?_)
  have z_:∀ j,wc.frozen? ⟨S+1+1+1+1,j,none⟩=false:=fun j=>by simp [S6,lF.out.o]
  have c_:∀ j,wc.cell? ⟨S+1+1+1+1,j,none⟩=_:=fun j=>Su _ _ j _ 52 (0,0) lF.out.o
  go_simp
  have Du:=h_ (xP.out.set km hS 7 (.bool alo))
  have hk4:Kept (fun b=>b=S+1+1+1+1) wc ((((wc.drew.setCell ⟨S+1+1+1+1,1,none⟩ (.int .i64 aev)).setCell ⟨S+1+1+1+1,2,none⟩ (.int .i64 afrm)).setCell ⟨S+1+1+1+1,3,none⟩ (.int .i64 atil)).setCell ⟨S+1+1+1+1,7,none⟩ (.bool alo)):=CV hk3 _ _
  refine goOn hK hk4 ?_
  clear hK z_ c_
  refine Sx (by kernel_rfl) ?_ _
  go_wp2_with fail
  have HT:=h_ (show CSt m1 B g G S id (#[SW .i64 xid,.int .i64 xev,.int .i64 xfrm,.int .i64 xtil,.string xau,.string xtx,.bool xdn,.bool xlo]) (#[SW .i64 yid,.int .i64 yev,.int .i64 yfrm,.int .i64 ytil,.string yau,.string ytx,.bool ydn,.bool ylo]) (#[SW .i64 zid,.int .i64 zev,.int .i64 zfrm,.int .i64 ztil,.string zau,.string ztx,.bool zdn,.bool zlo]) (#[SW .i64 xid,.int .i64 aev,.int .i64 afrm,.int .i64 atil,.string xau,.string xtx,.bool xdn,.bool alo]) (m1.cls) wr ((((wc.setCell ⟨S+1+1+1+1,1,none⟩ (.int .i64 aev)).setCell ⟨S+1+1+1+1,2,none⟩ (.int .i64 afrm)).setCell ⟨S+1+1+1+1,3,none⟩ (.int .i64 atil)).setCell ⟨S+1+1+1+1,7,none⟩ (.bool alo)).drew from((((lF.out.set km hS 1 (.int .i64 aev)).set km hS 2 (.int .i64 afrm)).set km hS 3 (.int .i64 atil)).set km hS 7 (.bool alo)).drew km)
  clear fg hd1 hk1 hk2 hk3 hk4 lF HS2 xR xQ xP Du
  have HN:=h_ (HT.out.note km (SE hB HT.out.size) (by omega) c1 bK)
  simp only [bK] at HN
  refine HN.out.mono ?_
  clear HN HT
  rintro e w1 ⟨rfl,hs_⟩
  have HA1:=h_ (show CSt m1 B g G S id (#[SW .i64 xid,.int .i64 xev,.int .i64 xfrm,.int .i64 xtil,.string xau,.string xtx,.bool xdn,.bool xlo]) (#[SW .i64 yid,.int .i64 yev,.int .i64 yfrm,.int .i64 ytil,.string yau,.string ytx,.bool ydn,.bool ylo]) (#[SW .i64 zid,.int .i64 zev,.int .i64 zfrm,.int .i64 ztil,.string zau,.string ztx,.bool zdn,.bool zlo]) (#[SW .i64 xid,.int .i64 aev,.int .i64 afrm,.int .i64 atil,.string xau,.string xtx,.bool xdn,.bool alo]) (m1.cls++clIf c1 ⟨4,id,aG,bK⟩) wr w1 from hs_)
  clear hs_
  have fx:∀ j,w1.cell? ⟨S+1,j,none⟩=_:=fun j=>Su _ _ j _ 52 (0,0) HA1.out.x
  have fy:∀ j,w1.cell? ⟨S+1+1,j,none⟩=_:=fun j=>Su _ _ j _ 52 (0,0) HA1.out.y
  have fz:∀ j,w1.cell? ⟨S+1+1+1,j,none⟩=_:=fun j=>Su _ _ j _ 52 (0,0) HA1.out.z
  have fo:∀ j,w1.cell? ⟨S+1+1+1+1,j,none⟩=_:=fun j=>Su _ _ j _ 52 (0,0) HA1.out.o
  have zo:∀ j,w1.frozen? ⟨S+1+1+1+1,j,none⟩=false:=fun j=>by simp [S6,HA1.out.o]
  go_wp2_with fail
  refine(Ia.out _).mono ?_
  rintro e w2 ⟨rfl,ai⟩
  have HA2:=h_ (show CSt m1 B g G S id (#[SW .i64 xid,.int .i64 xev,.int .i64 xfrm,.int .i64 xtil,.string xau,.string xtx,.bool xdn,.bool xlo]) (#[SW .i64 yid,.int .i64 yev,.int .i64 yfrm,.int .i64 ytil,.string yau,.string ytx,.bool ydn,.bool ylo]) (#[SW .i64 zid,.int .i64 zev,.int .i64 zfrm,.int .i64 ztil,.string zau,.string ztx,.bool zdn,.bool zlo]) (#[SW .i64 xid,.int .i64 aev,.int .i64 afrm,.int .i64 atil,.string xau,.string xtx,.bool xdn,.bool alo]) (m1.cls++clIf c1 ⟨4,id,aG,bK⟩) wr w2 from HA1.out.later km ai)
  clear ai HA1 fx fy fz fo zo
  have fx:∀ j,w2.cell? ⟨S+1,j,none⟩=_:=fun j=>Su _ _ j _ 52 (0,0) HA2.out.x
  have fy:∀ j,w2.cell? ⟨S+1+1,j,none⟩=_:=fun j=>Su _ _ j _ 52 (0,0) HA2.out.y
  have fz:∀ j,w2.cell? ⟨S+1+1+1,j,none⟩=_:=fun j=>Su _ _ j _ 52 (0,0) HA2.out.z
  have fo:∀ j,w2.cell? ⟨S+1+1+1+1,j,none⟩=_:=fun j=>Su _ _ j _ 52 (0,0) HA2.out.o
  have zo:∀ j,w2.frozen? ⟨S+1+1+1+1,j,none⟩=false:=fun j=>by simp [S6,HA2.out.o]
  go_wp2_with fail
  have HT:=h_ (show CSt m1 B g G S id (#[SW .i64 xid,.int .i64 xev,.int .i64 xfrm,.int .i64 xtil,.string xau,.string xtx,.bool xdn,.bool xlo]) (#[SW .i64 yid,.int .i64 yev,.int .i64 yfrm,.int .i64 ytil,.string yau,.string ytx,.bool ydn,.bool ylo]) (#[SW .i64 zid,.int .i64 zev,.int .i64 zfrm,.int .i64 ztil,.string zau,.string ztx,.bool zdn,.bool zlo]) (#[SW .i64 xid,.int .i64 aev,.int .i64 afrm,.int .i64 atil,.string b2,.string xtx,.bool xdn,.bool alo]) (m1.cls++clIf c1 ⟨4,id,aG,bK⟩) wr (w2.setCell ⟨S+1+1+1+1,4,none⟩ (.string b2)) from(HA2.out.set km hS 4 (.string b2)))
  have HN:=h_ (HT.out.note km (SE hB HT.out.size) (by simp only [SH];have:=nJ c1 ⟨4,id,aG,bK⟩;omega) c2 g_)
  simp only [g_] at HN
  refine HN.out.mono ?_
  clear HN HT HA2 fx fy fz fo zo
  rintro e w3 ⟨rfl,hs_⟩
  have NC:=h_ (show CSt m1 B g G S id (#[SW .i64 xid,.int .i64 xev,.int .i64 xfrm,.int .i64 xtil,.string xau,.string xtx,.bool xdn,.bool xlo]) (#[SW .i64 yid,.int .i64 yev,.int .i64 yfrm,.int .i64 ytil,.string yau,.string ytx,.bool ydn,.bool ylo]) (#[SW .i64 zid,.int .i64 zev,.int .i64 zfrm,.int .i64 ztil,.string zau,.string ztx,.bool zdn,.bool zlo]) (#[SW .i64 xid,.int .i64 aev,.int .i64 afrm,.int .i64 atil,.string b2,.string xtx,.bool xdn,.bool alo]) (m1.cls++clIf c1 ⟨4,id,aG,bK⟩++clIf c2 ⟨4,id,aG,g_⟩) wr w3 from hs_)
  clear hs_
  have fx:∀ j,w3.cell? ⟨S+1,j,none⟩=_:=fun j=>Su _ _ j _ 52 (0,0) NC.out.x
  have fy:∀ j,w3.cell? ⟨S+1+1,j,none⟩=_:=fun j=>Su _ _ j _ 52 (0,0) NC.out.y
  have fz:∀ j,w3.cell? ⟨S+1+1+1,j,none⟩=_:=fun j=>Su _ _ j _ 52 (0,0) NC.out.z
  have fo:∀ j,w3.cell? ⟨S+1+1+1+1,j,none⟩=_:=fun j=>Su _ _ j _ 52 (0,0) NC.out.o
  have zo:∀ j,w3.frozen? ⟨S+1+1+1+1,j,none⟩=false:=fun j=>by simp [S6,NC.out.o]
  go_wp2_with fail
  refine(H_.out _).mono ?_
  rintro e w4 ⟨rfl,ai⟩
  have Nz:=h_ (show CSt m1 B g G S id (#[SW .i64 xid,.int .i64 xev,.int .i64 xfrm,.int .i64 xtil,.string xau,.string xtx,.bool xdn,.bool xlo]) (#[SW .i64 yid,.int .i64 yev,.int .i64 yfrm,.int .i64 ytil,.string yau,.string ytx,.bool ydn,.bool ylo]) (#[SW .i64 zid,.int .i64 zev,.int .i64 zfrm,.int .i64 ztil,.string zau,.string ztx,.bool zdn,.bool zlo]) (#[SW .i64 xid,.int .i64 aev,.int .i64 afrm,.int .i64 atil,.string b2,.string xtx,.bool xdn,.bool alo]) (m1.cls++clIf c1 ⟨4,id,aG,bK⟩++clIf c2 ⟨4,id,aG,g_⟩) wr w4 from NC.out.later km ai)
  clear ai NC fx fy fz fo zo
  have fx:∀ j,w4.cell? ⟨S+1,j,none⟩=_:=fun j=>Su _ _ j _ 52 (0,0) Nz.out.x
  have fy:∀ j,w4.cell? ⟨S+1+1,j,none⟩=_:=fun j=>Su _ _ j _ 52 (0,0) Nz.out.y
  have fz:∀ j,w4.cell? ⟨S+1+1+1,j,none⟩=_:=fun j=>Su _ _ j _ 52 (0,0) Nz.out.z
  have fo:∀ j,w4.cell? ⟨S+1+1+1+1,j,none⟩=_:=fun j=>Su _ _ j _ 52 (0,0) Nz.out.o
  have zo:∀ j,w4.frozen? ⟨S+1+1+1+1,j,none⟩=false:=fun j=>by simp [S6,Nz.out.o]
  go_wp2_with fail
  have HT:=h_ (show CSt m1 B g G S id (#[SW .i64 xid,.int .i64 xev,.int .i64 xfrm,.int .i64 xtil,.string xau,.string xtx,.bool xdn,.bool xlo]) (#[SW .i64 yid,.int .i64 yev,.int .i64 yfrm,.int .i64 ytil,.string yau,.string ytx,.bool ydn,.bool ylo]) (#[SW .i64 zid,.int .i64 zev,.int .i64 zfrm,.int .i64 ztil,.string zau,.string ztx,.bool zdn,.bool zlo]) (#[SW .i64 xid,.int .i64 aev,.int .i64 afrm,.int .i64 atil,.string b2,.string b3,.bool xdn,.bool alo]) (m1.cls++clIf c1 ⟨4,id,aG,bK⟩++clIf c2 ⟨4,id,aG,g_⟩) wr (w4.setCell ⟨S+1+1+1+1,5,none⟩ (.string b3)) from(Nz.out.set km hS 5 (.string b3)))
  have HN:=h_ (HT.out.note km (SE hB HT.out.size) (by simp only [SH];have:=nJ c1 ⟨4,id,aG,bK⟩;have:=nJ c2 ⟨4,id,aG,g_⟩;omega) c3 ug)
  simp only [ug] at HN
  refine HN.out.mono ?_
  clear HN HT Nz fx fy fz fo zo
  rintro e w5 ⟨rfl,hs_⟩
  have Ny:=h_ (show CSt m1 B g G S id (#[SW .i64 xid,.int .i64 xev,.int .i64 xfrm,.int .i64 xtil,.string xau,.string xtx,.bool xdn,.bool xlo]) (#[SW .i64 yid,.int .i64 yev,.int .i64 yfrm,.int .i64 ytil,.string yau,.string ytx,.bool ydn,.bool ylo]) (#[SW .i64 zid,.int .i64 zev,.int .i64 zfrm,.int .i64 ztil,.string zau,.string ztx,.bool zdn,.bool zlo]) (#[SW .i64 xid,.int .i64 aev,.int .i64 afrm,.int .i64 atil,.string b2,.string b3,.bool xdn,.bool alo]) (m1.cls++clIf c1 ⟨4,id,aG,bK⟩++clIf c2 ⟨4,id,aG,g_⟩++clIf c3 ⟨4,id,aG,ug⟩) wr w5 from hs_)
  clear hs_
  have fx:∀ j,w5.cell? ⟨S+1,j,none⟩=_:=fun j=>Su _ _ j _ 52 (0,0) Ny.out.x
  have fy:∀ j,w5.cell? ⟨S+1+1,j,none⟩=_:=fun j=>Su _ _ j _ 52 (0,0) Ny.out.y
  have fz:∀ j,w5.cell? ⟨S+1+1+1,j,none⟩=_:=fun j=>Su _ _ j _ 52 (0,0) Ny.out.z
  have fo:∀ j,w5.cell? ⟨S+1+1+1+1,j,none⟩=_:=fun j=>Su _ _ j _ 52 (0,0) Ny.out.o
  have zo:∀ j,w5.frozen? ⟨S+1+1+1+1,j,none⟩=false:=fun j=>by simp [S6,Ny.out.o]
  go_wp2_with fail
  refine(EV.out _).mono ?_
  rintro e w6 ⟨rfl,ai⟩
  have uT:=h_ (show CSt m1 B g G S id (#[SW .i64 xid,.int .i64 xev,.int .i64 xfrm,.int .i64 xtil,.string xau,.string xtx,.bool xdn,.bool xlo]) (#[SW .i64 yid,.int .i64 yev,.int .i64 yfrm,.int .i64 ytil,.string yau,.string ytx,.bool ydn,.bool ylo]) (#[SW .i64 zid,.int .i64 zev,.int .i64 zfrm,.int .i64 ztil,.string zau,.string ztx,.bool zdn,.bool zlo]) (#[SW .i64 xid,.int .i64 aev,.int .i64 afrm,.int .i64 atil,.string b2,.string b3,.bool xdn,.bool alo]) (m1.cls++clIf c1 ⟨4,id,aG,bK⟩++clIf c2 ⟨4,id,aG,g_⟩++clIf c3 ⟨4,id,aG,ug⟩) wr w6 from Ny.out.later km ai)
  clear ai Ny fx fy fz fo zo
  have fx:∀ j,w6.cell? ⟨S+1,j,none⟩=_:=fun j=>Su _ _ j _ 52 (0,0) uT.out.x
  have fy:∀ j,w6.cell? ⟨S+1+1,j,none⟩=_:=fun j=>Su _ _ j _ 52 (0,0) uT.out.y
  have fz:∀ j,w6.cell? ⟨S+1+1+1,j,none⟩=_:=fun j=>Su _ _ j _ 52 (0,0) uT.out.z
  have fo:∀ j,w6.cell? ⟨S+1+1+1+1,j,none⟩=_:=fun j=>Su _ _ j _ 52 (0,0) uT.out.o
  have zo:∀ j,w6.frozen? ⟨S+1+1+1+1,j,none⟩=false:=fun j=>by simp [S6,uT.out.o]
  go_wp2_with fail
  have HT:=h_ (show CSt m1 B g G S id (#[SW .i64 xid,.int .i64 xev,.int .i64 xfrm,.int .i64 xtil,.string xau,.string xtx,.bool xdn,.bool xlo]) (#[SW .i64 yid,.int .i64 yev,.int .i64 yfrm,.int .i64 ytil,.string yau,.string ytx,.bool ydn,.bool ylo]) (#[SW .i64 zid,.int .i64 zev,.int .i64 zfrm,.int .i64 ztil,.string zau,.string ztx,.bool zdn,.bool zlo]) (#[SW .i64 xid,.int .i64 aev,.int .i64 afrm,.int .i64 atil,.string b2,.string b3,.bool b4,.bool alo]) (m1.cls++clIf c1 ⟨4,id,aG,bK⟩++clIf c2 ⟨4,id,aG,g_⟩++clIf c3 ⟨4,id,aG,ug⟩) wr (w6.setCell ⟨S+1+1+1+1,6,none⟩ (.bool b4)) from(uT.out.set km hS 6 (.bool b4)))
  have HN:=h_ (HT.out.note km (SE hB HT.out.size) (by simp only [SH];have:=nJ c1 ⟨4,id,aG,bK⟩;have:=nJ c2 ⟨4,id,aG,g_⟩;have:=nJ c3 ⟨4,id,aG,ug⟩;omega) c4 En)
  simp only [En] at HN
  refine HN.out.mono ?_
  clear HN HT uT fx fy fz fo zo
  rintro e w7 ⟨rfl,hs_⟩
  have HA7:=h_ (show CSt m1 B g G S id (#[SW .i64 xid,.int .i64 xev,.int .i64 xfrm,.int .i64 xtil,.string xau,.string xtx,.bool xdn,.bool xlo]) (#[SW .i64 yid,.int .i64 yev,.int .i64 yfrm,.int .i64 ytil,.string yau,.string ytx,.bool ydn,.bool ylo]) (#[SW .i64 zid,.int .i64 zev,.int .i64 zfrm,.int .i64 ztil,.string zau,.string ztx,.bool zdn,.bool zlo]) (#[SW .i64 xid,.int .i64 aev,.int .i64 afrm,.int .i64 atil,.string b2,.string b3,.bool b4,.bool alo]) (m1.cls++clIf c1 ⟨4,id,aG,bK⟩++clIf c2 ⟨4,id,aG,g_⟩++clIf c3 ⟨4,id,aG,ug⟩++clIf c4 ⟨4,id,aG,En⟩) wr w7 from hs_)
  clear hs_
  go_wp2_with fail
  skip
  refine aA.out _ _ _ _ _ _ _ _ _ _ _ _ _ _ _ _ _ _ _ _ _ _ _ _ _ _ _ _ _ _ _ _ _ _ _ _ _ _ _ _ _ _ _ _ _ _ _ _ _ _ _ _ _ _ _ _ _ _ _ _ _ _ _ _ _ _ _ _ _ _ ?_
  have:=HA7.out
  simpa only [List.append_assoc] using this
def NF (w0:Sv)(G S b5 b6 b7:Nat)(p17 p19:Bool)(R:Exit→Sv→Prop):Prop:=∀ ⦃Q:Exit→Act→Sv→Prop⦄ ⦃s0 s1 s2 s3 s8 s9 s10 s11 s12 s15 ir iq s24 gP gO gN gM gL gK gJ fV gI gH gG gF gE gD gA gx gw gv s43 s44 gu gq gp gl s49 gj gh gf s53 gd iu f_ gT gS im ik ij ig ie jD j2 iw j1 s68 kF fB jZ s72 jY jX jW jV jU jT jS jR jQ s82 s83 jP jO jN s87 jM jL jC jB jA jy jx jw jv ju jt js bF bY bX bW bV bU cq ck dW dV dU dT eK eJ eI eH eG eF eE eD eC eB eA ew eu et ep eo en ek ej ei eh bT bS bR ef bQ ee bP cj cg dS dR dQ dP dN dM dL dK dJ dI dH dF dE dD dC dB dA dz dy dx dw dv du dq dp dm dj di dh dg df de cZ cY cX cW cV cU cT cS cR cQ cP cO cd b_ b9 b8 cN cL cK cH cG cF cE cD cB cA cw cu bO bN bM ed oa n_ nW nV nU nT nS nR nQ nP nO mK:Sz⦄,
    (∀ X wx,R X wx→∀ (AE AB AA Az Ay Ax Aw Av Au As Ar Aq E_ E9 E8 E7 E6 Ap Ao An u193 u194 Am u196 Al u198 Ak Aj u201 Lb La K_:Sz),Q X { tmps:=#[s0,s1,s2,s3,.pointer (some ⟨G,0,none⟩),.pointer (some ⟨b5,0,none⟩),.pointer (some ⟨b6,0,none⟩),.pointer (some ⟨b7,0,none⟩),s8,s9,s10,s11,s12,.pointer (some ⟨S,0,none⟩),.pointer (some ⟨S+1,0,none⟩),s15,.pointer (some ⟨S+1+1,0,none⟩),.bool p17,.pointer (some ⟨S+1+1+1,0,none⟩),.bool p19,.func (.func 141) #[] #[.pointer (some ⟨G,0,none⟩),.pointer (some ⟨S,0,none⟩)],.pointer (some ⟨S+1+1+1+1,0,none⟩),ir,iq,s24,gP,gO,gN,gM,gL,gK,gJ,fV,gI,gH,gG,gF,gE,gD,gA,gx,gw,gv,s43,s44,gu,gq,gp,gl,s49,gj,gh,gf,s53,gd,iu,f_,gT,gS,im,ik,ij,ig,ie,jD,j2,iw,j1,s68,kF,fB,jZ,s72,jY,jX,jW,jV,jU,jT,jS,jR,jQ,s82,s83,jP,jO,jN,s87,jM,jL,jC,jB,jA,jy,jx,jw,jv,ju,jt,js,bF,bY,bX,bW,bV,bU,cq,ck,dW,dV,dU,dT,eK,eJ,eI,eH,eG,eF,eE,eD,eC,eB,eA,ew,eu,et,ep,eo,en,ek,ej,ei,eh,bT,bS,bR,ef,bQ,ee,bP,cj,cg,dS,dR,dQ,dP,dN,dM,dL,dK,dJ,dI,dH,dF,dE,dD,dC,dB,dA,dz,dy,dx,dw,dv,du,dq,dp,dm,dj,di,dh,dg,df,AE,AB,AA,Az,Ay,Ax,Aw,Av,Au,As,Ar,Aq,E_,E9,E8,E7,E6,Ap,Ao,An,u193,u194,Am,u196,Al,u198,Ak,Aj,u201,Lb,La,K_,ed,oa,n_,nW,nV,nU,nT,nS,nR,nQ,nP,nO,mK],defers:=[] } wx) →
    Code.wp SU ((lD 29 (Tryz.f81.body.getD .skip)).getD .skip) Q { tmps:=#[s0,s1,s2,s3,.pointer (some ⟨G,0,none⟩),.pointer (some ⟨b5,0,none⟩),.pointer (some ⟨b6,0,none⟩),.pointer (some ⟨b7,0,none⟩),s8,s9,s10,s11,s12,.pointer (some ⟨S,0,none⟩),.pointer (some ⟨S+1,0,none⟩),s15,.pointer (some ⟨S+1+1,0,none⟩),.bool p17,.pointer (some ⟨S+1+1+1,0,none⟩),.bool p19,.func (.func 141) #[] #[.pointer (some ⟨G,0,none⟩),.pointer (some ⟨S,0,none⟩)],.pointer (some ⟨S+1+1+1+1,0,none⟩),ir,iq,s24,gP,gO,gN,gM,gL,gK,gJ,fV,gI,gH,gG,gF,gE,gD,gA,gx,gw,gv,s43,s44,gu,gq,gp,gl,s49,gj,gh,gf,s53,gd,iu,f_,gT,gS,im,ik,ij,ig,ie,jD,j2,iw,j1,s68,kF,fB,jZ,s72,jY,jX,jW,jV,jU,jT,jS,jR,jQ,s82,s83,jP,jO,jN,s87,jM,jL,jC,jB,jA,jy,jx,jw,jv,ju,jt,js,bF,bY,bX,bW,bV,bU,cq,ck,dW,dV,dU,dT,eK,eJ,eI,eH,eG,eF,eE,eD,eC,eB,eA,ew,eu,et,ep,eo,en,ek,ej,ei,eh,bT,bS,bR,ef,bQ,ee,bP,cj,cg,dS,dR,dQ,dP,dN,dM,dL,dK,dJ,dI,dH,dF,dE,dD,dC,dB,dA,dz,dy,dx,dw,dv,du,dq,dp,dm,dj,di,dh,dg,df,de,cZ,cY,cX,cW,cV,cU,cT,cS,cR,cQ,cP,cO,cd,b_,b9,b8,cN,cL,cK,cH,cG,cF,cE,cD,cB,cA,cw,cu,bO,bN,bM,ed,oa,n_,nW,nV,nU,nT,nS,nR,nQ,nP,nO,mK],defers:=[] } w0
end Go.Proofs.YtnlnmbcaongehaaGreatDoor
