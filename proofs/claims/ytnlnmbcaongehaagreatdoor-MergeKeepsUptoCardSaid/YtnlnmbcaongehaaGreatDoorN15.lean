/- slices.Concat of three lists of regions, and merge.regions. -/
import Derived.Test.YtnlnmbcaongehaaGreatDoorN14
set_option linter.unusedVariables false
set_option linter.unusedSimpArgs false
set_option maxRecDepth 100000
set_option maxHeartbeats 12800000
open Go.Lib renaming hid→h_
open Go renaming rounds_succ→Su,World→Sv,cell_of_row→Sw,heap_alloc_last→Sx,Value→Sy,info_parts→Sz
open Go.Proofs.Tryz renaming underlying23→SA,prog→SB
open Go.RowKit renaming Below→SC
open Go.Lib renaming compact→SD
open Go.Value renaming string→SE
open List renaming length_append→SF,length_map→SG,flatMap_append→SH,take_add_one→SI,flatMap_cons→SJ,append_assoc→SK,append_nil→SL
open Nat renaming le_trans→SM,le_refl→SN
namespace Go.Proofs.YtnlnmbcaongehaaGreatDoor
open Go.RowKit
theorem xm {Ok:Sv→Reg→Prop} (hK:Keeps Ok)(g c1 c2 c3:Nat)(a1 a2 a3:Option Addr)(xs ys zs:List Reg)(w:Sv)(d0:w.cell? ⟨g,0,none⟩=some (.slice a1 xs.length c1))(d1:w.cell? ⟨g,1,none⟩=some (.slice a2 ys.length c2))(d2:w.cell? ⟨g,2,none⟩=some (.slice a3 zs.length c3))(hg:g<w.heap.size)
 (h1:af 7 Reg.enc Ok w a1 xs) (h2:af 7 Reg.enc Ok w a2 ys) (h3:af 7 Reg.enc Ok w a3 zs) (hx:xs.length≤2000000) (hy:ys.length≤2000000) (hz:zs.length≤2000000) :
 Calls SB 90 #[.slice (some ⟨g,0,none⟩) 3 3] w (aC 44 7 Reg.enc (xs++ys++zs) w):=by
 have HG:=h_ (vq (xs.length+ys.length+zs.length) w (by omega))
 have H1:=h_ (fun(w':Sv) (hb:SC w.heap.size w w')=>af.keeps hK _ _ _ _ hb h1)
 have H2:=h_ (fun(w':Sv) (hb:SC w.heap.size w w')=>af.keeps hK _ _ _ _ hb h2)
 have H3:=h_ (fun(w':Sv) (hb:SC w.heap.size w w')=>af.keeps hK _ _ _ _ hb h3)
 have HQ:=h_ (fun(v:Sy) (w':Sv) (ho:w'.ownsRow w.heap.size 44 7 v (xs.length+ys.length+zs.length) (xs.flatMap Reg.enc++ys.flatMap Reg.enc++zs.flatMap Reg.enc)) (hb:SC w.heap.size w w')=>(show aC 44 7 Reg.enc (xs++ys++zs) w (.returned v) w' from⟨v,rfl,by simpa [Nat.add_assoc] using ho,hb⟩))
 obtain⟨j0,hj,hy0,hy1,hy2⟩:=Sz Tryz.info44
 have JI:=h_ hj;have J0:=h_ hy0;have J1:=h_ hy1;have J2:=h_ hy2
 have hp:¬ ((xs.length:Int)<0):=by omega
 have hp2:¬ ((xs.length:Int)+(ys.length:Int)<0):=by omega
 have hp3:¬ ((xs.length:Int)+(ys.length:Int)+(zs.length:Int)<0):=by omega
 generalize aC 44 7 Reg.enc (xs++ys++zs) w=Q at *
 clear hj hy0 hy1 hy2 h1 h2 h3
 go_enter Tryz.func90,Tryz.ntmps90
 go_wp2_with fail
 refine wp_loop_rounds 4 ?_
 rw [Su]
 go_wp2_with fail
 rw [Su]
 go_wp2_with fail
 rw [Su]
 go_wp2_with fail
 rw [Su]
 go_wp2_with fail
 rw [show((xs.length:Int)+(ys.length:Int)+(zs.length:Int))=((xs.length+ys.length+zs.length:Nat):Int) by omega]
 refine HG.out.mono ?_
 rintro e w1 ⟨v,rfl,ho1,hb1⟩
 have e0:w1.cell? ⟨g,0,none⟩=some (.slice a1 xs.length c1):=(hb1.cell (p:=⟨g,0,none⟩) hg).trans d0
 have e1:w1.cell? ⟨g,1,none⟩=some (.slice a2 ys.length c2):=(hb1.cell (p:=⟨g,1,none⟩) hg).trans d1
 have e2:w1.cell? ⟨g,2,none⟩=some (.slice a3 zs.length c3):=(hb1.cell (p:=⟨g,2,none⟩) hg).trans d2
 have xS:=h_ ho1
 have HB1:=h_ hb1
 have hs1:=hb1.size
 clear ho1 hb1 d0 d1 d2 HG
 go_wp2_with fail
 refine wp_loop_rounds 4 ?_
 rw [Su]
 go_wp2_with (at_builtin;refine ax (enc:=Reg.enc) (Ok:=Ok) _ rfl (.tmp 31) (.tmp 32) 23 rfl w.heap.size 44 j0 _ 7 56 SA JI.out J0.out J1.out J2.out rfl (by decide) (fun _=>rfl) Reg.one _ 0 [] rfl xS.out a1 c1 xs rfl (H1.out _ HB1.out) ?h63 ?hb ?hbase ?_)
 case h63=>unfold maxLen;omega
 case hb=>omega
 case hbase=>exact hs1
 intro v2 w2 ho2 hg2 _
 have hb2:SC w.heap.size w w2:=HB1.out.grown hg2 hs1 (fun j hj=>(xS.out.lt j hj).1)
 have f1:w2.cell? ⟨g,1,none⟩=some (.slice a2 ys.length c2):=hg2.cell e1 (fun e=>absurd (xS.out.lt g e.symm).1 (by omega))
 have f2:w2.cell? ⟨g,2,none⟩=some (.slice a3 zs.length c3):=hg2.cell e2 (fun e=>absurd (xS.out.lt g e.symm).1 (by omega))
 have kH:=h_ ho2
 have HB2:=h_ hb2
 have hs2:=hb2.size
 clear ho2 hb2 hg2 e0 e1 e2
 go_wp2_with fail
 rw [Su]
 go_wp2_with (at_builtin;refine ax (enc:=Reg.enc) (Ok:=Ok) _ rfl (.tmp 31) (.tmp 32) 23 rfl w.heap.size 44 j0 _ 7 56 SA JI.out J0.out J1.out J2.out rfl (by decide) (fun _=>rfl) Reg.one _ _ _ rfl kH.out a2 c2 ys rfl (H2.out _ HB2.out) ?h63 ?hb ?hbase ?_)
 case h63=>unfold maxLen;omega
 case hb=>omega
 case hbase=>exact hs2
 intro v3 w3 ho3 hg3 _
 have hb3:SC w.heap.size w w3:=HB2.out.grown hg3 hs2 (fun j hj=>(kH.out.lt j hj).1)
 have g2:w3.cell? ⟨g,2,none⟩=some (.slice a3 zs.length c3):=hg3.cell f2 (fun e=>absurd (kH.out.lt g e.symm).1 (by omega))
 have qW:=h_ ho3
 have HB3:=h_ hb3
 have hs3:=hb3.size
 clear ho3 hb3 hg3 f1 f2
 go_wp2_with fail
 rw [Su]
 go_wp2_with (at_builtin;refine ax (enc:=Reg.enc) (Ok:=Ok) _ rfl (.tmp 31) (.tmp 32) 23 rfl w.heap.size 44 j0 _ 7 56 SA JI.out J0.out J1.out J2.out rfl (by decide) (fun _=>rfl) Reg.one _ _ _ rfl qW.out a3 c3 zs rfl (H3.out _ HB3.out) ?h63 ?hb ?hbase ?_)
 case h63=>unfold maxLen;omega
 case hb=>omega
 case hbase=>exact hs3
 intro v4 w4 Mn hg4 _
 have hb4:SC w.heap.size w w4:=HB3.out.grown hg4 hs3 (fun j hj=>(qW.out.lt j hj).1)
 have HO4:=h_ Mn
 have zX:=h_ hb4
 clear Mn hb4 hg4 g2
 go_wp2_with fail
 rw [Su]
 go_wp2_with fail
 exact HQ.out v4 _ (by simpa using HO4.out) zX.out
theorem FI (x y z:List Reg):bG x y z=(SD (fk ((x++y++z).map (fun r:Reg=>r.name.data.toList)))).map (fun l=>⟨l.toArray⟩):=by
 have:=Br ⟨⟨#[]⟩,⟨#[]⟩,0,false,0,none,0,x++y,none,0,[],none,0,[]⟩ ⟨⟨#[]⟩,⟨#[]⟩,0,false,0,none,0,z,none,0,[],none,0,[]⟩
 exact this
theorem FH (ls:List (List UInt8)):ls.map encStr=(ls.map fun l=>(⟨l.toArray⟩:ByteArray)).map SE:=by
 rw [List.map_map]
 exact List.map_congr_left fun l _=>by simp [encStr]
def DO (n:ByteArray):Cl:=⟨2,0,n,bf⟩
theorem BA (x y z:List Reg)(ns:List ByteArray)(k:Nat)(n:ByteArray)(h:ns[k]? =some n):fW x y z (ns.take (k+1))=fW x y z (ns.take k)++(pT x y z n).1.toList:=by
 unfold fW
 rw [SI,h,SH]
 simp
theorem yL (x y z:List Reg)(ns:List ByteArray)(k:Nat)(n:ByteArray)(h:ns[k]? =some n):fG x y z (ns.take (k+1))=fG x y z (ns.take k)++clIf (pT x y z n).2 (DO n):=by
 unfold fG
 rw [SI,h,SH]
 simp [DO]
theorem Ff {α:Type} (o:Option α):o.toList.length≤1:=by cases o<;>simp
theorem yK (x y z:List Reg):∀ ns:List ByteArray,(fW x y z ns).length≤ns.length∧(fG x y z ns).length≤ns.length
 | []=>by simp [fW,fG]
 | n::l=>by
   have ih:=yK x y z l
   have h1:=Ff (pT x y z n).1
   have h2:(clIf (pT x y z n).2 (⟨2,0,n,bf⟩:Cl)).length≤1:=by cases (pT x y z n).2<;>simp [clIf]
   unfold fW fG at *
   rw [SJ,SJ,SF,SF,List.length_cons]
   omega
def JH (x y z:List Reg)(m:Mg)(B g:Nat)(ns:List ByteArray)(w:Sv)(k:Nat)(wr:Sv):Prop :=
 ∃ rv kv,({ m with rv:=rv,rG:=fW x y z (ns.take k),kv:=kv,cls:=m.cls++fG x y z (ns.take k) }:Mg).at_ B g wr∧Mg.step g m { m with rv:=rv,rG:=fW x y z (ns.take k),kv:=kv,cls:=m.cls++fG x y z (ns.take k) } w wr
def G9 (x y z:List Reg)(m:Mg)(B g:Nat)(w:Sv)(e:Ending)(w':Sv):Prop:=e=.returned (.tuple #[])∧∃ rv kv,({ m with rv:=rv,rG:=fW x y z (bG x y z),kv:=kv,cls:=m.cls++fG x y z (bG x y z) }:Mg).at_ B g w'∧Mg.step g m { m with rv:=rv,rG:=fW x y z (bG x y z),kv:=kv,cls:=m.cls++fG x y z (bG x y z) } w w'
theorem wv (m:Mg)(B g:Nat)(a1 a2 a3:Option Addr)(c1 c2 c3:Nat)(x y z:List Reg)(w:Sv)(h:m.at_ B g w)(hB:B≤w.heap.size)(hm:m.rG=[])(hcl:m.cls.length≤1000)
 (hx:Regs w a1 x) (hy:Regs w a2 y) (hz:Regs w a3 z) (ux:∀ b,d_ a1 x b→b<g) (uy:∀ b,d_ a2 y b→b<g) (uz:∀ b,d_ a3 z b→b<g) (lx:x.length≤1000) (ly:y.length≤1000) (lz:z.length≤1000) :
 Calls SB 78 #[.pointer (some ⟨g,0,none⟩),.slice a1 x.length c1,.slice a2 y.length c2,.slice a3 z.length c3] w (G9 x y z m B g w):=by
 have hgl:=h.glt
 have HC:=h_ (fun(o:Array Sy) (ho:o=#[.slice a1 x.length c1,.slice a2 y.length c2,.slice a3 z.length c3])=>(show Calls SB 90 #[.slice (some ⟨w.heap.size,0,none⟩) 3 3] (w.alloc (.cells o 23)) (aC 44 7 Reg.enc (x++y++z) (w.alloc (.cells o 23))) from by
  have hb:SC w.heap.size w (w.alloc (.cells o 23)):=(SC.refl _ _).alloc (SN _) _
  refine xm Flat.keeps w.heap.size c1 c2 c3 a1 a2 a3 x y z (w.alloc (.cells o 23)) ?_ ?_ ?_ (by simp) (af.keeps Flat.keeps _ _ _ _ hb hx) (af.keeps Flat.keeps _ _ _ _ hb hy) (af.keeps Flat.keeps _ _ _ _ hb hz) (by omega) (by omega) (by omega)
  · rw [Sw _ _ 0 o 23 (0,0) (Sx w _),ho];rfl
  · rw [Sw _ _ 1 o 23 (0,0) (Sx w _),ho];rfl
  · rw [Sw _ _ 2 o 23 (0,0) (Sx w _),ho];rfl))
 obtain⟨zs,hzs⟩:∃ zs,zs=x++y++z:=⟨_,rfl⟩
 have hzl:zs.length≤3000:=by rw [hzs,SF,SF];omega
 rw [←hzs] at HC
 have hsl:(fk (zs.map (fun r:Reg=>r.name.data.toList))).length≤3000:=by unfold fk;rw [List.length_mergeSort,SG];exact hzl
 have hNS:=FI x y z
 rw [←hzs] at hNS
 have hnl:(bG x y z).length≤3000:=by
  have:=kO (x++y++z) []
  rw [←hzs] at this
  simp only [bG]
  rw [←hzs]
  simp at this
  omega
 have aA:=h_ (fun(W wr:Sv) (v:Sy) (h:dZ 9 encStr (fun r:Reg=>r.name.data.toList) zs W zs.length v wr)=>oN W.heap.size v (zs.map (fun r:Reg=>r.name.data.toList)) wr h.all (by rw [SG];omega) h.2.size)
 have rF:=h_ (fun(b0:Nat) (wr:Sv) (v:Sy) (ho:wr.ownsRow b0 9 1 v (fk (zs.map (fun r:Reg=>r.name.data.toList))).length ((fk (zs.map (fun r:Reg=>r.name.data.toList))).map encStr))=>mr b0 v (fk (zs.map (fun r:Reg=>r.name.data.toList))) wr ho (by omega))
 have Dw:=h_ (show ∀ (b0:Nat) (v:Sy) (w4:Sv),w4.ownsRow b0 9 1 v (SD (fk (zs.map (fun r:Reg=>r.name.data.toList)))).length ((SD (fk (zs.map (fun r:Reg=>r.name.data.toList)))).map encStr)→w4.ownsRow b0 9 1 v (bG x y z).length ((bG x y z).map SE) from fun b0 v w4 ho=>by
  rw [hNS,SG,←FH]
  exact ho)
 obtain⟨j0,hj,hy0,hy1,hy2⟩:=Sz Tryz.info9
 have JI:=h_ hj;have J0:=h_ hy0;have J1:=h_ hy1;have J2:=h_ hy2
 obtain⟨i0,hi,hi0,hi1,hi2⟩:=Sz Tryz.info44
 have II:=h_ hi;have I0:=h_ hi0;have I1:=h_ hi1;have I2:=h_ hi2
 have HST:=h_ (fun(W w1 w2:Sv) (k:Nat) (v v':Sy) (r:Reg) (cs:Array Sy) (hr:zs[k]? =some r)=>dZ.step (K:=9) (enc:=encStr) (key:=(fun r:Reg=>r.name.data.toList)) (zs:=zs) (W:=W) (w1:=w1) (w2:=w2) (k:=k) (v:=v) (v':=v') (x:=r) (cs:=cs) hr)
 have kC:Hid (∀ (W wr:Sv) (k:Nat) (v:Sy),dZ 9 encStr (fun r:Reg=>r.name.data.toList) zs W k v wr→wr.ownsRow W.heap.size 9 1 v k (((zs.take k).map (fun r:Reg=>r.name.data.toList)).map encStr)∧SC W.heap.size W wr):=h_ (fun _ _ _ _ h=>h)
 have Dv:Hid (∀ W:Sv,dZ 9 encStr (fun r:Reg=>r.name.data.toList) zs W 0 (.slice none 0 0) W):=h_ (fun W=>⟨Sv.ownsRow_nil _ _ _ _,SC.refl _ _⟩)
 generalize dZ 9 encStr (fun r:Reg=>r.name.data.toList) zs=R at *
 obtain⟨cells,hcells⟩:∃ cells:Nat→List Sy,cells=fun k=>(((zs.take k).map (fun r:Reg=>r.name.data.toList)).map encStr):=⟨_,rfl⟩
 simp only [show ∀ k,(((zs.take k).map (fun r:Reg=>r.name.data.toList)).map encStr)=cells k from fun k=>by rw [hcells]] at kC HST
 generalize fk (zs.map (fun r:Reg=>r.name.data.toList))=S at *
 generalize SD S=C at *
 have HQ:=h_ (show ∀ w4 w',SC w.heap.size w w4→JH x y z m B g (bG x y z) w4 (bG x y z).length w'→G9 x y z m B g w (.returned (.tuple #[])) w' from fun w4 w' hb hr=>by
  obtain⟨rv,kv,q1,q2⟩:=hr
  rw [List.take_length] at q1 q2
  exact⟨rfl,rv,kv,q1,(Mg.step.of_below hb).trans q2⟩)
 have ll:=h_ (show ∀ w4,SC w.heap.size w w4→JH x y z m B g (bG x y z) w4 0 w4 from fun w4 hb=>by
  have e1:fW x y z ((bG x y z).take 0)=[]:=rfl
  have e2:fG x y z ((bG x y z).take 0)=[]:=rfl
  refine⟨m.rv,m.kv,?_,?_⟩
  · rw [e1,e2,SL]
    have:=h.later hb
    rw [←hm]
    exact this
  · rw [e1,e2,SL,←hm]
    exact Mg.step.refl _ _ _)
 have vI:=h_ (fun b (hb:m.mine g b)=>h.mine_lt hb)
 have HLW:=h_ (fun w4 (hb:SC w.heap.size w w4)=>h.later hb)
 have HX:=h_ (fun w1 (hb:SC g w w1) (hs:w.heap.size≤w1.heap.size)=>wL hx ux hb hs)
 have HY:=h_ (fun w1 (hb:SC g w w1) (hs:w.heap.size≤w1.heap.size)=>wL hy uy hb hs)
 have HZ:=h_ (fun w1 (hb:SC g w w1) (hs:w.heap.size≤w1.heap.size)=>wL hz uz hb hs)
 generalize G9 x y z m B g w=Q at *
 clear hj hy0 hy1 hy2 hi hi0 hi1 hi2 hx hy hz ux uy uz hzs hsl hcells hNS h
 go_enter Tryz.func78,Tryz.ntmps78
 go_wp2_with fail
 refine(HC.out _ rfl).mono ?_
 rintro e w1 ⟨v1,rfl,ho1,hb1⟩
 obtain⟨av,cv,rfl,hS⟩:=ay (k:=7) (enc:=Reg.enc) (Ok:=Flat) (fun _=>rfl) ho1 (fun _ _=>trivial)
 have HB1:=h_ (show SC w.heap.size w w1 from((SC.refl _ _).alloc (SN _) _).trans (hb1.mono (by simp)))
 have tG:=h_ hS
 have hs1:=HB1.out.size
 clear ho1 hb1 hS HC
 go_wp2_with fail
 go_loopw [8,21] (fun v i wr=>∃ k:Nat,k≤zs.length∧i=.int .i64 k∧R w1 k v wr) (fun _ i _=>zs.length-(intOf i).toNat)
 case atStart=>exact⟨0,by omega,rfl,Dv.out _⟩
 case round =>
  obtain⟨k,hk,rfl,hrel⟩:=hrel
  have kj:=kC.out _ _ _ _ hrel
  by_cases hlt:k<zs.length
  · obtain⟨b,off,r,rfl,hbl,hxk,hc,_⟩:=(af.keeps Flat.keeps _ _ _ _ kj.2 tG.out).at_ hlt
    have hbs:=kj.2.size
    have HO:=h_ (fun(o:Obj)=>aH kj.1 ((SC.refl wr.heap.size wr).alloc (SN _) o))
    have J6:=h_ (fun(o:Obj)=>(show SC w1.heap.size w1 (wr.alloc o) from kj.2.alloc kj.2.size o))
    have HS2:=h_ (fun(o:Obj) (w3:Sv) (v':Sy) (cs:Array Sy)=>HST.out w1 (wr.alloc o) w3 k u8 v' r cs hxk)
    have d0:=hc 0 _ rfl;have d1:=hc 1 _ rfl;have d2:=hc 2 _ rfl;have d3:=hc 3 _ rfl;have d4:=hc 4 _ rfl;have d5:=hc 5 _ rfl;have d6:=hc 6 _ rfl
    obtain⟨nm,top,aK,left,width,align,bottom⟩:=r
    simp only [Reg.enc,Nat.add_zero] at d0 d1 d2 d3 d4 d5 d6
    simp only [tb] at HS2
    clear hc hxk hrel kj
    go_wp2_with (at_builtin;refine aV _ _ rfl (.tmp 25) (.tmp 28) 55 rfl w1.heap.size 9 j0 _ 1 16 Tryz.underlying55 JI.out J0.out J1.out J2.out rfl (by decide) _ _ _ rfl (HO.out _) _ rfl (by simp) rfl ?h1 ?h63 ?hb ?hbase ?_)
    case h1=>first|rfl|(intro u hu;simp at hu;subst hu;rfl)
    case h63=>unfold maxLen;omega
    case hb=>omega
    case hbase=>simp;omega
    intro v' w3 hown' hgrow
    have RR:=h_ (HS2.out _ w3 v' _ (J6.out _) (HO.out _) rfl hown' hgrow)
    clear hown' hgrow
    go_wp2_with fail
    go_roundw
    case rel=>exact⟨k+1,by omega,by go_num,RR.out⟩
    case measure=>simp [intOf];omega
  · obtain rfl:k=zs.length:=by omega
    obtain⟨av2,cv2,Gp⟩:∃ a c,u8=.slice a zs.length c:=by
     rcases kj.1.2 with⟨rfl,h0⟩|⟨g,cap,_,rfl,_⟩
     · exact⟨none,0,by rw [h0]⟩
     · exact⟨_,_,rfl⟩
    subst Gp
    have fD:=h_ (aA.out _ _ _ hrel)
    have vH:=h_ kj.2
    clear hrel kj
    go_wp2_with fail
    refine fD.out.mono ?_
    rintro e w2 ⟨rfl,ho2,hb2⟩
    have ji:=h_ (rF.out _ _ _ ho2)
    have HB2:=h_ hb2
    clear ho2 hb2 fD
    go_wp2_with fail
    refine ji.out.mono ?_
    rintro e w4 ⟨v3,rfl,ho3,hb3⟩
    have hb4:SC w.heap.size w w4:=((HB1.out.trans (vH.out.mono hs1)).trans (HB2.out.mono hs1)).trans (hb3.mono hs1)
    have qW:=h_ (Dw.out _ _ _ ho3)
    have zX:=h_ hb4
    have hnb:=h_ (fun b (e:v3.ownBlock=some b)=>(ho3.lt b e).1)
    clear ho3 hb3 hb4 ji rF aA Dw HST kC Dv vH HB2 tG
    generalize hNN:bG x y z=ns at *
    obtain⟨nb,nc,rfl⟩:∃ a c,v3=.slice a ns.length c:=by
     rcases qW.out.2 with⟨rfl,h0⟩|⟨g,cap,_,rfl,_⟩
     · exact⟨none,0,by rw [h0]⟩
     · exact⟨_,_,rfl⟩
    have hs4:=zX.out.size
    go_wp2_with fail
    go_loopw [36] (fun i wr=>∃ k:Nat,k≤ns.length∧i=.int .i64 k∧JH x y z m B g ns w4 k wr) (fun i _=>ns.length-(intOf i).toNat)
    case atStart=>exact⟨0,by omega,rfl,ll.out _ zX.out⟩
    case round =>
     clear hk hlt
     obtain⟨k,hk,rfl,hrel⟩:=hrel
     by_cases hlt:k<ns.length
     · obtain⟨n,hn⟩:∃ n,ns[k]? =some n:=⟨_,List.getElem?_eq_getElem hlt⟩
       obtain⟨rv,kv,hat,hstep⟩:=hrel
       have hbl:=hstep.low (HLW.out _ zX.out)
       have H9:=hstep.1.size
       have hsz:=SM hs4 H9
       obtain⟨q,qc,hnbq⟩:∃ q c,(Sy.slice nb ns.length nc)=.slice (some ⟨q,0,none⟩) ns.length c:=kZ qW.out (by omega)
       obtain⟨rfl,_,rfl⟩:=Sy.slice.inj hnbq
       have OJ:=hnb.out q rfl
       have hcell:wr.cell? ⟨q,k,none⟩=some (.string n):=by
        rw [hstep.1.cell (qW.out.lt q rfl).2 (fun hm=>by have:=vI.out q hm;omega),qW.out.cellAt k (by omega)]
        simp [hn]
       have Kv:ns.length≤nc:=by
        rcases qW.out.2 with⟨h0,_⟩|⟨g',cap,cur,h0,_,_,hnc,_⟩
        · simp at h0
        · simp only [Sy.slice.injEq] at h0
          obtain⟨_,_,rfl⟩:=h0
          exact hnc
       have hbw:=SC.trans (zX.out.mono (Nat.le_of_lt hgl)) hbl
       have HN1:=h_ (fun w1 (h:SC wr.heap.size wr w1)=>oE a1 c1 x n w1 (HX.out _ (hbw.trans (h.mono (by omega))) (SM hsz h.size)) (by omega))
       have JT:=h_ (fun w1 (h:SC wr.heap.size wr w1)=>oE a2 c2 y n w1 (HY.out _ (hbw.trans (h.mono (by omega))) (SM hsz h.size)) (by omega))
       have EL:=h_ (fun w1 (h:SC wr.heap.size wr w1)=>oE a3 c3 z n w1 (HZ.out _ (hbw.trans (h.mono (by omega))) (SM hsz h.size)) (by omega))
       have HV:=h_ (fun w1=>tL (oI (bI x n)) (oI (bI y n)) (oI (bI z n)) w1)
       have hpk:=rJ oI FQ may8 IW (bI x n) (bI y n) (bI z n)
       have hle:=yK x y z (ns.take k)
       rw [List.length_take] at hle
       have e1:=BA x y z ns k n hn
       have e2:=yL x y z ns k n hn
       obtain⟨m1,hm1⟩:∃ m1:Mg,m1={ m with rv:=rv,rG:=fW x y z (ns.take k),kv:=kv,cls:=m.cls++fG x y z (ns.take k) }:=⟨_,rfl⟩
       have Jc:m1.rG.length≤3000:=by subst hm1;simp only;omega
       have Jd:m1.cls.length≤4000:=by subst hm1;simp only [SF];omega
       obtain⟨r,bad,hmr⟩:∃ r bad,pT x y z n=(r,bad):=⟨_,_,rfl⟩
       rw [hmr] at e1 e2
       have nw:=h_ (show ∀ (rv' kv':Sy) (w':Sv),({ m1 with rv:=rv',rG:=m1.rG++r.toList,kv:=kv',cls:=m1.cls++clIf bad (DO n) }:Mg).at_ B g w'→Mg.step g m1 { m1 with rv:=rv',rG:=m1.rG++r.toList,kv:=kv',cls:=m1.cls++clIf bad (DO n) } wr w'→JH x y z m B g ns w4 (k+1) w' from fun rv' kv' w' q1 q2=>by
        subst hm1
        refine⟨rv',kv',?_,?_⟩
        · rw [e1,e2,←SK];exact q1
        · rw [e1,e2,←SK];exact hstep.trans q2)
       have HAT:=h_ (show m1.at_ B g wr from hm1▸hat)
       have mw:=h_ hcell
       clear hm1 e1 e2 hat hstep hle hbw hbl
       unfold pT at hmr
       rw [hmr] at hpk
       rw [←hpk] at HV
       clear hpk hmr
       have qX:=h_ (fun(m2:Mg) (w1:Sv) (h:m2.at_ B g w1) (hB2:B≤w1.heap.size) (hl:m2.cls.length≤1000000)=>(show Calls SB 130 #[.pointer (some ⟨g,0,none⟩),.bool bad,.agg #[.int .u8 2,.int .i64 0,.string n,.string ⟨#[82,69,71,73,79,78]⟩]] w1 (qZ B g m2.arr m2.kv (m2.cls++clIf bad (DO n)) w1) from lW B g m2.arr m2.kv m2.cls bad (DO n) w1 h.row8 hB2 hl))
       simp only at HV
       generalize bj (oI (bI x n))=A1 at HN1 HV
       generalize bj (oI (bI y n))=A2 at JT HV
       generalize bj (oI (bI z n))=A3 at EL HV
       have hBr:B≤wr.heap.size:=by omega
       go_wp2_with fail
       refine(HN1.out _ (SC.refl _ _)).mono ?_
       rintro e w5 ⟨rfl,hb5⟩
       go_wp2_with fail
       refine(JT.out _ hb5).mono ?_
       rintro e w6 ⟨rfl,hb6⟩
       have hc6:=hb5.trans (hb6.mono hb5.size)
       clear hb6
       go_wp2_with fail
       refine(EL.out _ hc6).mono ?_
       rintro e w7 ⟨rfl,lO⟩
       have Mz:=hc6.trans (lO.mono hc6.size)
       clear lO hc6 hb5
       go_wp2_with fail
       refine(HV.out _).mono ?_
       rintro e w8 ⟨rfl,tF⟩
       have hc8:=Mz.trans (tF.mono Mz.size)
       have Kp:=hc8.size
       clear tF Mz HN1 JT EL HV mw hcell
       have QM:=h_ (fun o=>HAT.out.later (hc8.alloc hc8.size o))
       have uP:=h_ (fun o=>Mg.step.of_below (g:=g) (m:=m1) (hc8.alloc hc8.size o))
       clear hc8
       cases r with
       | none =>
         simp only [oI,bj,aD]
         go_wp2_with fail
         refine(qX.out m1 _ (QM.out _) (by simp;omega) (by omega)).mono ?_
         rintro e wA ⟨rfl,hp⟩
         obtain⟨kv',q1,q2⟩:=(QM.out _).clash hp
         have HE:=h_ (nw.out m1.rv kv' wA (by simpa using q1) (by simpa using (uP.out _).trans q2))
         clear hp q1 q2 QM uP qX HAT nw
         go_wp2_with fail
         go_roundw
         case rel=>exact⟨k+1,by omega,by go_num,HE.out⟩
         case measure=>simp [intOf];omega
       | some r0 =>
         obtain⟨rn,rt,rh,rl,rw_,ra,rb⟩:=r0
         simp only [oI,bj]
         go_upto_region 12 with fail
         have uT:=h_ (QM.out (.cells #[SE rn,.int .i64 rt,.int .i64 rh,.int .i64 rl,.int .i64 rw_,.int .u8 ra,.bool rb,.bool true] 198))
         have Du:=h_ (uP.out (.cells #[SE rn,.int .i64 rt,.int .i64 rh,.int .i64 rl,.int .i64 rw_,.int .u8 ra,.bool rb,.bool true] 198))
         have hxb:=Sx w8 (.cells #[SE rn,.int .i64 rt,.int .i64 rh,.int .i64 rl,.int .i64 rw_,.int .u8 ra,.bool rb,.bool true] 198)
         have hs6:(w8.alloc (.cells #[SE rn,.int .i64 rt,.int .i64 rh,.int .i64 rl,.int .i64 rw_,.int .u8 ra,.bool rb,.bool true] 198)).heap.size=w8.heap.size+1:=Sv.size_alloc _ _
         clear QM uP
         generalize (w8.alloc (.cells #[SE rn,.int .i64 rt,.int .i64 rh,.int .i64 rl,.int .i64 rw_,.int .u8 ra,.bool rb,.bool true] 198))=W6 at *
         obtain⟨ka,kc,tE⟩:=uT.out.row5.slice
         have hg6:=uT.out.glt
         have c5:W6.cell? ⟨g,5,none⟩=some (.slice ka m1.rG.length kc):=by
          rw [Sw _ _ 5 m1.arr 142 (0,0) uT.out.cells,←tE];rfl
         have c5':∀ o,(W6.alloc o).cell? ⟨g,5,none⟩=some (.slice ka m1.rG.length kc):=fun o=>by
          rw [Sv.cell?_alloc_lt _ _ _ (by simpa using hg6)];exact c5
         have db:∀ j,W6.cell? ⟨w8.heap.size,j,none⟩=_:=fun j=>Sw _ _ j _ 198 (0,0) hxb
         have hl6:w8.heap.size<W6.heap.size:=by omega
         have db':∀ o j,(W6.alloc o).cell? ⟨w8.heap.size,j,none⟩=_:=fun o j=>(Sv.cell?_alloc_lt _ _ _ (by simpa using hl6)).trans (db j)
         have mixed:SB.follows Departure.mixedOrders=true:=by kernel_rfl
         have kH:=h_ (fun(o:Obj)=>(show(W6.alloc o).drew.ownsRow B 44 7 (.slice ka m1.rG.length kc) m1.rG.length (m1.rG.flatMap Reg.enc) from tE▸uT.out.rG.alloc o))
         have HN:=h_ (wG W6 [SE rn,.int .i64 rt,.int .i64 rh,.int .i64 rl,.int .i64 rw_,.int .u8 ra,.bool rb] 44)
         have h63:=h_ (show m1.rG.length+1≤maxLen by unfold maxLen;omega)
         have Ag:=h_ (fun(o:Obj)=>(show B≤(W6.alloc o).drew.heap.size from by show B≤(W6.alloc o).heap.size;simp;omega))
         have H5:=h_ (show m1.arr[5]? =some (.slice ka m1.rG.length kc) from tE▸rfl)
         have HRW:=h_ (show lk 142 5 44 7 B g m1.arr (.slice ka m1.rG.length kc) m1.rG.length (m1.rG.flatMap Reg.enc) W6 from tE▸uT.out.row5)
         have Io:=h_ (fun(o:Obj) (v':Sy) (w2:Sv)=>mO (v':=v') (w2:=w2) (m:=m1.rG.length+1) (ys:=m1.rG.flatMap Reg.enc++[SE rn,.int .i64 rt,.int .i64 rh,.int .i64 rl,.int .i64 rw_,.int .u8 ra,.bool rb]) HRW.out (wH W6 o))
         have one7:=h_ (Reg.one ⟨rn,rt,rh,rl,rw_,ra,rb⟩)
         simp only [Reg.enc] at one7
         have HF:=h_ (fun(v':Sy) (w2:Sv) (ho:w2.ownsRow B 44 7 v' (m1.rG.length+1) (m1.rG.flatMap Reg.enc++[SE rn,.int .i64 rt,.int .i64 rh,.int .i64 rl,.int .i64 rw_,.int .u8 ra,.bool rb])) hg' hap hk hf=>(show ∃ rv',({ m1 with rv:=rv',rG:=m1.rG++[⟨rn,rt,rh,rl,rw_,ra,rb⟩] }:Mg).at_ B g (w2.setCell ⟨g,5,none⟩ v')∧Mg.step g m1 { m1 with rv:=rv',rG:=m1.rG++[⟨rn,rt,rh,rl,rw_,ra,rb⟩] } W6 (w2.setCell ⟨g,5,none⟩ v') from uT.out.reg (tE▸mN (m:=(m1.rG++[(⟨rn,rt,rh,rl,rw_,ra,rb⟩:Reg)]).length) (ys:=(m1.rG++[(⟨rn,rt,rh,rl,rw_,ra,rb⟩:Reg)]).flatMap Reg.enc) HRW.out (by simpa [Reg.enc] using ho) hg' hap hk hf)))
         clear hxb hs6 HAT
         go_region_law_o (refine oM rfl (.tmp 60) (.tmp 63) 23 rfl B 44 i0 _ 7 56 SA II.out I0.out I1.out I2.out rfl (by decide) (.slice ka m1.rG.length kc) m1.rG.length (m1.rG.flatMap Reg.enc) (by rfl) (kH.out _) ⟨W6.heap.size,0,none⟩ 1 1 [SE rn,.int .i64 rt,.int .i64 rh,.int .i64 rl,.int .i64 rw_,.int .u8 ra,.bool rb] (by rfl) rfl HN.out one7.out h63.out (by omega) (Ag.out _) ?_;intro v' w2 hown2 hgrow2 lg;obtain⟨hv',hgc,hap,hkp,hfr⟩:=Io.out _ _ _ hown2 hgrow2 lg;obtain⟨va,vc,rfl⟩:=hv';have c5n:w2.cell? ⟨g,5,none⟩=some (.slice ka m1.rG.length kc):=(Sw _ _ 5 m1.arr 142 (0,0) hgc).trans H5.out;have z5n:w2.frozen? ⟨g,5,none⟩=false:=(by simp [Sv.frozen?,hgc]);have Cp:=h_ hown2;have N0:=h_ hgc;have Im:=h_ hap;have JW:=h_ hkp;have tK:=h_ hfr;clear hown2 hgrow2 lg hgc hap hkp hfr)
         all_goals
          obtain⟨rv',q1,q2⟩:=HF.out _ _ Cp.out N0.out Im.out JW.out tK.out
          have RF:=h_ q1
          have RE:=h_ q2
          clear q1 q2
          go_wp2_with fail
          refine(qX.out { m1 with rv:=rv',rG:=m1.rG++[⟨rn,rt,rh,rl,rw_,ra,rb⟩] } _ RF.out (by have:=RE.out.1.size;omega) (by show m1.cls.length≤1000000;omega)).mono ?_
          rintro e wA ⟨rfl,hp⟩
          obtain⟨kv',p1,p2⟩:=RF.out.clash hp
          have HE:=h_ (nw.out rv' kv' wA p1 ((Du.out.trans RE.out).trans p2))
          clear hp p1 p2 HF qX nw
          go_wp2_with fail
          go_roundw
          case rel=>exact⟨k+1,by omega,by go_num,HE.out⟩
          case measure=>simp [intOf];omega
     · obtain rfl:k=ns.length:=by omega
       have HE:=h_ (HQ.out _ _ zX.out hrel)
       clear hrel
       go_wp2_with fail
       go_end0
       exact HE.out
end Go.Proofs.YtnlnmbcaongehaaGreatDoor
