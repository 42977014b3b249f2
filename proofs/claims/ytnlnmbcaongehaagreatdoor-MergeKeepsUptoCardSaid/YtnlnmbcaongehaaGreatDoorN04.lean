/- diff.keys at regions, events and comments: the keys of two lists, ascending, each once. The contracts of style.Same and style.SameRows: whether rows are equal. -/
import Derived.Test.YtnlnmbcaongehaaGreatDoorN03
set_option linter.unusedVariables false
set_option linter.unusedSimpArgs false
set_option maxRecDepth 100000
set_option maxHeartbeats 12800000
open Go.Lib renaming hid→h_
open Go.Proofs.Tryz renaming prog→Su,ntmps28→Sv,func28→Sw,underlying85→Sx,results43→Sy,results39→Sz,results36→SA,ntmps204→SB,ntmps147→SC,func204→SD,func147→SE
open Go renaming World→SF,Value→SG,heap_alloc_last→SH,cell_of_row→SI,Calls→SJ,bodyPost_ret→SK,info_parts→SL,Ending→SM
open Go.RowKit renaming Below→SN
open List renaming length_map→SO,drop_length→SQ,take_length→SR,length_mergeSort→SS,length_append→SU,eq_nil_of_length_eq_zero→SV,mem_of_getElem?→SW
open Go.RowKit.Below renaming refl→SX,setCell→SY,heap_alloc→SZ
open Nat renaming le_refl→S5,add_zero→S6,le_trans→S7
open Go.Lib renaming compact→S8,allEq→S9,allEq_len→S_
open Go.World renaming frozen?→Ta,ownsRow_nil→Tb,size_alloc→Tc,cell?_alloc_lt→Td
open Go.Value renaming int→Te,string→Tf
open Bool renaming eq_false_or_eq_true→Tg
namespace Go.Proofs.YtnlnmbcaongehaaGreatDoor
open Go.RowKit
theorem Tryz.info9:(Su.info? 9).map (fun i=>(i.zero,i.size,i.bytes))=some (some (.string ⟨#[]⟩),1,16):=by kernel_rfl
theorem Tryz.info2:(Su.info? 2).map (fun i=>(i.zero,i.size,i.bytes))=some (some (.int .i64 0),1,8):=by kernel_rfl
theorem tb (s:ByteArray):encStr s.data.toList=.string s:=by simp [encStr]
def dZ {α β:Type} (K:Nat)(enc:β→SG)(key:α→β)(zs:List α)(W:SF)(k:Nat)(v:SG)(wr:SF):Prop :=
 wr.ownsRow W.heap.size K 1 v k (((zs.take k).map key).map enc)∧SN W.heap.size W wr
theorem dZ.step {α β:Type} {K:Nat} {enc:β→SG} {key:α→β} {zs:List α} {W w1 w2:SF} {k:Nat} {v v':SG} {x:α} {cs:Array SG} (hx:zs[k]? =some x)(hb:SN W.heap.size W w1)(ho:w1.ownsRow W.heap.size K 1 v k (((zs.take k).map key).map enc))(hcs:cs.toList=[enc (key x)])
 (hown:w2.ownsRow W.heap.size K 1 v' (k+1) (((zs.take k).map key).map enc++cs.toList)) (hg:(w1.alloc (.cells cs K)).grownBy w2 v.ownBlock):dZ K enc key zs W (k+1) v' w2:=by
 refine⟨?_,(hb.alloc hb.size _).grown hg (by have:=hb.size;simp;omega) (fun j hj=>(ho.lt j hj).1)⟩
 rw [List.take_add_one,hx]
 simp only [Option.toList_some,List.map_append,List.map_cons,List.map_nil]
 rw [hcs] at hown
 exact hown
theorem dZ.all {α β:Type} {K:Nat} {enc:β→SG} {key:α→β} {zs:List α} {W wr:SF} {v:SG} (h:dZ K enc key zs W zs.length v wr):wr.ownsRow W.heap.size K 1 v (zs.map key).length ((zs.map key).map enc):=by
 have:=h.1
 rw [SR] at this
 simpa using this
theorem sI (x:Reg)(w:SF):SJ Su 35 #[.agg x.enc.toArray] w fun e w'=>e=.returned (.string x.name)∧SN w.heap.size w w':=by
 obtain⟨nm,top,aK,left,width,align,bottom⟩:=x
 simp only [Reg.enc]
 go_enter Tryz.func35,Tryz.ntmps35
 go_wp2_with fail
 go_ret
 exact⟨rfl,(SX _ _).alloc (S5 _) _⟩
theorem qF {Ok:SF→Reg→Prop} (hK:Keeps Ok)(a1 a2:Option Addr)(c1 c2:Nat)(xs ys:List Reg)(w:SF)(h1:af 7 Reg.enc Ok w a1 xs)(h2:af 7 Reg.enc Ok w a2 ys)(hx:xs.length≤4000000)(hy:ys.length≤4000000) :
 SJ Su 34 #[.slice a1 xs.length c1,.slice a2 ys.length c2,.func (.func 35) #[] #[]] w (np 9 encStr w.heap.size (S8 (fk ((xs++ys).map (fun x:Reg=>x.name.data.toList)))) w):=by
 obtain⟨zs,hzs⟩:∃ zs,zs=xs++ys:=⟨_,rfl⟩
 have hzl:zs.length≤8000000:=by rw [hzs,SU];omega
 have HC:=h_ (fun(o:Array SG) (ho:o=#[.slice a1 xs.length c1,.slice a2 ys.length c2])=>(show SJ Su 90 #[.slice (some ⟨w.heap.size,0,none⟩) 2 2] (w.alloc (.cells o 23)) (aC 44 7 Reg.enc zs (w.alloc (.cells o 23))) from by
  rw [hzs]
  have hb:SN w.heap.size w (w.alloc (.cells o 23)):=(SX _ _).alloc (S5 _) _
  refine uv hK w.heap.size c1 c2 a1 a2 xs ys (w.alloc (.cells o 23)) ?_ ?_ (by simp) (af.keeps hK _ _ _ _ hb h1) (af.keeps hK _ _ _ _ hb h2) hx hy
  · rw [SI _ _ 0 o 23 (0,0) (SH w _),ho];rfl
  · rw [SI _ _ 1 o 23 (0,0) (SH w _),ho];rfl))
 rw [←hzs]
 have hsl:(fk (zs.map (fun x:Reg=>x.name.data.toList))).length≤8000000:=by unfold fk;rw [SS,SO];exact hzl
 have aA:=h_ (fun(W wr:SF) (v:SG) (h:dZ 9 encStr (fun x:Reg=>x.name.data.toList) zs W zs.length v wr)=>oN W.heap.size v (zs.map (fun x:Reg=>x.name.data.toList)) wr h.all (by rw [SO];exact hzl) h.2.size)
 have rF:=h_ (fun(B:Nat) (wr:SF) (v:SG) (ho:wr.ownsRow B 9 1 v (fk (zs.map (fun x:Reg=>x.name.data.toList))).length ((fk (zs.map (fun x:Reg=>x.name.data.toList))).map encStr))=>mr B v (fk (zs.map (fun x:Reg=>x.name.data.toList))) wr ho hsl)
 have HQ:=h_ (fun(B:Nat) (w1 w2 w3 w4:SF) (v:SG) (hB:w.heap.size≤B) (h1:SN w.heap.size w w1) (h2:SN B w1 w2) (h3:SN B w2 w3) (h4:SN B w3 w4) (ho:w4.ownsRow B 9 1 v (S8 (fk (zs.map (fun x:Reg=>x.name.data.toList)))).length ((S8 (fk (zs.map (fun x:Reg=>x.name.data.toList)))).map encStr))=>(show np 9 encStr w.heap.size (S8 (fk (zs.map (fun x:Reg=>x.name.data.toList)))) w (.returned v) w4 from
  ⟨v,rfl,⟨ho.1,ho.2.imp id (fun⟨g,cap,cur,q1,q2,q3⟩=>⟨g,cap,cur,q1,S7 hB q2,q3⟩)⟩,((h1.trans (h2.mono hB)).trans (h3.mono hB)).trans (h4.mono hB)⟩))
 obtain⟨j0,hj,hy0,hy1,hy2⟩:=SL Tryz.info9
 have JI:=h_ hj;have J0:=h_ hy0;have J1:=h_ hy1;have J2:=h_ hy2
 have HST:=h_ (fun(W w1 w2:SF) (k:Nat) (v v':SG) (x:Reg) (cs:Array SG) (hx:zs[k]? =some x)=>dZ.step (K:=9) (enc:=encStr) (key:=(fun x:Reg=>x.name.data.toList)) (zs:=zs) (W:=W) (w1:=w1) (w2:=w2) (k:=k) (v:=v) (v':=v') (x:=x) (cs:=cs) hx)
 have kC:Hid (∀ (W wr:SF) (k:Nat) (v:SG),dZ 9 encStr (fun x:Reg=>x.name.data.toList) zs W k v wr→wr.ownsRow W.heap.size 9 1 v k (((zs.take k).map (fun x:Reg=>x.name.data.toList)).map encStr)∧SN W.heap.size W wr):=h_ (fun _ _ _ _ h=>h)
 have Dv:Hid (∀ W:SF,dZ 9 encStr (fun x:Reg=>x.name.data.toList) zs W 0 (.slice none 0 0) W):=h_ (fun W=>⟨Tb _ _ _ _,SX _ _⟩)
 generalize dZ 9 encStr (fun x:Reg=>x.name.data.toList) zs=R at *
 obtain⟨cells,hcells⟩:∃ cells:Nat→List SG,cells=fun k=>(((zs.take k).map (fun x:Reg=>x.name.data.toList)).map encStr):=⟨_,rfl⟩
 simp only [show ∀ k,(((zs.take k).map (fun x:Reg=>x.name.data.toList)).map encStr)=cells k from fun k=>by rw [hcells]] at kC HST
 generalize fk (zs.map (fun x:Reg=>x.name.data.toList))=S at *
 generalize S8 S=C at *
 generalize np 9 encStr w.heap.size C w=Q at *
 clear hj hy0 hy1 hy2 h1 h2 hzs hsl hcells
 go_enter Tryz.func34,Tryz.ntmps34
 go_wp2_with fail
 refine(HC.out _ rfl).mono ?_
 rintro e w1 ⟨v1,rfl,ho1,hb1⟩
 obtain⟨av,cv,rfl,hS⟩:=ay (k:=7) (enc:=Reg.enc) (Ok:=Flat) (fun _=>rfl) ho1 (fun _ _=>trivial)
 have HB1:=h_ (show SN w.heap.size w w1 from((SX _ _).alloc (S5 _) _).trans (hb1.mono (by simp)))
 have tG:=h_ hS
 have hs1:=HB1.out.size
 clear ho1 hb1 hS HC
 go_wp2_with fail
 go_loopw [7,15] (fun v i wr=>∃ k:Nat,k≤zs.length∧i=.int .i64 k∧R w1 k v wr) (fun _ i _=>zs.length-(intOf i).toNat)
 case atStart=>exact⟨0,by omega,rfl,Dv.out _⟩
 case round =>
  obtain⟨k,hk,rfl,hrel⟩:=hrel
  have kj:=kC.out _ _ _ _ hrel
  by_cases hlt:k<zs.length
  · obtain⟨b,off,x,rfl,hbl,hxk,hc,_⟩:=(af.keeps Flat.keeps _ _ _ _ kj.2 tG.out).at_ hlt
    have hbs:=kj.2.size
    have mG:=h_ (fun o=>sI x (wr.alloc o))
    have mg:=h_ (fun(o:Obj) (w2:SF) (h1:SN (wr.alloc o).heap.size (wr.alloc o) w2)=>(show SN wr.heap.size wr w2 from((SX _ _).alloc (S5 _) _).trans (h1.mono (by simp))))
    have HO:=h_ (fun(w2:SF) (hb:SN wr.heap.size wr w2)=>aH kj.1 hb)
    have J6:=h_ (fun(w2:SF) (hb:SN wr.heap.size wr w2)=>(show SN w1.heap.size w1 w2 from kj.2.trans (hb.mono kj.2.size)))
    have HS2:=h_ (fun(w2 w3:SF) (v':SG) (cs:Array SG)=>HST.out w1 w2 w3 k u7 v' x cs hxk)
    have d0:=hc 0 _ rfl;have d1:=hc 1 _ rfl;have d2:=hc 2 _ rfl;have d3:=hc 3 _ rfl;have d4:=hc 4 _ rfl;have d5:=hc 5 _ rfl;have d6:=hc 6 _ rfl
    obtain⟨nm,top,aK,left,width,align,bottom⟩:=x
    simp only [Reg.enc,S6] at mG d0 d1 d2 d3 d4 d5 d6
    simp only [tb] at HS2
    clear hc hxk hrel kj
    go_wp2_with fail
    refine(mG.out _).mono ?_
    rintro e w2 ⟨rfl,hb2⟩
    have hb3:=mg.out _ _ hb2
    have hs2:=hb3.size
    have kH:=h_ (HO.out _ hb3)
    have HB3:=h_ (J6.out _ hb3)
    clear hb2 hb3 HO mG mg d0 d1 d2 d3 d4 d5 d6
    go_wp2_with (at_builtin;refine aV _ _ rfl (.tmp 19) (.tmp 23) 55 rfl w1.heap.size 9 j0 _ 1 16 Tryz.underlying55 JI.out J0.out J1.out J2.out rfl (by decide) _ _ _ rfl kH.out _ rfl rfl rfl ?h1 ?h63 ?hb ?hbase ?_)
    case h1=>first|rfl|(intro u hu;simp at hu;subst hu;rfl)
    case h63=>unfold maxLen;omega
    case hb=>omega
    case hbase=>omega
    intro v' w3 hown' hgrow
    have RR:=h_ (HS2.out w2 w3 v' _ HB3.out kH.out rfl hown' hgrow)
    clear hown' hgrow
    go_wp2_with fail
    go_roundw
    case rel=>exact⟨k+1,by omega,by go_num,RR.out⟩
    case measure=>simp [intOf];omega
  · obtain rfl:k=zs.length:=by omega
    obtain⟨av2,cv2,Gp⟩:∃ a c,u7=.slice a zs.length c:=by
     rcases kj.1.2 with⟨rfl,h0⟩|⟨g,cap,_,rfl,_⟩
     · exact⟨none,0,by rw [h0]⟩
     · exact⟨_,_,rfl⟩
    subst Gp
    have fD:=h_ (aA.out _ _ _ hrel)
    have vH:=h_ kj.2
    clear hrel kj
    go_wp2_with fail
    refine fD.out.mono ?_
    rintro e w2 ⟨rfl,ho2,hb2⟩
    have ji:=h_ (rF.out _ _ _ ho2)
    have HB2:=h_ hb2
    clear ho2 hb2
    go_wp2_with fail
    refine ji.out.mono ?_
    rintro e w3 ⟨v3,rfl,ho3,hb3⟩
    have qk:=h_ (HQ.out _ w1 _ _ _ v3 hs1 HB1.out vH.out HB2.out hb3 ho3)
    clear ho3 hb3
    go_wp2_with fail
    exact qk.out
theorem sH (x:Ev)(w:SF):SJ Su 38 #[.agg x.enc.toArray] w fun e w'=>e=.returned (.int .i64 x.id)∧SN w.heap.size w w':=by
 obtain⟨id,inn,out,reg,kind,sp,xa,xc,xr⟩:=x
 simp only [Ev.enc]
 go_enter Tryz.func38,Tryz.ntmps38
 go_wp2_with fail
 go_ret
 exact⟨rfl,(SX _ _).alloc (S5 _) _⟩
theorem qE {Ok:SF→Ev→Prop} (hK:Keeps Ok)(a1 a2:Option Addr)(c1 c2:Nat)(xs ys:List Ev)(w:SF)(h1:af 7 Ev.enc Ok w a1 xs)(h2:af 7 Ev.enc Ok w a2 ys)(hx:xs.length≤4000000)(hy:ys.length≤4000000) :
 SJ Su 37 #[.slice a1 xs.length c1,.slice a2 ys.length c2,.func (.func 38) #[] #[]] w (np 2 (Te .i64) w.heap.size (S8 (aR ((xs++ys).map (fun x:Ev=>x.id)))) w):=by
 obtain⟨zs,hzs⟩:∃ zs,zs=xs++ys:=⟨_,rfl⟩
 have hzl:zs.length≤8000000:=by rw [hzs,SU];omega
 have HC:=h_ (fun(o:Array SG) (ho:o=#[.slice a1 xs.length c1,.slice a2 ys.length c2])=>(show SJ Su 93 #[.slice (some ⟨w.heap.size,0,none⟩) 2 2] (w.alloc (.cells o 24)) (aC 50 7 Ev.enc zs (w.alloc (.cells o 24))) from by
  rw [hzs]
  have hb:SN w.heap.size w (w.alloc (.cells o 24)):=(SX _ _).alloc (S5 _) _
  refine uu hK w.heap.size c1 c2 a1 a2 xs ys (w.alloc (.cells o 24)) ?_ ?_ (by simp) (af.keeps hK _ _ _ _ hb h1) (af.keeps hK _ _ _ _ hb h2) hx hy
  · rw [SI _ _ 0 o 24 (0,0) (SH w _),ho];rfl
  · rw [SI _ _ 1 o 24 (0,0) (SH w _),ho];rfl))
 rw [←hzs]
 have hsl:(aR (zs.map (fun x:Ev=>x.id))).length≤8000000:=by unfold aR;rw [SS,SO];exact hzl
 have aA:=h_ (fun(W wr:SF) (v:SG) (h:dZ 2 (Te .i64) (fun x:Ev=>x.id) zs W zs.length v wr)=>gR W.heap.size v (zs.map (fun x:Ev=>x.id)) wr h.all (by rw [SO];exact hzl) h.2.size)
 have rF:=h_ (fun(B:Nat) (wr:SF) (v:SG) (ho:wr.ownsRow B 2 1 v (aR (zs.map (fun x:Ev=>x.id))).length ((aR (zs.map (fun x:Ev=>x.id))).map (Te .i64)))=>fS B v (aR (zs.map (fun x:Ev=>x.id))) wr ho hsl)
 have HQ:=h_ (fun(B:Nat) (w1 w2 w3 w4:SF) (v:SG) (hB:w.heap.size≤B) (h1:SN w.heap.size w w1) (h2:SN B w1 w2) (h3:SN B w2 w3) (h4:SN B w3 w4) (ho:w4.ownsRow B 2 1 v (S8 (aR (zs.map (fun x:Ev=>x.id)))).length ((S8 (aR (zs.map (fun x:Ev=>x.id)))).map (Te .i64)))=>(show np 2 (Te .i64) w.heap.size (S8 (aR (zs.map (fun x:Ev=>x.id)))) w (.returned v) w4 from
  ⟨v,rfl,⟨ho.1,ho.2.imp id (fun⟨g,cap,cur,q1,q2,q3⟩=>⟨g,cap,cur,q1,S7 hB q2,q3⟩)⟩,((h1.trans (h2.mono hB)).trans (h3.mono hB)).trans (h4.mono hB)⟩))
 obtain⟨j0,hj,hy0,hy1,hy2⟩:=SL Tryz.info2
 have JI:=h_ hj;have J0:=h_ hy0;have J1:=h_ hy1;have J2:=h_ hy2
 have HST:=h_ (fun(W w1 w2:SF) (k:Nat) (v v':SG) (x:Ev) (cs:Array SG) (hx:zs[k]? =some x)=>dZ.step (K:=2) (enc:=(Te .i64)) (key:=(fun x:Ev=>x.id)) (zs:=zs) (W:=W) (w1:=w1) (w2:=w2) (k:=k) (v:=v) (v':=v') (x:=x) (cs:=cs) hx)
 have kC:Hid (∀ (W wr:SF) (k:Nat) (v:SG),dZ 2 (Te .i64) (fun x:Ev=>x.id) zs W k v wr→wr.ownsRow W.heap.size 2 1 v k (((zs.take k).map (fun x:Ev=>x.id)).map (Te .i64))∧SN W.heap.size W wr):=h_ (fun _ _ _ _ h=>h)
 have Dv:Hid (∀ W:SF,dZ 2 (Te .i64) (fun x:Ev=>x.id) zs W 0 (.slice none 0 0) W):=h_ (fun W=>⟨Tb _ _ _ _,SX _ _⟩)
 generalize dZ 2 (Te .i64) (fun x:Ev=>x.id) zs=R at *
 obtain⟨cells,hcells⟩:∃ cells:Nat→List SG,cells=fun k=>(((zs.take k).map (fun x:Ev=>x.id)).map (Te .i64)):=⟨_,rfl⟩
 simp only [show ∀ k,(((zs.take k).map (fun x:Ev=>x.id)).map (Te .i64))=cells k from fun k=>by rw [hcells]] at kC HST
 generalize aR (zs.map (fun x:Ev=>x.id))=S at *
 generalize S8 S=C at *
 generalize np 2 (Te .i64) w.heap.size C w=Q at *
 clear hj hy0 hy1 hy2 h1 h2 hzs hsl hcells
 go_enter Tryz.func37,Tryz.ntmps37
 go_wp2_with fail
 refine(HC.out _ rfl).mono ?_
 rintro e w1 ⟨v1,rfl,ho1,hb1⟩
 obtain⟨av,cv,rfl,hS⟩:=ay (k:=7) (enc:=Ev.enc) (Ok:=Flat) (fun _=>rfl) ho1 (fun _ _=>trivial)
 have HB1:=h_ (show SN w.heap.size w w1 from((SX _ _).alloc (S5 _) _).trans (hb1.mono (by simp)))
 have tG:=h_ hS
 have hs1:=HB1.out.size
 clear ho1 hb1 hS HC
 go_wp2_with fail
 go_loopw [7,15] (fun v i wr=>∃ k:Nat,k≤zs.length∧i=.int .i64 k∧R w1 k v wr) (fun _ i _=>zs.length-(intOf i).toNat)
 case atStart=>exact⟨0,by omega,rfl,Dv.out _⟩
 case round =>
  obtain⟨k,hk,rfl,hrel⟩:=hrel
  have kj:=kC.out _ _ _ _ hrel
  by_cases hlt:k<zs.length
  · obtain⟨b,off,x,rfl,hbl,hxk,hc,_⟩:=(af.keeps Flat.keeps _ _ _ _ kj.2 tG.out).at_ hlt
    have hbs:=kj.2.size
    have mG:=h_ (fun o=>sH x (wr.alloc o))
    have mg:=h_ (fun(o:Obj) (w2:SF) (h1:SN (wr.alloc o).heap.size (wr.alloc o) w2)=>(show SN wr.heap.size wr w2 from((SX _ _).alloc (S5 _) _).trans (h1.mono (by simp))))
    have HO:=h_ (fun(w2:SF) (hb:SN wr.heap.size wr w2)=>aH kj.1 hb)
    have J6:=h_ (fun(w2:SF) (hb:SN wr.heap.size wr w2)=>(show SN w1.heap.size w1 w2 from kj.2.trans (hb.mono kj.2.size)))
    have HS2:=h_ (fun(w2 w3:SF) (v':SG) (cs:Array SG)=>HST.out w1 w2 w3 k u7 v' x cs hxk)
    have d0:=hc 0 _ rfl;have d1:=hc 1 _ rfl;have d2:=hc 2 _ rfl;have d3:=hc 3 _ rfl;have d4:=hc 4 _ rfl;have d5:=hc 5 _ rfl;have d6:=hc 6 _ rfl
    obtain⟨id,inn,out,reg,kind,sp,xa,xc,xr⟩:=x
    simp only [Ev.enc,S6] at mG d0 d1 d2 d3 d4 d5 d6
    simp only at HS2
    clear hc hxk hrel kj
    go_wp2_with fail
    refine(mG.out _).mono ?_
    rintro e w2 ⟨rfl,hb2⟩
    have hb3:=mg.out _ _ hb2
    have hs2:=hb3.size
    have kH:=h_ (HO.out _ hb3)
    have HB3:=h_ (J6.out _ hb3)
    clear hb2 hb3 HO mG mg d0 d1 d2 d3 d4 d5 d6
    go_wp2_with (at_builtin;refine aV _ _ rfl (.tmp 19) (.tmp 23) 85 rfl w1.heap.size 2 j0 _ 1 8 Sx JI.out J0.out J1.out J2.out rfl (by decide) _ _ _ rfl kH.out _ rfl rfl rfl ?h1 ?h63 ?hb ?hbase ?_)
    case h1=>first|rfl|(intro u hu;simp at hu;subst hu;rfl)
    case h63=>unfold maxLen;omega
    case hb=>omega
    case hbase=>omega
    intro v' w3 hown' hgrow
    have RR:=h_ (HS2.out w2 w3 v' _ HB3.out kH.out rfl hown' hgrow)
    clear hown' hgrow
    go_wp2_with fail
    go_roundw
    case rel=>exact⟨k+1,by omega,by go_num,RR.out⟩
    case measure=>simp [intOf];omega
  · obtain rfl:k=zs.length:=by omega
    obtain⟨av2,cv2,Gp⟩:∃ a c,u7=.slice a zs.length c:=by
     rcases kj.1.2 with⟨rfl,h0⟩|⟨g,cap,_,rfl,_⟩
     · exact⟨none,0,by rw [h0]⟩
     · exact⟨_,_,rfl⟩
    subst Gp
    have fD:=h_ (aA.out _ _ _ hrel)
    have vH:=h_ kj.2
    clear hrel kj
    go_wp2_with fail
    refine fD.out.mono ?_
    rintro e w2 ⟨rfl,ho2,hb2⟩
    have ji:=h_ (rF.out _ _ _ ho2)
    have HB2:=h_ hb2
    clear ho2 hb2
    go_wp2_with fail
    refine ji.out.mono ?_
    rintro e w3 ⟨v3,rfl,ho3,hb3⟩
    have qk:=h_ (HQ.out _ w1 _ _ _ v3 hs1 HB1.out vH.out HB2.out hb3 ho3)
    clear ho3 hb3
    go_wp2_with fail
    exact qk.out
theorem sG (x:Cm)(w:SF):SJ Su 42 #[.agg x.enc.toArray] w fun e w'=>e=.returned (.int .i64 x.id)∧SN w.heap.size w w':=by
 obtain⟨id,ev,frm,til,au,tx,dn,lo⟩:=x
 simp only [Cm.enc]
 go_enter Tryz.func42,Tryz.ntmps42
 go_wp2_with fail
 go_ret
 exact⟨rfl,(SX _ _).alloc (S5 _) _⟩
theorem qD {Ok:SF→Cm→Prop} (hK:Keeps Ok)(a1 a2:Option Addr)(c1 c2:Nat)(xs ys:List Cm)(w:SF)(h1:af 8 Cm.enc Ok w a1 xs)(h2:af 8 Cm.enc Ok w a2 ys)(hx:xs.length≤4000000)(hy:ys.length≤4000000) :
 SJ Su 41 #[.slice a1 xs.length c1,.slice a2 ys.length c2,.func (.func 42) #[] #[]] w (np 2 (Te .i64) w.heap.size (S8 (aR ((xs++ys).map (fun x:Cm=>x.id)))) w):=by
 obtain⟨zs,hzs⟩:∃ zs,zs=xs++ys:=⟨_,rfl⟩
 have hzl:zs.length≤8000000:=by rw [hzs,SU];omega
 have HC:=h_ (fun(o:Array SG) (ho:o=#[.slice a1 xs.length c1,.slice a2 ys.length c2])=>(show SJ Su 97 #[.slice (some ⟨w.heap.size,0,none⟩) 2 2] (w.alloc (.cells o 25)) (aC 52 8 Cm.enc zs (w.alloc (.cells o 25))) from by
  rw [hzs]
  have hb:SN w.heap.size w (w.alloc (.cells o 25)):=(SX _ _).alloc (S5 _) _
  refine ur hK w.heap.size c1 c2 a1 a2 xs ys (w.alloc (.cells o 25)) ?_ ?_ (by simp) (af.keeps hK _ _ _ _ hb h1) (af.keeps hK _ _ _ _ hb h2) hx hy
  · rw [SI _ _ 0 o 25 (0,0) (SH w _),ho];rfl
  · rw [SI _ _ 1 o 25 (0,0) (SH w _),ho];rfl))
 rw [←hzs]
 have hsl:(aR (zs.map (fun x:Cm=>x.id))).length≤8000000:=by unfold aR;rw [SS,SO];exact hzl
 have aA:=h_ (fun(W wr:SF) (v:SG) (h:dZ 2 (Te .i64) (fun x:Cm=>x.id) zs W zs.length v wr)=>gR W.heap.size v (zs.map (fun x:Cm=>x.id)) wr h.all (by rw [SO];exact hzl) h.2.size)
 have rF:=h_ (fun(B:Nat) (wr:SF) (v:SG) (ho:wr.ownsRow B 2 1 v (aR (zs.map (fun x:Cm=>x.id))).length ((aR (zs.map (fun x:Cm=>x.id))).map (Te .i64)))=>fS B v (aR (zs.map (fun x:Cm=>x.id))) wr ho hsl)
 have HQ:=h_ (fun(B:Nat) (w1 w2 w3 w4:SF) (v:SG) (hB:w.heap.size≤B) (h1:SN w.heap.size w w1) (h2:SN B w1 w2) (h3:SN B w2 w3) (h4:SN B w3 w4) (ho:w4.ownsRow B 2 1 v (S8 (aR (zs.map (fun x:Cm=>x.id)))).length ((S8 (aR (zs.map (fun x:Cm=>x.id)))).map (Te .i64)))=>(show np 2 (Te .i64) w.heap.size (S8 (aR (zs.map (fun x:Cm=>x.id)))) w (.returned v) w4 from
  ⟨v,rfl,⟨ho.1,ho.2.imp id (fun⟨g,cap,cur,q1,q2,q3⟩=>⟨g,cap,cur,q1,S7 hB q2,q3⟩)⟩,((h1.trans (h2.mono hB)).trans (h3.mono hB)).trans (h4.mono hB)⟩))
 obtain⟨j0,hj,hy0,hy1,hy2⟩:=SL Tryz.info2
 have JI:=h_ hj;have J0:=h_ hy0;have J1:=h_ hy1;have J2:=h_ hy2
 have HST:=h_ (fun(W w1 w2:SF) (k:Nat) (v v':SG) (x:Cm) (cs:Array SG) (hx:zs[k]? =some x)=>dZ.step (K:=2) (enc:=(Te .i64)) (key:=(fun x:Cm=>x.id)) (zs:=zs) (W:=W) (w1:=w1) (w2:=w2) (k:=k) (v:=v) (v':=v') (x:=x) (cs:=cs) hx)
 have kC:Hid (∀ (W wr:SF) (k:Nat) (v:SG),dZ 2 (Te .i64) (fun x:Cm=>x.id) zs W k v wr→wr.ownsRow W.heap.size 2 1 v k (((zs.take k).map (fun x:Cm=>x.id)).map (Te .i64))∧SN W.heap.size W wr):=h_ (fun _ _ _ _ h=>h)
 have Dv:Hid (∀ W:SF,dZ 2 (Te .i64) (fun x:Cm=>x.id) zs W 0 (.slice none 0 0) W):=h_ (fun W=>⟨Tb _ _ _ _,SX _ _⟩)
 generalize dZ 2 (Te .i64) (fun x:Cm=>x.id) zs=R at *
 obtain⟨cells,hcells⟩:∃ cells:Nat→List SG,cells=fun k=>(((zs.take k).map (fun x:Cm=>x.id)).map (Te .i64)):=⟨_,rfl⟩
 simp only [show ∀ k,(((zs.take k).map (fun x:Cm=>x.id)).map (Te .i64))=cells k from fun k=>by rw [hcells]] at kC HST
 generalize aR (zs.map (fun x:Cm=>x.id))=S at *
 generalize S8 S=C at *
 generalize np 2 (Te .i64) w.heap.size C w=Q at *
 clear hj hy0 hy1 hy2 h1 h2 hzs hsl hcells
 go_enter Tryz.func41,Tryz.ntmps41
 go_wp2_with fail
 refine(HC.out _ rfl).mono ?_
 rintro e w1 ⟨v1,rfl,ho1,hb1⟩
 obtain⟨av,cv,rfl,hS⟩:=ay (k:=8) (enc:=Cm.enc) (Ok:=Flat) (fun _=>rfl) ho1 (fun _ _=>trivial)
 have HB1:=h_ (show SN w.heap.size w w1 from((SX _ _).alloc (S5 _) _).trans (hb1.mono (by simp)))
 have tG:=h_ hS
 have hs1:=HB1.out.size
 clear ho1 hb1 hS HC
 go_wp2_with fail
 go_loopw [7,15] (fun v i wr=>∃ k:Nat,k≤zs.length∧i=.int .i64 k∧R w1 k v wr) (fun _ i _=>zs.length-(intOf i).toNat)
 case atStart=>exact⟨0,by omega,rfl,Dv.out _⟩
 case round =>
  obtain⟨k,hk,rfl,hrel⟩:=hrel
  have kj:=kC.out _ _ _ _ hrel
  by_cases hlt:k<zs.length
  · obtain⟨b,off,x,rfl,hbl,hxk,hc,_⟩:=(af.keeps Flat.keeps _ _ _ _ kj.2 tG.out).at_ hlt
    have hbs:=kj.2.size
    have mG:=h_ (fun o=>sG x (wr.alloc o))
    have mg:=h_ (fun(o:Obj) (w2:SF) (h1:SN (wr.alloc o).heap.size (wr.alloc o) w2)=>(show SN wr.heap.size wr w2 from((SX _ _).alloc (S5 _) _).trans (h1.mono (by simp))))
    have HO:=h_ (fun(w2:SF) (hb:SN wr.heap.size wr w2)=>aH kj.1 hb)
    have J6:=h_ (fun(w2:SF) (hb:SN wr.heap.size wr w2)=>(show SN w1.heap.size w1 w2 from kj.2.trans (hb.mono kj.2.size)))
    have HS2:=h_ (fun(w2 w3:SF) (v':SG) (cs:Array SG)=>HST.out w1 w2 w3 k u7 v' x cs hxk)
    have d0:=hc 0 _ rfl;have d1:=hc 1 _ rfl;have d2:=hc 2 _ rfl;have d3:=hc 3 _ rfl;have d4:=hc 4 _ rfl;have d5:=hc 5 _ rfl;have d6:=hc 6 _ rfl;have d7:=hc 7 _ rfl
    obtain⟨id,ev,frm,til,au,tx,dn,lo⟩:=x
    simp only [Cm.enc,S6] at mG d0 d1 d2 d3 d4 d5 d6 d7
    simp only at HS2
    clear hc hxk hrel kj
    go_wp2_with fail
    refine(mG.out _).mono ?_
    rintro e w2 ⟨rfl,hb2⟩
    have hb3:=mg.out _ _ hb2
    have hs2:=hb3.size
    have kH:=h_ (HO.out _ hb3)
    have HB3:=h_ (J6.out _ hb3)
    clear hb2 hb3 HO mG mg d0 d1 d2 d3 d4 d5 d6 d7
    go_wp2_with (at_builtin;refine aV _ _ rfl (.tmp 19) (.tmp 23) 85 rfl w1.heap.size 2 j0 _ 1 8 Sx JI.out J0.out J1.out J2.out rfl (by decide) _ _ _ rfl kH.out _ rfl rfl rfl ?h1 ?h63 ?hb ?hbase ?_)
    case h1=>first|rfl|(intro u hu;simp at hu;subst hu;rfl)
    case h63=>unfold maxLen;omega
    case hb=>omega
    case hbase=>omega
    intro v' w3 hown' hgrow
    have RR:=h_ (HS2.out w2 w3 v' _ HB3.out kH.out rfl hown' hgrow)
    clear hown' hgrow
    go_wp2_with fail
    go_roundw
    case rel=>exact⟨k+1,by omega,by go_num,RR.out⟩
    case measure=>simp [intOf];omega
  · obtain rfl:k=zs.length:=by omega
    obtain⟨av2,cv2,Gp⟩:∃ a c,u7=.slice a zs.length c:=by
     rcases kj.1.2 with⟨rfl,h0⟩|⟨g,cap,_,rfl,_⟩
     · exact⟨none,0,by rw [h0]⟩
     · exact⟨_,_,rfl⟩
    subst Gp
    have fD:=h_ (aA.out _ _ _ hrel)
    have vH:=h_ kj.2
    clear hrel kj
    go_wp2_with fail
    refine fD.out.mono ?_
    rintro e w2 ⟨rfl,ho2,hb2⟩
    have ji:=h_ (rF.out _ _ _ ho2)
    have HB2:=h_ hb2
    clear ho2 hb2
    go_wp2_with fail
    refine ji.out.mono ?_
    rintro e w3 ⟨v3,rfl,ho3,hb3⟩
    have qk:=h_ (HQ.out _ w1 _ _ _ v3 hs1 HB1.out vH.out HB2.out hb3 ho3)
    clear ho3 hb3
    go_wp2_with fail
    exact qk.out
def mz (a b:Run):Bool:=a.text.toList==b.text.toList&&(a.color==b.color&&a.it==b.it&&a.un==b.un)&&a.ruby.toList==b.ruby.toList
def tQ (a b:Row):Bool:=S9 mz a.runs b.runs
def j8 (a b:List Row):Bool:=S9 tQ a b
instance:Inhabited Run:=⟨⟨⟨#[]⟩,0,false,false,⟨#[]⟩⟩⟩
instance:Inhabited Row:=⟨⟨none,0,[]⟩⟩
theorem BW {α:Type} [Inhabited α] (xs:List α)(j:Nat)(h:j<xs.length):xs[j]? =some xs[j]!:=by
 rw [List.getElem?_eq_getElem h,getElem!_pos xs j h]
theorem Fl (x y:Run)(w:SF):(binOp .neq 75 (.agg x.enc.toArray) (.agg y.enc.toArray)).run Su w=.ok (.bool (!mz x y)) w:=by
 simp [go_sem,Run.enc,mz]
 repeat' split
 all_goals simp_all
theorem Sj:Go.Proofs.NeqAt Su 75 (fun x=>.agg (Run.enc x).toArray) mz:=⟨Fl,Go.Proofs.GuardAt.agg (fun x=>(Run.enc x).toArray) (by kernel_rfl)⟩
theorem zD (a a':Option Addr)(n m c c':Nat)(w:SF)(h:¬ n=m):SJ Su 204 #[.slice a n c,.slice a' m c'] w fun e w'=>e=.returned (.bool false)∧w=w':=by
 have h1:(n != m)=true:=by simpa using h
 have h2:((n:Int) != (m:Int))=true:=by simp;omega
 go_enter SD,SB
 go_wp2_with fail
 go_ret
 exact⟨rfl,rfl⟩
theorem pr (a a':Option Addr)(c c':Nat)(w:SF):SJ Su 204 #[.slice a 0 c,.slice a' 0 c'] w fun e w'=>e=.returned (.bool true)∧w=w':=by
 go_enter SD,SB
 go_wp2_with fail
 refine wp_loop_rounds 1 ?_
 rw [rounds_succ]
 go_wp2_with fail
 go_ret
 exact⟨rfl,rfl⟩
theorem tl {α:Type} (eq:α→α→Bool):S9 eq [] []=true:=by rw [S9]
theorem um (a a':Option Addr)(c c':Nat)(xs ys:List Run)(w:SF)(h:Runs w a xs)(h':Runs w a' ys)(hl:xs.length≤4000000)(hl':ys.length≤4000000) :
 SJ Su 204 #[.slice a xs.length c,.slice a' ys.length c'] w fun e w'=>e=.returned (.bool (S9 mz xs ys))∧SN w.heap.size w w':=by
 by_cases hn:xs.length=ys.length
 · rcases h with rfl|⟨b,off,rfl,hb,hc⟩
   · obtain rfl:ys=[]:=SV hn.symm
     rw [tl]
     exact(pr a a' c c' w).mono fun e w' ⟨he,hw⟩=>⟨he,hw▸SX _ _⟩
   · rcases h' with rfl|⟨b',off',rfl,hb',hc'⟩
     · obtain rfl:xs=[]:=SV hn
       rw [tl]
       exact(pr _ a' c c' w).mono fun e w' ⟨he,hw⟩=>⟨he,hw▸SX _ _⟩
     · have h:=Tryz.slices_Equal_f204 5 (fun w=>by kernel_rfl) (fun w=>by kernel_rfl) Run.enc (fun _=>rfl) mz Sj b off xs.length c b' off' ys.length c' xs ys w (S5 _) (S5 _) (by omega) (by omega)
        (fun j hj i v hv=>(hc j _ (BW xs j hj)).1 i v hv) (fun j hj i v hv=>(hc' j _ (BW ys j hj)).1 i v hv)
       rw [SR,SR] at h
       exact h.mono fun e w' ⟨he,q,hw⟩=>⟨he,hw▸below_drewN (SX _ _) q⟩
 · rw [S_ mz xs ys hn]
   exact(zD a a' _ _ c c' w hn).mono fun e w' ⟨he,hw⟩=>⟨he,hw▸SX _ _⟩
theorem DJ (r s:Row)(w:SF)(h:r.lies w)(h':s.lies w)(hl:r.runs.length≤4000000)(hl':s.runs.length≤4000000) :
 SJ Su 148 #[.agg r.enc.toArray,.agg s.enc.toArray] w fun e w'=>e=.returned (.bool (tQ r s))∧SN w.heap.size w w':=by
 have hb2:∀ o o',SN w.heap.size w ((w.alloc o).alloc o'):=fun o o'=>((SX _ _).alloc (S5 _) _).alloc (by simp) _
 have HC:=h_ (fun o o'=>um r.at_ s.at_ r.cap s.cap r.runs s.runs ((w.alloc o).alloc o') (h.later (hb2 o o')) (h'.later (hb2 o o')) hl hl')
 have HB:=h_ (fun o o' w1 (h1:SN ((w.alloc o).alloc o').heap.size ((w.alloc o).alloc o') w1)=>(hb2 o o').trans (h1.mono (by simp;omega)))
 unfold tQ
 obtain⟨ra,rc,rr⟩:=r
 obtain⟨sa,sc,ss⟩:=s
 simp only [Row.enc] at HC ⊢
 generalize S9 mz rr ss=G at *
 clear hb2
 go_enter Tryz.func148,Tryz.ntmps148
 go_wp2_with fail
 refine(HC.out _ _).mono ?_
 rintro e w1 ⟨rfl,hb⟩
 have hb':=HB.out _ _ _ hb
 clear hb
 go_wp2_with fail
 go_ret
 exact⟨rfl,hb'⟩
theorem GI (a a':Option Addr)(n m c c':Nat)(v:SG)(w:SF)(h:¬ n=m):SJ Su 147 #[.slice a n c,.slice a' m c',v] w fun e w'=>e=.returned (.bool false)∧w=w':=by
 have h1:(n != m)=true:=by simpa using h
 have h2:((n:Int) != (m:Int))=true:=by simp;omega
 go_enter SE,SC
 go_wp2_with fail
 go_ret
 exact⟨rfl,rfl⟩
theorem JF {α:Type} (eq:α→α→Bool)(xs ys:List α)(k:Nat)(x y:α)(hx:xs[k]? =some x)(hy:ys[k]? =some y):S9 eq (xs.drop k) (ys.drop k)=(eq x y&&S9 eq (xs.drop (k+1)) (ys.drop (k+1))):=by
 rw [eT xs k x hx,eT ys k y hy,S9]
def xz (w:SF)(a:Option Addr)(xs:List Row):Prop:=af 1 Row.enc Row.lies w a xs
theorem B5 (a a':Option Addr)(c c':Nat)(xs ys:List Row)(w:SF)(h:xz w a xs)(h':xz w a' ys)(hf:∀ r∈xs,r.runs.length≤4000000)(hf':∀ r∈ys,r.runs.length≤4000000)(hl:xs.length≤4000000)(hn:xs.length=ys.length) :
 SJ Su 147 #[.slice a xs.length c,.slice a' ys.length c',.func (.func 148) #[] #[]] w fun e w'=>e=.returned (.bool (j8 xs ys))∧SN w.heap.size w w':=by
 generalize hG:j8 xs ys=G
 have H0:=h_ (show S9 tQ (xs.drop 0) (ys.drop 0)=G from hG)
 have HNN:=h_ hn
 rw [←hn]
 clear hG hn
 have h1:((xs.length:Int) != (xs.length:Int))=false:=by simp
 go_enter SE,SC
 go_wp2_with fail
 go_loopw [17] (fun i wr=>∃ k:Nat,k≤xs.length∧i=.int .i64 k∧S9 tQ (xs.drop k) (ys.drop k)=G∧SN w.heap.size w wr) (fun i _=>xs.length-(intOf i).toNat)
 case atStart=>exact⟨0,by omega,rfl,H0.out,SX _ _⟩
 case round =>
  obtain⟨k,hk,rfl,hp,hb⟩:=hrel
  by_cases hlt:k<xs.length
  · obtain⟨b,off,r,rfl,hbl,hx,hc,hok⟩:=(af.keeps Row.keeps _ _ _ _ hb h).at_ hlt
    obtain⟨b',off',s,rfl,Gg,hy,hc',hok'⟩:=(af.keeps Row.keeps _ _ _ _ hb h').at_ (show k<ys.length by rw [←HNN.out];exact hlt)
    rw [JF tQ xs ys k r s hx hy] at hp
    have hfr:=hf r (SW hx)
    have hfs:=hf' s (SW hy)
    have hb2:∀ o o',SN wr.heap.size wr ((wr.alloc o).alloc o'):=fun o o'=>((SX _ _).alloc (S5 _) _).alloc (by simp) _
    have HC:=h_ (fun o o'=>DJ r s ((wr.alloc o).alloc o') (Row.keeps _ _ _ (hb2 o o') hok) (Row.keeps _ _ _ (hb2 o o') hok') hfr hfs)
    have HB:=h_ (fun o o' w1 (h1:SN ((wr.alloc o).alloc o').heap.size ((wr.alloc o).alloc o') w1)=>hb.trans (((hb2 o o').trans (h1.mono (by simp;omega))).mono hb.size))
    have HP:=h_ hp
    generalize tQ r s=E at *
    obtain⟨ra,rc,rr⟩:=r
    obtain⟨sa,sc,ss⟩:=s
    simp only [Row.enc] at HC
    have d0:=hc 0 _ rfl
    have d0':=hc' 0 _ rfl
    simp only [S6,Nat.mul_one] at d0 d0'
    have dd:∀ o,(wr.alloc o).cell? ⟨b',off'+k,none⟩=some (.slice sa ss.length sc):=fun o=>(Td _ _ _ (by simpa using Gg)).trans d0'
    clear hc hc' hp hx hy hok hok' hb2 hfr hfs H0 d0'
    cases E
    · go_wp2_with (go_at_call 148;refine(HC.out _ _).mono ?_;rintro e w1 ⟨rfl,hb1⟩;have hb1':=HB.out _ _ _ hb1;clear hb1)
      go_ret
      exact⟨by rw [←HP.out];rfl,hb1'⟩
    · go_wp2_with (go_at_call 148;refine(HC.out _ _).mono ?_;rintro e w1 ⟨rfl,hb1⟩;have hb1':=HB.out _ _ _ hb1;clear hb1)
      go_roundw
      case rel=>exact⟨k+1,by omega,by go_num,by rw [←HP.out];simp,hb1'⟩
      case measure=>simp [intOf];omega
  · obtain rfl:k=xs.length:=by omega
    have hp2:true=G:=by
     rw [←hp,SQ,HNN.out,SQ,tl]
    have HP:=h_ hp2
    clear hp hp2 H0
    go_wp2_with fail
    go_ret
    exact⟨by rw [←HP.out];rfl,hb⟩
theorem og (a a':Option Addr)(c c':Nat)(xs ys:List Row)(w:SF)(h:xz w a xs)(h':xz w a' ys)(hf:∀ r∈xs,r.runs.length≤4000000)(hf':∀ r∈ys,r.runs.length≤4000000)(hl:xs.length≤4000000) :
 SJ Su 84 #[.slice a xs.length c,.slice a' ys.length c'] w fun e w'=>e=.returned (.bool (j8 xs ys))∧SN w.heap.size w w':=by
 have HC:Hid (SJ Su 147 #[.slice a xs.length c,.slice a' ys.length c',.func (.func 148) #[] #[]] w fun e w'=>e=.returned (.bool (j8 xs ys))∧SN w.heap.size w w'):=by
  apply h_
  by_cases hn:xs.length=ys.length
  · exact B5 a a' c c' xs ys w h h' hf hf' hl hn
  · rw [j8,S_ tQ xs ys hn]
    exact(GI a a' _ _ c c' _ w hn).mono fun e w' ⟨he,hw⟩=>⟨he,hw▸SX _ _⟩
 go_enter Tryz.func84,Tryz.ntmps84
 go_wp2_with fail
 refine HC.out.mono ?_
 rintro e w1 ⟨rfl,hb⟩
 go_wp2_with fail
 go_ret
 exact⟨rfl,hb⟩
def lJ {α:Type} (p:α→Bool):List α→Nat→Int
 | [],_=>-1
 | x::l,i=>if p x=true then (i:Int) else lJ p l (i+1)
def posOf {α:Type} (p:α→Bool)(xs:List α):Int:=lJ p xs 0
theorem Fv {α:Type} [Inhabited α] (p:α→Bool)(xs:List α):Lib.idxBy (fun _ y=>p y) xs default=posOf p xs:=by
 unfold Lib.idxBy posOf
 generalize 0=i
 induction xs generalizing i with
 | nil=>rfl
 | cons x l ih=>simp only [Lib.idxByFrom,lJ,ih]
theorem wY (x:Ev)(g:Nat)(id:Int)(w:SF)(hg:w.cell? ⟨g,0,none⟩=some (.int .i64 id))(hl:g<w.heap.size) :
 SJ Su 83 #[.agg x.enc.toArray,.pointer (some ⟨g,0,none⟩)] w fun e w'=>e=.returned (.bool (x.id==id))∧SN w.heap.size w w':=by
 obtain⟨id',inn,out,region,kind,speaker,a,cap,xs⟩:=x
 simp only [Ev.enc]
 have hg2:∀ o,(w.alloc o).cell? ⟨g,0,none⟩=some (.int .i64 id):=fun o=>(Td _ _ _ (by simpa using hl)).trans hg
 go_enter Tryz.func83,Tryz.ntmps83
 go_wp2_with fail
 go_ret
 exact⟨rfl,(SX _ _).alloc (S5 _) _⟩
theorem Ea (a:Option Addr)(cap:Nat)(v:SG)(w:SF):SJ Su 82 #[.slice a 0 cap,v] w fun e w'=>e=.returned (.int .i64 (-1))∧w=w':=by
 go_enter Tryz.func82,Tryz.ntmps82
 go_wp2_with fail
 refine wp_loop_rounds 1 ?_
 rw [rounds_succ]
 go_wp2_with fail
 go_ret
 exact⟨rfl,rfl⟩
instance:Inhabited Ev:=⟨⟨0,0,0,⟨#[]⟩,0,⟨#[]⟩,none,0,[]⟩⟩
def iI (id:Int)(x:Ev):Bool:=x.id==id
theorem BJ (a:Option Addr)(cap:Nat)(xs:List Ev)(g:Nat)(id:Int)(w:SF)(hr:kJ w a xs)(hl:xs.length≤4000000)(hg:w.cell? ⟨g,0,none⟩=some (.int .i64 id))(hgl:g<w.heap.size) :
 SJ Su 82 #[.slice a xs.length cap,.func (.func 83) #[] #[.pointer (some ⟨g,0,none⟩)]] w fun e w'=>e=.returned (.int .i64 (posOf (iI id) xs))∧SN w.heap.size w w':=by
 rcases hr with rfl|⟨b,off,rfl,hb,hc⟩
 · exact(Ea a cap _ w).mono fun e w' ⟨he,hw⟩=>⟨he,hw▸SX _ _⟩
 · have h:=Tryz.slices_IndexFunc 7 (fun w=>by kernel_rfl) (fun w=>by kernel_rfl) Ev.enc (fun _=>rfl) (iI id) 83 #[.pointer (some ⟨g,0,none⟩)] (fun args w=>by kernel_rfl) b off xs.length cap xs w
    (fun W x hW=>(wY x g id W ((hW.cell (p:=⟨g,0,none⟩) hgl).trans hg) (Nat.lt_of_lt_of_le hgl hW.size)).mono fun e w' ⟨he,hw⟩=>⟨he,hW.trans (hw.mono hW.size)⟩)
    (S5 _) (by omega) hb (fun j hj i v hv=>(hc j _ (BW xs j hj)).1 i v hv)
   rw [SR,Fv] at h
   exact h
theorem fC (d:Doc)(id:Int)(w:SF)(hr:kJ w d.ea d.eV)(hl:d.eV.length≤4000000) :
 SJ Su 27 #[.agg d.enc.toArray,.int .i64 id] w fun e w'=>e=.returned (.int .i64 (posOf (iI id) d.eV))∧SN w.heap.size w w':=by
 have hb2:=fun o=>((SX w.heap.size w).alloc (S5 _) o)
 have HC:=h_ (BJ d.ea d.ec d.eV (w.heap.size+1) id ((w.alloc (.cells d.enc.toArray 27)).alloc (.cells #[.int .i64 id] 2)) (hr.later (((SX _ _).alloc (S5 _) _).alloc (by simp) _)) hl (aS w d.enc.toArray #[.int .i64 id] 27 2 0 _ rfl _ (SX _ _)) (by simp))
 obtain⟨title,lang,rate,drop,last,ra,rc,rG,ea,ec,eV,ca,cc,cM⟩:=d
 simp only [Doc.enc] at HC ⊢
 clear hb2
 go_enter Tryz.func27,Tryz.ntmps27
 go_wp2_with fail
 refine HC.out.mono ?_
 rintro e w1 ⟨rfl,hb⟩
 have hb':=j4 (hb.mono (by simp))
 go_wp2_with fail
 go_ret
 exact⟨rfl,hb'⟩
def aN {α:Type} (p:α→Bool):List α→Nat→Option (α × Nat)
 | [],_=>none
 | x::l,i=>if p x=true then some (x,i) else aN p l (i+1)
theorem kR {α:Type} (p:α→Bool)(xs:List α)(k:Nat)(x:α)(h:xs[k]? =some x):aN p (xs.drop k) k=if p x=true then some (x,k) else aN p (xs.drop (k+1)) (k+1):=by
 rw [eT xs k x h,aN]
theorem pf {α:Type} (p:α→Bool):∀ (xs:List α)(i:Nat)(x:α)(k:Nat),aN p xs i=some (x,k)→i≤k∧xs[k-i]? =some x∧p x=true
 | [],i,x,k,h=>by simp [aN] at h
 | y::l,i,x,k,h=>by
   unfold aN at h
   split at h
   · rename_i hp
     simp only [Option.some.injEq,Prod.mk.injEq] at h
     obtain⟨rfl,rfl⟩:=h
     exact⟨S5 _,by simp,hp⟩
   · obtain⟨h1,h2,h3⟩:=pf p l (i+1) x k h
     refine⟨by omega,?_,h3⟩
     rw [show k-i=(k-(i+1))+1 by omega]
     simpa using h2
theorem lh {α:Type} (p:α→Bool):∀ (xs:List α)(i:Nat),(aN p xs i).map (·.1)=xs.find? p
 | [],i=>rfl
 | y::l,i=>by
   unfold aN
   rw [List.find?_cons]
   cases hp:p y
   · simp only [Bool.false_eq_true,if_false];exact lh p l (i+1)
   · simp
def first {α:Type} (p:α→Bool)(xs:List α):Option (α × Nat):=aN p xs 0
def aJ:Ev:=⟨0,0,0,⟨#[]⟩,0,⟨#[]⟩,none,0,[]⟩
def aM:Cm:=⟨0,0,0,0,⟨#[]⟩,⟨#[]⟩,false,false⟩
def sS:Option (Reg × Nat)→SG
 | some (x,i)=>.tuple #[.agg x.enc.toArray,.int .i64 i,.bool true]
 | none=>.tuple #[.agg aD.enc.toArray,.int .i64 (-1),.bool false]
def qn (r:Option (Reg × Nat))(w:SF)(e:SM)(w':SF):Prop:=e=.returned (sS r)∧SN w.heap.size w w'
theorem kU {Ok:SF→Reg→Prop} (hK:Keeps Ok)(a:Option Addr)(cap:Nat)(xs:List Reg)(nk:ByteArray)(w:SF)(h:af 7 Reg.enc Ok w a xs)(hl:xs.length≤8000000) :
 SJ Su 36 #[.slice a xs.length cap,.func (.func 35) #[] #[],.string nk] w (qn (first (fun x:Reg=>x.name.toList==nk.toList) xs) w):=by
 generalize hG:first (fun x:Reg=>x.name.toList==nk.toList) xs=G
 have H0:=h_ (show aN (fun x:Reg=>x.name.toList==nk.toList) (xs.drop 0) 0=G from hG)
 have tG:=h_ (fun(w':SF) (hb:SN w.heap.size w w')=>af.keeps hK _ _ _ _ hb h)
 have HQ:=h_ (fun(w':SF) (v:SG) (h:sS G=v) (hb:SN w.heap.size w w')=>(show qn G w (.returned v) w' from⟨by rw [h],hb⟩))
 have tK:=h_ (fun(p:Reg→Bool) (k:Nat) (x:Reg) (hx:xs[k]? =some x)=>kR p xs k x hx)
 generalize qn G w=Q at *
 obtain⟨zc,hzc⟩:∃ zc:Array SG,zc=#[.string ⟨#[]⟩,.int .i64 0,.int .i64 0,.int .i64 0,.int .i64 0,.int .u8 0,.bool false]:=⟨_,rfl⟩
 have HB0:=h_ (fun(w1:SF) (hb:SN (w.heap.size+1) (w.alloc (.cells zc 44)) w1)=>(show SN w.heap.size w w1 from aU hb))
 have HZ:=h_ (fun(w1:SF) (hb:SN (w.heap.size+1) (w.alloc (.cells zc 44)) w1)=>(show w1.heap[w.heap.size]? =some (.cells zc 44 (0,0)) by
  rw [hb.block _ (by omega)]
  exact SH w _))
 have sM:SN (w.heap.size+1) (w.alloc (.cells zc 44)) (w.alloc (.cells zc 44)):=SX _ _
 have hsz:(w.alloc (.cells zc 44)).heap.size=w.heap.size+1:=Tc _ _
 rw [hzc] at HB0 sM hsz HZ
 generalize hW0:w.alloc (.cells #[.string ⟨#[]⟩,.int .i64 0,.int .i64 0,.int .i64 0,.int .i64 0,.int .u8 0,.bool false] 44)=W0 at *
 have HW0:=h_ hW0
 have bu:=h_ hsz
 clear hW0 hsz hG h hzc zc
 go_enter Tryz.func36,Tryz.ntmps36
 go_wp2_with fail
 rw [HW0.out]
 go_loopw [14] (fun i wr=>∃ k:Nat,k≤xs.length∧i=.int .i64 k∧aN (fun x:Reg=>x.name.toList==nk.toList) (xs.drop k) k=G∧SN (w.heap.size+1) W0 wr) (fun i _=>xs.length-(intOf i).toNat)
 case atStart=>exact⟨0,by omega,rfl,H0.out,sM⟩
 case round =>
  obtain⟨k,hk,rfl,hp,hb⟩:=hrel
  have hbs:w.heap.size+1≤wr.heap.size:=by have:=hb.size;rw [bu.out] at this;exact this
  by_cases hlt:k<xs.length
  · obtain⟨b,off,x,rfl,hbl,hxk,hc,_⟩:=(tG.out _ (HB0.out _ hb)).at_ hlt
    rw [tK.out (fun x:Reg=>x.name.toList==nk.toList) k x hxk] at hp
    have mG:=h_ (fun o=>sI x (wr.alloc o))
    have mg:=h_ (fun(o:Array SG) (w2:SF) (h1:SN (wr.alloc (.cells o 44)).heap.size (wr.alloc (.cells o 44)) w2)=>(show SN (w.heap.size+1) W0 w2∧w2.heap[wr.heap.size]? =some (.cells o 44 (0,0)) from
     ⟨(hb.alloc hbs _).trans (h1.mono (by simp;omega)),by rw [h1.block _ (by simp)];exact SH wr _⟩))
    have d0:=hc 0 _ rfl;have d1:=hc 1 _ rfl;have d2:=hc 2 _ rfl;have d3:=hc 3 _ rfl;have d4:=hc 4 _ rfl;have d5:=hc 5 _ rfl;have d6:=hc 6 _ rfl
    obtain⟨nm,top,aK,left,width,align,bottom⟩:=x
    simp only [Reg.enc,S6] at mG d0 d1 d2 d3 d4 d5 d6 hp
    clear hc hxk
    cases hkq:(nm.toList==nk.toList)
    · rw [if_neg (by rw [hkq];decide)] at hp
      have HP:=h_ hp
      clear hp H0
      go_wp2_with fail
      refine(mG.out _).mono ?_
      rintro e w1 ⟨rfl,hb1⟩
      have HB1:=h_ (mg.out _ _ hb1).1
      clear hb1 mG mg d0 d1 d2 d3 d4 d5 d6
      go_wp2_with fail
      go_roundw
      case rel=>exact⟨k+1,by omega,by go_num,HP.out,HB1.out⟩
      case measure=>simp [intOf];omega
    · rw [if_pos hkq] at hp
      have HP:=h_ hp
      clear hp H0
      go_wp2_with fail
      refine(mG.out _).mono ?_
      rintro e w1 ⟨rfl,hb1⟩
      obtain⟨hb2,hx2⟩:=mg.out _ _ hb1
      have hz2:=HZ.out _ hb2
      have HB1:=h_ hb2
      clear hb1 hb2 mG mg d0 d1 d2 d3 d4 d5 d6
      have c1:∀ j,w1.cell? ⟨wr.heap.size,j,none⟩=_:=fun j=>SI _ _ j _ 44 (0,0) hx2
      have c2:∀ j,w1.cell? ⟨w.heap.size,j,none⟩=_:=fun j=>SI _ _ j _ 44 (0,0) hz2
      have z2:∀ j,w1.frozen? ⟨w.heap.size,j,none⟩=false:=fun j=>by simp [Ta,hz2]
      clear hx2 hz2
      go_wp2_with fail
      refine SK (v:=.tuple #[.agg #[.string nm,.int .i64 top,.int .i64 aK,.int .i64 left,.int .i64 width,.int .u8 align,.bool bottom],.int .i64 k,.bool true]) (by simp [results,SA,go_sem,c2]) rfl ?_
      refine HQ.out _ _ (by rw [←HP.out];rfl) ?_
      repeat refine SY ?_ (by simp only;omega) _
      exact HB0.out _ HB1.out
  · obtain rfl:k=xs.length:=by omega
    rw [SQ,aN] at hp
    have HP:=h_ hp
    have hz2:=HZ.out _ hb
    have HB1:=h_ hb
    have hz3:∀ o:Obj,(wr.alloc o).heap[w.heap.size]? =some (.cells #[.string ⟨#[]⟩,.int .i64 0,.int .i64 0,.int .i64 0,.int .i64 0,.int .u8 0,.bool false] 44 (0,0)):=fun o=>(SZ wr o _ (by omega)).trans hz2
    have c2:∀ (o:Obj) (j:Nat),(wr.alloc o).cell? ⟨w.heap.size,j,none⟩=_:=fun o j=>SI _ _ j _ 44 (0,0) (hz3 o)
    have z2:∀ (o:Obj) (j:Nat),(wr.alloc o).frozen? ⟨w.heap.size,j,none⟩=false:=fun o j=>by simp [Ta,hz3 o]
    clear hp hz2 hz3 H0 hb
    go_wp2_with fail
    refine SK (v:=.tuple #[.agg #[.string ⟨#[]⟩,.int .i64 0,.int .i64 0,.int .i64 0,.int .i64 0,.int .u8 0,.bool false],.int .i64 (-1),.bool false]) (by simp [results,SA,go_sem,c2]) rfl ?_
    refine HQ.out _ _ (by rw [←HP.out];rfl) ?_
    repeat refine SY ?_ (by simp only;omega) _
    exact HB0.out _ (HB1.out.alloc hbs _)
def sR:Option (Ev × Nat)→SG
 | some (x,i)=>.tuple #[.agg x.enc.toArray,.int .i64 i,.bool true]
 | none=>.tuple #[.agg aJ.enc.toArray,.int .i64 (-1),.bool false]
def qm (r:Option (Ev × Nat))(w:SF)(e:SM)(w':SF):Prop:=e=.returned (sR r)∧SN w.heap.size w w'
theorem kT {Ok:SF→Ev→Prop} (hK:Keeps Ok)(a:Option Addr)(cap:Nat)(xs:List Ev)(nk:Int)(w:SF)(h:af 7 Ev.enc Ok w a xs)(hl:xs.length≤8000000) :
 SJ Su 39 #[.slice a xs.length cap,.func (.func 38) #[] #[],.int .i64 nk] w (qm (first (fun x:Ev=>x.id==nk) xs) w):=by
 generalize hG:first (fun x:Ev=>x.id==nk) xs=G
 have H0:=h_ (show aN (fun x:Ev=>x.id==nk) (xs.drop 0) 0=G from hG)
 have tG:=h_ (fun(w':SF) (hb:SN w.heap.size w w')=>af.keeps hK _ _ _ _ hb h)
 have HQ:=h_ (fun(w':SF) (v:SG) (h:sR G=v) (hb:SN w.heap.size w w')=>(show qm G w (.returned v) w' from⟨by rw [h],hb⟩))
 have tK:=h_ (fun(p:Ev→Bool) (k:Nat) (x:Ev) (hx:xs[k]? =some x)=>kR p xs k x hx)
 generalize qm G w=Q at *
 obtain⟨zc,hzc⟩:∃ zc:Array SG,zc=#[.int .i64 0,.int .i64 0,.int .i64 0,.string ⟨#[]⟩,.int .u8 0,.string ⟨#[]⟩,.slice none 0 0]:=⟨_,rfl⟩
 have HB0:=h_ (fun(w1:SF) (hb:SN (w.heap.size+1) (w.alloc (.cells zc 50)) w1)=>(show SN w.heap.size w w1 from aU hb))
 have HZ:=h_ (fun(w1:SF) (hb:SN (w.heap.size+1) (w.alloc (.cells zc 50)) w1)=>(show w1.heap[w.heap.size]? =some (.cells zc 50 (0,0)) by
  rw [hb.block _ (by omega)]
  exact SH w _))
 have sM:SN (w.heap.size+1) (w.alloc (.cells zc 50)) (w.alloc (.cells zc 50)):=SX _ _
 have hsz:(w.alloc (.cells zc 50)).heap.size=w.heap.size+1:=Tc _ _
 rw [hzc] at HB0 sM hsz HZ
 generalize hW0:w.alloc (.cells #[.int .i64 0,.int .i64 0,.int .i64 0,.string ⟨#[]⟩,.int .u8 0,.string ⟨#[]⟩,.slice none 0 0] 50)=W0 at *
 have HW0:=h_ hW0
 have bu:=h_ hsz
 clear hW0 hsz hG h hzc zc
 go_enter Tryz.func39,Tryz.ntmps39
 go_wp2_with fail
 rw [HW0.out]
 go_loopw [14] (fun i wr=>∃ k:Nat,k≤xs.length∧i=.int .i64 k∧aN (fun x:Ev=>x.id==nk) (xs.drop k) k=G∧SN (w.heap.size+1) W0 wr) (fun i _=>xs.length-(intOf i).toNat)
 case atStart=>exact⟨0,by omega,rfl,H0.out,sM⟩
 case round =>
  obtain⟨k,hk,rfl,hp,hb⟩:=hrel
  have hbs:w.heap.size+1≤wr.heap.size:=by have:=hb.size;rw [bu.out] at this;exact this
  by_cases hlt:k<xs.length
  · obtain⟨b,off,x,rfl,hbl,hxk,hc,_⟩:=(tG.out _ (HB0.out _ hb)).at_ hlt
    rw [tK.out (fun x:Ev=>x.id==nk) k x hxk] at hp
    have mG:=h_ (fun o=>sH x (wr.alloc o))
    have mg:=h_ (fun(o:Array SG) (w2:SF) (h1:SN (wr.alloc (.cells o 50)).heap.size (wr.alloc (.cells o 50)) w2)=>(show SN (w.heap.size+1) W0 w2∧w2.heap[wr.heap.size]? =some (.cells o 50 (0,0)) from
     ⟨(hb.alloc hbs _).trans (h1.mono (by simp;omega)),by rw [h1.block _ (by simp)];exact SH wr _⟩))
    have d0:=hc 0 _ rfl;have d1:=hc 1 _ rfl;have d2:=hc 2 _ rfl;have d3:=hc 3 _ rfl;have d4:=hc 4 _ rfl;have d5:=hc 5 _ rfl;have d6:=hc 6 _ rfl
    obtain⟨id,inn,out,reg,kind,sp,xa,xc,xr⟩:=x
    simp only [Ev.enc,S6] at mG d0 d1 d2 d3 d4 d5 d6 hp
    clear hc hxk
    cases hkq:(id==nk)
    · rw [if_neg (by rw [hkq];decide)] at hp
      have HP:=h_ hp
      clear hp H0
      go_wp2_with fail
      refine(mG.out _).mono ?_
      rintro e w1 ⟨rfl,hb1⟩
      have HB1:=h_ (mg.out _ _ hb1).1
      clear hb1 mG mg d0 d1 d2 d3 d4 d5 d6
      go_wp2_with fail
      go_roundw
      case rel=>exact⟨k+1,by omega,by go_num,HP.out,HB1.out⟩
      case measure=>simp [intOf];omega
    · rw [if_pos hkq] at hp
      have HP:=h_ hp
      clear hp H0
      go_wp2_with fail
      refine(mG.out _).mono ?_
      rintro e w1 ⟨rfl,hb1⟩
      obtain⟨hb2,hx2⟩:=mg.out _ _ hb1
      have hz2:=HZ.out _ hb2
      have HB1:=h_ hb2
      clear hb1 hb2 mG mg d0 d1 d2 d3 d4 d5 d6
      have c1:∀ j,w1.cell? ⟨wr.heap.size,j,none⟩=_:=fun j=>SI _ _ j _ 50 (0,0) hx2
      have c2:∀ j,w1.cell? ⟨w.heap.size,j,none⟩=_:=fun j=>SI _ _ j _ 50 (0,0) hz2
      have z2:∀ j,w1.frozen? ⟨w.heap.size,j,none⟩=false:=fun j=>by simp [Ta,hz2]
      clear hx2 hz2
      go_wp2_with fail
      refine SK (v:=.tuple #[.agg #[.int .i64 id,.int .i64 inn,.int .i64 out,.string reg,.int .u8 kind,.string sp,.slice xa xr.length xc],.int .i64 k,.bool true]) (by simp [results,Sz,go_sem,c2]) rfl ?_
      refine HQ.out _ _ (by rw [←HP.out];rfl) ?_
      repeat refine SY ?_ (by simp only;omega) _
      exact HB0.out _ HB1.out
  · obtain rfl:k=xs.length:=by omega
    rw [SQ,aN] at hp
    have HP:=h_ hp
    have hz2:=HZ.out _ hb
    have HB1:=h_ hb
    have hz3:∀ o:Obj,(wr.alloc o).heap[w.heap.size]? =some (.cells #[.int .i64 0,.int .i64 0,.int .i64 0,.string ⟨#[]⟩,.int .u8 0,.string ⟨#[]⟩,.slice none 0 0] 50 (0,0)):=fun o=>(SZ wr o _ (by omega)).trans hz2
    have c2:∀ (o:Obj) (j:Nat),(wr.alloc o).cell? ⟨w.heap.size,j,none⟩=_:=fun o j=>SI _ _ j _ 50 (0,0) (hz3 o)
    have z2:∀ (o:Obj) (j:Nat),(wr.alloc o).frozen? ⟨w.heap.size,j,none⟩=false:=fun o j=>by simp [Ta,hz3 o]
    clear hp hz2 hz3 H0 hb
    go_wp2_with fail
    refine SK (v:=.tuple #[.agg #[.int .i64 0,.int .i64 0,.int .i64 0,.string ⟨#[]⟩,.int .u8 0,.string ⟨#[]⟩,.slice none 0 0],.int .i64 (-1),.bool false]) (by simp [results,Sz,go_sem,c2]) rfl ?_
    refine HQ.out _ _ (by rw [←HP.out];rfl) ?_
    repeat refine SY ?_ (by simp only;omega) _
    exact HB0.out _ (HB1.out.alloc hbs _)
def sQ:Option (Cm × Nat)→SG
 | some (x,i)=>.tuple #[.agg x.enc.toArray,.int .i64 i,.bool true]
 | none=>.tuple #[.agg aM.enc.toArray,.int .i64 (-1),.bool false]
def ql (r:Option (Cm × Nat))(w:SF)(e:SM)(w':SF):Prop:=e=.returned (sQ r)∧SN w.heap.size w w'
theorem kS {Ok:SF→Cm→Prop} (hK:Keeps Ok)(a:Option Addr)(cap:Nat)(xs:List Cm)(nk:Int)(w:SF)(h:af 8 Cm.enc Ok w a xs)(hl:xs.length≤8000000) :
 SJ Su 43 #[.slice a xs.length cap,.func (.func 42) #[] #[],.int .i64 nk] w (ql (first (fun x:Cm=>x.id==nk) xs) w):=by
 generalize hG:first (fun x:Cm=>x.id==nk) xs=G
 have H0:=h_ (show aN (fun x:Cm=>x.id==nk) (xs.drop 0) 0=G from hG)
 have tG:=h_ (fun(w':SF) (hb:SN w.heap.size w w')=>af.keeps hK _ _ _ _ hb h)
 have HQ:=h_ (fun(w':SF) (v:SG) (h:sQ G=v) (hb:SN w.heap.size w w')=>(show ql G w (.returned v) w' from⟨by rw [h],hb⟩))
 have tK:=h_ (fun(p:Cm→Bool) (k:Nat) (x:Cm) (hx:xs[k]? =some x)=>kR p xs k x hx)
 generalize ql G w=Q at *
 obtain⟨zc,hzc⟩:∃ zc:Array SG,zc=#[.int .i64 0,.int .i64 0,.int .i64 0,.int .i64 0,.string ⟨#[]⟩,.string ⟨#[]⟩,.bool false,.bool false]:=⟨_,rfl⟩
 have HB0:=h_ (fun(w1:SF) (hb:SN (w.heap.size+1) (w.alloc (.cells zc 52)) w1)=>(show SN w.heap.size w w1 from aU hb))
 have HZ:=h_ (fun(w1:SF) (hb:SN (w.heap.size+1) (w.alloc (.cells zc 52)) w1)=>(show w1.heap[w.heap.size]? =some (.cells zc 52 (0,0)) by
  rw [hb.block _ (by omega)]
  exact SH w _))
 have sM:SN (w.heap.size+1) (w.alloc (.cells zc 52)) (w.alloc (.cells zc 52)):=SX _ _
 have hsz:(w.alloc (.cells zc 52)).heap.size=w.heap.size+1:=Tc _ _
 rw [hzc] at HB0 sM hsz HZ
 generalize hW0:w.alloc (.cells #[.int .i64 0,.int .i64 0,.int .i64 0,.int .i64 0,.string ⟨#[]⟩,.string ⟨#[]⟩,.bool false,.bool false] 52)=W0 at *
 have HW0:=h_ hW0
 have bu:=h_ hsz
 clear hW0 hsz hG h hzc zc
 go_enter Tryz.func43,Tryz.ntmps43
 go_wp2_with fail
 rw [HW0.out]
 go_loopw [14] (fun i wr=>∃ k:Nat,k≤xs.length∧i=.int .i64 k∧aN (fun x:Cm=>x.id==nk) (xs.drop k) k=G∧SN (w.heap.size+1) W0 wr) (fun i _=>xs.length-(intOf i).toNat)
 case atStart=>exact⟨0,by omega,rfl,H0.out,sM⟩
 case round =>
  obtain⟨k,hk,rfl,hp,hb⟩:=hrel
  have hbs:w.heap.size+1≤wr.heap.size:=by have:=hb.size;rw [bu.out] at this;exact this
  by_cases hlt:k<xs.length
  · obtain⟨b,off,x,rfl,hbl,hxk,hc,_⟩:=(tG.out _ (HB0.out _ hb)).at_ hlt
    rw [tK.out (fun x:Cm=>x.id==nk) k x hxk] at hp
    have mG:=h_ (fun o=>sG x (wr.alloc o))
    have mg:=h_ (fun(o:Array SG) (w2:SF) (h1:SN (wr.alloc (.cells o 52)).heap.size (wr.alloc (.cells o 52)) w2)=>(show SN (w.heap.size+1) W0 w2∧w2.heap[wr.heap.size]? =some (.cells o 52 (0,0)) from
     ⟨(hb.alloc hbs _).trans (h1.mono (by simp;omega)),by rw [h1.block _ (by simp)];exact SH wr _⟩))
    have d0:=hc 0 _ rfl;have d1:=hc 1 _ rfl;have d2:=hc 2 _ rfl;have d3:=hc 3 _ rfl;have d4:=hc 4 _ rfl;have d5:=hc 5 _ rfl;have d6:=hc 6 _ rfl;have d7:=hc 7 _ rfl
    obtain⟨id,ev,frm,til,au,tx,dn,lo⟩:=x
    simp only [Cm.enc,S6] at mG d0 d1 d2 d3 d4 d5 d6 d7 hp
    clear hc hxk
    cases hkq:(id==nk)
    · rw [if_neg (by rw [hkq];decide)] at hp
      have HP:=h_ hp
      clear hp H0
      go_wp2_with fail
      refine(mG.out _).mono ?_
      rintro e w1 ⟨rfl,hb1⟩
      have HB1:=h_ (mg.out _ _ hb1).1
      clear hb1 mG mg d0 d1 d2 d3 d4 d5 d6 d7
      go_wp2_with fail
      go_roundw
      case rel=>exact⟨k+1,by omega,by go_num,HP.out,HB1.out⟩
      case measure=>simp [intOf];omega
    · rw [if_pos hkq] at hp
      have HP:=h_ hp
      clear hp H0
      go_wp2_with fail
      refine(mG.out _).mono ?_
      rintro e w1 ⟨rfl,hb1⟩
      obtain⟨hb2,hx2⟩:=mg.out _ _ hb1
      have hz2:=HZ.out _ hb2
      have HB1:=h_ hb2
      clear hb1 hb2 mG mg d0 d1 d2 d3 d4 d5 d6 d7
      have c1:∀ j,w1.cell? ⟨wr.heap.size,j,none⟩=_:=fun j=>SI _ _ j _ 52 (0,0) hx2
      have c2:∀ j,w1.cell? ⟨w.heap.size,j,none⟩=_:=fun j=>SI _ _ j _ 52 (0,0) hz2
      have z2:∀ j,w1.frozen? ⟨w.heap.size,j,none⟩=false:=fun j=>by simp [Ta,hz2]
      clear hx2 hz2
      go_wp2_with fail
      refine SK (v:=.tuple #[.agg #[.int .i64 id,.int .i64 ev,.int .i64 frm,.int .i64 til,.string au,.string tx,.bool dn,.bool lo],.int .i64 k,.bool true]) (by simp [results,Sy,go_sem,c2]) rfl ?_
      refine HQ.out _ _ (by rw [←HP.out];rfl) ?_
      repeat refine SY ?_ (by simp only;omega) _
      exact HB0.out _ HB1.out
  · obtain rfl:k=xs.length:=by omega
    rw [SQ,aN] at hp
    have HP:=h_ hp
    have hz2:=HZ.out _ hb
    have HB1:=h_ hb
    have hz3:∀ o:Obj,(wr.alloc o).heap[w.heap.size]? =some (.cells #[.int .i64 0,.int .i64 0,.int .i64 0,.int .i64 0,.string ⟨#[]⟩,.string ⟨#[]⟩,.bool false,.bool false] 52 (0,0)):=fun o=>(SZ wr o _ (by omega)).trans hz2
    have c2:∀ (o:Obj) (j:Nat),(wr.alloc o).cell? ⟨w.heap.size,j,none⟩=_:=fun o j=>SI _ _ j _ 52 (0,0) (hz3 o)
    have z2:∀ (o:Obj) (j:Nat),(wr.alloc o).frozen? ⟨w.heap.size,j,none⟩=false:=fun o j=>by simp [Ta,hz3 o]
    clear hp hz2 hz3 H0 hb
    go_wp2_with fail
    refine SK (v:=.tuple #[.agg #[.int .i64 0,.int .i64 0,.int .i64 0,.int .i64 0,.string ⟨#[]⟩,.string ⟨#[]⟩,.bool false,.bool false],.int .i64 (-1),.bool false]) (by simp [results,Sy,go_sem,c2]) rfl ?_
    refine HQ.out _ _ (by rw [←HP.out];rfl) ?_
    repeat refine SY ?_ (by simp only;omega) _
    exact HB0.out _ (HB1.out.alloc hbs _)
structure Hd where
 title:ByteArray
 lang:ByteArray
 rate:Int
 drop:Bool
 last:Int
def Hd.enc (h:Hd):List SG:=[.string h.title,.string h.lang,.int .u8 h.rate,.bool h.drop,.int .i64 h.last]
def Doc.hd (d:Doc):Hd:=⟨d.title,d.lang,d.rate,d.drop,d.last⟩
def hdEq (a b:Hd):Bool:=a.title.toList==b.title.toList&&a.lang.toList==b.lang.toList&&a.rate==b.rate&&a.drop==b.drop&&a.last==b.last
theorem Iy (a b:Hd)(w:SF):(binOp .eql 41 (.agg a.enc.toArray) (.agg b.enc.toArray)).run Su w=.ok (.bool (hdEq a b)) w:=by
 simp [go_sem,Hd.enc,hdEq]
 repeat' split
 all_goals simp_all
theorem Ix (a b:Hd)(w:SF):(binOp .neq 41 (.agg a.enc.toArray) (.agg b.enc.toArray)).run Su w=.ok (.bool (!hdEq a b)) w:=by
 simp [go_sem,Hd.enc,hdEq]
 repeat' split
 all_goals simp_all
theorem j3 (d:Doc)(w:SF):SJ Su 33 #[.agg d.enc.toArray] w fun e w'=>e=.returned (.agg d.hd.enc.toArray)∧SN w.heap.size w w':=by
 obtain⟨title,lang,rate,drop,last,ra,rc,rG,ea,ec,eV,ca,cc,cM⟩:=d
 simp only [Doc.enc,Doc.hd,Hd.enc]
 generalize hQ:(fun(e:SM) (w':SF)=>e=.returned (.agg [Tf title,.string lang,.int .u8 rate,.bool drop,.int .i64 last].toArray)∧SN w.heap.size w w')=Q
 have HQ:=h_ (fun w' (hb:SN w.heap.size w w')=>show Q (.returned (.agg #[Tf title,.string lang,.int .u8 rate,.bool drop,.int .i64 last])) w' from hQ▸⟨rfl,hb⟩)
 clear hQ
 go_enter Tryz.func33,Tryz.ntmps33
 go_wp2_with fail
 refine SK (v:=.agg #[Tf title,.string lang,.int .u8 rate,.bool drop,.int .i64 last]) (by simp [results,Tryz.results33,go_sem]) rfl (HQ.out _ ?_)
 exact(((SX _ _).alloc (S5 _) _).alloc (by simp) _)
def evEq (x y:Ev):Bool:=x.id==y.id&&(x.inn==y.inn&&x.out==y.out)&&x.region.toList==y.region.toList&&x.kind==y.kind&&x.speaker.toList==y.speaker.toList&&j8 x.rows y.rows
theorem DL (a b c d:Int)(w:SF):(binOp .eql 46 (.agg #[.int .i64 a,.int .i64 b]) (.agg #[.int .i64 c,.int .i64 d])).run Su w=.ok (.bool (a==c&&b==d)) w:=by
 simp [go_sem]
 repeat' split
 all_goals simp_all
theorem fY (x y:Ev)(w:SF)(h:x.lies w)(h':y.lies w)(hf:∀ r∈x.rows,r.runs.length≤4000000)(hf':∀ r∈y.rows,r.runs.length≤4000000)(hl:x.rows.length≤4000000) :
 SJ Su 28 #[.agg x.enc.toArray,.agg y.enc.toArray] w fun e w'=>e=.returned (.bool (evEq x y))∧SN w.heap.size w w':=by
 have hb2:∀ o o',SN w.heap.size w ((w.alloc o).alloc o'):=fun o o'=>((SX _ _).alloc (S5 _) _).alloc (by simp) _
 have HC:=h_ (fun o o'=>og x.at_ y.at_ x.cap y.cap x.rows y.rows ((w.alloc o).alloc o') (ft.later h (hb2 o o')) (ft.later h' (hb2 o o')) hf hf' hl)
 have HB:=h_ (fun o o' w1 (h1:SN ((w.alloc o).alloc o').heap.size ((w.alloc o).alloc o') w1)=>(hb2 o o').trans (h1.mono (by simp;omega)))
 have HB0:=h_ hb2
 have hE:evEq x y=(x.id==y.id&&(x.inn==y.inn&&x.out==y.out)&&x.region.toList==y.region.toList&&x.kind==y.kind&&x.speaker.toList==y.speaker.toList&&j8 x.rows y.rows):=rfl
 generalize hQ:(fun(e:SM) (w':SF)=>e=.returned (.bool (evEq x y))∧SN w.heap.size w w')=Q
 generalize j8 x.rows y.rows=G at HC hE
 obtain⟨id,inn,out,reg,kind,sp,xa,xc,xr⟩:=x
 obtain⟨id',inn',out',reg',kind',sp',ya,yc,yr⟩:=y
 simp only [Ev.enc] at *
 have hsp:=DL inn out inn' out'
 rcases Tg (id==id') with h1|h1
 rotate_left
 · rw [h1] at hE
   have HQ:=h_ (fun w' (hb:SN w.heap.size w w')=>show Q (.returned (.bool false)) w' from hQ▸⟨by rw [hE];rfl,hb⟩)
   clear hQ hE hb2 h h' hf hf' hsp
   go_enter Sw,Sv
   go_wp2_with fail
   exact HQ.out _ (HB0.out _ _)
 rcases Tg (inn==inn'&&out==out') with h2|h2
 rotate_left
 · rw [h1,h2] at hE
   rw [h2] at hsp
   have HQ:=h_ (fun w' (hb:SN w.heap.size w w')=>show Q (.returned (.bool false)) w' from hQ▸⟨by rw [hE];rfl,hb⟩)
   clear hQ hE hb2 h h' hf hf' h2
   go_enter Sw,Sv
   go_wp2_with fail
   exact HQ.out _ (HB0.out _ _)
 rcases Tg (reg.toList==reg'.toList) with h3|h3
 rotate_left
 · rw [h1,h2,h3] at hE
   rw [h2] at hsp
   have HQ:=h_ (fun w' (hb:SN w.heap.size w w')=>show Q (.returned (.bool false)) w' from hQ▸⟨by rw [hE];rfl,hb⟩)
   clear hQ hE hb2 h h' hf hf' h2
   go_enter Sw,Sv
   go_wp2_with fail
   exact HQ.out _ (HB0.out _ _)
 rcases Tg (kind==kind') with h4|h4
 rotate_left
 · rw [h1,h2,h3,h4] at hE
   rw [h2] at hsp
   have HQ:=h_ (fun w' (hb:SN w.heap.size w w')=>show Q (.returned (.bool false)) w' from hQ▸⟨by rw [hE];rfl,hb⟩)
   clear hQ hE hb2 h h' hf hf' h2
   go_enter Sw,Sv
   go_wp2_with fail
   exact HQ.out _ (HB0.out _ _)
 rcases Tg (sp.toList==sp'.toList) with h5|h5
 rotate_left
 · rw [h1,h2,h3,h4,h5] at hE
   rw [h2] at hsp
   have HQ:=h_ (fun w' (hb:SN w.heap.size w w')=>show Q (.returned (.bool false)) w' from hQ▸⟨by rw [hE];rfl,hb⟩)
   clear hQ hE hb2 h h' hf hf' h2
   go_enter Sw,Sv
   go_wp2_with fail
   exact HQ.out _ (HB0.out _ _)
 rw [h1,h2,h3,h4,h5] at hE
 rw [h2] at hsp
 have HQ:=h_ (fun w' (hb:SN w.heap.size w w')=>show Q (.returned (.bool G)) w' from hQ▸⟨by rw [hE];rfl,hb⟩)
 clear hQ hE hb2 h h' hf hf' h2
 go_enter Sw,Sv
 go_wp2_with fail
 refine(HC.out _ _).mono ?_
 rintro e w1 ⟨rfl,hb⟩
 have iz:=h_ (HB.out _ _ _ hb)
 clear hb
 go_wp2_with fail
 exact HQ.out _ iz.out
end Go.Proofs.YtnlnmbcaongehaaGreatDoor
