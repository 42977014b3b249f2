/- merge.comments: the comments of the merged document. (printed by gen_mgcomments2.py) -/
import Derived.Test.YtnlnmbcaongehaaGreatDoorM20
import Derived.Test.YtnlnmbcaongehaaGreatDoorM24
set_option linter.unusedVariables false
set_option linter.unusedSimpArgs false
set_option maxRecDepth 100000
set_option maxHeartbeats 12800000
open Go.Lib renaming hid→h_
open Go renaming heap_alloc_last→fm,cell_of_row→fp,World→ft
open Go.RowKit renaming Below→fu
open Go.RowKit.Below renaming heap_alloc→fw,refl→fB
open Go.World renaming size_alloc→fC
open Go.Instr renaming lookup→fD
open Go.Value renaming int→fE,map→fF,pointer→fG
open Nat renaming lt_of_lt_of_le→fH,le_trans→fI,le_refl→fJ
open List renaming append_nil→fK,append_assoc→fL
namespace Go.Proofs.YtnlnmbcaongehaaGreatDoor
open Go.RowKit
theorem zkV (w:ft)(ps xs ys zs:Array Value)(T U:TypeId)(wx:ft)(h:fu (w.heap.size+4) ((((w.alloc (.cells ps U)).alloc (.cells xs T)).alloc (.cells ys T)).alloc (.cells zs T)) wx) :
 wx.heap[w.heap.size]? =some (.cells ps U (0,0))∧wx.heap[w.heap.size+1]? =some (.cells xs T (0,0))∧wx.heap[w.heap.size+1+1]? =some (.cells ys T (0,0))∧wx.heap[w.heap.size+1+1+1]? =some (.cells zs T (0,0)):=by
 refine⟨?_,?_,?_,?_⟩
 · rw [h.block _ (by omega),fw _ _ _ (by simp;try omega),fw _ _ _ (by simp;try omega),fw _ _ _ (by simp)]
   exact fm w _
 · rw [h.block _ (by omega),fw _ _ _ (by simp;try omega),fw _ _ _ (by simp)]
   have:=fm (w.alloc (.cells ps U)) (.cells xs T)
   rwa [fC] at this
 · rw [h.block _ (by omega),fw _ _ _ (by simp)]
   have:=fm ((w.alloc (.cells ps U)).alloc (.cells xs T)) (.cells ys T)
   rwa [fC,fC] at this
 · rw [h.block _ (by omega)]
   have:=fm (((w.alloc (.cells ps U)).alloc (.cells xs T)).alloc (.cells ys T)) (.cells zs T)
   rwa [fC,fC,fC] at this
theorem zfs (w:ft)(o1 o2 o3 o4:Obj):fu w.heap.size w ((((w.alloc o1).alloc o2).alloc o3).alloc o4):=aS w o1 o2 o3 o4
def zfJ (txs:List EvC)(x y z:DocC)(m:Mg)(B g:Nat)(ids:List Int)(w:ft)(k:Nat)(wr:ft):Prop :=
 ∃ cv kv,({ m with cv:=cv,cms:=eU txs x y z (ids.take k),kv:=kv,cls:=m.cls++dz txs x y z (ids.take k) }:Mg).at_ B g wr∧Mg.step g m { m with cv:=cv,cms:=eU txs x y z (ids.take k),kv:=kv,cls:=m.cls++dz txs x y z (ids.take k) } w wr
def zgr (txs:List EvC)(x y z:DocC)(m:Mg)(B g:Nat)(w:ft)(e:Ending)(w':ft):Prop:=e=.returned (.tuple #[])∧∃ cv kv,({ m with cv:=cv,cms:=eU txs x y z (ck x.cms y.cms z.cms),kv:=kv,cls:=m.cls++dz txs x y z (ck x.cms y.cms z.cms) }:Mg).at_ B g w' ∧
 Mg.step g m { m with cv:=cv,cms:=eU txs x y z (ck x.cms y.cms z.cms),kv:=kv,cls:=m.cls++dz txs x y z (ck x.cms y.cms z.cms) } w w'
theorem ziu {w:ft} {b n:Nat} {xs ts:List EvC} {ys:List Cm} (h:VMap w b n (bH xs ts ys)) {z:Int} (hz:i64 z) :
 ∃ c:Cm,(∀ w',w'.heap[b]? =w.heap[b]?→(fD 146 (.map (some b)) (.int .i64 z) true).run Tryz.prog w'=.ok (.tuple #[.agg c.enc.toArray,.bool (aJ ys z)]) w')∧(aN ys z).map (dT xs ts)=(if aJ ys z=true then some c else none)∧(aJ ys z=false→c=bG):=by
 refine⟨((aN ys z).map (dT xs ts)).getD bG,fun w' hw=>?_,?_,?_⟩
 · have:=(h.kept hw).look Tryz.underlying146 (zgs _) hz
   rw [this]
   unfold bH aJ aN cmAt
   cases ys.find? fun x=>x.id==z<;>rfl
 · unfold aJ aN cmAt
   cases ys.find? fun x=>x.id==z<;>rfl
 · unfold aJ aN cmAt
   cases ys.find? fun x=>x.id==z
   · intro;rfl
   · intro h;cases h
theorem zgg {w:ft} {b n:Nat} {ys:List Cm} (h:VMap w b n (aK ys)) {z:Int} (hz:i64 z):∃ c:Cm,(∀ w',w'.heap[b]? =w.heap[b]?→(fD 146 (.map (some b)) (.int .i64 z) false).run Tryz.prog w'=.ok (.agg c.enc.toArray) w')∧c=(aN ys z).getD bG:=by
 refine⟨_,fun w' hw=>?_,rfl⟩
 have:=(h.kept hw).look1 Tryz.underlying146 (zgs _) hz
 rw [this]
 unfold aK aN cmAt
 cases ys.find? fun x=>x.id==z<;>rfl
def zkX (o:Option (Cm × List ByteArray))(m1:Mg)(B g G S:Nat)(id:Int)(X Y Z:Array Value)(wr wx:ft):Prop:=∃ (c:Cm) (fs:List ByteArray),o=some (c,fs)∧CSt m1 B g G S id X Y Z c.enc.toArray (m1.cls++cX id fs) wr wx
structure zgn (w:ft)(g b1 b2 n:Nat)(d:Doc):Prop where
 at_:aV w b1 b2 n d.evs d.cms
 low:zbe d.evs g w
 tame:∀ c∈d.cms,c.tame
 len:d.evs.length≤1000∧d.cms.length≤1000
theorem zbe.both {xs:List Ev} {g:Nat} {w w':ft} (h:zbe xs g w)(hb:fu g w w')(hs:w.heap.size≤w'.heap.size):∀ e∈xs,e.lies w'∧e.fits:=fun e he=>⟨Ev.frame (h e he).1 hs fun b q=>hb.block b ((h e he).2.2 b q),(h e he).2.1⟩
theorem zb3 (m:Mg)(B g x1 x2 y1 y2 z1 z2 n:Nat)(x y z:Doc)(w:ft)(h:m.at_ B g w)(hB:B≤w.heap.size)(hcm:m.cms=[])(hcl:m.cls.length≤40000)
 (hX:zgn w g x1 x2 n x) (hY:zgn w g y1 y2 n y) (hZ:zgn w g z1 z2 n z) (nX:¬ m.mine g x1∧¬ m.mine g x2) (nY:¬ m.mine g y1∧¬ m.mine g y2) (nZ:¬ m.mine g z1∧¬ m.mine g z2)
 (hn:n≤1000000) (hhd:m.hd.fits) (hR:∀ r∈m.rG,r.fits) (hRl:m.rG.length≤4000) (hmf:∀ e∈m.evs,e.fits) (hme:m.evs.length≤n) :
 Calls Tryz.prog 81 #[.pointer (some ⟨g,0,none⟩),.agg #[fF (some x1),.map (some x2)],.agg #[fF (some y1),.map (some y2)],.agg #[fF (some z1),.map (some z2)]] w (zgr (m.evs.map Ev.c) x.c y.c z.c m B g w):=by
 have hgl:=h.glt
 have hx1:=hX.at_.ev.lt
 have hx2:=hX.at_.cm.lt
 have hy1:=hY.at_.ev.lt
 have hy2:=hY.at_.cm.lt
 have hz1:=hZ.at_.ev.lt
 have hz2:=hZ.at_.cm.lt
 have HV:=h_ (fun wx (q:fu (w.heap.size+4) ((((w.alloc (.cells #[fG (some ⟨g,0,none⟩)] 140)).alloc (.cells #[fF (some x1),.map (some x2)] 148)).alloc (.cells #[fF (some y1),.map (some y2)] 148)).alloc (.cells #[fF (some z1),.map (some z2)] 148)) wx)=>zkV w #[fG (some ⟨g,0,none⟩)] #[fF (some x1),.map (some x2)] #[fF (some y1),.map (some y2)] #[fF (some z1),.map (some z2)] 148 140 wx q)
 have HB4:=h_ (fun wx (q:fu (w.heap.size+4) ((((w.alloc (.cells #[fG (some ⟨g,0,none⟩)] 140)).alloc (.cells #[fF (some x1),.map (some x2)] 148)).alloc (.cells #[fF (some y1),.map (some y2)] 148)).alloc (.cells #[fF (some z1),.map (some z2)] 148)) wx)=>(show fu w.heap.size w wx from(zfs w _ _ _ _).trans (q.mono (by omega))))
 have hsz:((((w.alloc (.cells #[fG (some ⟨g,0,none⟩)] 140)).alloc (.cells #[fF (some x1),.map (some x2)] 148)).alloc (.cells #[fF (some y1),.map (some y2)] 148)).alloc (.cells #[fF (some z1),.map (some z2)] 148)).heap.size=w.heap.size+4:=by simp
 generalize hW4:((((w.alloc (.cells #[fG (some ⟨g,0,none⟩)] 140)).alloc (.cells #[fF (some x1),.map (some x2)] 148)).alloc (.cells #[fF (some y1),.map (some y2)] 148)).alloc (.cells #[fF (some z1),.map (some z2)] 148))=W0 at *
 have HSZ:=h_ hsz
 have hb0:fu (w.heap.size+4) W0 W0:=fB _ _
 have HT:=h_ (fun(w2 w3:ft) (q:fu (w.heap.size+4) W0 w2) (q3:fu w2.heap.size w2 w3)=>(q.trans (q3.mono (by have:=q.size;rw [HSZ.out] at this;exact this)):fu (w.heap.size+4) W0 w3))
 have HW4:=h_ hW4
 have hat0:=h.later (HB4.out _ hb0)
 obtain⟨d,hdl,hdh,hdr,hde,hdc,hda⟩:=hat0.doc
 have hdf:d.fits:=by
  have h1:d.hd.fits:=hdh▸hhd
  exact⟨h1.1,h1.2.1,h1.2.2.1,h1.2.2.2.1,h1.2.2.2.2,by rw [hdr];exact hR,by rw [hdr];omega,by rw [hde];exact hmf,by rw [hde];omega,by rw [hdc,hcm];simp,by rw [hdc,hcm];simp⟩
 have HFD:=h_ (bn d W0 hdl hdf)
 have hcells:=hat0.cells
 rw [hda] at hcells
 have HDE:=h_ hde
 have HDC:=h_ (hdc.trans hcm)
 have HDL:=h_ hdl
 have f0:∀ j,W0.cell? ⟨w.heap.size,j,none⟩=_:=fun j=>fp _ _ j _ 140 (0,0) (HV.out _ hb0).1
 have g0:∀ j,W0.cell? ⟨g,j,none⟩=_:=fun j=>fp _ _ j _ 142 (0,0) hcells
 clear hW4 hsz hcells hdl hdf hde hdc hdh hdr hda hat0
 obtain⟨dt,dl,dr,dd,dla,dra,drc,dregs,dea,dec,devs,dca,dcc,dcms⟩:=d
 simp only [Doc.enc] at HFD g0 HDE HDC
 go_enter Tryz.func81,Tryz.ntmps81
 go_upto_region 1 with fail
 rw [HW4.out]
 go_wp2_with fail
 refine HFD.out.mono ?_
 rintro e w1 ⟨t1,t2,rfl,hm1,hm2,ht1,ht2,hb1⟩
 have hc1:=HT.out _ _ hb0 hb1
 have HM1:=h_ hm1
 have HM2:=h_ hm2
 have HC1:=h_ hc1
 have hs1:w.heap.size+4≤w1.heap.size:=by have:=hc1.size;rw [HSZ.out] at this;exact this
 clear hb1 hm1 hm2 ht1 ht2 f0 g0 HFD
 go_upto_region 2 with fail
 have hk1:=fm w1 (.cells #[.map (some t1),.map (some t2)] 148)
 have hcA:fu (w.heap.size+4) W0 (w1.alloc (.cells #[.map (some t1),.map (some t2)] 148)):=hc1.alloc hs1 _
 have hsA:(w1.alloc (.cells #[.map (some t1),.map (some t2)] 148)).heap.size=w1.heap.size+1:=fC _ _
 have hbA:fu w1.heap.size w1 (w1.alloc (.cells #[.map (some t1),.map (some t2)] 148)):=(fB _ _).alloc (fJ _) _
 generalize w1.alloc (.cells #[.map (some t1),.map (some t2)] 148)=WA at *
 have hM:m.at_ B g WA:=h.later (HB4.out _ hcA)
 have HMA:=h_ hM
 have hBA:=HB4.out _ hcA
 have hlow:∀ w',fu WA.heap.size WA w'→fu g w w'∧w.heap.size≤w'.heap.size:=fun w' q=>by
  have h1:=hBA.trans (q.mono (by omega))
  exact⟨h1.mono (by omega),h1.size⟩
 have HFT:=h_ (fun w' (q:fu WA.heap.size WA w')=>(show aV w' t1 t2 n m.evs [] from by
  have h1:=(HM1.out.below hbA HM1.out.lt)
  have h2:=(HM2.out.below hbA HM2.out.lt)
  have e1:devs=m.evs:=HDE.out
  have e2:dcms=[]:=HDC.out
  subst e1 e2
  exact⟨(h1.below q h1.lt).mono hme,(h2.below q h2.lt).mono (by simp)⟩))
 have HTX:=h_ (fun w' (q:fu WA.heap.size WA w')=>(show ∀ e∈m.evs,e.lies w'∧e.fits from fun e he=>⟨Ev.keeps _ _ _ q (HMA.out.each e he),hmf e he⟩))
 have HMX:=h_ (fun w' (q:fu WA.heap.size WA w')=>zax x1 x2 t1 t2 n x.evs m.evs x.cms [] w' ((hX.at_.later hBA).later q) (HFT.out w' q) (hX.low.both (hlow w' q).1 (hlow w' q).2) (HTX.out w' q) hX.tame hn)
 have HMY:=h_ (fun w' (q:fu WA.heap.size WA w')=>zax y1 y2 t1 t2 n y.evs m.evs y.cms [] w' ((hY.at_.later hBA).later q) (HFT.out w' q) (hY.low.both (hlow w' q).1 (hlow w' q).2) (HTX.out w' q) hY.tame hn)
 have HMZ:=h_ (fun w' (q:fu WA.heap.size WA w')=>zax z1 z2 t1 t2 n z.evs m.evs z.cms [] w' ((hZ.at_.later hBA).later q) (HFT.out w' q) (hZ.low.both (hlow w' q).1 (hlow w' q).2) (HTX.out w' q) hZ.tame hn)
 have HVA:=h_ (HV.out _ hcA)
 have lA:w.heap.size+5≤WA.heap.size:=by omega
 have lB:w1.heap.size<WA.heap.size:=by omega
 have q1:∀ w',fu WA.heap.size WA w'→∀ j,w'.cell? ⟨w.heap.size+1,j,none⟩=_:=fun w' q j=>fp _ _ j _ 148 (0,0) ((q.block _ (by omega)).trans HVA.out.2.1)
 have q2:∀ w',fu WA.heap.size WA w'→∀ j,w'.cell? ⟨w.heap.size+1+1,j,none⟩=_:=fun w' q j=>fp _ _ j _ 148 (0,0) ((q.block _ (by omega)).trans HVA.out.2.2.1)
 have q3:∀ w',fu WA.heap.size WA w'→∀ j,w'.cell? ⟨w.heap.size+1+1+1,j,none⟩=_:=fun w' q j=>fp _ _ j _ 148 (0,0) ((q.block _ (by omega)).trans HVA.out.2.2.2)
 have q4:∀ w',fu WA.heap.size WA w'→∀ j,w'.cell? ⟨w1.heap.size,j,none⟩=_:=fun w' q j=>fp _ _ j _ 148 (0,0) ((q.block _ lB).trans hk1)
 have HTA:=h_ (fun(w2 w3:ft) (q:fu WA.heap.size WA w2) (q3:fu w2.heap.size w2 w3)=>(q.trans (q3.mono q.size):fu WA.heap.size WA w3))
 have hbd:fu WA.heap.size WA WA.drew:=(fB _ _).drew
 have HCA:=h_ hcA
 unfold zgW at HMX HMY HMZ
 clear hk1 hcA hsA hbA hM hc1 hlow hs1 hb0
 go_cut [9,10,11] (fun s9 s10 s11 wx=>∃ b1 b2 b3,s9=.map (some b1)∧s10=.map (some b2)∧s11=.map (some b3)∧VMap wx b1 n (bH (x.evs.map Ev.c) (m.evs.map Ev.c) x.cms)∧VMap wx b2 n (bH (y.evs.map Ev.c) (m.evs.map Ev.c) y.cms)∧VMap wx b3 n (bH (z.evs.map Ev.c) (m.evs.map Ev.c) z.cms)∧WA.heap.size≤b1∧WA.heap.size≤b2∧WA.heap.size≤b3∧fu WA.heap.size WA wx)
 case first =>
  go_region_held3 (fun w'=>fu WA.heap.size WA w') (repeat (first|with_reducible assumption|with_reducible exact hbd)) (first
   | (go_at_call 139;(with_reducible refine(HMX.out _ (by first|with_reducible assumption|with_reducible exact hbd)).mono ?_);rintro e wx ⟨bx,rfl,hvx,hlx,hbx⟩;have hcx:=HTA.out _ _ (by first|with_reducible assumption|with_reducible exact hbd) hbx)
   | (go_at_call 139;(with_reducible refine(HMY.out _ (by first|with_reducible assumption|with_reducible exact hbd)).mono ?_);rintro e wy ⟨by_,rfl,hvy,hly,hby⟩;have hcy:=HTA.out _ _ (by first|with_reducible assumption|with_reducible exact hbd) hby)
   | (go_at_call 139;(with_reducible refine(HMZ.out _ (by first|with_reducible assumption|with_reducible exact hbd)).mono ?_);rintro e wz ⟨bz,rfl,hvz,hlz,hbz⟩;have hcz:=HTA.out _ _ (by first|with_reducible assumption|with_reducible exact hbd) hbz))
  all_goals
   go_wp2_with fail
   go_meet
   exact⟨bx,by_,bz,rfl,rfl,rfl,(hvx.below hby hvx.lt).below hbz (hvx.below hby hvx.lt).lt,hvy.below hbz hvy.lt,hvz,hlx,fI hcx.size hly,fI hcy.size hlz,hcz⟩
 case rest =>
  obtain⟨b1,b2,b3,rfl,rfl,rfl,v1,v2,v3,l1,l2,l3,hbc⟩:=hcut
  clear HMX HMY HMZ HFT HTX q1 q2 q3 q4 hbd HTA HM1 HM2 HC1
  have hsw:=hbc.size
  have hbl:∀ o,fu wc.heap.size wc (wc.alloc o):=fun o=>(fB _ _).alloc (fJ _) o
  have HIDS:=h_ (show Calls Tryz.prog 140 #[.slice (some ⟨wc.heap.size,0,none⟩) 3 3] (wc.alloc (.cells #[.map (some b1),.map (some b2),.map (some b3)] 146)) (e8 (fun j=>if j=0 then bH (x.evs.map Ev.c) (m.evs.map Ev.c) x.cms else if j=1 then bH (y.evs.map Ev.c) (m.evs.map Ev.c) y.cms else bH (z.evs.map Ev.c) (m.evs.map Ev.c) z.cms) (wc.alloc (.cells #[.map (some b1),.map (some b2),.map (some b3)] 146))) from by
   have hr:=fm wc (.cells #[.map (some b1),.map (some b2),.map (some b3)] 146)
   refine zfp wc.heap.size (fun j=>if j=0 then b1 else if j=1 then b2 else b3) n _ _ ?_ ?_ ?_ (by simp) (fun j=>?_) hn
   · rw [fp _ _ 0 _ 146 (0,0) hr];rfl
   · rw [fp _ _ 1 _ 146 (0,0) hr];rfl
   · rw [fp _ _ 2 _ 146 (0,0) hr];rfl
   · by_cases h0:j=0
     · subst h0
       exact v1.below (hbl _) v1.lt
     · by_cases h1:j=1
       · subst h1
         exact v2.below (hbl _) v2.lt
       · simp only [if_neg h0,if_neg h1]
         exact v3.below (hbl _) v3.lt)
  have V1:=h_ v1;have V2:=h_ v2;have V3:=h_ v3
  have HBC:=h_ hbc
  clear v1 v2 v3 hbc hbl
  go_wp2_with fail
  refine HIDS.out.mono ?_
  rintro e w5 ⟨ids,vi,rfl,hasc,hmem,hoi,hb5⟩
  have hidse:=zjN (a:=x.c) (b:=y.c) (c:=z.c) (txs:=m.evs.map Ev.c) hasc _ ⟨rfl,rfl,rfl⟩ hmem
  have hb5':fu wc.heap.size wc w5:=((fB _ _).alloc (fJ _) _).trans (hb5.mono (by simp))
  have hbA5:fu WA.heap.size WA w5:=HBC.out.trans (hb5'.mono hsw)
  have hidl:ids.length≤3000:=by
   rw [hidse]
   refine fI (zfD _ _ _) ?_
   have:=hX.len.2;have:=hY.len.2;have:=hZ.len.2
   simp only [Doc.c]
   omega
  have HI64:=h_ (fun(id:Int) (hid:id∈ids)=>(show i64 id from by
   rw [hidse] at hid
   exact zi2 (fun e he=>(hX.tame e he).1) (fun e he=>(hY.tame e he).1) (fun e he=>(hZ.tame e he).1) hid))
  have HW5:=h_ ((HB4.out _ HCA.out).trans (hbA5.mono (by omega)))
  have HM5:=h_ (HMA.out.later hbA5)
  have HMINE:=h_ (fun b (hb:m.mine g b)=>h.mine_lt hb)
  have HROW:=h_ (show w5.heap[w.heap.size]? =_∧w5.heap[w.heap.size+1]? =_∧w5.heap[w.heap.size+1+1]? =_∧w5.heap[w.heap.size+1+1+1]? =_ from⟨(hbA5.block _ (by omega)).trans HVA.out.1,(hbA5.block _ (by omega)).trans HVA.out.2.1,(hbA5.block _ (by omega)).trans HVA.out.2.2.1,(hbA5.block _ (by omega)).trans HVA.out.2.2.2⟩)
  have HOI:=h_ (show w5.ownsRow WA.heap.size 2 1 vi ids.length (ids.map (fE .i64)) from eR hoi (by rw [fC];omega))
  have U1:=h_ (V1.out.below hb5' V1.out.lt)
  have U2:=h_ (V2.out.below hb5' V2.out.lt)
  have U3:=h_ (V3.out.below hb5' V3.out.lt)
  have hs5:WA.heap.size≤w5.heap.size:=hbA5.size
  have hmy:m.evs.map Ev.c=m.evs.map Ev.c:=rfl
  generalize m.evs.map Ev.c=txs at *
  have HQ:=h_ (show ∀ w',zfJ txs x.c y.c z.c m B g ids w5 ids.length w'→zgr txs x.c y.c z.c m B g w (.returned (.tuple #[])) w' from fun w' hr=>by
   obtain⟨cv,kv,q1,q2⟩:=hr
   rw [List.take_length,hidse] at q1 q2
   exact⟨rfl,cv,kv,q1,(Mg.step.of_below HW5.out).trans q2⟩)
  have HR0:=h_ (show zfJ txs x.c y.c z.c m B g ids w5 0 w5 from by
   have e1:eU txs x.c y.c z.c (ids.take 0)=[]:=rfl
   have e2:dz txs x.c y.c z.c (ids.take 0)=[]:=rfl
   refine⟨m.cv,m.kv,?_,?_⟩
   · rw [e1,e2,fK,←hcm]
     exact HM5.out
   · rw [e1,e2,fK,←hcm]
     exact Mg.step.refl _ _ _)
  generalize zgr txs x.c y.c z.c m B g w=Q at *
  obtain⟨ia,ic,rfl⟩:=dS hoi
  clear hb5 hb5' hbA5 hoi hasc hmem hidse HIDS hmy V1 V2 V3 HVA HCA
  go_wp2_with fail
  go_loopw [44] (fun i wr=>∃ k:Nat,k≤ids.length∧i=.int .i64 k∧zfJ txs x.c y.c z.c m B g ids w5 k wr) (fun i _=>ids.length-(intOf i).toNat)
  case atStart=>exact⟨0,by omega,rfl,HR0.out⟩
  case round =>
   clear HR0
   obtain⟨k,hk,rfl,hrel⟩:=hrel
   by_cases hlt:k<ids.length
   · obtain⟨id,hid⟩:∃ id,ids[k]? =some id:=⟨_,List.getElem?_eq_getElem hlt⟩
     have hi64:=HI64.out id (List.mem_of_getElem? hid)
     obtain⟨cv,kv,hat,hstep⟩:=hrel
     have hbl:=hstep.low HM5.out
     have hsr:=hstep.1.size
     obtain⟨q,qc,hq⟩:∃ q c,(Value.slice ia ids.length ic)=.slice (some ⟨q,0,none⟩) ids.length c:=zat HOI.out (by omega)
     obtain⟨rfl,_,rfl⟩:=Value.slice.inj hq
     have hkeep:∀ b,w.heap.size≤b→b<w5.heap.size→wr.heap[b]? =w5.heap[b]?:=fun b h1 h2=>hstep.1.block b h2 fun hm=>by have:=HMINE.out b hm;omega
     have hqb:=HOI.out.lt q rfl
     have hcell:wr.cell? ⟨q,k,none⟩=some (.int .i64 id):=by
      rw [ft.cell?_of_block (w:=w5) (hkeep q (by omega) hqb.2),HOI.out.cellAt k (by omega)]
      simp [hid]
     have hcapn:ids.length≤ic:=by
      rcases HOI.out.2 with⟨h0,_⟩|⟨g',cap,cur,h0,_,_,hnc,_⟩
      · simp at h0
      · simp only [Value.slice.injEq] at h0
        obtain⟨_,_,rfl⟩:=h0
        exact hnc
     have hmap:∀ b,b<w.heap.size→¬ m.mine g b→wr.heap[b]? =w.heap[b]?:=fun b h1 h2=>(hstep.1.block b (by omega) h2).trans (HW5.out.block b h1)
     obtain⟨p,hlp,hpo,hpz⟩:=ziu (U1.out.kept (hkeep b1 (by omega) U1.out.lt)) hi64
     obtain⟨s,hls,hso,hsz'⟩:=ziu (U2.out.kept (hkeep b2 (by omega) U2.out.lt)) hi64
     obtain⟨t,hlt',hto,htz⟩:=ziu (U3.out.kept (hkeep b3 (by omega) U3.out.lt)) hi64
     obtain⟨po,hlpo,hpoe⟩:=zgg (hX.at_.cm.kept (hmap x2 hx2 nX.2)) hi64
     obtain⟨so,hlso,hsoe⟩:=zgg (hY.at_.cm.kept (hmap y2 hy2 nY.2)) hi64
     obtain⟨tq,hlto,htoe⟩:=zgg (hZ.at_.cm.kept (hmap z2 hz2 nZ.2)) hi64
     have h3:mgCm txs x.c y.c z.c id=eI (aN x.cms id) (aN y.cms id) (aN z.cms id) (if aJ x.cms id=true then some p else none) (if aJ y.cms id=true then some s else none) (if aJ z.cms id=true then some t else none):=by
      unfold mgCm
      rw [←hpo,←hso,←hto]
      rfl
     have h4:∀ a b c,eI (aN x.cms id) (aN y.cms id) (aN z.cms id) (some a) (some b) none=(if cmEq so po=true then none else some (b,[cW]))∧eI (aN x.cms id) (aN y.cms id) (aN z.cms id) (some a) none (some c)=(if cmEq tq po=true then none else some (c,[cW])):=fun a b c=>by
      rw [hpoe,hsoe,htoe]
      exact⟨rfl,rfl⟩
     have h5:∀ a b c,eI (aN x.cms id) (aN y.cms id) (aN z.cms id) a b c=eI (some po) (some so) (some tq) a b c:=fun a b c=>by
      rw [hpoe,hsoe,htoe]
      cases a<;>cases b<;>cases c<;>rfl
     rw [h5] at h3
     clear h4 h5 hpo hso hto hpoe hsoe htoe
     have r0:wr.heap[w.heap.size]? =_:=(hkeep _ (by omega) (by omega)).trans HROW.out.1
     have r1:wr.heap[w.heap.size+1]? =_:=(hkeep _ (by omega) (by omega)).trans HROW.out.2.1
     have r2:wr.heap[w.heap.size+1+1]? =_:=(hkeep _ (by omega) (by omega)).trans HROW.out.2.2.1
     have r3:wr.heap[w.heap.size+1+1+1]? =_:=(hkeep _ (by omega) (by omega)).trans HROW.out.2.2.2
     have bx1:b1<wr.heap.size:=fH U1.out.lt hsr
     have bx2:b2<wr.heap.size:=fH U2.out.lt hsr
     have bx3:b3<wr.heap.size:=fH U3.out.lt hsr
     generalize aJ x.cms id=A at *
     generalize aJ y.cms id=C at *
     generalize aJ z.cms id=D at *
     have k1:∀ o,(wr.alloc o).heap[b1]? =wr.heap[b1]?:=fun o=>fw _ _ _ bx1
     have k2:∀ o o',((wr.alloc o).alloc o').heap[b2]? =wr.heap[b2]?:=fun o o'=>(fw _ _ _ (by simp;omega)).trans (fw _ _ _ bx2)
     have k3:∀ o o' o'',(((wr.alloc o).alloc o').alloc o'').heap[b3]? =wr.heap[b3]?:=fun o o' o''=>(fw _ _ _ (by simp;omega)).trans ((fw _ _ _ (by simp;omega)).trans (fw _ _ _ bx3))
     have L1:=h_ (fun o=>hlp (wr.alloc o) (k1 o))
     have L2:=h_ (fun o o'=>hls ((wr.alloc o).alloc o') (k2 o o'))
     have L3:=h_ (fun o o' o''=>hlt' (((wr.alloc o).alloc o').alloc o'') (k3 o o' o''))
     clear k1 k2 k3 hlp hls hlt' hkeep
     obtain⟨pid,pev,pfrm,ptil,pau,ptx,pdn,plo⟩:=p
     obtain⟨sid,sev,sfrm,stil,sau,stx,sdn,slo⟩:=s
     obtain⟨tid,tev,tfrm,ttil,tau,ttx,tdn,tlo⟩:=t
     simp only [Cm.enc] at L1 L2 L3
     obtain⟨m1,hm1⟩:∃ m1:Mg,m1={ m with cv:=cv,cms:=eU txs x.c y.c z.c (ids.take k),kv:=kv,cls:=m.cls++dz txs x.c y.c z.c (ids.take k) }:=⟨_,rfl⟩
     have hlens:=zcB txs x.c y.c z.c (ids.take k)
     rw [List.length_take] at hlens
     have hm1c:m1.cls.length≤60000:=by subst hm1;simp only [List.length_append];omega
     have hm1m:m1.cms.length≤3000:=by subst hm1;simp only;omega
     obtain⟨o,ho⟩:∃ o,o=eI (some po) (some so) (some tq) (if A=true then some (⟨pid,pev,pfrm,ptil,pau,ptx,pdn,plo⟩:Cm) else none) (if C=true then some (⟨sid,sev,sfrm,stil,sau,stx,sdn,slo⟩:Cm) else none) (if D=true then some (⟨tid,tev,tfrm,ttil,tau,ttx,tdn,tlo⟩:Cm) else none):=⟨_,rfl⟩
     rw [←ho] at h3
     have HO:=h_ ho
     have HNONE:=h_ (show o=none→∀ wx,fu wr.heap.size wr wx→zfJ txs x.c y.c z.c m B g ids w5 (k+1) wx from fun h0 wx hbx=>by
      rw [h0] at h3
      have e1:=zdR txs x.c y.c z.c ids k id hid
      have e2:=zcC txs x.c y.c z.c ids k id hid
      rw [h3] at e1 e2
      simp only [Option.map_none,Option.toList_none,fK,Option.getD_none,cX,List.map_nil] at e1 e2
      refine⟨cv,kv,?_,?_⟩
      · rw [e1,e2];exact hat.later hbx
      · rw [e1,e2];exact hstep.trans (Mg.step.of_below hbx))
     have HSOME:=h_ (show ∀ (c:Cm) (fs:List ByteArray),o=some (c,fs)→∀ (cv' kv':Value) (w':ft),({ m1 with cv:=cv',cms:=m1.cms++[c],kv:=kv',cls:=m1.cls++cX id fs }:Mg).at_ B g w'→Mg.step g m1 { m1 with cv:=cv',cms:=m1.cms++[c],kv:=kv',cls:=m1.cls++cX id fs } wr w'→zfJ txs x.c y.c z.c m B g ids w5 (k+1) w' from fun c fs h0 cv' kv' w' q1 q2=>by
      subst hm1
      rw [h0] at h3
      have e1:=zdR txs x.c y.c z.c ids k id hid
      have e2:=zcC txs x.c y.c z.c ids k id hid
      rw [h3] at e1 e2
      simp only [Option.map_some,Option.toList_some,Option.getD_some] at e1 e2
      refine⟨cv',kv',?_,?_⟩
      · rw [e1,e2,←fL];exact q1
      · rw [e1,e2,←fL];exact hstep.trans q2)
     have HAT:=h_ (show m1.at_ B g wr from hm1▸hat)
     have HM1M:=h_ (fun b (hb:m1.mine g b)=>(show b≠w.heap.size∧b<wr.heap.size from⟨fun e=>by
      subst hm1
      rcases hstep.2 b hb with h1|h1
      · have:=HMINE.out b h1;omega
      · omega,HAT.out.mine_lt hb⟩))
     have hGS:w.heap.size<wr.heap.size:=by omega
     have Bwr:B≤wr.heap.size:=by omega
     have hlk2:∀ w',w'.heap[x2]? =wr.heap[x2]?→(fD 146 (.map (some x2)) (.int .i64 id) false).run Tryz.prog w'=.ok (.agg po.enc.toArray) w':=hlpo
     have hlk3:∀ w',w'.heap[y2]? =wr.heap[y2]?→(fD 146 (.map (some y2)) (.int .i64 id) false).run Tryz.prog w'=.ok (.agg so.enc.toArray) w':=hlso
     have hlk4:∀ w',w'.heap[z2]? =wr.heap[z2]?→(fD 146 (.map (some z2)) (.int .i64 id) false).run Tryz.prog w'=.ok (.agg tq.enc.toArray) w':=hlto
     clear hlpo hlso hlto
     go_upto_block 2 with(first
      | (at_lookup;refine aa _ rfl _ _ _ _ rfl _ _ _ rfl rfl (L1.out _) ?_)
      | (at_lookup;refine aa _ rfl _ _ _ _ rfl _ _ _ rfl rfl (L2.out _ _) ?_)
      | (at_lookup;refine aa _ rfl _ _ _ _ rfl _ _ _ rfl rfl (L3.out _ _ _) ?_))
     have hb7:fu wr.heap.size wr (((((wr.alloc (.cells #[.int .i64 id] 2)).alloc (.cells #[fE .i64 pid,.int .i64 pev,.int .i64 pfrm,.int .i64 ptil,.string pau,.string ptx,.bool pdn,.bool plo] 52)).alloc (.cells #[fE .i64 sid,.int .i64 sev,.int .i64 sfrm,.int .i64 stil,.string sau,.string stx,.bool sdn,.bool slo] 52)).alloc (.cells #[fE .i64 tid,.int .i64 tev,.int .i64 tfrm,.int .i64 ttil,.string tau,.string ttx,.bool tdn,.bool tlo] 52)).alloc (.cells #[fE .i64 pid,.int .i64 pev,.int .i64 pfrm,.int .i64 ptil,.string pau,.string ptx,.bool pdn,.bool plo] 52)):=(aS wr _ _ _ _).alloc (by simp;try omega) _
     have hr5:=fm ((((wr.alloc (.cells #[.int .i64 id] 2)).alloc (.cells #[fE .i64 pid,.int .i64 pev,.int .i64 pfrm,.int .i64 ptil,.string pau,.string ptx,.bool pdn,.bool plo] 52)).alloc (.cells #[fE .i64 sid,.int .i64 sev,.int .i64 sfrm,.int .i64 stil,.string sau,.string stx,.bool sdn,.bool slo] 52)).alloc (.cells #[fE .i64 tid,.int .i64 tev,.int .i64 tfrm,.int .i64 ttil,.string tau,.string ttx,.bool tdn,.bool tlo] 52)) (.cells #[fE .i64 pid,.int .i64 pev,.int .i64 pfrm,.int .i64 ptil,.string pau,.string ptx,.bool pdn,.bool plo] 52)
     have hr4:=zkV wr #[.int .i64 id] (#[fE .i64 pid,.int .i64 pev,.int .i64 pfrm,.int .i64 ptil,.string pau,.string ptx,.bool pdn,.bool plo]) (#[fE .i64 sid,.int .i64 sev,.int .i64 sfrm,.int .i64 stil,.string sau,.string stx,.bool sdn,.bool slo]) (#[fE .i64 tid,.int .i64 tev,.int .i64 tfrm,.int .i64 ttil,.string tau,.string ttx,.bool tdn,.bool tlo]) 52 2 (((((wr.alloc (.cells #[.int .i64 id] 2)).alloc (.cells #[fE .i64 pid,.int .i64 pev,.int .i64 pfrm,.int .i64 ptil,.string pau,.string ptx,.bool pdn,.bool plo] 52)).alloc (.cells #[fE .i64 sid,.int .i64 sev,.int .i64 sfrm,.int .i64 stil,.string sau,.string stx,.bool sdn,.bool slo] 52)).alloc (.cells #[fE .i64 tid,.int .i64 tev,.int .i64 tfrm,.int .i64 ttil,.string tau,.string ttx,.bool tdn,.bool tlo] 52)).alloc (.cells #[fE .i64 pid,.int .i64 pev,.int .i64 pfrm,.int .i64 ptil,.string pau,.string ptx,.bool pdn,.bool plo] 52)) ((fB _ _).alloc (by simp;try omega) _)
     have hsz7:(((((wr.alloc (.cells #[.int .i64 id] 2)).alloc (.cells #[fE .i64 pid,.int .i64 pev,.int .i64 pfrm,.int .i64 ptil,.string pau,.string ptx,.bool pdn,.bool plo] 52)).alloc (.cells #[fE .i64 sid,.int .i64 sev,.int .i64 sfrm,.int .i64 stil,.string sau,.string stx,.bool sdn,.bool slo] 52)).alloc (.cells #[fE .i64 tid,.int .i64 tev,.int .i64 tfrm,.int .i64 ttil,.string tau,.string ttx,.bool tdn,.bool tlo] 52)).alloc (.cells #[fE .i64 pid,.int .i64 pev,.int .i64 pfrm,.int .i64 ptil,.string pau,.string ptx,.bool pdn,.bool plo] 52)).heap.size=wr.heap.size+5:=by simp
     rw [fC,fC,fC,fC] at hr5
     generalize (((((wr.alloc (.cells #[.int .i64 id] 2)).alloc (.cells #[fE .i64 pid,.int .i64 pev,.int .i64 pfrm,.int .i64 ptil,.string pau,.string ptx,.bool pdn,.bool plo] 52)).alloc (.cells #[fE .i64 sid,.int .i64 sev,.int .i64 sfrm,.int .i64 stil,.string sau,.string stx,.bool sdn,.bool slo] 52)).alloc (.cells #[fE .i64 tid,.int .i64 tev,.int .i64 tfrm,.int .i64 ttil,.string tau,.string ttx,.bool tdn,.bool tlo] 52)).alloc (.cells #[fE .i64 pid,.int .i64 pev,.int .i64 pfrm,.int .i64 ptil,.string pau,.string ptx,.bool pdn,.bool plo] 52))=W7 at *
     have hx7:∀ b,b<w.heap.size→W7.heap[b]? =wr.heap[b]?:=fun b hb=>hb7.block b (by omega)
     have HST:=h_ (show CSt m1 B g w.heap.size wr.heap.size id (#[fE .i64 pid,.int .i64 pev,.int .i64 pfrm,.int .i64 ptil,.string pau,.string ptx,.bool pdn,.bool plo]) (#[fE .i64 sid,.int .i64 sev,.int .i64 sfrm,.int .i64 stil,.string sau,.string stx,.bool sdn,.bool slo]) (#[fE .i64 tid,.int .i64 tev,.int .i64 tfrm,.int .i64 ttil,.string tau,.string ttx,.bool tdn,.bool tlo]) (#[fE .i64 pid,.int .i64 pev,.int .i64 pfrm,.int .i64 ptil,.string pau,.string ptx,.bool pdn,.bool plo]) m1.cls wr W7 from
      ⟨(hb7.block _ hGS).trans r0,hr4.1,hr4.2.1,hr4.2.2.1,hr4.2.2.2,hr5,⟨m1.kv,HAT.out.later hb7,Mg.step.of_below hb7,fun b hb=>⟨(HM1M.out b hb).1,.inl (HM1M.out b hb).2⟩⟩,fun e he b hb=>Ev.uses_lt (HAT.out.each e he) hb⟩)
     have HB7:=h_ hb7
     have m0:W7.heap[w.heap.size+1]? =_:=(hb7.block _ (by omega)).trans r1
     have m2:W7.heap[w.heap.size+1+1]? =_:=(hb7.block _ (by omega)).trans r2
     have m3:W7.heap[w.heap.size+1+1+1]? =_:=(hb7.block _ (by omega)).trans r3
     have HLK:=h_ (show(∀ w',fu wr.heap.size wr w'→(fD 146 (.map (some x2)) (.int .i64 id) false).run Tryz.prog w'=.ok (.agg po.enc.toArray) w')∧(∀ w',fu wr.heap.size wr w'→(fD 146 (.map (some y2)) (.int .i64 id) false).run Tryz.prog w'=.ok (.agg so.enc.toArray) w')∧(∀ w',fu wr.heap.size wr w'→(fD 146 (.map (some z2)) (.int .i64 id) false).run Tryz.prog w'=.ok (.agg tq.enc.toArray) w') from⟨fun w' q=>hlk2 w' (q.block _ (by omega)),fun w' q=>hlk3 w' (q.block _ (by omega)),fun w' q=>hlk4 w' (q.block _ (by omega))⟩)
     have HM123:=h_ (And.intro m0 (And.intro m2 m3))
     clear hb7 hr4 hr5 hx7 r0 r1 r2 r3 m0 m2 m3 hlk2 hlk3 hlk4 L1 L2 L3 hat hstep hm1 hlens h3 ho hbl hcell hmap
     go_cut [] (fun wx=>zkX o m1 B g w.heap.size wr.heap.size id (#[fE .i64 pid,.int .i64 pev,.int .i64 pfrm,.int .i64 ptil,.string pau,.string ptx,.bool pdn,.bool plo]) (#[fE .i64 sid,.int .i64 sev,.int .i64 sfrm,.int .i64 stil,.string sau,.string stx,.bool sdn,.bool slo]) (#[fE .i64 tid,.int .i64 tev,.int .i64 tfrm,.int .i64 ttil,.string tau,.string ttx,.bool tdn,.bool tlo]) wr wx)
     case first =>
      clear HSOME
      refine wp_block ?_
      refine ziY m1 B g w.heap.size wr.heap.size (w.heap.size+1) (w.heap.size+1+1) (w.heap.size+1+1+1) x1 y1 z1 x2 y2 z2 id (⟨pid,pev,pfrm,ptil,pau,ptx,pdn,plo⟩:Cm) (⟨sid,sev,sfrm,stil,sau,stx,sdn,slo⟩:Cm) (⟨tid,tev,tfrm,ttil,tau,ttx,tdn,tlo⟩:Cm) po so tq A C D o wr W7 hGS (fJ _) Bwr hm1c HST.out HM123.out.1 HM123.out.2.1 HM123.out.2.2 (fun w' q=>HLK.out.1 w' (HB7.out.trans (q.mono HB7.out.size))) (fun w' q=>HLK.out.2.1 w' (HB7.out.trans (q.mono HB7.out.size))) (fun w' q=>HLK.out.2.2 w' (HB7.out.trans (q.mono HB7.out.size))) htz HO.out _ (fun _ _ _ _ hd h=>⟨hd.trans h.1,h.2⟩) _ _ _ _ _ _ _ _ _ _ _ _ _ _ _ _ _ _ _ _ _ _ _ _ _ _ _ _ _ _ _ _ _ _ _ _ _ _ _ _ _ _ _ _ _ _ _ _ _ _ _ _ _ _ _ _ _ _ _ _ _ _ _ _ _ _ _ _ _ _ _ _ _ _ _ _ _ _ _ _ _ _ _ _ _ _ _ _ _ _ _ _ _ _ _ _ _ _ _ _ _ _ _ _ _ _ _ _ _ _ _ _ _ _ _ _ _ _ _ _ _ _ _ _ _ _ _ _ _ _ _ _ _ _ _ _ _ _ _ _ _ _ _ _ _ _ _ _ _ _ _ _ _ _ _ _ _ _ _ _ _ _ _ _ _ _ _ _ _ _ _ _ _ _ _ _ _ _ _ _ _ _ _ _ _ _ _ _ _ _ _ _ _ _ _ _ _ _ _ _ _ _ _ _ _ ?_ ?_
      · intro c fs h0 u22 u23 u68 u69 u70 u71 u72 u73 u74 u75 u76 u77 u78 u79 u80 u81 u82 u83 u84 u85 u86 u87 u88 u89 u90 u91 u92 u93 u94 u95 u96 u97 u98 u99 u100 u101 u102 u103 u104 u105 u106 u107 u108 u109 u110 u111 u112 u113 u114 u115 u116 u117 u118 u119 u120 u121 u122 u123 u124 u125 u126 u127 u128 u129 u130 u131 u132 u133 u134 u135 u136 u137 u138 u139 u140 u141 u142 u143 u144 u145 u146 u147 u148 u149 u150 u151 u152 u153 u154 u155 u156 u157 u158 u159 u160 u161 u162 u163 u164 u165 u166 u167 u168 u169 u170 u171 u172 u173 u174 u175 u176 u177 u178 u179 u180 u181 u182 u183 u184 u185 u186 u187 u188 u189 u190 u191 u192 u193 u194 u195 u196 u197 u198 u199 u200 u201 u202 u203 u204 wx hst
        have HP:=h_ (And.intro h0 hst)
        clear h0 hst
        go_wp2_with fail
        go_meet
        exact⟨c,fs,HP.out.1,HP.out.2⟩
      · intro h0 u22 u23 u68 u69 u70 u71 u72 u73 u74 u75 u76 u77 u78 u79 u80 u81 u82 u83 u84 u85 u86 u87 u88 u89 u90 u91 u92 u93 u94 u95 u96 u97 u98 u99 u100 u101 u102 u103 u104 u105 u106 u107 u108 u109 u110 u111 u112 u113 u114 u115 u116 u117 u118 u119 u120 u121 u122 u123 u124 u125 u126 u127 u128 u129 u130 u131 u132 u133 u134 u135 u136 u137 u138 u139 u140 u141 u142 u143 u144 u145 u146 u147 u148 u149 u150 u151 u152 u153 u154 u155 u156 u157 u158 u159 u160 u161 u162 u163 u164 u165 u166 u167 u168 u169 u170 u171 u172 u173 u174 u175 u176 u177 u178 u179 u180 u181 u182 u183 u184 u185 u186 u187 u188 u189 u190 u191 u192 u193 u194 u195 u196 u197 u198 u199 u200 u201 u202 u203 u204 wx hbx
        have HE:=h_ (HNONE.out h0 wx (HB7.out.trans (hbx.mono HB7.out.size)))
        clear h0 hbx
        go_wp2_with fail
        go_roundw
        case rel=>exact⟨k+1,by omega,by go_num,HE.out⟩
        case measure=>simp [intOf];omega
     case rest =>
      obtain⟨c,fs,h0,hst⟩:=hcut
      obtain⟨kv',hmat,hmst,hmine⟩:=hst.m
      have HS1:=h_ (HSOME.out c fs h0)
      have hb0:=hst.b0
      have hoo:=hst.o
      have hBc:B≤wc.heap.size:=fI Bwr hmst.1.size
      clear hst h0 HNONE HSOME
      rename_i K0 hK0
      refine hK0 _ _ ?_
      refine zkr { m1 with kv:=kv',cls:=m1.cls++cX id fs } B g w.heap.size wr.heap.size c wc hmat hBc hb0 hoo (by show m1.cms.length≤4000;omega) (fun hm=>(hmine _ hm).1 rfl) (fun hm=>by have:=hmine _ hm;omega) _ (fun _ _ _ _ hd h=>⟨hd.trans h.1,h.2⟩) _ _ _ _ _ _ _ _ _ _ _ _ _ _ _ _ _ _ _ _ _ _ _ _ _ _ _ _ _ _ _ _ _ _ _ _ _ _ _ _ _ _ _ _ _ _ _ _ _ _ _ _ _ _ _ _ _ _ _ _ _ _ _ _ _ _ _ _ _ _ _ _ _ _ _ _ _ _ _ _ _ _ _ _ _ _ _ _ _ _ _ _ _ _ _ _ _ _ _ _ _ _ _ _ _ _ _ _ _ _ _ _ _ _ _ _ _ _ _ _ _ _ _ _ _ _ _ _ _ _ _ _ _ _ _ _ _ _ _ _ _ _ _ _ _ _ _ _ _ _ _ _ _ _ _ _ _ _ _ _ _ _ _ _ _ _ _ _ _ _ _ _ _ _ _ _ _ _ _ _ _ _ _ _ _ _ _ _ _ _ _ _ _ _ _ _ _ _ _ _ _ _ _ _ _ _ _ _ _ _ _ _ _ _ _ _ ?_
      intro u205 u206 u207 u208 u209 u210 u211 u212 u213 u214 u215 u216 cv' wx q1 q2
      have HE:=h_ (HS1.out cv' kv' wx q1 (hmst.trans q2))
      clear hmat hmst hmine hb0 hoo hBc q1 q2 HS1
      go_wp2_with fail
      go_roundw
      case rel=>exact⟨k+1,by omega,by go_num,HE.out⟩
      case measure=>simp [intOf];omega
   · obtain rfl:k=ids.length:=by omega
     have HE:=h_ (HQ.out _ hrel)
     clear hrel
     go_wp2_with fail
     go_end0
     exact HE.out
end Go.Proofs.YtnlnmbcaongehaaGreatDoor
