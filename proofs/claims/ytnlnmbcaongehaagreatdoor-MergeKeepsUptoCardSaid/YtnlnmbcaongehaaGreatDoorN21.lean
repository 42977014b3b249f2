/- merge.comments: the comments of the merged document. -/
import Derived.Test.YtnlnmbcaongehaaGreatDoorN16
import Derived.Test.YtnlnmbcaongehaaGreatDoorN20
set_option linter.unusedVariables false
set_option linter.unusedSimpArgs false
set_option maxRecDepth 100000
set_option maxHeartbeats 12800000
open Go.Lib renaming hid→h_
open Go renaming heap_alloc_last→Su,cell_of_row→Sv,World→Sw
open Go.RowKit renaming Below→Sx
open Go.RowKit.Below renaming heap_alloc→Sy,refl→Sz
open Go.World renaming size_alloc→SA
open Go.Instr renaming lookup→SB
open Go.Proofs.Tryz renaming prog→SC,underlying146→SD
open Go.Value renaming int→SE,map→SF,pointer→SG
open Nat renaming lt_of_lt_of_le→SH,le_trans→SI,le_refl→SJ
open List renaming append_nil→SK,append_assoc→SL
namespace Go.Proofs.YtnlnmbcaongehaaGreatDoor
open Go.RowKit
theorem PG (w:Sw)(ps xs ys zs:Array Value)(T U:TypeId)(wx:Sw)(h:Sx (w.heap.size+4) ((((w.alloc (.cells ps U)).alloc (.cells xs T)).alloc (.cells ys T)).alloc (.cells zs T)) wx) :
 wx.heap[w.heap.size]? =some (.cells ps U (0,0))∧wx.heap[w.heap.size+1]? =some (.cells xs T (0,0))∧wx.heap[w.heap.size+1+1]? =some (.cells ys T (0,0))∧wx.heap[w.heap.size+1+1+1]? =some (.cells zs T (0,0)):=by
 refine⟨?_,?_,?_,?_⟩
 · rw [h.block _ (by omega),Sy _ _ _ (by simp;try omega),Sy _ _ _ (by simp;try omega),Sy _ _ _ (by simp)]
   exact Su w _
 · rw [h.block _ (by omega),Sy _ _ _ (by simp;try omega),Sy _ _ _ (by simp)]
   have:=Su (w.alloc (.cells ps U)) (.cells xs T)
   rwa [SA] at this
 · rw [h.block _ (by omega),Sy _ _ _ (by simp)]
   have:=Su ((w.alloc (.cells ps U)).alloc (.cells xs T)) (.cells ys T)
   rwa [SA,SA] at this
 · rw [h.block _ (by omega)]
   have:=Su (((w.alloc (.cells ps U)).alloc (.cells xs T)).alloc (.cells ys T)) (.cells zs T)
   rwa [SA,SA,SA] at this
theorem zv (w:Sw)(o1 o2 o3 o4:Obj):Sx w.heap.size w ((((w.alloc o1).alloc o2).alloc o3).alloc o4):=bJ w o1 o2 o3 o4
def Aa (txs:List EvC)(x y z:DocC)(m:Mg)(B g:Nat)(ids:List Int)(w:Sw)(k:Nat)(wr:Sw):Prop :=
 ∃ cv kv,({ m with cv:=cv,cM:=mU txs x y z (ids.take k),kv:=kv,cls:=m.cls++kN txs x y z (ids.take k) }:Mg).at_ B g wr∧Mg.step g m { m with cv:=cv,cM:=mU txs x y z (ids.take k),kv:=kv,cls:=m.cls++kN txs x y z (ids.take k) } w wr
def CA (txs:List EvC)(x y z:DocC)(m:Mg)(B g:Nat)(w:Sw)(e:Ending)(w':Sw):Prop:=e=.returned (.tuple #[])∧∃ cv kv,({ m with cv:=cv,cM:=mU txs x y z (iF x.cM y.cM z.cM),kv:=kv,cls:=m.cls++kN txs x y z (iF x.cM y.cM z.cM) }:Mg).at_ B g w' ∧
 Mg.step g m { m with cv:=cv,cM:=mU txs x y z (iF x.cM y.cM z.cM),kv:=kv,cls:=m.cls++kN txs x y z (iF x.cM y.cM z.cM) } w w'
theorem FJ {w:Sw} {b n:Nat} {xs ts:List EvC} {ys:List Cm} (h:VMap w b n (fI xs ts ys)) {z:Int} (hz:i64 z) :
 ∃ c:Cm,(∀ w',w'.heap[b]? =w.heap[b]?→(SB 146 (.map (some b)) (.int .i64 z) true).run SC w'=.ok (.tuple #[.agg c.enc.toArray,.bool (bo ys z)]) w')∧(bB ys z).map (lC xs ts)=(if bo ys z=true then some c else none)∧(bo ys z=false→c=aM):=by
 refine⟨((bB ys z).map (lC xs ts)).getD aM,fun w' hw=>?_,?_,?_⟩
 · have:=(h.kept hw).look SD (CB _) hz
   rw [this]
   unfold fI bo bB cmAt
   cases ys.find? fun x=>x.id==z<;>rfl
 · unfold bo bB cmAt
   cases ys.find? fun x=>x.id==z<;>rfl
 · unfold bo bB cmAt
   cases ys.find? fun x=>x.id==z
   · intro;rfl
   · intro h;cases h
theorem B8 {w:Sw} {b n:Nat} {ys:List Cm} (h:VMap w b n (bp ys)) {z:Int} (hz:i64 z):∃ c:Cm,(∀ w',w'.heap[b]? =w.heap[b]?→(SB 146 (.map (some b)) (.int .i64 z) false).run SC w'=.ok (.agg c.enc.toArray) w')∧c=(bB ys z).getD aM:=by
 refine⟨_,fun w' hw=>?_,rfl⟩
 have:=(h.kept hw).look1 SD (CB _) hz
 rw [this]
 unfold bp bB cmAt
 cases ys.find? fun x=>x.id==z<;>rfl
def QX (o:Option (Cm × List ByteArray))(m1:Mg)(B g G S:Nat)(id:Int)(X Y Z:Array Value)(wr wx:Sw):Prop:=∃ (c:Cm) (fs:List ByteArray),o=some (c,fs)∧CSt m1 B g G S id X Y Z c.enc.toArray (m1.cls++jK id fs) wr wx
structure Ck (w:Sw)(g b1 b2 n:Nat)(d:Doc):Prop where
 at_:bZ w b1 b2 n d.eV d.cM
 low:pG d.eV g w
 tame:∀ c∈d.cM,c.tame
 len:d.eV.length≤1000∧d.cM.length≤1000
theorem pG.both {xs:List Ev} {g:Nat} {w w':Sw} (h:pG xs g w)(hb:Sx g w w')(hs:w.heap.size≤w'.heap.size):∀ e∈xs,e.lies w'∧e.fits:=fun e he=>⟨Ev.frame (h e he).1 hs fun b q=>hb.block b ((h e he).2.2 b q),(h e he).2.1⟩
theorem rq (m:Mg)(B g x1 x2 y1 y2 z1 z2 n:Nat)(x y z:Doc)(w:Sw)(h:m.at_ B g w)(hB:B≤w.heap.size)(hcm:m.cM=[])(hcl:m.cls.length≤40000)
 (hX:Ck w g x1 x2 n x) (hY:Ck w g y1 y2 n y) (hZ:Ck w g z1 z2 n z) (nX:¬ m.mine g x1∧¬ m.mine g x2) (nY:¬ m.mine g y1∧¬ m.mine g y2) (nZ:¬ m.mine g z1∧¬ m.mine g z2)
 (hn:n≤1000000) (hhd:m.hd.fits) (hR:∀ r∈m.rG,r.fits) (hRl:m.rG.length≤4000) (Ro:∀ e∈m.eV,e.fits) (hme:m.eV.length≤n) :
 Calls SC 81 #[.pointer (some ⟨g,0,none⟩),.agg #[SF (some x1),.map (some x2)],.agg #[SF (some y1),.map (some y2)],.agg #[SF (some z1),.map (some z2)]] w (CA (m.eV.map Ev.c) x.c y.c z.c m B g w):=by
 have hgl:=h.glt
 have hx1:=hX.at_.ev.lt
 have hx2:=hX.at_.cm.lt
 have hy1:=hY.at_.ev.lt
 have hy2:=hY.at_.cm.lt
 have hz1:=hZ.at_.ev.lt
 have hz2:=hZ.at_.cm.lt
 have HV:=h_ (fun wx (q:Sx (w.heap.size+4) ((((w.alloc (.cells #[SG (some ⟨g,0,none⟩)] 140)).alloc (.cells #[SF (some x1),.map (some x2)] 148)).alloc (.cells #[SF (some y1),.map (some y2)] 148)).alloc (.cells #[SF (some z1),.map (some z2)] 148)) wx)=>PG w #[SG (some ⟨g,0,none⟩)] #[SF (some x1),.map (some x2)] #[SF (some y1),.map (some y2)] #[SF (some z1),.map (some z2)] 148 140 wx q)
 have zX:=h_ (fun wx (q:Sx (w.heap.size+4) ((((w.alloc (.cells #[SG (some ⟨g,0,none⟩)] 140)).alloc (.cells #[SF (some x1),.map (some x2)] 148)).alloc (.cells #[SF (some y1),.map (some y2)] 148)).alloc (.cells #[SF (some z1),.map (some z2)] 148)) wx)=>(show Sx w.heap.size w wx from(zv w _ _ _ _).trans (q.mono (by omega))))
 have hsz:((((w.alloc (.cells #[SG (some ⟨g,0,none⟩)] 140)).alloc (.cells #[SF (some x1),.map (some x2)] 148)).alloc (.cells #[SF (some y1),.map (some y2)] 148)).alloc (.cells #[SF (some z1),.map (some z2)] 148)).heap.size=w.heap.size+4:=by simp
 generalize Ph:((((w.alloc (.cells #[SG (some ⟨g,0,none⟩)] 140)).alloc (.cells #[SF (some x1),.map (some x2)] 148)).alloc (.cells #[SF (some y1),.map (some y2)] 148)).alloc (.cells #[SF (some z1),.map (some z2)] 148))=W0 at *
 have bu:=h_ hsz
 have hb0:Sx (w.heap.size+4) W0 W0:=Sz _ _
 have HT:=h_ (fun(w2 w3:Sw) (q:Sx (w.heap.size+4) W0 w2) (q3:Sx w2.heap.size w2 w3)=>(q.trans (q3.mono (by have:=q.size;rw [bu.out] at this;exact this)):Sx (w.heap.size+4) W0 w3))
 have RC:=h_ Ph
 have MF:=h.later (zX.out _ hb0)
 obtain⟨d,hdl,Mw,hdr,hde,wV,NQ⟩:=MF.doc
 have hdf:d.fits:=by
  have h1:d.hd.fits:=Mw▸hhd
  exact⟨h1.1,h1.2.1,h1.2.2.1,h1.2.2.2.1,h1.2.2.2.2,by rw [hdr];exact hR,by rw [hdr];omega,by rw [hde];exact Ro,by rw [hde];omega,by rw [wV,hcm];simp,by rw [wV,hcm];simp⟩
 have Ae:=h_ (fj d W0 hdl hdf)
 have hcells:=MF.cells
 rw [NQ] at hcells
 have EP:=h_ hde
 have EX:=h_ (wV.trans hcm)
 have Ij:=h_ hdl
 have f0:∀ j,W0.cell? ⟨w.heap.size,j,none⟩=_:=fun j=>Sv _ _ j _ 140 (0,0) (HV.out _ hb0).1
 have g0:∀ j,W0.cell? ⟨g,j,none⟩=_:=fun j=>Sv _ _ j _ 142 (0,0) hcells
 clear Ph hsz hcells hdl hdf hde wV Mw hdr NQ MF
 obtain⟨dt,dl,dr,dd,dla,dra,drc,dregs,dea,dec,devs,dca,dcc,dcms⟩:=d
 simp only [Doc.enc] at Ae g0 EP EX
 go_enter Tryz.func81,Tryz.ntmps81
 go_upto_region 1 with fail
 rw [RC.out]
 go_wp2_with fail
 refine Ae.out.mono ?_
 rintro e w1 ⟨t1,t2,rfl,hm1,hm2,ht1,ht2,hb1⟩
 have hc1:=HT.out _ _ hb0 hb1
 have Ic:=h_ hm1
 have JV:=h_ hm2
 have QI:=h_ hc1
 have hs1:w.heap.size+4≤w1.heap.size:=by have:=hc1.size;rw [bu.out] at this;exact this
 clear hb1 hm1 hm2 ht1 ht2 f0 g0 Ae
 go_upto_region 2 with fail
 have hk1:=Su w1 (.cells #[.map (some t1),.map (some t2)] 148)
 have hcA:Sx (w.heap.size+4) W0 (w1.alloc (.cells #[.map (some t1),.map (some t2)] 148)):=hc1.alloc hs1 _
 have hsA:(w1.alloc (.cells #[.map (some t1),.map (some t2)] 148)).heap.size=w1.heap.size+1:=SA _ _
 have BR:Sx w1.heap.size w1 (w1.alloc (.cells #[.map (some t1),.map (some t2)] 148)):=(Sz _ _).alloc (SJ _) _
 generalize w1.alloc (.cells #[.map (some t1),.map (some t2)] 148)=WA at *
 have hM:m.at_ B g WA:=h.later (zX.out _ hcA)
 have KT:=h_ hM
 have Rx:=zX.out _ hcA
 have hlow:∀ w',Sx WA.heap.size WA w'→Sx g w w'∧w.heap.size≤w'.heap.size:=fun w' q=>by
  have h1:=Rx.trans (q.mono (by omega))
  exact⟨h1.mono (by omega),h1.size⟩
 have RQ:=h_ (fun w' (q:Sx WA.heap.size WA w')=>(show bZ w' t1 t2 n m.eV [] from by
  have h1:=(Ic.out.below BR Ic.out.lt)
  have h2:=(JV.out.below BR JV.out.lt)
  have e1:devs=m.eV:=EP.out
  have e2:dcms=[]:=EX.out
  subst e1 e2
  exact⟨(h1.below q h1.lt).mono hme,(h2.below q h2.lt).mono (by simp)⟩))
 have EI:=h_ (fun w' (q:Sx WA.heap.size WA w')=>(show ∀ e∈m.eV,e.lies w'∧e.fits from fun e he=>⟨Ev.keeps _ _ _ q (KT.out.each e he),Ro e he⟩))
 have HMX:=h_ (fun w' (q:Sx WA.heap.size WA w')=>oF x1 x2 t1 t2 n x.eV m.eV x.cM [] w' ((hX.at_.later Rx).later q) (RQ.out w' q) (hX.low.both (hlow w' q).1 (hlow w' q).2) (EI.out w' q) hX.tame hn)
 have HMY:=h_ (fun w' (q:Sx WA.heap.size WA w')=>oF y1 y2 t1 t2 n y.eV m.eV y.cM [] w' ((hY.at_.later Rx).later q) (RQ.out w' q) (hY.low.both (hlow w' q).1 (hlow w' q).2) (EI.out w' q) hY.tame hn)
 have HMZ:=h_ (fun w' (q:Sx WA.heap.size WA w')=>oF z1 z2 t1 t2 n z.eV m.eV z.cM [] w' ((hZ.at_.later Rx).later q) (RQ.out w' q) (hZ.low.both (hlow w' q).1 (hlow w' q).2) (EI.out w' q) hZ.tame hn)
 have KR:=h_ (HV.out _ hcA)
 have lA:w.heap.size+5≤WA.heap.size:=by omega
 have lB:w1.heap.size<WA.heap.size:=by omega
 have q1:∀ w',Sx WA.heap.size WA w'→∀ j,w'.cell? ⟨w.heap.size+1,j,none⟩=_:=fun w' q j=>Sv _ _ j _ 148 (0,0) ((q.block _ (by omega)).trans KR.out.2.1)
 have q2:∀ w',Sx WA.heap.size WA w'→∀ j,w'.cell? ⟨w.heap.size+1+1,j,none⟩=_:=fun w' q j=>Sv _ _ j _ 148 (0,0) ((q.block _ (by omega)).trans KR.out.2.2.1)
 have q3:∀ w',Sx WA.heap.size WA w'→∀ j,w'.cell? ⟨w.heap.size+1+1+1,j,none⟩=_:=fun w' q j=>Sv _ _ j _ 148 (0,0) ((q.block _ (by omega)).trans KR.out.2.2.2)
 have q4:∀ w',Sx WA.heap.size WA w'→∀ j,w'.cell? ⟨w1.heap.size,j,none⟩=_:=fun w' q j=>Sv _ _ j _ 148 (0,0) ((q.block _ lB).trans hk1)
 have JN:=h_ (fun(w2 w3:Sw) (q:Sx WA.heap.size WA w2) (q3:Sx w2.heap.size w2 w3)=>(q.trans (q3.mono q.size):Sx WA.heap.size WA w3))
 have hbd:Sx WA.heap.size WA WA.drew:=(Sz _ _).drew
 have DA:=h_ hcA
 unfold Dl at HMX HMY HMZ
 clear hk1 hcA hsA BR hM hc1 hlow hs1 hb0
 go_cut [9,10,11] (fun s9 s10 s11 wx=>∃ b1 b2 b3,s9=.map (some b1)∧s10=.map (some b2)∧s11=.map (some b3)∧VMap wx b1 n (fI (x.eV.map Ev.c) (m.eV.map Ev.c) x.cM)∧VMap wx b2 n (fI (y.eV.map Ev.c) (m.eV.map Ev.c) y.cM)∧VMap wx b3 n (fI (z.eV.map Ev.c) (m.eV.map Ev.c) z.cM)∧WA.heap.size≤b1∧WA.heap.size≤b2∧WA.heap.size≤b3∧Sx WA.heap.size WA wx)
 case first =>
  go_region_held3 (fun w'=>Sx WA.heap.size WA w') (repeat (first|with_reducible assumption|with_reducible exact hbd)) (first
   | (go_at_call 139;(with_reducible refine(HMX.out _ (by first|with_reducible assumption|with_reducible exact hbd)).mono ?_);rintro e wx ⟨bx,rfl,Re,hlx,hbx⟩;have hcx:=JN.out _ _ (by first|with_reducible assumption|with_reducible exact hbd) hbx)
   | (go_at_call 139;(with_reducible refine(HMY.out _ (by first|with_reducible assumption|with_reducible exact hbd)).mono ?_);rintro e wy ⟨by_,rfl,Rc,lG,hby⟩;have hcy:=JN.out _ _ (by first|with_reducible assumption|with_reducible exact hbd) hby)
   | (go_at_call 139;(with_reducible refine(HMZ.out _ (by first|with_reducible assumption|with_reducible exact hbd)).mono ?_);rintro e wz ⟨bz,rfl,hvz,hlz,hbz⟩;have hcz:=JN.out _ _ (by first|with_reducible assumption|with_reducible exact hbd) hbz))
  all_goals
   go_wp2_with fail
   go_meet
   exact⟨bx,by_,bz,rfl,rfl,rfl,(Re.below hby Re.lt).below hbz (Re.below hby Re.lt).lt,Rc.below hbz Rc.lt,hvz,hlx,SI hcx.size lG,SI hcy.size hlz,hcz⟩
 case rest =>
  obtain⟨b1,b2,b3,rfl,rfl,rfl,v1,v2,v3,l1,l2,l3,hbc⟩:=hcut
  clear HMX HMY HMZ RQ EI q1 q2 q3 q4 hbd JN Ic JV QI
  have hsw:=hbc.size
  have hbl:∀ o,Sx wc.heap.size wc (wc.alloc o):=fun o=>(Sz _ _).alloc (SJ _) o
  have xE:=h_ (show Calls SC 140 #[.slice (some ⟨wc.heap.size,0,none⟩) 3 3] (wc.alloc (.cells #[.map (some b1),.map (some b2),.map (some b3)] 146)) (nv (fun j=>if j=0 then fI (x.eV.map Ev.c) (m.eV.map Ev.c) x.cM else if j=1 then fI (y.eV.map Ev.c) (m.eV.map Ev.c) y.cM else fI (z.eV.map Ev.c) (m.eV.map Ev.c) z.cM) (wc.alloc (.cells #[.map (some b1),.map (some b2),.map (some b3)] 146))) from by
   have hr:=Su wc (.cells #[.map (some b1),.map (some b2),.map (some b3)] 146)
   refine yY wc.heap.size (fun j=>if j=0 then b1 else if j=1 then b2 else b3) n _ _ ?_ ?_ ?_ (by simp) (fun j=>?_) hn
   · rw [Sv _ _ 0 _ 146 (0,0) hr];rfl
   · rw [Sv _ _ 1 _ 146 (0,0) hr];rfl
   · rw [Sv _ _ 2 _ 146 (0,0) hr];rfl
   · by_cases h0:j=0
     · subst h0
       exact v1.below (hbl _) v1.lt
     · by_cases h1:j=1
       · subst h1
         exact v2.below (hbl _) v2.lt
       · simp only [if_neg h0,if_neg h1]
         exact v3.below (hbl _) v3.lt)
  have V1:=h_ v1;have V2:=h_ v2;have V3:=h_ v3
  have Ik:=h_ hbc
  clear v1 v2 v3 hbc hbl
  go_wp2_with fail
  refine xE.out.mono ?_
  rintro e w5 ⟨ids,vi,rfl,hasc,hmem,hoi,hb5⟩
  have ou:=Jy (a:=x.c) (b:=y.c) (c:=z.c) (txs:=m.eV.map Ev.c) hasc _ ⟨rfl,rfl,rfl⟩ hmem
  have Gk:Sx wc.heap.size wc w5:=((Sz _ _).alloc (SJ _) _).trans (hb5.mono (by simp))
  have zu:Sx WA.heap.size WA w5:=Ik.out.trans (Gk.mono hsw)
  have O1:ids.length≤3000:=by
   rw [ou]
   refine SI (zJ _ _ _) ?_
   have:=hX.len.2;have:=hY.len.2;have:=hZ.len.2
   simp only [Doc.c]
   omega
  have EO:=h_ (fun(id:Int) (hid:id∈ids)=>(show i64 id from by
   rw [ou] at hid
   exact GV (fun e he=>(hX.tame e he).1) (fun e he=>(hY.tame e he).1) (fun e he=>(hZ.tame e he).1) hid))
  have KO:=h_ ((zX.out _ DA.out).trans (zu.mono (by omega)))
  have EM:=h_ (KT.out.later zu)
  have vI:=h_ (fun b (hb:m.mine g b)=>h.mine_lt hb)
  have qi:=h_ (show w5.heap[w.heap.size]? =_∧w5.heap[w.heap.size+1]? =_∧w5.heap[w.heap.size+1+1]? =_∧w5.heap[w.heap.size+1+1+1]? =_ from⟨(zu.block _ (by omega)).trans KR.out.1,(zu.block _ (by omega)).trans KR.out.2.1,(zu.block _ (by omega)).trans KR.out.2.2.1,(zu.block _ (by omega)).trans KR.out.2.2.2⟩)
  have JS:=h_ (show w5.ownsRow WA.heap.size 2 1 vi ids.length (ids.map (SE .i64)) from eQ hoi (by rw [SA];omega))
  have U1:=h_ (V1.out.below Gk V1.out.lt)
  have U2:=h_ (V2.out.below Gk V2.out.lt)
  have U3:=h_ (V3.out.below Gk V3.out.lt)
  have hs5:WA.heap.size≤w5.heap.size:=zu.size
  have hmy:m.eV.map Ev.c=m.eV.map Ev.c:=rfl
  generalize m.eV.map Ev.c=txs at *
  have HQ:=h_ (show ∀ w',Aa txs x.c y.c z.c m B g ids w5 ids.length w'→CA txs x.c y.c z.c m B g w (.returned (.tuple #[])) w' from fun w' hr=>by
   obtain⟨cv,kv,q1,q2⟩:=hr
   rw [List.take_length,ou] at q1 q2
   exact⟨rfl,cv,kv,q1,(Mg.step.of_below KO.out).trans q2⟩)
  have ll:=h_ (show Aa txs x.c y.c z.c m B g ids w5 0 w5 from by
   have e1:mU txs x.c y.c z.c (ids.take 0)=[]:=rfl
   have e2:kN txs x.c y.c z.c (ids.take 0)=[]:=rfl
   refine⟨m.cv,m.kv,?_,?_⟩
   · rw [e1,e2,SK,←hcm]
     exact EM.out
   · rw [e1,e2,SK,←hcm]
     exact Mg.step.refl _ _ _)
  generalize CA txs x.c y.c z.c m B g w=Q at *
  obtain⟨ia,ic,rfl⟩:=kf hoi
  clear hb5 Gk zu hoi hasc hmem ou xE hmy V1 V2 V3 KR DA
  go_wp2_with fail
  go_loopw [44] (fun i wr=>∃ k:Nat,k≤ids.length∧i=.int .i64 k∧Aa txs x.c y.c z.c m B g ids w5 k wr) (fun i _=>ids.length-(intOf i).toNat)
  case atStart=>exact⟨0,by omega,rfl,ll.out⟩
  case round =>
   clear ll
   obtain⟨k,hk,rfl,hrel⟩:=hrel
   by_cases hlt:k<ids.length
   · obtain⟨id,hid⟩:∃ id,ids[k]? =some id:=⟨_,List.getElem?_eq_getElem hlt⟩
     have ub:=EO.out id (List.mem_of_getElem? hid)
     obtain⟨cv,kv,hat,hstep⟩:=hrel
     have hbl:=hstep.low EM.out
     have H9:=hstep.1.size
     obtain⟨q,qc,hq⟩:∃ q c,(Value.slice ia ids.length ic)=.slice (some ⟨q,0,none⟩) ids.length c:=kZ JS.out (by omega)
     obtain⟨rfl,_,rfl⟩:=Value.slice.inj hq
     have hkeep:∀ b,w.heap.size≤b→b<w5.heap.size→wr.heap[b]? =w5.heap[b]?:=fun b h1 h2=>hstep.1.block b h2 fun hm=>by have:=vI.out b hm;omega
     have OJ:=JS.out.lt q rfl
     have hcell:wr.cell? ⟨q,k,none⟩=some (.int .i64 id):=by
      rw [Sw.cell?_of_block (w:=w5) (hkeep q (by omega) OJ.2),JS.out.cellAt k (by omega)]
      simp [hid]
     have Kv:ids.length≤ic:=by
      rcases JS.out.2 with⟨h0,_⟩|⟨g',cap,cur,h0,_,_,hnc,_⟩
      · simp at h0
      · simp only [Value.slice.injEq] at h0
        obtain⟨_,_,rfl⟩:=h0
        exact hnc
     have hmap:∀ b,b<w.heap.size→¬ m.mine g b→wr.heap[b]? =w.heap[b]?:=fun b h1 h2=>(hstep.1.block b (by omega) h2).trans (KO.out.block b h1)
     obtain⟨p,hlp,hpo,hpz⟩:=FJ (U1.out.kept (hkeep b1 (by omega) U1.out.lt)) ub
     obtain⟨s,hls,hso,hsz'⟩:=FJ (U2.out.kept (hkeep b2 (by omega) U2.out.lt)) ub
     obtain⟨t,hlt',hto,htz⟩:=FJ (U3.out.kept (hkeep b3 (by omega) U3.out.lt)) ub
     obtain⟨po,OS,Ml⟩:=B8 (hX.at_.cm.kept (hmap x2 hx2 nX.2)) ub
     obtain⟨so,OR,Mi⟩:=B8 (hY.at_.cm.kept (hmap y2 hy2 nY.2)) ub
     obtain⟨tq,OO,Me⟩:=B8 (hZ.at_.cm.kept (hmap z2 hz2 nZ.2)) ub
     have h3:mgCm txs x.c y.c z.c id=mF (bB x.cM id) (bB y.cM id) (bB z.cM id) (if bo x.cM id=true then some p else none) (if bo y.cM id=true then some s else none) (if bo z.cM id=true then some t else none):=by
      unfold mgCm
      rw [←hpo,←hso,←hto]
      rfl
     have h4:∀ a b c,mF (bB x.cM id) (bB y.cM id) (bB z.cM id) (some a) (some b) none=(if cmEq so po=true then none else some (b,[jJ]))∧mF (bB x.cM id) (bB y.cM id) (bB z.cM id) (some a) none (some c)=(if cmEq tq po=true then none else some (c,[jJ])):=fun a b c=>by
      rw [Ml,Mi,Me]
      exact⟨rfl,rfl⟩
     have h5:∀ a b c,mF (bB x.cM id) (bB y.cM id) (bB z.cM id) a b c=mF (some po) (some so) (some tq) a b c:=fun a b c=>by
      rw [Ml,Mi,Me]
      cases a<;>cases b<;>cases c<;>rfl
     rw [h5] at h3
     clear h4 h5 hpo hso hto Ml Mi Me
     have r0:wr.heap[w.heap.size]? =_:=(hkeep _ (by omega) (by omega)).trans qi.out.1
     have r1:wr.heap[w.heap.size+1]? =_:=(hkeep _ (by omega) (by omega)).trans qi.out.2.1
     have r2:wr.heap[w.heap.size+1+1]? =_:=(hkeep _ (by omega) (by omega)).trans qi.out.2.2.1
     have r3:wr.heap[w.heap.size+1+1+1]? =_:=(hkeep _ (by omega) (by omega)).trans qi.out.2.2.2
     have bx1:b1<wr.heap.size:=SH U1.out.lt H9
     have bx2:b2<wr.heap.size:=SH U2.out.lt H9
     have bx3:b3<wr.heap.size:=SH U3.out.lt H9
     generalize bo x.cM id=A at *
     generalize bo y.cM id=C at *
     generalize bo z.cM id=D at *
     have k1:∀ o,(wr.alloc o).heap[b1]? =wr.heap[b1]?:=fun o=>Sy _ _ _ bx1
     have k2:∀ o o',((wr.alloc o).alloc o').heap[b2]? =wr.heap[b2]?:=fun o o'=>(Sy _ _ _ (by simp;omega)).trans (Sy _ _ _ bx2)
     have k3:∀ o o' o'',(((wr.alloc o).alloc o').alloc o'').heap[b3]? =wr.heap[b3]?:=fun o o' o''=>(Sy _ _ _ (by simp;omega)).trans ((Sy _ _ _ (by simp;omega)).trans (Sy _ _ _ bx3))
     have L1:=h_ (fun o=>hlp (wr.alloc o) (k1 o))
     have L2:=h_ (fun o o'=>hls ((wr.alloc o).alloc o') (k2 o o'))
     have L3:=h_ (fun o o' o''=>hlt' (((wr.alloc o).alloc o').alloc o'') (k3 o o' o''))
     clear k1 k2 k3 hlp hls hlt' hkeep
     obtain⟨pid,pev,pfrm,ptil,pau,ptx,pdn,plo⟩:=p
     obtain⟨sid,sev,sfrm,stil,sau,stx,sdn,slo⟩:=s
     obtain⟨tid,tev,tfrm,ttil,tau,ttx,tdn,tlo⟩:=t
     simp only [Cm.enc] at L1 L2 L3
     obtain⟨m1,hm1⟩:∃ m1:Mg,m1={ m with cv:=cv,cM:=mU txs x.c y.c z.c (ids.take k),kv:=kv,cls:=m.cls++kN txs x.c y.c z.c (ids.take k) }:=⟨_,rfl⟩
     have pd:=sv txs x.c y.c z.c (ids.take k)
     rw [List.length_take] at pd
     have Jd:m1.cls.length≤60000:=by subst hm1;simp only [List.length_append];omega
     have hm1m:m1.cM.length≤3000:=by subst hm1;simp only;omega
     obtain⟨o,ho⟩:∃ o,o=mF (some po) (some so) (some tq) (if A=true then some (⟨pid,pev,pfrm,ptil,pau,ptx,pdn,plo⟩:Cm) else none) (if C=true then some (⟨sid,sev,sfrm,stil,sau,stx,sdn,slo⟩:Cm) else none) (if D=true then some (⟨tid,tev,tfrm,ttil,tau,ttx,tdn,tlo⟩:Cm) else none):=⟨_,rfl⟩
     rw [←ho] at h3
     have HO:=h_ ho
     have eW:=h_ (show o=none→∀ wx,Sx wr.heap.size wr wx→Aa txs x.c y.c z.c m B g ids w5 (k+1) wx from fun h0 wx hbx=>by
      rw [h0] at h3
      have e1:=vl txs x.c y.c z.c ids k id hid
      have e2:=sw txs x.c y.c z.c ids k id hid
      rw [h3] at e1 e2
      simp only [Option.map_none,Option.toList_none,SK,Option.getD_none,jK,List.map_nil] at e1 e2
      refine⟨cv,kv,?_,?_⟩
      · rw [e1,e2];exact hat.later hbx
      · rw [e1,e2];exact hstep.trans (Mg.step.of_below hbx))
     have qV:=h_ (show ∀ (c:Cm) (fs:List ByteArray),o=some (c,fs)→∀ (cv' kv':Value) (w':Sw),({ m1 with cv:=cv',cM:=m1.cM++[c],kv:=kv',cls:=m1.cls++jK id fs }:Mg).at_ B g w'→Mg.step g m1 { m1 with cv:=cv',cM:=m1.cM++[c],kv:=kv',cls:=m1.cls++jK id fs } wr w'→Aa txs x.c y.c z.c m B g ids w5 (k+1) w' from fun c fs h0 cv' kv' w' q1 q2=>by
      subst hm1
      rw [h0] at h3
      have e1:=vl txs x.c y.c z.c ids k id hid
      have e2:=sw txs x.c y.c z.c ids k id hid
      rw [h3] at e1 e2
      simp only [Option.map_some,Option.toList_some,Option.getD_some] at e1 e2
      refine⟨cv',kv',?_,?_⟩
      · rw [e1,e2,←SL];exact q1
      · rw [e1,e2,←SL];exact hstep.trans q2)
     have HAT:=h_ (show m1.at_ B g wr from hm1▸hat)
     have Qd:=h_ (fun b (hb:m1.mine g b)=>(show b≠w.heap.size∧b<wr.heap.size from⟨fun e=>by
      subst hm1
      rcases hstep.2 b hb with h1|h1
      · have:=vI.out b h1;omega
      · omega,HAT.out.mine_lt hb⟩))
     have km:w.heap.size<wr.heap.size:=by omega
     have Bwr:B≤wr.heap.size:=by omega
     have hlk2:∀ w',w'.heap[x2]? =wr.heap[x2]?→(SB 146 (.map (some x2)) (.int .i64 id) false).run SC w'=.ok (.agg po.enc.toArray) w':=OS
     have OU:∀ w',w'.heap[y2]? =wr.heap[y2]?→(SB 146 (.map (some y2)) (.int .i64 id) false).run SC w'=.ok (.agg so.enc.toArray) w':=OR
     have OT:∀ w',w'.heap[z2]? =wr.heap[z2]?→(SB 146 (.map (some z2)) (.int .i64 id) false).run SC w'=.ok (.agg tq.enc.toArray) w':=OO
     clear OS OR OO
     go_upto_block 2 with(first
      | (at_lookup;refine aa _ rfl _ _ _ _ rfl _ _ _ rfl rfl (L1.out _) ?_)
      | (at_lookup;refine aa _ rfl _ _ _ _ rfl _ _ _ rfl rfl (L2.out _ _) ?_)
      | (at_lookup;refine aa _ rfl _ _ _ _ rfl _ _ _ rfl rfl (L3.out _ _ _) ?_))
     have lO:Sx wr.heap.size wr (((((wr.alloc (.cells #[.int .i64 id] 2)).alloc (.cells #[SE .i64 pid,.int .i64 pev,.int .i64 pfrm,.int .i64 ptil,.string pau,.string ptx,.bool pdn,.bool plo] 52)).alloc (.cells #[SE .i64 sid,.int .i64 sev,.int .i64 sfrm,.int .i64 stil,.string sau,.string stx,.bool sdn,.bool slo] 52)).alloc (.cells #[SE .i64 tid,.int .i64 tev,.int .i64 tfrm,.int .i64 ttil,.string tau,.string ttx,.bool tdn,.bool tlo] 52)).alloc (.cells #[SE .i64 pid,.int .i64 pev,.int .i64 pfrm,.int .i64 ptil,.string pau,.string ptx,.bool pdn,.bool plo] 52)):=(bJ wr _ _ _ _).alloc (by simp;try omega) _
     have Kq:=Su ((((wr.alloc (.cells #[.int .i64 id] 2)).alloc (.cells #[SE .i64 pid,.int .i64 pev,.int .i64 pfrm,.int .i64 ptil,.string pau,.string ptx,.bool pdn,.bool plo] 52)).alloc (.cells #[SE .i64 sid,.int .i64 sev,.int .i64 sfrm,.int .i64 stil,.string sau,.string stx,.bool sdn,.bool slo] 52)).alloc (.cells #[SE .i64 tid,.int .i64 tev,.int .i64 tfrm,.int .i64 ttil,.string tau,.string ttx,.bool tdn,.bool tlo] 52)) (.cells #[SE .i64 pid,.int .i64 pev,.int .i64 pfrm,.int .i64 ptil,.string pau,.string ptx,.bool pdn,.bool plo] 52)
     have hr4:=PG wr #[.int .i64 id] (#[SE .i64 pid,.int .i64 pev,.int .i64 pfrm,.int .i64 ptil,.string pau,.string ptx,.bool pdn,.bool plo]) (#[SE .i64 sid,.int .i64 sev,.int .i64 sfrm,.int .i64 stil,.string sau,.string stx,.bool sdn,.bool slo]) (#[SE .i64 tid,.int .i64 tev,.int .i64 tfrm,.int .i64 ttil,.string tau,.string ttx,.bool tdn,.bool tlo]) 52 2 (((((wr.alloc (.cells #[.int .i64 id] 2)).alloc (.cells #[SE .i64 pid,.int .i64 pev,.int .i64 pfrm,.int .i64 ptil,.string pau,.string ptx,.bool pdn,.bool plo] 52)).alloc (.cells #[SE .i64 sid,.int .i64 sev,.int .i64 sfrm,.int .i64 stil,.string sau,.string stx,.bool sdn,.bool slo] 52)).alloc (.cells #[SE .i64 tid,.int .i64 tev,.int .i64 tfrm,.int .i64 ttil,.string tau,.string ttx,.bool tdn,.bool tlo] 52)).alloc (.cells #[SE .i64 pid,.int .i64 pev,.int .i64 pfrm,.int .i64 ptil,.string pau,.string ptx,.bool pdn,.bool plo] 52)) ((Sz _ _).alloc (by simp;try omega) _)
     have hsz7:(((((wr.alloc (.cells #[.int .i64 id] 2)).alloc (.cells #[SE .i64 pid,.int .i64 pev,.int .i64 pfrm,.int .i64 ptil,.string pau,.string ptx,.bool pdn,.bool plo] 52)).alloc (.cells #[SE .i64 sid,.int .i64 sev,.int .i64 sfrm,.int .i64 stil,.string sau,.string stx,.bool sdn,.bool slo] 52)).alloc (.cells #[SE .i64 tid,.int .i64 tev,.int .i64 tfrm,.int .i64 ttil,.string tau,.string ttx,.bool tdn,.bool tlo] 52)).alloc (.cells #[SE .i64 pid,.int .i64 pev,.int .i64 pfrm,.int .i64 ptil,.string pau,.string ptx,.bool pdn,.bool plo] 52)).heap.size=wr.heap.size+5:=by simp
     rw [SA,SA,SA,SA] at Kq
     generalize (((((wr.alloc (.cells #[.int .i64 id] 2)).alloc (.cells #[SE .i64 pid,.int .i64 pev,.int .i64 pfrm,.int .i64 ptil,.string pau,.string ptx,.bool pdn,.bool plo] 52)).alloc (.cells #[SE .i64 sid,.int .i64 sev,.int .i64 sfrm,.int .i64 stil,.string sau,.string stx,.bool sdn,.bool slo] 52)).alloc (.cells #[SE .i64 tid,.int .i64 tev,.int .i64 tfrm,.int .i64 ttil,.string tau,.string ttx,.bool tdn,.bool tlo] 52)).alloc (.cells #[SE .i64 pid,.int .i64 pev,.int .i64 pfrm,.int .i64 ptil,.string pau,.string ptx,.bool pdn,.bool plo] 52))=W7 at *
     have hx7:∀ b,b<w.heap.size→W7.heap[b]? =wr.heap[b]?:=fun b hb=>lO.block b (by omega)
     have HST:=h_ (show CSt m1 B g w.heap.size wr.heap.size id (#[SE .i64 pid,.int .i64 pev,.int .i64 pfrm,.int .i64 ptil,.string pau,.string ptx,.bool pdn,.bool plo]) (#[SE .i64 sid,.int .i64 sev,.int .i64 sfrm,.int .i64 stil,.string sau,.string stx,.bool sdn,.bool slo]) (#[SE .i64 tid,.int .i64 tev,.int .i64 tfrm,.int .i64 ttil,.string tau,.string ttx,.bool tdn,.bool tlo]) (#[SE .i64 pid,.int .i64 pev,.int .i64 pfrm,.int .i64 ptil,.string pau,.string ptx,.bool pdn,.bool plo]) m1.cls wr W7 from
      ⟨(lO.block _ km).trans r0,hr4.1,hr4.2.1,hr4.2.2.1,hr4.2.2.2,Kq,⟨m1.kv,HAT.out.later lO,Mg.step.of_below lO,fun b hb=>⟨(Qd.out b hb).1,.inl (Qd.out b hb).2⟩⟩,fun e he b hb=>Ev.uses_lt (HAT.out.each e he) hb⟩)
     have Ai:=h_ lO
     have m0:W7.heap[w.heap.size+1]? =_:=(lO.block _ (by omega)).trans r1
     have m2:W7.heap[w.heap.size+1+1]? =_:=(lO.block _ (by omega)).trans r2
     have m3:W7.heap[w.heap.size+1+1+1]? =_:=(lO.block _ (by omega)).trans r3
     have iN:=h_ (show(∀ w',Sx wr.heap.size wr w'→(SB 146 (.map (some x2)) (.int .i64 id) false).run SC w'=.ok (.agg po.enc.toArray) w')∧(∀ w',Sx wr.heap.size wr w'→(SB 146 (.map (some y2)) (.int .i64 id) false).run SC w'=.ok (.agg so.enc.toArray) w')∧(∀ w',Sx wr.heap.size wr w'→(SB 146 (.map (some z2)) (.int .i64 id) false).run SC w'=.ok (.agg tq.enc.toArray) w') from⟨fun w' q=>hlk2 w' (q.block _ (by omega)),fun w' q=>OU w' (q.block _ (by omega)),fun w' q=>OT w' (q.block _ (by omega))⟩)
     have Hj:=h_ (And.intro m0 (And.intro m2 m3))
     clear lO hr4 Kq hx7 r0 r1 r2 r3 m0 m2 m3 hlk2 OU OT L1 L2 L3 hat hstep hm1 pd h3 ho hbl hcell hmap
     go_cut [] (fun wx=>QX o m1 B g w.heap.size wr.heap.size id (#[SE .i64 pid,.int .i64 pev,.int .i64 pfrm,.int .i64 ptil,.string pau,.string ptx,.bool pdn,.bool plo]) (#[SE .i64 sid,.int .i64 sev,.int .i64 sfrm,.int .i64 stil,.string sau,.string stx,.bool sdn,.bool slo]) (#[SE .i64 tid,.int .i64 tev,.int .i64 tfrm,.int .i64 ttil,.string tau,.string ttx,.bool tdn,.bool tlo]) wr wx)
     case first =>
      clear qV
      refine wp_block ?_
      refine GO m1 B g w.heap.size wr.heap.size (w.heap.size+1) (w.heap.size+1+1) (w.heap.size+1+1+1) x1 y1 z1 x2 y2 z2 id (⟨pid,pev,pfrm,ptil,pau,ptx,pdn,plo⟩:Cm) (⟨sid,sev,sfrm,stil,sau,stx,sdn,slo⟩:Cm) (⟨tid,tev,tfrm,ttil,tau,ttx,tdn,tlo⟩:Cm) po so tq A C D o wr W7 km (SJ _) Bwr Jd HST.out Hj.out.1 Hj.out.2.1 Hj.out.2.2 (fun w' q=>iN.out.1 w' (Ai.out.trans (q.mono Ai.out.size))) (fun w' q=>iN.out.2.1 w' (Ai.out.trans (q.mono Ai.out.size))) (fun w' q=>iN.out.2.2 w' (Ai.out.trans (q.mono Ai.out.size))) htz HO.out _ (fun _ _ _ _ hd h=>⟨hd.trans h.1,h.2⟩) ?_
      intro X wx hX
      rcases hX with⟨c,fs,h0,rfl,hst⟩|⟨h0,rfl,hbx⟩
      · intros
        have HP:=h_ (And.intro h0 hst)
        clear h0 hst
        go_wp2_with fail
        go_meet
        exact⟨c,fs,HP.out.1,HP.out.2⟩
      · intros
        have HE:=h_ (eW.out h0 wx (Ai.out.trans (hbx.mono Ai.out.size)))
        clear h0 hbx
        go_wp2_with fail
        go_roundw
        case rel=>exact⟨k+1,by omega,by go_num,HE.out⟩
        case measure=>simp [intOf];omega
     case rest =>
      obtain⟨c,fs,h0,hst⟩:=hcut
      obtain⟨kv',ON,Mo,Gb⟩:=hst.m
      have lF:=h_ (qV.out c fs h0)
      have hb0:=hst.b0
      have hoo:=hst.o
      have hBc:B≤wc.heap.size:=SI Bwr Mo.1.size
      clear hst h0 eW qV
      rename_i K0 hK0
      refine hK0 _ _ ?_
      refine MU { m1 with kv:=kv',cls:=m1.cls++jK id fs } B g w.heap.size wr.heap.size c wc ON hBc hb0 hoo (by show m1.cM.length≤4000;omega) (fun hm=>(Gb _ hm).1 rfl) (fun hm=>by have:=Gb _ hm;omega) _ (fun _ _ _ _ hd h=>⟨hd.trans h.1,h.2⟩) ?_
      intros;rename_i cv' wx q1 q2
      have HE:=h_ (lF.out cv' kv' wx q1 (Mo.trans q2))
      clear ON Mo Gb hb0 hoo hBc q1 q2 lF
      go_wp2_with fail
      go_roundw
      case rel=>exact⟨k+1,by omega,by go_num,HE.out⟩
      case measure=>simp [intOf];omega
   · obtain rfl:k=ids.length:=by omega
     have HE:=h_ (HQ.out _ hrel)
     clear hrel
     go_wp2_with fail
     go_end0
     exact HE.out
end Go.Proofs.YtnlnmbcaongehaaGreatDoor
