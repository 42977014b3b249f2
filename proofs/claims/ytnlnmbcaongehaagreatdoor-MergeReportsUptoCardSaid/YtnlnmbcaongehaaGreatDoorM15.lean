/- merge.moved: the comments of a document with their anchors moved. (printed by gen_mgmoved.py) The changes between two documents in order lead from the one to the other, and their inverses back: the plain law. The plain law of MergeUnchanged: a merge with an unchanged side, or of equal sides, gives the other side without a clash. -/
import Derived.Test.YtnlnmbcaongehaaGreatDoorM14
import Derived.Test.YtnlnmbcaongehaaGreatDoorM12
set_option linter.unusedVariables false
set_option linter.unusedSimpArgs false
set_option maxRecDepth 100000
set_option maxHeartbeats 12800000
open Go.Lib renaming hid→h_
open List renaming setIfInBounds_toArray→fm,getElem_cons_zero→fp,getElem_cons_succ→ft,getElem_toArray→fu,set_cons_zero→fw,set_cons_succ→fB,mem_of_find?_eq_some→fC,mem_map→fD,mem_append→fE,find?_some→fF
open Nat renaming le_trans→fG
open Go renaming wpAnyH_ready→fH,heap_setCell_same→fI,cell_of_row→fJ,World→fK,wpAnyH_take→fL,wpAnyH_done→fM
open Go.RowKit renaming Below→fN
open Go.Value renaming int→fO
open Go.Act renaming put→fP
open Array renaming toArray_toList→fQ
open Go.AllReadyH renaming cons→fR,nil→fS
namespace Go.Proofs.YtnlnmbcaongehaaGreatDoor
open Go.RowKit
theorem zaY (xs:List Ev)(z:Int):b8 (xs.map Ev.c) z=(xs.find? fun x=>x.id==z).map Ev.c:=by
 unfold b8
 rw [List.find?_map]
 rfl
theorem zhL (o:Option Ev):dC (o.map Ev.c)=dC (some (o.getD bO).c):=by
 cases o<;>rfl
theorem zaC {x:Ev} (h:x.fits):(dC (some x.c)).size≤20000000000000:=by
 have h1:=eM (n:=4000000) (x.rows.map Row.runs) (fun r hr=>by
  obtain⟨q,hq,rfl⟩:=fD.1 hr
  exact(h.2.2.2.2.2.2.2.1 q hq).2.2)
 rw [List.length_map] at h1
 have h2:=Nat.mul_le_mul_right 4000001 h.2.2.2.2.2.2.2.2
 have h3:(dC (some x.c)).size=(bp (x.rows.map Row.runs)).length:=by
  show(bp (x.rows.map Row.runs)).toArray.size=_
  simp
 rw [h3]
 exact fG h1 (fG h2 (by decide))
theorem eJ:bO.fits:=by
 refine⟨⟨by decide,by decide⟩,⟨by decide,by decide⟩,⟨by decide,by decide⟩,by decide,by decide,by decide,by decide,?_,by decide⟩
 intro r hr
 cases hr
def bH (xs ts:List EvC)(ys:List Cm)(z:Int):Option Value:=((ys.find? fun y=>y.id==z).map (dT xs ts)).map fun y=>.agg y.enc.toArray
theorem zfW {xs ts:List EvC} {ys:List Cm} {z:Int} (h:(aK ys z).isSome=false):bH xs ts ys z=none:=by
 unfold aK at h
 unfold bH
 cases hf:ys.find? (fun y=>y.id==z) with
 | none=>rfl
 | some y=>rw [hf] at h;simp at h
def Cm.tame (c:Cm):Prop:=c.fits∧(c.lost=false→(-1000000000000000000≤c.frm∧c.frm≤1000000000000000000)∧(-1000000000000000000≤c.til∧c.til≤1000000000000000000))
def zgW (n:Nat)(xs ts:List EvC)(ys:List Cm)(w:fK)(e:Ending)(w':fK):Prop:=∃ b,e=.returned (.map (some b))∧VMap w' b n (bH xs ts ys)∧w.heap.size≤b∧fN w.heap.size w w'
theorem Kept.setAt {g:Nat} {a w:fK} (h:Kept (fun b=>b=g) a w)(j:Nat)(u:Value):Kept (fun b=>b=g) a (w.setCell ⟨g,j,none⟩ u):=h.setCell (.inr rfl) u
theorem zjz {w:fK} {g:Nat} {id ev frm til:Int} {au tx:ByteArray} {dn lo:Bool} (h:w.heap[g]? =some (.cells #[.int .i64 id,.int .i64 ev,.int .i64 frm,.int .i64 til,.string au,.string tx,.bool dn,.bool lo] 52 (0,0))) :
 (((w.setCell ⟨g,2,none⟩ (.int .i64 0)).setCell ⟨g,3,none⟩ (.int .i64 0)).setCell ⟨g,7,none⟩ (.bool true)).heap[g]? =some (.cells (Cm.enc ⟨id,ev,0,0,au,tx,dn,true⟩).toArray 52 (0,0)):=by
 rw [fI _ _ _ _ _ _ (fI _ _ _ _ _ _ (fI _ _ _ _ _ _ h))]
 rfl
theorem put8 (v0 v1 v2 v3 v4 v5 v6 v7 a0 a1 a2 a3 a4 a5 a6 a7:Value):(((((((#[v0,v1,v2,v3,v4,v5,v6,v7].setIfInBounds 0 a0).setIfInBounds 1 a1).setIfInBounds 2 a2).setIfInBounds 3 a3).setIfInBounds 4 a4).setIfInBounds 5 a5).setIfInBounds 6 a6).setIfInBounds 7 a7=#[a0,a1,a2,a3,a4,a5,a6,a7]:=by
 simp only [fm,fw,fB]
theorem zgP {w:fK} {g:Nat} {v0 v1 v2 v3 v4 v5 v6 v7:Value} {id ev frm til:Int} {au tx:ByteArray} {dn lo:Bool} (h:w.heap[g]? =some (.cells #[v0,v1,v2,v3,v4,v5,v6,v7] 52 (0,0))) :
 ((((((((w.setCell ⟨g,0,none⟩ (.int .i64 id)).setCell ⟨g,1,none⟩ (.int .i64 ev)).setCell ⟨g,2,none⟩ (.int .i64 frm)).setCell ⟨g,3,none⟩ (.int .i64 til)).setCell ⟨g,4,none⟩ (.string au)).setCell ⟨g,5,none⟩ (.string tx)).setCell ⟨g,6,none⟩ (.bool dn)).setCell ⟨g,7,none⟩ (.bool lo)).heap[g]? =some (.cells (Cm.enc ⟨id,ev,frm,til,au,tx,dn,lo⟩).toArray 52 (0,0)):=by
 rw [fI _ _ _ _ _ _ (fI _ _ _ _ _ _ (fI _ _ _ _ _ _ (fI _ _ _ _ _ _ (fI _ _ _ _ _ _ (fI _ _ _ _ _ _ (fI _ _ _ _ _ _ (fI _ _ _ _ _ _ h))))))),put8]
 rfl
theorem zax (b1 b2 c1 c2 n:Nat)(xs ts:List Ev)(ys us:List Cm)(w:fK)(hf:aV w b1 b2 n xs ys)(ht:aV w c1 c2 n ts us)(hx:∀ x∈xs,x.lies w∧x.fits)(hq:∀ x∈ts,x.lies w∧x.fits)(hy:∀ y∈ys,y.tame)(hn:n≤1000000) :
 Calls Tryz.prog 139 #[.agg #[.map (some b1),.map (some b2)],.agg #[.map (some c1),.map (some c2)]] w (zgW n (xs.map Ev.c) (ts.map Ev.c) ys w):=by
 have hb1:=hf.ev.lt
 have hb2:=hf.cm.lt
 have hc1:=ht.ev.lt
 have HXR:=h_ (fun wx (h:fN (w.heap.size+2) ((w.alloc (.cells #[.map (some b1),.map (some b2)] 148)).alloc (.cells #[.map (some c1),.map (some c2)] 148)) wx)=>zcm w #[.map (some b1),.map (some b2)] #[.map (some c1),.map (some c2)] 148 148 wx h)
 have HB:=h_ (fun wx (h:fN (w.heap.size+2) ((w.alloc (.cells #[.map (some b1),.map (some b2)] 148)).alloc (.cells #[.map (some c1),.map (some c2)] 148)) wx)=>(show fN w.heap.size w wx from(zj4 w _ _).trans (h.mono (by omega))))
 have hsz:((w.alloc (.cells #[.map (some b1),.map (some b2)] 148)).alloc (.cells #[.map (some c1),.map (some c2)] 148)).heap.size=w.heap.size+2:=by simp
 have HQ:=h_ (fun(w':fK) (k:Nat) (hm:VMap w' (w.heap.size+2) k (bH (xs.map Ev.c) (ts.map Ev.c) ys)) (hk:k≤n) (hb:fN w.heap.size w w')=>(show zgW n (xs.map Ev.c) (ts.map Ev.c) ys w (.returned (.map (some (w.heap.size+2)))) w' from⟨_,rfl,hm.mono hk,by omega,hb⟩))
 have HMF:=h_ (fun(w1:fK) (h:fN w.heap.size w w1)=>hf.later h)
 have HMT:=h_ (fun(w1:fK) (h:fN w.heap.size w w1)=>ht.later h)
 have HPX:=h_ (fun(z:Int) (w1:fK) (h:fN w.heap.size w w1)=>(show((xs.find? fun x=>x.id==z).getD bO).lies w1∧((xs.find? fun x=>x.id==z).getD bO).fits from by
  cases hfd:xs.find? (fun x=>x.id==z) with
  | none=>exact⟨zap _,eJ⟩
  | some x=>exact⟨Ev.keeps _ _ _ h (hx x (fC hfd)).1,(hx x (fC hfd)).2⟩))
 have HPT:=h_ (fun(z:Int) (w1:fK) (h:fN w.heap.size w w1)=>(show((ts.find? fun x=>x.id==z).getD bO).lies w1∧((ts.find? fun x=>x.id==z).getD bO).fits from by
  cases hfd:ts.find? (fun x=>x.id==z) with
  | none=>exact⟨zap _,eJ⟩
  | some x=>exact⟨Ev.keeps _ _ _ h (hq x (fC hfd)).1,(hq x (fC hfd)).2⟩))
 have HY:=h_ hy
 have HV0:=h_ (fun z (h:(aK ys z).isSome=false)=>zfW (xs:=xs.map Ev.c) (ts:=ts.map Ev.c) h)
 have HCV:=h_ (show ∀ (z:Int) (v:Value),aK ys z=some v→∃ c:Cm,c.id=z∧c.tame∧v=.agg c.enc.toArray∧bH (xs.map Ev.c) (ts.map Ev.c) ys z=some (.agg (dT (xs.map Ev.c) (ts.map Ev.c) c).enc.toArray) from fun z v h=>by
  unfold aK at h
  unfold bH
  cases hfd:ys.find? (fun y=>y.id==z) with
  | none=>rw [hfd] at h;cases h
  | some c =>
    rw [hfd] at h
    refine⟨c,by simpa using fF hfd,HY.out c (fC hfd),(Option.some.inj h).symm,rfl⟩)
 have HMV:=h_ (show ∀ c:Cm,dT (xs.map Ev.c) (ts.map Ev.c) c=if c.lost=true then c else if aI ts c.ev=true then eW c (runes (dC (some ((xs.find? fun x=>x.id==c.ev).getD bO).c))) (runes (dC (some ((ts.find? fun x=>x.id==c.ev).getD bO).c))) else { c with frm:=0,til:=0,lost:=true } from fun c=>by
  unfold dT aI
  rw [zaY,zaY,zhL]
  cases ts.find? (fun x=>x.id==c.ev)<;>rfl)
 generalize zgW n (xs.map Ev.c) (ts.map Ev.c) ys w=Q at *
 generalize bH (xs.map Ev.c) (ts.map Ev.c) ys=mv at *
 generalize dT (xs.map Ev.c) (ts.map Ev.c)=mvf at *
 have hmm:=@run_makeMap Tryz.prog
 clear hf ht hx hq hy HY
 generalize hW0:((w.alloc (.cells #[.map (some b1),.map (some b2)] 148)).alloc (.cells #[.map (some c1),.map (some c2)] 148))=W0 at *
 have HW0:=h_ hW0
 have HSZ:=h_ hsz
 have hb0:fN (w.heap.size+2) W0 W0:=fN.refl _ _
 have hmade:=VMap.made W0
 rw [hsz] at hmade
 have HMD:=h_ hmade
 have hbA:fN (w.heap.size+2) W0 (W0.alloc (.map #[] 0)):=hb0.alloc (by omega) _
 have HA:=h_ hbA
 have fA:∀ j,(W0.alloc (.map #[] 0)).cell? ⟨w.heap.size,j,none⟩=_:=fun j=>fJ _ _ j _ 148 (0,0) (HXR.out _ hbA).1
 have HM0:=h_ ((HMF.out _ (HB.out _ hbA)).cm)
 have hsA:(W0.alloc (.map #[] 0)).heap.size=w.heap.size+3:=by rw [fK.size_alloc,hsz]
 have HSA:=h_ hsA
 clear hW0 hb0 hmade hbA hsA
 go_enter Tryz.func139,Tryz.ntmps139
 go_upto_region 1 with fail
 rw [HW0.out]
 go_wp2_with (at_range;refine bK _ rfl _ 146 52 rfl Tryz.underlying146 b2 n (aK ys) rfl HM0.out ?_;intro w0 cnt0 hr0 hcn hg0 hs0)
 go_frame
 have HBW0:=h_ (show fN (w.heap.size+2) W0 w0 from HA.out.grown hg0 (by rw [HSA.out];omega) (fun k h=>by cases h))
 have HM1:=h_ (show VMap w0 (w.heap.size+2) 0 (fun _=>none) from HMD.out.kept (hg0.block _ (by rw [HSA.out];omega) (by simp)))
 have HR0:=h_ hr0
 have hs0':w0.heap.size=w.heap.size+4:=by rw [hs0,HSA.out]
 have HS0:=h_ hs0'
 rw [HSA.out] at HR0
 clear hr0 hg0 hs0 hs0' fA hmm HMD HA HM0
 rw [HSA.out]
 go_loopw [6] (fun v wr=>∃ left cnt k,VRange wr b2 (w.heap.size+3) n (aK ys) left cnt∧VMap wr (w.heap.size+2) k (fun z=>if left z=true then none else mv z)∧k+cnt≤n∧fN (w.heap.size+2) W0 wr) (fun _ wr=>wr.rangeLeft b2 (w.heap.size+3))
 case atStart =>
  refine⟨_,cnt0,0,HR0.out,?_,by omega,HBW0.out⟩
  have e:(fun z=>if (aK ys z).isSome=true then none else mv z)=fun _=>none:=by
   funext z
   split
   · rfl
   · rename_i h
     exact HV0.out z (by simpa using h)
  rw [e]
  exact HM1.out
 case round =>
  obtain⟨left,cnt,k,hR,hM,hkn,hB⟩:=hrel
  have HR:=h_ hR
  have HM:=h_ hM
  have HBR:=h_ hB
  have hsr:w.heap.size+2≤wr.heap.size:=by have:=hB.size;rw [hsz] at this;exact this
  clear hR hM hB
  go_wp2_with (at_next;refine bP _ rfl _ rfl b2 (w.heap.size+3) n (aK ys) left cnt rfl HR.out ?done ?more)
  case done =>
   intro hc0 hl0
   have HF:=h_ (HQ.out wr k (by
    have e:(fun z=>if left z=true then none else mv z)=mv:=by
     funext z
     rw [hl0 z]
     rfl
    have:=HM.out
    rw [e] at this
    exact this) (by omega) (HB.out _ HBR.out))
   go_wp2_with fail
   exact HF.out
  case more =>
   intro key v w1 cnt1 hkey hlx hfx hR1 hlt1 hg1 hs1 hen
   obtain⟨c,rfl,htame,rfl,hmvk⟩:=HCV.out _ _ hfx
   have hs1r:w.heap.size+2≤w1.heap.size:=by omega
   have HB1:=h_ (show fN (w.heap.size+2) W0 w1 from HBR.out.grown hg1 hsr (fun j h=>by cases h;omega))
   have HM1':=h_ (show VMap w1 (w.heap.size+2) k (fun z=>if left z=true then none else mv z) from HM.out.kept (hg1.block _ HM.out.lt (by simp)))
   have HR1:=h_ hR1
   have HKEY:=h_ hmvk
   have HLT:=h_ hlt1
   have HLTR:=h_ HR.out.left_eq
   have hmove:=HMV.out c
   have hcev:i64 c.ev:=htame.1.2.1
   have HTM:=h_ htame
   obtain⟨q,hlq,hqe⟩:=zbR (HMT.out _ (HB.out _ HB1.out)).ev hcev
   obtain⟨p,hpe⟩:∃ p,p=(xs.find? fun x=>x.id==c.ev).getD bO:=⟨_,rfl⟩
   rw [←hqe,←hpe] at hmove
   have hlk:∀ w',w'.heap[b1]? =w1.heap[b1]?→(Instr.lookup 145 (.map (some b1)) (.int .i64 c.ev) false).run Tryz.prog w'=.ok (.agg p.enc.toArray) w':=fun w' hw=>by
    have:=((HMF.out _ (HB.out _ HB1.out)).ev.kept hw).look1 Tryz.underlying145 (zh0 _) hcev
    rw [this,hpe]
    unfold aM
    cases xs.find? fun x=>x.id==c.ev<;>rfl
   have HPP:=h_ (fun(w':fK) (h:fN w.heap.size w w')=>(show p.lies w'∧p.fits from hpe▸HPX.out c.ev w' h))
   have HQQ:=h_ (fun(w':fK) (h:fN w.heap.size w w')=>(show q.lies w'∧q.fits from hqe▸HPT.out c.ev w' h))
   generalize hhas:aI ts c.ev=has at *
   obtain⟨M,hMM⟩:∃ M,M=mvf c:=⟨_,rfl⟩
   rw [←hMM] at hmove HKEY
   have HMOVE:=h_ hmove
   have HL1:=h_ hlq
   clear hR1 hg1 hfx hlt1 hmvk hqe hpe hhas hMM hmove htame hlq
   obtain⟨cid,cev,cfrm,ctil,cau,ctx,cdn,clo⟩:=c
   obtain⟨pid,pin,pout,preg,pkind,psp,pxa,pxc,pxr⟩:=p
   obtain⟨qid,qin,qout,qreg,qkind,qsp,qxa,qxc,qxr⟩:=q
   simp only [Cm.enc,Ev.enc] at hen hlk HL1 HKEY
   simp only at HMOVE HPP HQQ HTM HLTR
   have fb:=fun(wx:fK) (h:fN (w.heap.size+2) W0 wx) j=>fJ _ _ j _ 148 (0,0) (HXR.out wx h).1
   have fc:=fun(wx:fK) (h:fN (w.heap.size+2) W0 wx) j=>fJ _ _ j _ 148 (0,0) (HXR.out wx h).2
   have hbx1:=HB1.out
   have hbA1:∀ o,fN (w.heap.size+2) W0 (w1.alloc o):=fun o=>hbx1.alloc hs1r o
   have hb1x:b1<w1.heap.size:=by omega
   have hc1x:c1<w1.heap.size:=by omega
   have hkc:∀ o,(w1.alloc o).heap[c1]? =w1.heap[c1]?:=fun o=>fN.heap_alloc _ _ _ hc1x
   go_upto_region 6 with(at_lookup;refine aa _ rfl _ _ _ _ rfl _ _ _ rfl rfl (HL1.out _ (hkc _)) ?_)
   have hbx:=zcm w1 (#[fO .i64 cid,.int .i64 cev,.int .i64 cfrm,.int .i64 ctil,.string cau,.string ctx,.bool cdn,.bool clo]) (#[fO .i64 qid,.int .i64 qin,.int .i64 qout,.string qreg,.int .u8 qkind,.string qsp,.slice qxa qxr.length qxc]) 52 50 _ (fN.refl _ ((w1.alloc (.cells #[fO .i64 cid,.int .i64 cev,.int .i64 cfrm,.int .i64 ctil,.string cau,.string ctx,.bool cdn,.bool clo] 52)).alloc (.cells #[fO .i64 qid,.int .i64 qin,.int .i64 qout,.string qreg,.int .u8 qkind,.string qsp,.slice qxa qxr.length qxc] 50)))
   have hB5:fN (w.heap.size+2) W0 ((w1.alloc (.cells #[fO .i64 cid,.int .i64 cev,.int .i64 cfrm,.int .i64 ctil,.string cau,.string ctx,.bool cdn,.bool clo] 52)).alloc (.cells #[fO .i64 qid,.int .i64 qin,.int .i64 qout,.string qreg,.int .u8 qkind,.string qsp,.slice qxa qxr.length qxc] 50)):=(hbx1.alloc hs1r _).alloc (by simp;omega) _
   have hsz5:((w1.alloc (.cells #[fO .i64 cid,.int .i64 cev,.int .i64 cfrm,.int .i64 ctil,.string cau,.string ctx,.bool cdn,.bool clo] 52)).alloc (.cells #[fO .i64 qid,.int .i64 qin,.int .i64 qout,.string qreg,.int .u8 qkind,.string qsp,.slice qxa qxr.length qxc] 50)).heap.size=wr.heap.size+2:=by simp [hs1]
   have hk5:∀ b,b<w1.heap.size→((w1.alloc (.cells #[fO .i64 cid,.int .i64 cev,.int .i64 cfrm,.int .i64 ctil,.string cau,.string ctx,.bool cdn,.bool clo] 52)).alloc (.cells #[fO .i64 qid,.int .i64 qin,.int .i64 qout,.string qreg,.int .u8 qkind,.string qsp,.slice qxa qxr.length qxc] 50)).heap[b]? =w1.heap[b]?:=fun b hb=>(zj4 w1 _ _).block b hb
   rw [hs1] at hbx
   generalize hW5:((w1.alloc (.cells #[fO .i64 cid,.int .i64 cev,.int .i64 cfrm,.int .i64 ctil,.string cau,.string ctx,.bool cdn,.bool clo] 52)).alloc (.cells #[fO .i64 qid,.int .i64 qin,.int .i64 qout,.string qreg,.int .u8 qkind,.string qsp,.slice qxa qxr.length qxc] 50))=W5 at *
   have HBX:=h_ hbx
   have HB5:=h_ hB5
   have HK5:=h_ hk5
   have e0:∀ w',fN W5.heap.size W5 w'→∀ j,w'.cell? ⟨wr.heap.size,j,none⟩=_:=fun w' h j=>fJ _ _ j _ 52 (0,0) ((h.block _ (by omega)).trans HBX.out.1)
   have e1:∀ w',fN W5.heap.size W5 w'→∀ j,w'.cell? ⟨wr.heap.size+1,j,none⟩=_:=fun w' h j=>fJ _ _ j _ 50 (0,0) ((h.block _ (by omega)).trans HBX.out.2)
   have z0:∀ w',fN W5.heap.size W5 w'→∀ j,w'.frozen? ⟨wr.heap.size,j,none⟩=false:=fun w' h j=>by simp [fK.frozen?,(h.block wr.heap.size (by omega)).trans HBX.out.1]
   have HT5:=h_ (fun(w2 w3:fK) (h:fN W5.heap.size W5 w2) (h3:fN w2.heap.size w2 w3)=>(h.trans (h3.mono h.size):fN W5.heap.size W5 w3))
   have hr5:fN W5.heap.size W5 W5:=fN.refl _ _
   have f0:=e0 W5 hr5
   have f1:=e1 W5 hr5
   have g0:=z0 W5 hr5
   have ff:=fun j=>fb W5 hB5 j
   clear hbx hB5 hk5 hW5 hlx hen hkc hbA1 hbx1 fc
   obtain⟨Bt,hBt⟩:∃ Bt,Bt=(!clo&&has):=⟨_,rfl⟩
   have HBT:=h_ hBt
   clear hBt
   go_cut [32] (fun s32 wx=>s32=.bool Bt∧W5=wx)
   case first =>
    clear hlk
    cases clo<;>cases has<;>(have hBt:=HBT.out;simp at hBt;subst hBt;clear HBT;go_wp2_with fail;go_meet;exact⟨rfl,rfl⟩)
   case rest =>
    obtain⟨rfl,rfl⟩:=hcut
    go_upto_if 32 with fail
    go_cut [] (fun wx=>wx.heap[wr.heap.size]? =some (.cells M.enc.toArray 52 (0,0))∧Kept (fun b=>b=wr.heap.size) W5 wx)
    case first =>
     cases clo with
     | true =>
       obtain rfl:Bt=false:=by have:=HBT.out;simpa using this
       clear HBT
       have HE:=h_ (show W5.heap[wr.heap.size]? =some (.cells M.enc.toArray 52 (0,0)) from by rw [HMOVE.out];exact HBX.out.1)
       clear hlk e0 e1 z0 fb
       go_wp2_with fail
       go_meet
       exact⟨HE.out,Kept.refl _ _⟩
     | false =>
       cases has with
       | false =>
         obtain rfl:Bt=false:=by have:=HBT.out;simpa using this
         clear HBT
         have HE:=h_ (show M=⟨cid,cev,0,0,cau,ctx,cdn,true⟩ from HMOVE.out)
         clear hlk e0 e1 z0 fb
         go_wp2_with fail
         go_meet
         refine⟨?_,(((Kept.refl (fun b=>b=wr.heap.size) W5).setAt _ _).setAt _ _).setAt _ _⟩
         rw [HE.out]
         exact zjz HBX.out.1
       | true =>
         obtain rfl:Bt=true:=by have:=HBT.out;simpa using this
         clear HBT
         have hKB:∀ w',Kept (fun b=>b=wr.heap.size) W5 w'→fN w.heap.size w w':=fun w' h=>(HB.out _ HB5.out).trans ((h.below (B:=wr.heap.size) (by omega) (fun k hk e=>by omega)).mono (by omega))
         have HP1:=h_ (fun(w':fK) (h:Kept (fun b=>b=wr.heap.size) W5 w')=>zaW ⟨pid,pin,pout,preg,pkind,psp,pxa,pxc,pxr⟩ w' (HPP.out w' (hKB w' h)).1 (HPP.out w' (hKB w' h)).2)
         have HP2:=h_ (fun(w':fK) (h:Kept (fun b=>b=wr.heap.size) W5 w')=>zaW ⟨qid,qin,qout,qreg,qkind,qsp,qxa,qxc,qxr⟩ w' (HQQ.out w' (hKB w' h)).1 (HQQ.out w' (hKB w' h)).2)
         have HZ1:=zaC (HPP.out _ (hKB _ (Kept.refl _ _))).2
         have HZ2:=zaC (HQQ.out _ (hKB _ (Kept.refl _ _))).2
         generalize dC (some (Ev.c ⟨pid,pin,pout,preg,pkind,psp,pxa,pxc,pxr⟩))=S1 at *
         generalize dC (some (Ev.c ⟨qid,qin,qout,qreg,qkind,qsp,qxa,qxc,qxr⟩))=S2 at *
         have HFW:=h_ (fun(w':fK) (_:Kept (fun b=>b=wr.heap.size) W5 w')=>zft ⟨cid,cev,cfrm,ctil,cau,ctx,cdn,false⟩ S1 S2 w' rfl (HTM.out.2 rfl).1 (HTM.out.2 rfl).2 HZ1 HZ2)
         have HE:=h_ (show M=eW ⟨cid,cev,cfrm,ctil,cau,ctx,cdn,false⟩ (runes S1) (runes S2) from HMOVE.out)
         generalize eW ⟨cid,cev,cfrm,ctil,cau,ctx,cdn,false⟩ (runes S1) (runes S2)=F at *
         obtain⟨fid,fev,ffrm,ftil,fau,ftx,fdn,flo⟩:=F
         simp only [Cm.enc] at HFW
         simp only [Ev.enc] at HP1 HP2
         have hd5:fN W5.heap.size W5 W5.drew:=hr5.drew
         have hlk2:∀ w',Kept (fun b=>b=wr.heap.size) W5 w'→(Instr.lookup 145 (.map (some b1)) (.int .i64 cev) false).run Tryz.prog w'=.ok (.agg #[fO .i64 pid,.int .i64 pin,.int .i64 pout,.string preg,.int .u8 pkind,.string psp,.slice pxa pxr.length pxc]) w':=fun w' h=>hlk w' ((h.block b1 (by omega) (by omega)).trans (HK5.out b1 hb1x))
         have kd:∀ w',Kept (fun b=>b=wr.heap.size) W5 w'→∀ j,w'.cell? ⟨w.heap.size,j,none⟩=_:=fun w' h j=>fJ _ _ j _ 148 (0,0) ((h.block _ (by omega) (by omega)).trans (HXR.out W5 HB5.out).1)
         have kq:∀ w',Kept (fun b=>b=wr.heap.size) W5 w'→∀ j,w'.cell? ⟨wr.heap.size+1,j,none⟩=_:=fun w' h j=>fJ _ _ j _ 50 (0,0) ((h.block _ (by omega) (by omega)).trans HBX.out.2)
         clear hlk HZ1 HZ2 hKB
         go_upto_region 7 with fail
         have E0:=h_ e0
         have Z0:=h_ z0
         clear f0 f1 g0 ff fb e1
         refine wp_region_held_drew (S:=fun w'=>Kept (fun b=>b=wr.heap.size) W5 w') (by kernel_rfl) (Kept.of_below hd5) (fun _=>?_)
         try simp only [fP,fu,fp,ft,fm,fw,fB,fQ]
         refine fL (i:=1) (v:=.pointer (some ⟨w.heap.size,0,none⟩)) rfl (by kernel_rfl) (by kernel_rfl) (by kernel_rfl) (fun _ _ _ h=>h) (.inl ⟨by rfl,fun w_ hS_=>by go_simp⟩) (Kept.of_below hd5) ?_
         try simp only [fP,fu,fp,ft,fm,fw,fB,fQ]
         refine fL (i:=2) (v:=.map (some b1)) rfl (by kernel_rfl) (by kernel_rfl) (by kernel_rfl) (fun _ _ _ h=>h) (.inl ⟨by rfl,fun w_ hS_=>by go_simp⟩) (Kept.of_below hd5) ?_
         try simp only [fP,fu,fp,ft,fm,fw,fB,fQ]
         refine fL (i:=3) (v:=.pointer (some ⟨wr.heap.size,1,none⟩)) rfl (by kernel_rfl) (by kernel_rfl) (by kernel_rfl) (fun _ _ _ h=>h) (.inl ⟨by rfl,fun w_ hS_=>by go_simp⟩) (Kept.of_below hd5) ?_
         try simp only [fP,fu,fp,ft,fm,fw,fB,fQ]
         refine fL (i:=7) (v:=.agg #[fO .i64 qid,.int .i64 qin,.int .i64 qout,.string qreg,.int .u8 qkind,.string qsp,.slice qxa qxr.length qxc]) rfl (by kernel_rfl) (by kernel_rfl) (by kernel_rfl) (fun _ _ _ h=>h) (.inl ⟨by rfl,fun w_ hS_=>by go_simp⟩) (Kept.of_below hd5) ?_
         try simp only [fP,fu,fp,ft,fm,fw,fB,fQ]
         refine fH (rs:=[0,4]) (by kernel_rfl) (by simp) ?_
         refine fR rfl (fun K hK=>?_) (fR rfl (fun K hK=>?_) fS)
         · skip
           have q_:=e0 _ hd5
           go_simp
           refine hK.out _ _ (Kept.of_below hd5) (fun _=>?_)
           clear hK q_
           try simp only [fP,fu,fp,ft,fm,fw,fB,fQ]
           refine fH (rs:=[4]) (by kernel_rfl) (by simp) ?_
           refine fR rfl (fun K hK=>?_) fS
           have q_:=e0 _ hd5
           go_simp
           refine hK.out _ _ (Kept.of_below hd5) (fun _=>?_)
           clear hK q_
           try simp only [fP,fu,fp,ft,fm,fw,fB,fQ]
           refine fL (i:=5) (v:=.agg #[fO .i64 pid,.int .i64 pin,.int .i64 pout,.string preg,.int .u8 pkind,.string psp,.slice pxa pxr.length pxc]) rfl (by kernel_rfl) (by kernel_rfl) (by kernel_rfl) (fun _ _ _ h=>h) (.inl ⟨by rfl,fun w_ hS_=>by go_simp⟩) (Kept.of_below hd5) ?_
           try simp only [fP,fu,fp,ft,fm,fw,fB,fQ]
           refine fH (rs:=[6]) (by kernel_rfl) (by simp) ?_
           refine fR rfl (fun K hK=>?_) fS
           go_simp
           refine(HP1.out _ (Kept.of_below hd5)).mono ?_
           rintro e v1 ⟨rfl,hb_⟩
           have hv1:=HT5.out _ _ hd5 hb_
           clear hb_
           go_wp2_with fail
           refine hK.out _ _ (Kept.of_below hv1) (fun _=>?_)
           clear hK
           try simp only [fP,fu,fp,ft,fm,fw,fB,fQ]
           refine fH (rs:=[8]) (by kernel_rfl) (by simp) ?_
           refine fR rfl (fun K hK=>?_) fS
           go_simp
           refine(HP2.out _ (Kept.of_below hv1)).mono ?_
           rintro e v2 ⟨rfl,hb_⟩
           have hv2:=HT5.out _ _ hv1 hb_
           clear hb_
           go_wp2_with fail
           refine hK.out _ _ (Kept.of_below hv2) (fun _=>?_)
           clear hK
           try simp only [fP,fu,fp,ft,fm,fw,fB,fQ]
           refine fH (rs:=[9]) (by kernel_rfl) (by simp) ?_
           refine fR rfl (fun K hK=>?_) fS
           go_simp
           refine(HFW.out _ (Kept.of_below hv2)).mono ?_
           rintro e v3 ⟨rfl,hb_⟩
           have hv3:=HT5.out _ _ hv2 hb_
           clear hb_
           go_wp2_with fail
           refine hK.out _ _ (Kept.of_below hv3) (fun _=>?_)
           clear hK
           try simp only [fP,fu,fp,ft,fm,fw,fB,fQ]
           refine fH (rs:=[10]) (by kernel_rfl) (by simp) ?_
           refine fR rfl (fun K hK=>?_) fS
           have q_:=e0 _ hv3
           have z_:=z0 _ hv3
           go_simp
           refine hK.out _ _ (((((((((Kept.of_below hv3).setAt _ _).setAt _ _).setAt _ _).setAt _ _).setAt _ _).setAt _ _).setAt _ _).setAt _ _) (fun _=>?_)
           clear hK q_ z_
           try simp only [fP,fu,fp,ft,fm,fw,fB,fQ]
           refine fM (by kernel_rfl) ?_ _
           go_wp2_with fail
           go_meet
           refine⟨?_,(((((((((Kept.of_below hv3).setAt _ _).setAt _ _).setAt _ _).setAt _ _).setAt _ _).setAt _ _).setAt _ _).setAt _ _)⟩
           rw [HE.out]
           exact zgP ((hv3.block _ (by omega)).trans HBX.out.1)
         · skip
           have q_:=e0 _ hd5
           go_simp
           refine hK.out _ _ (Kept.of_below hd5) (fun _=>?_)
           clear hK q_
           try simp only [fP,fu,fp,ft,fm,fw,fB,fQ]
           refine fL (i:=5) (v:=.agg #[fO .i64 pid,.int .i64 pin,.int .i64 pout,.string preg,.int .u8 pkind,.string psp,.slice pxa pxr.length pxc]) rfl (by kernel_rfl) (by kernel_rfl) (by kernel_rfl) (fun _ _ _ h=>h) (.inl ⟨by rfl,fun w_ hS_=>by go_simp⟩) (Kept.of_below hd5) ?_
           try simp only [fP,fu,fp,ft,fm,fw,fB,fQ]
           refine fH (rs:=[0,6]) (by kernel_rfl) (by simp) ?_
           refine fR rfl (fun K hK=>?_) (fR rfl (fun K hK=>?_) fS)
           · skip
             have q_:=e0 _ hd5
             go_simp
             refine hK.out _ _ (Kept.of_below hd5) (fun _=>?_)
             clear hK q_
             try simp only [fP,fu,fp,ft,fm,fw,fB,fQ]
             refine fH (rs:=[6]) (by kernel_rfl) (by simp) ?_
             refine fR rfl (fun K hK=>?_) fS
             go_simp
             refine(HP1.out _ (Kept.of_below hd5)).mono ?_
             rintro e v1 ⟨rfl,hb_⟩
             have hv1:=HT5.out _ _ hd5 hb_
             clear hb_
             go_wp2_with fail
             refine hK.out _ _ (Kept.of_below hv1) (fun _=>?_)
             clear hK
             try simp only [fP,fu,fp,ft,fm,fw,fB,fQ]
             refine fH (rs:=[8]) (by kernel_rfl) (by simp) ?_
             refine fR rfl (fun K hK=>?_) fS
             go_simp
             refine(HP2.out _ (Kept.of_below hv1)).mono ?_
             rintro e v2 ⟨rfl,hb_⟩
             have hv2:=HT5.out _ _ hv1 hb_
             clear hb_
             go_wp2_with fail
             refine hK.out _ _ (Kept.of_below hv2) (fun _=>?_)
             clear hK
             try simp only [fP,fu,fp,ft,fm,fw,fB,fQ]
             refine fH (rs:=[9]) (by kernel_rfl) (by simp) ?_
             refine fR rfl (fun K hK=>?_) fS
             go_simp
             refine(HFW.out _ (Kept.of_below hv2)).mono ?_
             rintro e v3 ⟨rfl,hb_⟩
             have hv3:=HT5.out _ _ hv2 hb_
             clear hb_
             go_wp2_with fail
             refine hK.out _ _ (Kept.of_below hv3) (fun _=>?_)
             clear hK
             try simp only [fP,fu,fp,ft,fm,fw,fB,fQ]
             refine fH (rs:=[10]) (by kernel_rfl) (by simp) ?_
             refine fR rfl (fun K hK=>?_) fS
             have q_:=e0 _ hv3
             have z_:=z0 _ hv3
             go_simp
             refine hK.out _ _ (((((((((Kept.of_below hv3).setAt _ _).setAt _ _).setAt _ _).setAt _ _).setAt _ _).setAt _ _).setAt _ _).setAt _ _) (fun _=>?_)
             clear hK q_ z_
             try simp only [fP,fu,fp,ft,fm,fw,fB,fQ]
             refine fM (by kernel_rfl) ?_ _
             go_wp2_with fail
             go_meet
             refine⟨?_,(((((((((Kept.of_below hv3).setAt _ _).setAt _ _).setAt _ _).setAt _ _).setAt _ _).setAt _ _).setAt _ _).setAt _ _)⟩
             rw [HE.out]
             exact zgP ((hv3.block _ (by omega)).trans HBX.out.1)
           · skip
             go_simp
             refine(HP1.out _ (Kept.of_below hd5)).mono ?_
             rintro e v1 ⟨rfl,hb_⟩
             have hv1:=HT5.out _ _ hd5 hb_
             clear hb_
             go_wp2_with fail
             refine hK.out _ _ (Kept.of_below hv1) (fun _=>?_)
             clear hK
             try simp only [fP,fu,fp,ft,fm,fw,fB,fQ]
             refine fH (rs:=[0,8]) (by kernel_rfl) (by simp) ?_
             refine fR rfl (fun K hK=>?_) (fR rfl (fun K hK=>?_) fS)
             · skip
               have q_:=e0 _ hv1
               go_simp
               refine hK.out _ _ (Kept.of_below hv1) (fun _=>?_)
               clear hK q_
               try simp only [fP,fu,fp,ft,fm,fw,fB,fQ]
               refine fH (rs:=[8]) (by kernel_rfl) (by simp) ?_
               refine fR rfl (fun K hK=>?_) fS
               go_simp
               refine(HP2.out _ (Kept.of_below hv1)).mono ?_
               rintro e v2 ⟨rfl,hb_⟩
               have hv2:=HT5.out _ _ hv1 hb_
               clear hb_
               go_wp2_with fail
               refine hK.out _ _ (Kept.of_below hv2) (fun _=>?_)
               clear hK
               try simp only [fP,fu,fp,ft,fm,fw,fB,fQ]
               refine fH (rs:=[9]) (by kernel_rfl) (by simp) ?_
               refine fR rfl (fun K hK=>?_) fS
               go_simp
               refine(HFW.out _ (Kept.of_below hv2)).mono ?_
               rintro e v3 ⟨rfl,hb_⟩
               have hv3:=HT5.out _ _ hv2 hb_
               clear hb_
               go_wp2_with fail
               refine hK.out _ _ (Kept.of_below hv3) (fun _=>?_)
               clear hK
               try simp only [fP,fu,fp,ft,fm,fw,fB,fQ]
               refine fH (rs:=[10]) (by kernel_rfl) (by simp) ?_
               refine fR rfl (fun K hK=>?_) fS
               have q_:=e0 _ hv3
               have z_:=z0 _ hv3
               go_simp
               refine hK.out _ _ (((((((((Kept.of_below hv3).setAt _ _).setAt _ _).setAt _ _).setAt _ _).setAt _ _).setAt _ _).setAt _ _).setAt _ _) (fun _=>?_)
               clear hK q_ z_
               try simp only [fP,fu,fp,ft,fm,fw,fB,fQ]
               refine fM (by kernel_rfl) ?_ _
               go_wp2_with fail
               go_meet
               refine⟨?_,(((((((((Kept.of_below hv3).setAt _ _).setAt _ _).setAt _ _).setAt _ _).setAt _ _).setAt _ _).setAt _ _).setAt _ _)⟩
               rw [HE.out]
               exact zgP ((hv3.block _ (by omega)).trans HBX.out.1)
             · skip
               go_simp
               refine(HP2.out _ (Kept.of_below hv1)).mono ?_
               rintro e v2 ⟨rfl,hb_⟩
               have hv2:=HT5.out _ _ hv1 hb_
               clear hb_
               go_wp2_with fail
               refine hK.out _ _ (Kept.of_below hv2) (fun _=>?_)
               clear hK
               try simp only [fP,fu,fp,ft,fm,fw,fB,fQ]
               refine fH (rs:=[0]) (by kernel_rfl) (by simp) ?_
               refine fR rfl (fun K hK=>?_) fS
               have q_:=e0 _ hv2
               go_simp
               refine hK.out _ _ (Kept.of_below hv2) (fun _=>?_)
               clear hK q_
               try simp only [fP,fu,fp,ft,fm,fw,fB,fQ]
               refine fH (rs:=[9]) (by kernel_rfl) (by simp) ?_
               refine fR rfl (fun K hK=>?_) fS
               go_simp
               refine(HFW.out _ (Kept.of_below hv2)).mono ?_
               rintro e v3 ⟨rfl,hb_⟩
               have hv3:=HT5.out _ _ hv2 hb_
               clear hb_
               go_wp2_with fail
               refine hK.out _ _ (Kept.of_below hv3) (fun _=>?_)
               clear hK
               try simp only [fP,fu,fp,ft,fm,fw,fB,fQ]
               refine fH (rs:=[10]) (by kernel_rfl) (by simp) ?_
               refine fR rfl (fun K hK=>?_) fS
               have q_:=e0 _ hv3
               have z_:=z0 _ hv3
               go_simp
               refine hK.out _ _ (((((((((Kept.of_below hv3).setAt _ _).setAt _ _).setAt _ _).setAt _ _).setAt _ _).setAt _ _).setAt _ _).setAt _ _) (fun _=>?_)
               clear hK q_ z_
               try simp only [fP,fu,fp,ft,fm,fw,fB,fQ]
               refine fM (by kernel_rfl) ?_ _
               go_wp2_with fail
               go_meet
               refine⟨?_,(((((((((Kept.of_below hv3).setAt _ _).setAt _ _).setAt _ _).setAt _ _).setAt _ _).setAt _ _).setAt _ _).setAt _ _)⟩
               rw [HE.out]
               exact zgP ((hv3.block _ (by omega)).trans HBX.out.1)
    case rest =>
     obtain⟨hrow,hkp⟩:=hcut
     obtain⟨mid,mev,mfrm,mtil,mau,mtx,mdn,mlo⟩:=M
     simp only [Cm.enc] at hrow
     have hbk:∀ b,b<w1.heap.size→wc.heap[b]? =w1.heap[b]?:=fun b hb=>(hkp.block b (by omega) (by omega)).trans (HK5.out b hb)
     have hMlt:=HM1'.out.lt
     have hRlt:=HR1.out.lt
     have HMc:=h_ (HM1'.out.kept (hbk _ hMlt))
     have HRc:=h_ (HR1.out.kept (hbk _ hRlt.2.1) (hbk _ hRlt.1))
     have hcB:fN (w.heap.size+2) W0 wc:=HB5.out.trans ((hkp.below (B:=wr.heap.size) (by omega) (fun k hk e=>by omega)).mono hsr)
     have HBc:=h_ hcB
     have hszc:w.heap.size+2≤wc.heap.size:=fG (fG hsr (by omega)) hkp.size
     have n0:∀ j,wc.cell? ⟨wr.heap.size,j,none⟩=_:=fun j=>fJ _ _ j _ 52 (0,0) hrow
     have hkn:k<maxLen:=by unfold maxLen;omega
     clear hrow hkp hbk hMlt hRlt hcB e0 e1 z0 f0 f1 g0 ff fb hlk HMOVE
     go_wp2_with (at_mapUpdate;refine cx _ rfl _ _ _ 146 52 rfl Tryz.underlying146 (w.heap.size+2) k _ rfl HMc.out hkn _ rfl hkey _ rfl ?_;intro w9 h9 hg9)
     have HR9:=h_ (show VRange w9 b2 (w.heap.size+3) n (aK ys) (fun z=>left z&&!(z==cid)) cnt1 from HRc.out.kept (hg9.block _ HRc.out.lt.2.1 (by simp;omega)) (hg9.block _ HRc.out.lt.1 (by simp)))
     have HM9:=h_ h9
     have HB9:=h_ (HBc.out.grown hg9 hszc (fun j h=>by cases h;omega))
     clear h9 hg9
     go_wp2_with fail
     go_roundw
     case rel =>
      refine⟨_,cnt1,HR9.out,k+1,?_,by have:=HLT.out;omega,HB9.out⟩
      have e:(fun z=>if (left z&&!(z==cid))=true then none else mv z)=(fun y=>if y=cid then some (Value.agg #[fO .i64 mid,.int .i64 mev,.int .i64 mfrm,.int .i64 mtil,.string mau,.string mtx,.bool mdn,.bool mlo]) else if left y=true then none else mv y):=by
       funext z
       by_cases hz:z=cid
       · subst hz
         rw [if_neg (by simp),if_pos rfl]
         exact HKEY.out
       · rw [if_neg hz]
         have:(z==cid)=false:=by simpa using hz
         rw [this]
         simp
      rw [e]
      exact HM9.out
     case measure=>rw [HR9.out.left_eq,HLTR.out];exact HLT.out
def Side {α:Type} (x y:Option α)(z:α)(ad gn:Bool)(o n:α):Prop:=ad=(!x.isSome)∧gn=(!y.isSome)∧o=x.getD z∧n=y.getD z∧(x.isSome=true∨y.isSome=true)
def Pick {α:Type} (P:Prop)(x a b:α):Prop:=(P→x=a)∧(¬ P→x=b)
theorem Pick.iff {α:Type} {P Q:Prop} {x a b:α} (h:Pick P x a b)(e:P↔Q):Pick Q x a b:=⟨fun q=>h.1 (e.2 q),fun q=>h.2 fun p=>q (e.1 p)⟩
structure Mid (a b d:DocC)(L:List ChgC):Prop where
 ok:zjT d
 hd:Pick (∃ c∈L,c.sec=1) d.hd a.hd b.hd
 rG:∀ k,Pick (∃ c∈L,c.sec=2∧c.name=k) (d.rG.find? (zaK k)) (a.rG.find? (zaK k)) (b.rG.find? (zaK k))
 evs:∀ k,Pick (∃ c∈L,c.sec=3∧c.id=k) (d.evs.find? (evAt k)) (a.evs.find? (evAt k)) (b.evs.find? (evAt k))
 cms:∀ k,Pick (∃ c∈L,c.sec=4∧c.id=k) (d.cms.find? (cmAt k)) (a.cms.find? (cmAt k)) (b.cms.find? (cmAt k))
theorem zko {P:ChgC→Prop} {c:ChgC} {L:List ChgC} (h:¬ P c):(∃ x∈c::L,P x)↔∃ x∈L,P x:=by
 constructor
 · rintro ⟨x,hx,hp⟩
   rcases List.mem_cons.1 hx with rfl|hx
   · exact absurd hp h
   · exact⟨x,hx,hp⟩
 · rintro ⟨x,hx,hp⟩
   exact⟨x,List.mem_cons_of_mem _ hx,hp⟩
theorem Pick.skip {α:Type} {P:ChgC→Prop} {c:ChgC} {L:List ChgC} {x a b:α} (h:Pick (∃ z∈c::L,P z) x a b)(hn:¬ P c):Pick (∃ z∈L,P z) x a b:=h.iff (zko hn)
theorem Pick.done {α:Type} {P:ChgC→Prop} {L:List ChgC} {x a b:α} (hn:∀ z∈L,¬ P z)(h:x=b):Pick (∃ z∈L,P z) x a b:=⟨fun⟨z,hz,hp⟩=>absurd hp (hn z hz),fun _=>h⟩
theorem Side.val {α:Type} {x y:Option α} {z:α} {ad gn:Bool} {o n:α} {f:α→α} (h:Side x y z ad gn o n)(hf:∀ v,y=some v→f v=v):(if gn=true then none else some (f n))=y:=by
 obtain⟨_,rfl,_,rfl,_⟩:=h
 cases y with
 | none=>rfl
 | some v=>simp [hf v rfl]
def Tgt {α:Type} (x y z t:α):Prop:=(t=y∧(z=x∨z=y))∨(t=z∧y=x)
theorem Tgt.map {α β:Type} {x y z t:α} (h:Tgt x y z t)(f:α→β):Tgt (f x) (f y) (f z) (f t):=by
 rcases h with⟨rfl,rfl|rfl⟩|⟨rfl,rfl⟩
 · exact .inl ⟨rfl,.inl rfl⟩
 · exact .inl ⟨rfl,.inr rfl⟩
 · exact .inr ⟨rfl,rfl⟩
theorem Tgt.mem {α:Type} {x y z t:List α} (h:Tgt x y z t) {a:α} (ha:a∈t):a∈x++y++z:=by
 rcases h with⟨rfl,_⟩|⟨rfl,_⟩<;>simp [ha]
theorem zcO {l:List EvC} {z:Int} {x:EvC} (h:b8 l z=some x):x∈l∧x.id=z:=⟨fC h,by simpa [evAt] using fF h⟩
theorem zaX (x y z:List EvC):(bE x y z).Pairwise (·<·)∧∀ k,k∈bE x y z↔(∃ e∈x,e.id=k)∨(∃ e∈y,e.id=k)∨∃ e∈z,e.id=k:=by
 obtain⟨h1,h2⟩:=c9 (x.map EvC.id++y.map EvC.id++z.map EvC.id)
 refine⟨h1,fun k=>(h2 k).trans ?_⟩
 simp only [fE,fD,or_assoc]
theorem zaD {l:List EvC} {k:Int} (h:b8 l k=none):¬ ∃ e∈l,e.id=k:=by
 rintro ⟨e,he,rfl⟩
 have:=List.find?_eq_none.1 h e he
 simp [evAt] at this
theorem zfE (x y z:List Cm):(ck x y z).Pairwise (·<·)∧∀ k,k∈ck x y z↔(∃ e∈x,e.id=k)∨(∃ e∈y,e.id=k)∨∃ e∈z,e.id=k:=by
 obtain⟨h1,h2⟩:=c9 (x.map Cm.id++y.map Cm.id++z.map Cm.id)
 refine⟨h1,fun k=>(h2 k).trans ?_⟩
 simp only [fE,fD,or_assoc]
end Go.Proofs.YtnlnmbcaongehaaGreatDoor
