/- merge.events: the events of the merged document. (printed by gen_mgevents.py) -/
import Derived.Test.YtnlnmbcaongehaaGreatDoorM18
import Derived.Test.YtnlnmbcaongehaaGreatDoorM19
set_option linter.unusedVariables false
set_option linter.unusedSimpArgs false
set_option maxRecDepth 100000
set_option maxHeartbeats 12800000
open Go.Lib renaming hid→h_
open Go renaming cell_of_row→fm,heap_setCell_same→fp,World→ft,heap_alloc_last→fu,Value→fw
open Go.RowKit renaming Below→fB
open Go.RowKit.Below renaming heap_setCell→fC,heap_alloc→fD,refl→fE,setCell→fF
open Go.World renaming frozen?→fG,cell?_alloc_lt→fH,size_alloc→fI,ownsRow_nil→fJ
open Go.Value renaming map→fK,int→fL,slice→fM,ownBlock→fN,string→fO
open List renaming append_nil→fP,append_assoc→fQ,length_map→fR,setIfInBounds_toArray→fS,getElem?_eq_getElem→fT,mem_map→fU,set_cons_zero→fV,set_cons_succ→fW,length_append→fX,take_length→fY,length_take→fZ,length→f_
open Go.Value.slice renaming inj→gd,injEq→gf
open Nat renaming le_trans→gh,le_of_lt→gj
open Array renaming getElem?_eq_some_iff→gl
namespace Go.Proofs.YtnlnmbcaongehaaGreatDoor
open Go.RowKit
theorem box4 (w:ft)(xs ys zs ss:Array fw)(T U:TypeId)(wx:ft)(h:fB (w.heap.size+4) ((((w.alloc (.cells xs T)).alloc (.cells ys T)).alloc (.cells zs T)).alloc (.cells ss U)) wx) :
 wx.heap[w.heap.size]? =some (.cells xs T (0,0))∧wx.heap[w.heap.size+1]? =some (.cells ys T (0,0))∧wx.heap[w.heap.size+1+1]? =some (.cells zs T (0,0))∧wx.heap[w.heap.size+1+1+1]? =some (.cells ss U (0,0)):=by
 refine⟨?_,?_,?_,?_⟩
 · rw [h.block _ (by omega),fD _ _ _ (by simp;try omega),fD _ _ _ (by simp;try omega),fD _ _ _ (by simp)]
   exact fu w _
 · rw [h.block _ (by omega),fD _ _ _ (by simp;try omega),fD _ _ _ (by simp)]
   have:=fu (w.alloc (.cells xs T)) (.cells ys T)
   rwa [fI] at this
 · rw [h.block _ (by omega),fD _ _ _ (by simp)]
   have:=fu ((w.alloc (.cells xs T)).alloc (.cells ys T)) (.cells zs T)
   rwa [fI,fI] at this
 · rw [h.block _ (by omega)]
   have:=fu (((w.alloc (.cells xs T)).alloc (.cells ys T)).alloc (.cells zs T)) (.cells ss U)
   rwa [fI,fI,fI] at this
theorem zbu (xs:List Ev)(z:Int):b8 (xs.map Ev.c) z=if aI xs z=true then some ((xs.find? fun x=>x.id==z).getD bO).c else none:=by
 rw [zaY]
 unfold aI
 cases xs.find? (fun x=>x.id==z)<;>rfl
def zbe (xs:List Ev)(g:Nat)(w:ft):Prop:=∀ e∈xs,e.lies w∧e.fits∧∀ b,e.uses b→b<g
theorem zbe.get {xs:List Ev} {g:Nat} {w w':ft} (h:zbe xs g w)(hb:fB g w w')(hs:w.heap.size≤w'.heap.size)(z:Int):((xs.find? fun x=>x.id==z).getD bO).lies w'∧((xs.find? fun x=>x.id==z).getD bO).fits:=by
 cases hf:xs.find? (fun x=>x.id==z) with
 | none=>exact⟨zap _,eJ⟩
 | some e =>
   obtain⟨h1,h2,h3⟩:=h e (List.mem_of_find?_eq_some hf)
   exact⟨Ev.frame h1 hs fun b q=>hb.block b (h3 b q),h2⟩
theorem lit1 (w:ft)(s:ByteArray)(B:Nat)(hB:B≤w.heap.size):(w.alloc (.cells #[.string s] 9)).ownsRow B 9 1 (.slice (some ⟨w.heap.size,0,none⟩) 1 1) 1 [.string s] :=
 ⟨rfl,.inr ⟨_,_,_,rfl,hB,fu w _,Nat.le_refl _,by decide,rfl,rfl⟩⟩
def zbW (o:Option (EvC × List ByteArray))(wr:ft)(s17:fw)(wx:ft):Prop :=
 ∃ (u:Ev) (fs:List ByteArray),o=some (u.c,fs)∧u.lies wx∧u.fits∧wx.heap[wr.heap.size+1+1+1]? =some (.cells u.enc.toArray 50 (0,0))∧wx.ownsRow wr.heap.size 9 1 s17 fs.length (fs.map fO)∧s17.ownBlock≠some (wr.heap.size+1+1+1)∧fB wr.heap.size wr wx
theorem put7 (v0 v1 v2 v3 v4 v5 v6 a0 a1 a2 a3 a4 a5 a6:fw):((((((#[v0,v1,v2,v3,v4,v5,v6].setIfInBounds 0 a0).setIfInBounds 1 a1).setIfInBounds 2 a2).setIfInBounds 3 a3).setIfInBounds 4 a4).setIfInBounds 5 a5).setIfInBounds 6 a6=#[a0,a1,a2,a3,a4,a5,a6]:=by
 simp only [fS,fV,fW]
theorem zjW {w:ft} {g:Nat} {v0 v1 v2 v3 v4 v5 v6 a0 a1 a2 a3 a4 a5 a6:fw} (h:w.heap[g]? =some (.cells #[v0,v1,v2,v3,v4,v5,v6] 50 (0,0))) :
 (((((((w.setCell ⟨g,0,none⟩ a0).setCell ⟨g,1,none⟩ a1).setCell ⟨g,2,none⟩ a2).setCell ⟨g,3,none⟩ a3).setCell ⟨g,4,none⟩ a4).setCell ⟨g,5,none⟩ a5).setCell ⟨g,6,none⟩ a6).heap[g]? =some (.cells #[a0,a1,a2,a3,a4,a5,a6] 50 (0,0)):=by
 rw [fp _ _ _ _ _ _ (fp _ _ _ _ _ _ (fp _ _ _ _ _ _ (fp _ _ _ _ _ _ (fp _ _ _ _ _ _ (fp _ _ _ _ _ _ (fp _ _ _ _ _ _ h)))))),put7]
theorem zgL (x y:Ev):evEq x y=zcP x.c y.c:=ziT x y
theorem zbW.box {o:Option (EvC × List ByteArray)} {wr wx:ft} {s17:fw} {v0 v1 v2 v3 v4 v5 v6:fw} (u:Ev)(fs:List ByteArray)(ho:o=some (u.c,fs))(hl:u.lies wx)(hu:∀ b,u.uses b→b<wr.heap.size)(hf:u.fits)(hr:wx.heap[wr.heap.size+1+1+1]? =some (.cells #[v0,v1,v2,v3,v4,v5,v6] 50 (0,0)))
 (hown:wx.ownsRow wr.heap.size 9 1 s17 fs.length (fs.map fO)) (hne:s17.ownBlock≠some (wr.heap.size+1+1+1)) (hb:fB wr.heap.size wr wx) :
 zbW o wr s17 (((((((wx.setCell ⟨wr.heap.size+1+1+1,0,none⟩ (.int .i64 u.id)).setCell ⟨wr.heap.size+1+1+1,1,none⟩ (.int .i64 u.inn)).setCell ⟨wr.heap.size+1+1+1,2,none⟩ (.int .i64 u.out)).setCell ⟨wr.heap.size+1+1+1,3,none⟩ (.string u.region)).setCell ⟨wr.heap.size+1+1+1,4,none⟩ (.int .u8 u.kind)).setCell ⟨wr.heap.size+1+1+1,5,none⟩ (.string u.speaker)).setCell ⟨wr.heap.size+1+1+1,6,none⟩ (.slice u.at_ u.rows.length u.cap)):=by
 have key:∀ b,b≠wr.heap.size+1+1+1→(((((((wx.setCell ⟨wr.heap.size+1+1+1,0,none⟩ (.int .i64 u.id)).setCell ⟨wr.heap.size+1+1+1,1,none⟩ (.int .i64 u.inn)).setCell ⟨wr.heap.size+1+1+1,2,none⟩ (.int .i64 u.out)).setCell ⟨wr.heap.size+1+1+1,3,none⟩ (.string u.region)).setCell ⟨wr.heap.size+1+1+1,4,none⟩ (.int .u8 u.kind)).setCell ⟨wr.heap.size+1+1+1,5,none⟩ (.string u.speaker)).setCell ⟨wr.heap.size+1+1+1,6,none⟩ (.slice u.at_ u.rows.length u.cap)).heap[b]? =wx.heap[b]?:=fun b h=>by
  rw [fC _ _ _ _ h,fC _ _ _ _ h,fC _ _ _ _ h,fC _ _ _ _ h,fC _ _ _ _ h,fC _ _ _ _ h,fC _ _ _ _ h]
 refine⟨u,fs,ho,Ev.frame hl (by simp) (fun b q=>key b (by have:=hu b q;omega)),hf,zjW hr,ah hown (fun b q=>key b (fun e=>hne (e▸q))),hne,?_⟩
 repeat refine fF ?_ (by simp only;omega) _
 exact hb
def zj1 (p:EvC × List ByteArray)(wr:ft)(s17:fw)(wx:ft):Prop :=
 ∃ (y:Ev) (fs:List ByteArray),p=(y.c,fs)∧y.lies wx∧y.fits∧(∀ b,y.uses b→wr.heap.size≤b)∧wx.heap[wr.heap.size+1+1+1]? =some (.cells y.enc.toArray 50 (0,0))∧wx.ownsRow wr.heap.size 9 1 s17 fs.length (fs.map fO)∧s17.ownBlock≠some (wr.heap.size+1+1+1)∧fB wr.heap.size wr wx
theorem zkn (fs:List ByteArray):eA az fs=fs.any fun f=>f.toList==az.toList:=by
 unfold eA
 congr 1
 funext f
 rw [Bool.eq_iff_iff]
 simp only [beq_iff_eq]
 exact eq_comm
theorem zju {rG:List Reg} {y:Ev} {fs:List ByteArray} (h:zgK rG y.c=0):dv rG (y.c,fs)=(y.c,fs):=by
 unfold dv
 rw [if_pos h]
theorem ziw {rG:List Reg} {y:Ev} {fs:List ByteArray} (h:zgK rG y.c≠0):dv rG (y.c,fs)=(({ y with region:=ak }:Ev).c,if eA az fs=true then fs else fs++[az]):=by
 unfold dv
 rw [if_neg h,zkn]
 rfl
theorem zkp (y:Ev)(rG:List Reg):zbv y rG=zgK rG y.c:=zdX (EvC.rep_c y.c).symm rG
theorem put3 (v0 v1 v2 v3 v4 v5 v6 a:fw):#[v0,v1,v2,v3,v4,v5,v6].setIfInBounds 3 a=#[v0,v1,v2,a,v4,v5,v6]:=by
 simp only [fS,fV,fW]
theorem zhN {id:Int} {fs:List ByteArray} {j:Nat} {f:ByteArray} (h:fs[j]? =some f):ei id (fs.take (j+1))=ei id (fs.take j)++[⟨3,id,ak,f⟩]:=by
 unfold ei
 rw [List.take_add_one,h]
 simp
theorem zji {w:ft} {B:Nat} {a:Option Addr} {cap:Nat} {fs:List ByteArray} (h:w.ownsRow B 9 1 (.slice a fs.length cap) fs.length (fs.map fO)):af 1 strW Flat w a fs:=by
 rw [←zjj] at h
 obtain⟨a',c',e,hS⟩:=aj (k:=1) (enc:=strW) (Ok:=Flat) (fun _=>rfl) h (fun _ _=>trivial)
 obtain⟨rfl,_,rfl⟩:=gd e
 exact hS
def zhZ (xs ys zs:List EvC)(m:Mg)(B g:Nat)(ids:List Int)(w:ft)(k:Nat)(wr:ft):Prop :=
 ∃ ev evs kv,({ m with ev:=ev,evs:=evs,kv:=kv,cls:=m.cls++cg m.rG xs ys zs (ids.take k) }:Mg).at_ B g wr∧Mg.step g m { m with ev:=ev,evs:=evs,kv:=kv,cls:=m.cls++cg m.rG xs ys zs (ids.take k) } w wr∧evs.map Ev.c=eH m.rG xs ys zs (ids.take k)∧∀ e∈evs,e.fits
def zgq (xs ys zs:List EvC)(m:Mg)(B g:Nat)(w:ft)(e:Ending)(w':ft):Prop:=e=.returned (.tuple #[])∧∃ ev evs kv,({ m with ev:=ev,evs:=evs,kv:=kv,cls:=m.cls++cg m.rG xs ys zs (bE xs ys zs) }:Mg).at_ B g w' ∧
 Mg.step g m { m with ev:=ev,evs:=evs,kv:=kv,cls:=m.cls++cg m.rG xs ys zs (bE xs ys zs) } w w'∧evs.map Ev.c=dD (eH m.rG xs ys zs (bE xs ys zs))∧∀ e∈evs,e.fits
theorem zdh (m:Mg)(B g x1 x2 y1 y2 z1 z2 n:Nat)(xs ys zs:List Ev)(xc yc zc:List Cm)(w:ft)(h:m.at_ B g w)(hB:B≤w.heap.size)(hev:m.evs=[])(hcl:m.cls.length≤4000)
 (hX:aV w x1 x2 n xs xc) (hY:aV w y1 y2 n ys yc) (hZ:aV w z1 z2 n zs zc) (nX:¬ m.mine g x1) (nY:¬ m.mine g y1) (nZ:¬ m.mine g z1) (lX:zbe xs g w) (lY:zbe ys g w) (lZ:zbe zs g w)
 (hn:n≤1000) (hxl:xs.length≤1000) (hyl:ys.length≤1000) (hzl:zs.length≤1000) (hE:∀ w',fB g w w'→Env w') (hR:∀ r∈m.rG,r.fits) (hRl:m.rG.length≤4000) :
 Calls Tryz.prog 80 #[.pointer (some ⟨g,0,none⟩),.agg #[fK (some x1),.map (some x2)],.agg #[fK (some y1),.map (some y2)],.agg #[fK (some z1),.map (some z2)]] w (zgq (xs.map Ev.c) (ys.map Ev.c) (zs.map Ev.c) m B g w):=by
 have hgl:=h.glt
 have hx1:=hX.ev.lt
 have hy1:=hY.ev.lt
 have hz1:=hZ.ev.lt
 have HV:=h_ (fun wx (q:fB (w.heap.size+4) ((((w.alloc (.cells #[fK (some x1),.map (some x2)] 148)).alloc (.cells #[fK (some y1),.map (some y2)] 148)).alloc (.cells #[fK (some z1),.map (some z2)] 148)).alloc (.cells #[fK (some x1),.map (some y1),.map (some z1)] 145)) wx)=>box4 w #[fK (some x1),.map (some x2)] #[fK (some y1),.map (some y2)] #[fK (some z1),.map (some z2)] #[fK (some x1),.map (some y1),.map (some z1)] 148 145 wx q)
 have HB4:=h_ (fun wx (q:fB (w.heap.size+4) ((((w.alloc (.cells #[fK (some x1),.map (some x2)] 148)).alloc (.cells #[fK (some y1),.map (some y2)] 148)).alloc (.cells #[fK (some z1),.map (some z2)] 148)).alloc (.cells #[fK (some x1),.map (some y1),.map (some z1)] 145)) wx)=>(show fB w.heap.size w wx from(aS w _ _ _ _).trans (q.mono (by omega))))
 have hsz:((((w.alloc (.cells #[fK (some x1),.map (some x2)] 148)).alloc (.cells #[fK (some y1),.map (some y2)] 148)).alloc (.cells #[fK (some z1),.map (some z2)] 148)).alloc (.cells #[fK (some x1),.map (some y1),.map (some z1)] 145)).heap.size=w.heap.size+4:=by simp
 have HIDS:=h_ (show Calls Tryz.prog 136 #[.slice (some ⟨w.heap.size+1+1+1,0,none⟩) 3 3] ((((w.alloc (.cells #[fK (some x1),.map (some x2)] 148)).alloc (.cells #[fK (some y1),.map (some y2)] 148)).alloc (.cells #[fK (some z1),.map (some z2)] 148)).alloc (.cells #[fK (some x1),.map (some y1),.map (some z1)] 145)) (e8 (fun j=>if j=0 then aM xs else if j=1 then aM ys else aM zs) ((((w.alloc (.cells #[fK (some x1),.map (some x2)] 148)).alloc (.cells #[fK (some y1),.map (some y2)] 148)).alloc (.cells #[fK (some z1),.map (some z2)] 148)).alloc (.cells #[fK (some x1),.map (some y1),.map (some z1)] 145))) from by
  have hr:=(HV.out _ (fE _ _)).2.2.2
  have hb:fB w.heap.size w ((((w.alloc (.cells #[fK (some x1),.map (some x2)] 148)).alloc (.cells #[fK (some y1),.map (some y2)] 148)).alloc (.cells #[fK (some z1),.map (some z2)] 148)).alloc (.cells #[fK (some x1),.map (some y1),.map (some z1)] 145)):=aS w _ _ _ _
  refine zfq (w.heap.size+1+1+1) (fun j=>if j=0 then x1 else if j=1 then y1 else z1) n _ _ ?_ ?_ ?_ (by simp) (fun j=>?_) (by omega)
  · rw [fm _ _ 0 _ 145 (0,0) hr];rfl
  · rw [fm _ _ 1 _ 145 (0,0) hr];rfl
  · rw [fm _ _ 2 _ 145 (0,0) hr];rfl
  · by_cases h0:j=0
    · subst h0
      exact hX.ev.below hb hx1
    · by_cases h1:j=1
      · subst h1
        exact hY.ev.below hb hy1
      · simp only [if_neg h0,if_neg h1]
        exact hZ.ev.below hb hz1)
 generalize hW4:((((w.alloc (.cells #[fK (some x1),.map (some x2)] 148)).alloc (.cells #[fK (some y1),.map (some y2)] 148)).alloc (.cells #[fK (some z1),.map (some z2)] 148)).alloc (.cells #[fK (some x1),.map (some y1),.map (some z1)] 145))=W0 at *
 have HSZ:=h_ hsz
 have hb0:fB (w.heap.size+4) W0 W0:=fE _ _
 have HT:=h_ (fun(w2 w3:ft) (q:fB (w.heap.size+4) W0 w2) (q3:fB w2.heap.size w2 w3)=>(q.trans (q3.mono (by have:=q.size;rw [HSZ.out] at this;exact this)):fB (w.heap.size+4) W0 w3))
 have HW4:=h_ hW4
 clear hW4 hsz
 go_enter Tryz.func80,Tryz.ntmps80
 go_wp2_with fail
 rw [HW4.out]
 refine HIDS.out.mono ?_
 rintro e w5 ⟨ids,vi,rfl,hasc,hmem,hoi,hb5⟩
 have hc5:=HT.out _ _ hb0 hb5
 have hidse:=zkJ (xs:=xs) (ys:=ys) (zs:=zs) hasc _ ⟨rfl,rfl,rfl⟩ hmem
 have hidl:ids.length≤3000:=by
  rw [hidse]
  refine gh (zcN _ _ _) ?_
  simp
  omega
 have HI64:=h_ (fun(id:Int) (hid:id∈ids)=>(show i64 id from by
  rw [hidse] at hid
  refine ziS ?_ ?_ ?_ hid<;>(intro e he;obtain⟨x,hx,rfl⟩:=fU.1 he)
  · exact(Ev.fits_c x).2 (lX x hx).2.1
  · exact(Ev.fits_c x).2 (lY x hx).2.1
  · exact(Ev.fits_c x).2 (lZ x hx).2.1))
 have HW5:=h_ (HB4.out _ hc5)
 have hs5:w.heap.size+4≤w5.heap.size:=by have:=hc5.size;rw [HSZ.out] at this;exact this
 have HM5:=h_ (h.later (HB4.out _ hc5))
 have HMINE:=h_ (fun b (hb:m.mine g b)=>h.mine_lt hb)
 have HROW:=h_ (HV.out _ hc5)
 have HOI:=h_ (show w5.ownsRow (w.heap.size+4) 2 1 vi ids.length (ids.map (fL .i64)) from HSZ.out▸hoi)
 have HQ:=h_ (show ∀ w',zhZ (xs.map Ev.c) (ys.map Ev.c) (zs.map Ev.c) m B g ids w5 ids.length w'→∃ ev evs kv,({ m with ev:=ev,evs:=evs,kv:=kv,cls:=m.cls++cg m.rG (xs.map Ev.c) (ys.map Ev.c) (zs.map Ev.c) ids }:Mg).at_ B g w'∧Mg.step g m { m with ev:=ev,evs:=evs,kv:=kv,cls:=m.cls++cg m.rG (xs.map Ev.c) (ys.map Ev.c) (zs.map Ev.c) ids } w w'∧evs.map Ev.c=eH m.rG (xs.map Ev.c) (ys.map Ev.c) (zs.map Ev.c) ids∧(∀ e∈evs,e.fits) from fun w' hr=>by
  obtain⟨ev,evs,kv,q1,q2,q3,q4⟩:=hr
  rw [fY] at q1 q2 q3
  exact⟨ev,evs,kv,q1,(Mg.step.of_below HW5.out).trans q2,q3,q4⟩)
 have HFIN:=h_ (show ∀ (m':Mg) (w':ft),m'.at_ B g w'→Mg.step g m m' w w'→(∃ ev evs kv,m'={ m with ev:=ev,evs:=evs,kv:=kv,cls:=m.cls++cg m.rG (xs.map Ev.c) (ys.map Ev.c) (zs.map Ev.c) ids })→m'.evs.map Ev.c=dD (eH m.rG (xs.map Ev.c) (ys.map Ev.c) (zs.map Ev.c) ids)→(∀ e∈m'.evs,e.fits)→zgq (xs.map Ev.c) (ys.map Ev.c) (zs.map Ev.c) m B g w (.returned (.tuple #[])) w' from fun m' w' q1 q2 q3 q4 q5=>by
  obtain⟨ev,evs,kv,rfl⟩:=q3
  rw [hidse] at q1 q2 q4
  exact⟨rfl,ev,evs,kv,q1,q2,q4,q5⟩)
 have HASC:=h_ (show(eH m.rG (xs.map Ev.c) (ys.map Ev.c) (zs.map Ev.c) ids).Pairwise fun x y=>x.id<y.id from ziN ids hasc fun id hid=>hidse▸hid)
 have HR0:=h_ (show zhZ (xs.map Ev.c) (ys.map Ev.c) (zs.map Ev.c) m B g ids w5 0 w5 from by
  have e2:cg m.rG (xs.map Ev.c) (ys.map Ev.c) (zs.map Ev.c) (ids.take 0)=[]:=rfl
  refine⟨m.ev,[],m.kv,?_,?_,rfl,by simp⟩
  · rw [e2,fP,←hev]
    exact HM5.out
  · rw [e2,fP,←hev]
    exact Mg.step.refl _ _ _)
 generalize zgq (xs.map Ev.c) (ys.map Ev.c) (zs.map Ev.c) m B g w=Q at *
 obtain⟨ia,ic,rfl⟩:=dS hoi
 obtain⟨j0,hj,hy0,hy1,hy2⟩:=info_parts Tryz.info9
 have JI:=h_ hj;have J0:=h_ hy0;have J1:=h_ hy1;have J2:=h_ hy2
 obtain⟨i0,hi,hi0,hi1,hi2⟩:=info_parts Tryz.info50
 have II:=h_ hi;have I0:=h_ hi0;have I1:=h_ hi1;have I2:=h_ hi2
 clear hj hy0 hy1 hy2 hi hi0 hi1 hi2
 clear hb5 hb0 hc5 hoi hasc hmem hidse HIDS HW4 h
 have hsg:=HROW.out
 go_wp2_with fail
 go_loopw [29] (fun i wr=>∃ k:Nat,k≤ids.length∧i=.int .i64 k∧zhZ (xs.map Ev.c) (ys.map Ev.c) (zs.map Ev.c) m B g ids w5 k wr) (fun i _=>ids.length-(intOf i).toNat)
 case atStart=>exact⟨0,by omega,rfl,HR0.out⟩
 case round =>
  clear hsg HR0
  obtain⟨k,hk,rfl,hrel⟩:=hrel
  by_cases hlt:k<ids.length
  · obtain⟨id,hid⟩:∃ id,ids[k]? =some id:=⟨_,fT hlt⟩
    have hi64:=HI64.out id (List.mem_of_getElem? hid)
    obtain⟨ev,evs,kv,hat,hstep,hevs,hfit⟩:=hrel
    have hbl:=hstep.low HM5.out
    have hsr:=hstep.1.size
    obtain⟨q,qc,hq⟩:∃ q c,(fM ia ids.length ic)=.slice (some ⟨q,0,none⟩) ids.length c:=zat HOI.out (by omega)
    obtain⟨rfl,_,rfl⟩:=gd hq
    have hkeep:∀ b,w.heap.size≤b→b<w5.heap.size→wr.heap[b]? =w5.heap[b]?:=fun b h1 h2=>hstep.1.block b h2 fun hm=>by have:=HMINE.out b hm;omega
    have hqb:=HOI.out.lt q rfl
    have hcell:wr.cell? ⟨q,k,none⟩=some (.int .i64 id):=by
     rw [ft.cell?_of_block (w:=w5) (hkeep q (by omega) hqb.2),HOI.out.cellAt k (by omega)]
     simp [hid]
    have hcapn:ids.length≤ic:=by
     rcases HOI.out.2 with⟨h0,_⟩|⟨g',cap,cur,h0,_,_,hnc,_⟩
     · simp at h0
     · simp only [gf] at h0
       obtain⟨_,_,rfl⟩:=h0
       exact hnc
    have hbw:fB g w wr:=fB.trans (HW5.out.mono (gj hgl)) hbl
    have hmap:∀ b,b<w.heap.size→¬ m.mine g b→wr.heap[b]? =w.heap[b]?:=fun b h1 h2=>(hstep.1.block b (by omega) h2).trans (HW5.out.block b h1)
    obtain⟨p,hlp,hpe⟩:=zbR (hX.ev.kept (hmap x1 hx1 nX)) hi64
    obtain⟨s,hls,hse⟩:=zbR (hY.ev.kept (hmap y1 hy1 nY)) hi64
    obtain⟨t,hlt',hte⟩:=zbR (hZ.ev.kept (hmap z1 hz1 nZ)) hi64
    have hpl:=lX.get hbw (by omega) id
    have hsl:=lY.get hbw (by omega) id
    have htl:=lZ.get hbw (by omega) id
    rw [←hpe] at hpl
    rw [←hse] at hsl
    rw [←hte] at htl
    have h3:mgEv m.rG (xs.map Ev.c) (ys.map Ev.c) (zs.map Ev.c) id=(zag (if aI xs id=true then some p.c else none) (if aI ys id=true then some s.c else none) (if aI zs id=true then some t.c else none)).map (dv m.rG):=by
     unfold mgEv
     rw [zbu,zbu,zbu,←hpe,←hse,←hte]
    have r1:wr.heap[w.heap.size]? =_:=(hkeep _ (by omega) (by omega)).trans HROW.out.1
    have r2:wr.heap[w.heap.size+1]? =_:=(hkeep _ (by omega) (by omega)).trans HROW.out.2.1
    have r3:wr.heap[w.heap.size+1+1]? =_:=(hkeep _ (by omega) (by omega)).trans HROW.out.2.2.1
    have ht0:(if aI zs id=true then some t.c else none).getD dI=t.c:=by
     rw [hte]
     unfold aI
     cases zs.find? (fun x=>x.id==id)<;>rfl
    have HT0:=h_ ht0
    clear ht0
    generalize aI xs id=A at *
    generalize aI ys id=C at *
    generalize aI zs id=D at *
    clear hpe hse hte
    have hsz4:wr.heap.size ≥ w.heap.size+4:=by omega
    have HNONE:=h_ (show zag (if A=true then some p.c else none) (if C=true then some s.c else none) (if D=true then some t.c else none)=none→∀ wx,fB wr.heap.size wr wx→zhZ (xs.map Ev.c) (ys.map Ev.c) (zs.map Ev.c) m B g ids w5 (k+1) wx from fun h0 wx hbx=>by
     rw [h0] at h3
     have e1:=zdQ m.rG (xs.map Ev.c) (ys.map Ev.c) (zs.map Ev.c) ids k id hid
     have e2:=zcz m.rG (xs.map Ev.c) (ys.map Ev.c) (zs.map Ev.c) ids k id hid
     rw [h3] at e1 e2
     simp only [Option.map_none,Option.toList_none,fP,Option.getD_none,ei,List.map_nil] at e1 e2
     refine⟨ev,evs,kv,?_,?_,?_,hfit⟩
     · rw [e2];exact hat.later hbx
     · rw [e2];exact hstep.trans (Mg.step.of_below hbx)
     · rw [e1];exact hevs)
    have hbE:fB w.heap.size w wr∨True:=.inr trivial
    obtain⟨m1,hm1⟩:∃ m1:Mg,m1={ m with ev:=ev,evs:=evs,kv:=kv,cls:=m.cls++cg m.rG (xs.map Ev.c) (ys.map Ev.c) (zs.map Ev.c) (ids.take k) }:=⟨_,rfl⟩
    have hlens:=eT m.rG (xs.map Ev.c) (ys.map Ev.c) (zs.map Ev.c) (ids.take k)
    rw [fZ] at hlens
    have hm1e:m1.evs.length≤3000:=by
     have:=congrArg f_ hevs
     rw [fR] at this
     subst hm1
     simp only
     omega
    have hm1c:m1.cls.length≤30000:=by
     subst hm1
     simp only [fX]
     omega
    have hm1r:m1.rG=m.rG:=by subst hm1;rfl
    have HSOME:=h_ (show ∀ (c:EvC) (fs:List ByteArray),zag (if A=true then some p.c else none) (if C=true then some s.c else none) (if D=true then some t.c else none)=some (c,fs)→∀ (y:Ev),y.c=(dv m.rG (c,fs)).1→y.fits→∀ (ev' kv':fw) (w':ft),({ m1 with ev:=ev',evs:=m1.evs++[y],kv:=kv',cls:=m1.cls++ei id (dv m.rG (c,fs)).2 }:Mg).at_ B g w'→Mg.step g m1 { m1 with ev:=ev',evs:=m1.evs++[y],kv:=kv',cls:=m1.cls++ei id (dv m.rG (c,fs)).2 } wr w'→zhZ (xs.map Ev.c) (ys.map Ev.c) (zs.map Ev.c) m B g ids w5 (k+1) w' from fun c fs h0 y hy hyf ev' kv' w' q1 q2=>by
     subst hm1
     rw [h0] at h3
     have e1:=zdQ m.rG (xs.map Ev.c) (ys.map Ev.c) (zs.map Ev.c) ids k id hid
     have e2:=zcz m.rG (xs.map Ev.c) (ys.map Ev.c) (zs.map Ev.c) ids k id hid
     rw [h3] at e1 e2
     simp only [Option.map_some,Option.toList_some,Option.getD_some] at e1 e2
     refine⟨ev',evs++[y],kv',?_,?_,?_,?_⟩
     · rw [e2,←fQ];exact q1
     · rw [e2,←fQ];exact hstep.trans q2
     · rw [e1,List.map_append,hevs,List.map_singleton,hy]
     · intro e he
       rcases List.mem_append.1 he with he|he
       · exact hfit e he
       · rw [List.mem_singleton.1 he];exact hyf)
    have HAT:=h_ (show m1.at_ B g wr from hm1▸hat)
    have HENV:=h_ (fun w' (q:fB wr.heap.size wr w')=>hE w' (hbw.trans (q.mono (by omega))))
    have hregs:=h_ (show(∀ r∈m1.rG,r.fits)∧m1.rG.length≤4000 from by rw [hm1r];exact⟨hR,hRl⟩)
    have HMR:=h_ hm1r
    have HLP:=h_ hpl;have HLS:=h_ hsl;have HLT2:=h_ htl
    have hkx:wr.heap[x1]? =wr.heap[x1]?:=rfl
    have hxl1:x1<wr.heap.size:=by omega
    have hyl1:y1<wr.heap.size:=by omega
    have hzl1:z1<wr.heap.size:=by omega
    have hkx1:∀ o,(wr.alloc o).heap[y1]? =wr.heap[y1]?:=fun o=>fD _ _ _ hyl1
    have hkx2:∀ o o',((wr.alloc o).alloc o').heap[z1]? =wr.heap[z1]?:=fun o o'=>(fD _ _ _ (by simp;omega)).trans (fD _ _ _ hzl1)
    have w5x:wr.heap[x1]? =w.heap[x1]?:=hmap x1 hx1 nX
    have w5y:wr.heap[y1]? =w.heap[y1]?:=hmap y1 hy1 nY
    have w5z:wr.heap[z1]? =w.heap[z1]?:=hmap z1 hz1 nZ
    have L1:=h_ (hlp wr rfl)
    have L2:=h_ (fun o=>hls (wr.alloc o) (hkx1 o))
    have L3:=h_ (fun o o'=>hlt' ((wr.alloc o).alloc o') (hkx2 o o'))
    have f1:∀ j,wr.cell? ⟨w.heap.size,j,none⟩=_:=fun j=>fm _ _ j _ 148 (0,0) r1
    have f2:∀ o j,(wr.alloc o).cell? ⟨w.heap.size+1,j,none⟩=_:=fun o j=>(fH _ _ _ (by simp;omega)).trans (fm _ _ j _ 148 (0,0) r2)
    have f3:∀ o o' j,((wr.alloc o).alloc o').cell? ⟨w.heap.size+1+1,j,none⟩=_:=fun o o' j=>(fH _ _ _ (by simp;omega)).trans ((fH _ _ _ (by simp;omega)).trans (fm _ _ j _ 148 (0,0) r3))
    have HID:=h_ hid
    have Bwr:B≤wr.heap.size:=by omega
    clear hat hstep hevs hfit hm1 hlens hpl hsl htl h3 hlp hls hlt' hkx1 hkx2 w5x w5y w5z hkeep hmap hqb hbl hbw hid hm1r hbE r1 r2 r3 hkx
    obtain⟨pid,pin,pout,preg,pkind,psp,pxa,pxc,pxr⟩:=p
    obtain⟨sid,sin,sout,sreg,skind,ssp,sxa,sxc,sxr⟩:=s
    obtain⟨tid,tin,tout,treg,tkind,tsp,txa,txc,txr⟩:=t
    simp only [Ev.enc] at L1 L2 L3
    go_upto_block 2 with(first
     | (at_lookup;refine aa _ rfl _ _ _ _ rfl _ _ _ rfl rfl L1.out ?_)
     | (at_lookup;refine aa _ rfl _ _ _ _ rfl _ _ _ rfl rfl (L2.out _) ?_)
     | (at_lookup;refine aa _ rfl _ _ _ _ rfl _ _ _ rfl rfl (L3.out _ _) ?_))
    have hrw:=box4 wr (#[fL .i64 pid,.int .i64 pin,.int .i64 pout,.string preg,.int .u8 pkind,.string psp,.slice pxa pxr.length pxc]) (#[fL .i64 sid,.int .i64 sin,.int .i64 sout,.string sreg,.int .u8 skind,.string ssp,.slice sxa sxr.length sxc]) (#[fL .i64 tid,.int .i64 tin,.int .i64 tout,.string treg,.int .u8 tkind,.string tsp,.slice txa txr.length txc]) (#[fL .i64 0,.int .i64 0,.int .i64 0,.string ⟨#[]⟩,.int .u8 0,.string ⟨#[]⟩,.slice none 0 0]) 50 50 _ (fE _ ((((wr.alloc (.cells #[fL .i64 pid,.int .i64 pin,.int .i64 pout,.string preg,.int .u8 pkind,.string psp,.slice pxa pxr.length pxc] 50)).alloc (.cells #[fL .i64 sid,.int .i64 sin,.int .i64 sout,.string sreg,.int .u8 skind,.string ssp,.slice sxa sxr.length sxc] 50)).alloc (.cells #[fL .i64 tid,.int .i64 tin,.int .i64 tout,.string treg,.int .u8 tkind,.string tsp,.slice txa txr.length txc] 50)).alloc (.cells #[fL .i64 0,.int .i64 0,.int .i64 0,.string ⟨#[]⟩,.int .u8 0,.string ⟨#[]⟩,.slice none 0 0] 50)))
    have hb7:fB wr.heap.size wr ((((wr.alloc (.cells #[fL .i64 pid,.int .i64 pin,.int .i64 pout,.string preg,.int .u8 pkind,.string psp,.slice pxa pxr.length pxc] 50)).alloc (.cells #[fL .i64 sid,.int .i64 sin,.int .i64 sout,.string sreg,.int .u8 skind,.string ssp,.slice sxa sxr.length sxc] 50)).alloc (.cells #[fL .i64 tid,.int .i64 tin,.int .i64 tout,.string treg,.int .u8 tkind,.string tsp,.slice txa txr.length txc] 50)).alloc (.cells #[fL .i64 0,.int .i64 0,.int .i64 0,.string ⟨#[]⟩,.int .u8 0,.string ⟨#[]⟩,.slice none 0 0] 50)):=aS wr _ _ _ _
    have hsz7:((((wr.alloc (.cells #[fL .i64 pid,.int .i64 pin,.int .i64 pout,.string preg,.int .u8 pkind,.string psp,.slice pxa pxr.length pxc] 50)).alloc (.cells #[fL .i64 sid,.int .i64 sin,.int .i64 sout,.string sreg,.int .u8 skind,.string ssp,.slice sxa sxr.length sxc] 50)).alloc (.cells #[fL .i64 tid,.int .i64 tin,.int .i64 tout,.string treg,.int .u8 tkind,.string tsp,.slice txa txr.length txc] 50)).alloc (.cells #[fL .i64 0,.int .i64 0,.int .i64 0,.string ⟨#[]⟩,.int .u8 0,.string ⟨#[]⟩,.slice none 0 0] 50)).heap.size=wr.heap.size+4:=by simp
    generalize ((((wr.alloc (.cells #[fL .i64 pid,.int .i64 pin,.int .i64 pout,.string preg,.int .u8 pkind,.string psp,.slice pxa pxr.length pxc] 50)).alloc (.cells #[fL .i64 sid,.int .i64 sin,.int .i64 sout,.string sreg,.int .u8 skind,.string ssp,.slice sxa sxr.length sxc] 50)).alloc (.cells #[fL .i64 tid,.int .i64 tin,.int .i64 tout,.string treg,.int .u8 tkind,.string tsp,.slice txa txr.length txc] 50)).alloc (.cells #[fL .i64 0,.int .i64 0,.int .i64 0,.string ⟨#[]⟩,.int .u8 0,.string ⟨#[]⟩,.slice none 0 0] 50))=W7 at *
    have HRW:=h_ hrw
    have HB7:=h_ hb7
    have c0:∀ j,W7.cell? ⟨wr.heap.size,j,none⟩=_:=fun j=>fm _ _ j _ 50 (0,0) hrw.1
    have c1:∀ j,W7.cell? ⟨wr.heap.size+1,j,none⟩=_:=fun j=>fm _ _ j _ 50 (0,0) hrw.2.1
    have c2:∀ j,W7.cell? ⟨wr.heap.size+1+1,j,none⟩=_:=fun j=>fm _ _ j _ 50 (0,0) hrw.2.2.1
    have z3:∀ j,W7.frozen? ⟨wr.heap.size+1+1+1,j,none⟩=false:=fun j=>by simp [fG,hrw.2.2.2]
    have d3:∀ j,W7.cell? ⟨wr.heap.size+1+1+1,j,none⟩=_:=fun j=>fm _ _ j _ 50 (0,0) hrw.2.2.2
    have HX8:=h_ (fun(w8:ft) (q:fB W7.heap.size W7 w8)=>(show(∀ j,w8.cell? ⟨wr.heap.size+1,j,none⟩=#[fL .i64 sid,.int .i64 sin,.int .i64 sout,.string sreg,.int .u8 skind,.string ssp,.slice sxa sxr.length sxc][j]?)∧(∀ j,w8.cell? ⟨wr.heap.size+1+1,j,none⟩=#[fL .i64 tid,.int .i64 tin,.int .i64 tout,.string treg,.int .u8 tkind,.string tsp,.slice txa txr.length txc][j]?)∧(∀ j,w8.frozen? ⟨wr.heap.size+1+1+1,j,none⟩=false)∧(∀ j,w8.cell? ⟨wr.heap.size+1+1+1,j,none⟩=#[fL .i64 0,.int .i64 0,.int .i64 0,.string ⟨#[]⟩,.int .u8 0,.string ⟨#[]⟩,.slice none 0 0][j]?)∧w8.heap[wr.heap.size+1+1+1]? =some (.cells #[fL .i64 0,.int .i64 0,.int .i64 0,.string ⟨#[]⟩,.int .u8 0,.string ⟨#[]⟩,.slice none 0 0] 50 (0,0))∧fB wr.heap.size wr w8 from
     ⟨fun j=>fm _ _ j _ 50 (0,0) ((q.block _ (by omega)).trans HRW.out.2.1),fun j=>fm _ _ j _ 50 (0,0) ((q.block _ (by omega)).trans HRW.out.2.2.1),fun j=>by simp [fG,(q.block (wr.heap.size+1+1+1) (by omega)).trans HRW.out.2.2.2],fun j=>fm _ _ j _ 50 (0,0) ((q.block _ (by omega)).trans HRW.out.2.2.2),(q.block _ (by omega)).trans HRW.out.2.2.2,HB7.out.trans (q.mono (by omega))⟩))
    have HBOTH:=h_ (zhS (⟨pid,pin,pout,preg,pkind,psp,pxa,pxc,pxr⟩:Ev) (⟨sid,sin,sout,sreg,skind,ssp,sxa,sxc,sxr⟩:Ev) (⟨tid,tin,tout,treg,tkind,tsp,txa,txc,txr⟩:Ev) W7 (Ev.keeps _ _ _ hb7 HLP.out.1) (Ev.keeps _ _ _ hb7 HLS.out.1) (Ev.keeps _ _ _ hb7 HLT2.out.1) HLP.out.2 HLS.out.2 HLT2.out.2)
    have HSA1:=h_ (dE (⟨pid,pin,pout,preg,pkind,psp,pxa,pxc,pxr⟩:Ev) (⟨sid,sin,sout,sreg,skind,ssp,sxa,sxc,sxr⟩:Ev) W7 (Ev.keeps _ _ _ hb7 HLP.out.1) (Ev.keeps _ _ _ hb7 HLS.out.1) (fun r hr=>(HLP.out.2.2.2.2.2.2.2.2.1 r hr).2.1) (fun r hr=>(HLS.out.2.2.2.2.2.2.2.2.1 r hr).2.1) HLP.out.2.2.2.2.2.2.2.2.2)
    have HSA2:=h_ (dE (⟨pid,pin,pout,preg,pkind,psp,pxa,pxc,pxr⟩:Ev) (⟨tid,tin,tout,treg,tkind,tsp,txa,txc,txr⟩:Ev) W7 (Ev.keeps _ _ _ hb7 HLP.out.1) (Ev.keeps _ _ _ hb7 HLT2.out.1) (fun r hr=>(HLP.out.2.2.2.2.2.2.2.2.1 r hr).2.1) (fun r hr=>(HLT2.out.2.2.2.2.2.2.2.2.1 r hr).2.1) HLP.out.2.2.2.2.2.2.2.2.2)
    have HE1:=h_ (zgL (⟨pid,pin,pout,preg,pkind,psp,pxa,pxc,pxr⟩:Ev) (⟨sid,sin,sout,sreg,skind,ssp,sxa,sxc,sxr⟩:Ev))
    have HE2:=h_ (zgL (⟨pid,pin,pout,preg,pkind,psp,pxa,pxc,pxr⟩:Ev) (⟨tid,tin,tout,treg,tkind,tsp,txa,txc,txr⟩:Ev))
    have HFB:=h_ (show(eV (⟨pid,pin,pout,preg,pkind,psp,pxa,pxc,pxr⟩:Ev).c (⟨sid,sin,sout,sreg,skind,ssp,sxa,sxc,sxr⟩:Ev).c (⟨tid,tin,tout,treg,tkind,tsp,txa,txc,txr⟩:Ev).c).fits from zf0 ((Ev.fits_c _).2 HLP.out.2) ((Ev.fits_c _).2 HLS.out.2) ((Ev.fits_c _).2 HLT2.out.2))
    generalize evEq (⟨pid,pin,pout,preg,pkind,psp,pxa,pxc,pxr⟩:Ev) (⟨sid,sin,sout,sreg,skind,ssp,sxa,sxc,sxr⟩:Ev)=E1 at *
    generalize evEq (⟨pid,pin,pout,preg,pkind,psp,pxa,pxc,pxr⟩:Ev) (⟨tid,tin,tout,treg,tkind,tsp,txa,txc,txr⟩:Ev)=E2 at *
    obtain⟨o,ho⟩:∃ o,o=zag (if A=true then some (⟨pid,pin,pout,preg,pkind,psp,pxa,pxc,pxr⟩:Ev).c else none) (if C=true then some (⟨sid,sin,sout,sreg,skind,ssp,sxa,sxc,sxr⟩:Ev).c else none) (if D=true then some (⟨tid,tin,tout,treg,tkind,tsp,txa,txc,txr⟩:Ev).c else none):=⟨_,rfl⟩
    rw [←ho] at HNONE HSOME
    have HO:=h_ ho
    simp only [Ev.enc] at HSA1 HSA2 HBOTH
    clear hrw hb7 ho f1 f2 f3 L1 L2 L3
    go_cut [17] (fun s17 wx=>zbW o wr s17 wx)
    case first =>
     clear HSOME HENV hregs HAT HMR
     cases A with
     | false =>
       cases C with
       | true =>
         have ho:o=some ((⟨sid,sin,sout,sreg,skind,ssp,sxa,sxc,sxr⟩:Ev).c,[]):=HO.out
         have HH:=h_ ho
         clear ho
         go_wp2_with fail
         go_meet
         exact zbW.box (⟨sid,sin,sout,sreg,skind,ssp,sxa,sxc,sxr⟩:Ev) [] HH.out (Ev.keeps _ _ _ HB7.out HLS.out.1) (fun b=>Ev.uses_lt HLS.out.1) HLS.out.2 HRW.out.2.2.2 (fJ _ _ _ _) (by simp [fN]) HB7.out
       | false =>
         have ho:o=some ((⟨tid,tin,tout,treg,tkind,tsp,txa,txc,txr⟩:Ev).c,[]):=by
          have h1:=HO.out
          have h2:=HT0.out
          simp only [zag] at h1
          rw [h1]
          show some ((if D=true then some ((⟨tid,tin,tout,treg,tkind,tsp,txa,txc,txr⟩:Ev)).c else none).getD dI,[])=_
          rw [h2]
         have HH:=h_ ho
         clear ho
         go_wp2_with fail
         go_meet
         exact zbW.box (⟨tid,tin,tout,treg,tkind,tsp,txa,txc,txr⟩:Ev) [] HH.out (Ev.keeps _ _ _ HB7.out HLT2.out.1) (fun b=>Ev.uses_lt HLT2.out.1) HLT2.out.2 HRW.out.2.2.2 (fJ _ _ _ _) (by simp [fN]) HB7.out
     | true =>
       cases C with
       | true =>
         cases D with
         | true =>
           have ho:o=some (eV (⟨pid,pin,pout,preg,pkind,psp,pxa,pxc,pxr⟩:Ev).c (⟨sid,sin,sout,sreg,skind,ssp,sxa,sxc,sxr⟩:Ev).c (⟨tid,tin,tout,treg,tkind,tsp,txa,txc,txr⟩:Ev).c,bf (⟨pid,pin,pout,preg,pkind,psp,pxa,pxc,pxr⟩:Ev).c (⟨sid,sin,sout,sreg,skind,ssp,sxa,sxc,sxr⟩:Ev).c (⟨tid,tin,tout,treg,tkind,tsp,txa,txc,txr⟩:Ev).c):=HO.out
           go_wp2_with fail
           refine HBOTH.out.mono ?_
           rintro e w8 ⟨u,v,rfl,huc,hul,huu,huo,hub⟩
           rw [←huc] at ho
           have HH:=h_ ho
           have hx8:=HX8.out w8 hub
           have HU1:=h_ hul
           have HU2:=h_ (show ∀ b,u.uses b→b<wr.heap.size from fun b hb=>by
            rcases huu b hb with q1|q1|q1
            · exact Ev.uses_lt HLP.out.1 q1
            · exact Ev.uses_lt HLS.out.1 q1
            · exact Ev.uses_lt HLT2.out.1 q1)
           have HU3:=h_ (show u.fits from(Ev.fits_c u).1 (by rw [huc];exact HFB.out))
           have HU4:=h_ (eR huo (show wr.heap.size≤W7.heap.size by omega))
           have HU5:=h_ (show v.ownBlock≠some (wr.heap.size+1+1+1) from fun e=>by have:=(huo.lt _ e).1;omega)
           generalize bf (⟨pid,pin,pout,preg,pkind,psp,pxa,pxc,pxr⟩:Ev).c (⟨sid,sin,sout,sreg,skind,ssp,sxa,sxc,sxr⟩:Ev).c (⟨tid,tin,tout,treg,tkind,tsp,txa,txc,txr⟩:Ev).c=fs at *
           have HR8:=h_ hx8.2.2.2.2.1
           have HB8:=h_ hx8.2.2.2.2.2
           have n3:=hx8.2.2.1
           have n4:=hx8.2.2.2.1
           clear ho huc hul huu huo hub hx8
           obtain⟨uid,uin,uout,ureg,ukind,usp,uxa,uxc,uxr⟩:=u
           simp only [Ev.enc]
           go_wp2_with fail
           go_meet
           exact zbW.box (⟨uid,uin,uout,ureg,ukind,usp,uxa,uxc,uxr⟩:Ev) fs HH.out HU1.out HU2.out HU3.out HR8.out HU4.out HU5.out HB8.out
         | false =>
           go_wp2_with fail
           refine HSA1.out.mono ?_
           rintro e w8 ⟨rfl,hb8⟩
           have hx8:=HX8.out w8 hb8
           cases E1 with
           | false =>
             have ho:o=some ((⟨sid,sin,sout,sreg,skind,ssp,sxa,sxc,sxr⟩:Ev).c,[cW]):=by
              have h1:o=(if zcP (⟨pid,pin,pout,preg,pkind,psp,pxa,pxc,pxr⟩:Ev).c (⟨sid,sin,sout,sreg,skind,ssp,sxa,sxc,sxr⟩:Ev).c=true then none else some ((⟨sid,sin,sout,sreg,skind,ssp,sxa,sxc,sxr⟩:Ev).c,[cW])):=HO.out
              rw [←HE1.out] at h1
              simpa using h1
             have HH:=h_ ho
             clear ho
             have HB8:=h_ hx8.2.2.2.2.2
             have HR8:=h_ hx8.2.2.2.2.1
             have hs8:wr.heap.size+4≤w8.heap.size:=by have:=hb8.size;omega
             have hx9:∀ o:Obj,(w8.alloc o).heap[wr.heap.size+1+1+1]? =w8.heap[wr.heap.size+1+1+1]?:=fun o=>fD _ _ _ (by omega)
             have c8:∀ o j,(w8.alloc o).cell? ⟨wr.heap.size+1+1+1,j,none⟩=_:=fun o j=>fm _ _ j _ 50 (0,0) ((hx9 o).trans HR8.out)
             have y8:∀ o j,(w8.alloc o).frozen? ⟨wr.heap.size+1+1+1,j,none⟩=false:=fun o j=>by simp [fG,(hx9 o).trans HR8.out]
             have n1:=hx8.1
             have n2:=hx8.2.1
             have HL8:=h_ (lit1 w8 cW wr.heap.size (by omega))
             have HN8:=h_ (show(fM (some ⟨w8.heap.size,0,none⟩) 1 1).ownBlock≠some (wr.heap.size+1+1+1) from by simp [fN];omega)
             have HX9:=h_ (fun o=>(hx9 o).trans HR8.out)
             have HBA:=h_ (fun o=>HB8.out.alloc (gj (by omega)) o)
             clear hx8 hx9 hb8
             go_wp2_with fail
             go_meet
             exact zbW.box (⟨sid,sin,sout,sreg,skind,ssp,sxa,sxc,sxr⟩:Ev) [cW] HH.out (Ev.keeps _ _ _ (HBA.out _) HLS.out.1) (fun b=>Ev.uses_lt HLS.out.1) HLS.out.2 (HX9.out _) HL8.out HN8.out (HBA.out _)
           | true =>
             have ho:o=none:=by
              have h1:o=(if zcP (⟨pid,pin,pout,preg,pkind,psp,pxa,pxc,pxr⟩:Ev).c (⟨sid,sin,sout,sreg,skind,ssp,sxa,sxc,sxr⟩:Ev).c=true then none else some ((⟨sid,sin,sout,sreg,skind,ssp,sxa,sxc,sxr⟩:Ev).c,[cW])):=HO.out
              rw [←HE1.out] at h1
              simpa using h1
             have HB8:=h_ hx8.2.2.2.2.2
             clear hx8
             have HE:=h_ (HNONE.out ho w8 HB8.out)
             clear ho
             go_wp2_with fail
             go_roundw
             case rel=>exact⟨k+1,by omega,by go_num,HE.out⟩
             case measure=>simp [intOf];omega
       | false =>
         cases D with
         | true =>
           go_wp2_with fail
           refine HSA2.out.mono ?_
           rintro e w8 ⟨rfl,hb8⟩
           have hx8:=HX8.out w8 hb8
           cases E2 with
           | false =>
             have ho:o=some ((⟨tid,tin,tout,treg,tkind,tsp,txa,txc,txr⟩:Ev).c,[cW]):=by
              have h1:o=(if zcP (⟨pid,pin,pout,preg,pkind,psp,pxa,pxc,pxr⟩:Ev).c (⟨tid,tin,tout,treg,tkind,tsp,txa,txc,txr⟩:Ev).c=true then none else some ((⟨tid,tin,tout,treg,tkind,tsp,txa,txc,txr⟩:Ev).c,[cW])):=HO.out
              rw [←HE2.out] at h1
              simpa using h1
             have HH:=h_ ho
             clear ho
             have HB8:=h_ hx8.2.2.2.2.2
             have HR8:=h_ hx8.2.2.2.2.1
             have hs8:wr.heap.size+4≤w8.heap.size:=by have:=hb8.size;omega
             have hx9:∀ o:Obj,(w8.alloc o).heap[wr.heap.size+1+1+1]? =w8.heap[wr.heap.size+1+1+1]?:=fun o=>fD _ _ _ (by omega)
             have c8:∀ o j,(w8.alloc o).cell? ⟨wr.heap.size+1+1+1,j,none⟩=_:=fun o j=>fm _ _ j _ 50 (0,0) ((hx9 o).trans HR8.out)
             have y8:∀ o j,(w8.alloc o).frozen? ⟨wr.heap.size+1+1+1,j,none⟩=false:=fun o j=>by simp [fG,(hx9 o).trans HR8.out]
             have n1:=hx8.1
             have n2:=hx8.2.1
             have HL8:=h_ (lit1 w8 cW wr.heap.size (by omega))
             have HN8:=h_ (show(fM (some ⟨w8.heap.size,0,none⟩) 1 1).ownBlock≠some (wr.heap.size+1+1+1) from by simp [fN];omega)
             have HX9:=h_ (fun o=>(hx9 o).trans HR8.out)
             have HBA:=h_ (fun o=>HB8.out.alloc (gj (by omega)) o)
             clear hx8 hx9 hb8
             go_wp2_with fail
             go_meet
             exact zbW.box (⟨tid,tin,tout,treg,tkind,tsp,txa,txc,txr⟩:Ev) [cW] HH.out (Ev.keeps _ _ _ (HBA.out _) HLT2.out.1) (fun b=>Ev.uses_lt HLT2.out.1) HLT2.out.2 (HX9.out _) HL8.out HN8.out (HBA.out _)
           | true =>
             have ho:o=none:=by
              have h1:o=(if zcP (⟨pid,pin,pout,preg,pkind,psp,pxa,pxc,pxr⟩:Ev).c (⟨tid,tin,tout,treg,tkind,tsp,txa,txc,txr⟩:Ev).c=true then none else some ((⟨tid,tin,tout,treg,tkind,tsp,txa,txc,txr⟩:Ev).c,[cW])):=HO.out
              rw [←HE2.out] at h1
              simpa using h1
             have HB8:=h_ hx8.2.2.2.2.2
             clear hx8
             have HE:=h_ (HNONE.out ho w8 HB8.out)
             clear ho
             go_wp2_with fail
             go_roundw
             case rel=>exact⟨k+1,by omega,by go_num,HE.out⟩
             case measure=>simp [intOf];omega
         | false =>
           have ho:o=none:=HO.out
           have HE:=h_ (HNONE.out ho W7 HB7.out)
           clear ho
           go_wp2_with fail
           go_roundw
           case rel=>exact⟨k+1,by omega,by go_num,HE.out⟩
           case measure=>simp [intOf];omega
    case rest =>
     obtain⟨u,fs,ho,hul,huf,hrow,hown,hne,hbx⟩:=hcut
     have HS1:=h_ (HSOME.out u.c fs ho)
     have hfl:fs.length≤5:=zfi (HO.out▸ho)
     obtain⟨fa,fcp,rfl⟩:=dS hown
     have hsx:wr.heap.size+4≤wc.heap.size:=by have:=(gl.1 hrow).1;omega
     have HCLN:=h_ (ej u wc hul (fun r hr=>(huf.2.2.2.2.2.2.2.1 r hr).2.1) huf.2.2.2.2.2.2.2.2)
     have HUF:=h_ huf
     have HOWN:=h_ hown
     have HNE:=h_ hne
     have HBX:=h_ hbx
     obtain⟨uc,huc⟩:∃ uc,uc=u.c:=⟨_,rfl⟩
     rw [←huc] at HS1 HCLN
     have HUC:=h_ huc
     obtain⟨uid,uin,uout,ureg,ukind,usp,uxa,uxc,uxr⟩:=u
     simp only [Ev.enc] at HCLN hrow
     have b0:∀ j,wc.cell? ⟨wr.heap.size+1+1+1,j,none⟩=_:=fun j=>fm _ _ j _ 50 (0,0) hrow
     have HROWC:=h_ hrow
     clear ho hul huf hrow hown hne hbx huc HNONE HO HSOME HBOTH HSA1 HSA2 HE1 HE2 HFB HX8 c0 c1 c2 z3 d3 HRW HB7 HLP HLS HLT2
     go_wp2_with fail
     refine HCLN.out.mono ?_
     rintro e w9 ⟨y,rfl,hyc,hyl,hyu,hb9⟩
     have hrow9:=(hb9.block (wr.heap.size+1+1+1) (by omega)).trans HROWC.out
     have hs9:=hb9.size
     have n9:∀ j,w9.cell? ⟨wr.heap.size+1+1+1,j,none⟩=_:=fun j=>fm _ _ j _ 50 (0,0) hrow9
     have f9:∀ j,w9.frozen? ⟨wr.heap.size+1+1+1,j,none⟩=false:=fun j=>by simp [fG,hrow9]
     have HYF:=h_ (show y.fits from(Ev.fits_c y).1 (by rw [hyc,HUC.out];exact(Ev.fits_c _).2 HUF.out))
     have HYC:=h_ hyc
     have HYL:=h_ hyl
     have HYU:=h_ hyu
     have HSEP:=h_ (show ∀ b,y.uses b→(fM fa fs.length fcp).ownBlock≠some b from fun b hb e=>by have h1:=(HOWN.out.lt b e).2;have h2:=hyu b hb;omega)
     have HB9:=h_ (HBX.out.trans (hb9.mono (by omega)))
     have HO9:=h_ (aq HOWN.out hb9)
     have HR9:=h_ hrow9
     clear hyc hyl hyu hb9 hrow9 b0 HCLN
     obtain⟨yid,yin,yout,yreg,ykind,ysp,yxa,yxc,yxr⟩:=y
     simp only [Ev.enc]
     go_upto_region 20 with fail
     have hk9:∀ b,b≠wr.heap.size+1+1+1→(((((((w9.setCell ⟨wr.heap.size+1+1+1,0,none⟩ (.int .i64 yid)).setCell ⟨wr.heap.size+1+1+1,1,none⟩ (.int .i64 yin)).setCell ⟨wr.heap.size+1+1+1,2,none⟩ (.int .i64 yout)).setCell ⟨wr.heap.size+1+1+1,3,none⟩ (.string yreg)).setCell ⟨wr.heap.size+1+1+1,4,none⟩ (.int .u8 ykind)).setCell ⟨wr.heap.size+1+1+1,5,none⟩ (.string ysp)).setCell ⟨wr.heap.size+1+1+1,6,none⟩ (.slice yxa yxr.length yxc)).heap[b]? =w9.heap[b]?:=fun b h=>by
      rw [fC _ _ _ _ h,fC _ _ _ _ h,fC _ _ _ _ h,fC _ _ _ _ h,fC _ _ _ _ h,fC _ _ _ _ h,fC _ _ _ _ h]
     have hr10:(((((((w9.setCell ⟨wr.heap.size+1+1+1,0,none⟩ (.int .i64 yid)).setCell ⟨wr.heap.size+1+1+1,1,none⟩ (.int .i64 yin)).setCell ⟨wr.heap.size+1+1+1,2,none⟩ (.int .i64 yout)).setCell ⟨wr.heap.size+1+1+1,3,none⟩ (.string yreg)).setCell ⟨wr.heap.size+1+1+1,4,none⟩ (.int .u8 ykind)).setCell ⟨wr.heap.size+1+1+1,5,none⟩ (.string ysp)).setCell ⟨wr.heap.size+1+1+1,6,none⟩ (.slice yxa yxr.length yxc)).heap[wr.heap.size+1+1+1]? =some (.cells #[fL .i64 yid,.int .i64 yin,.int .i64 yout,.string yreg,.int .u8 ykind,.string ysp,.slice yxa yxr.length yxc] 50 (0,0)):=zjW HR9.out
     have hb10:fB wr.heap.size wr (((((((w9.setCell ⟨wr.heap.size+1+1+1,0,none⟩ (.int .i64 yid)).setCell ⟨wr.heap.size+1+1+1,1,none⟩ (.int .i64 yin)).setCell ⟨wr.heap.size+1+1+1,2,none⟩ (.int .i64 yout)).setCell ⟨wr.heap.size+1+1+1,3,none⟩ (.string yreg)).setCell ⟨wr.heap.size+1+1+1,4,none⟩ (.int .u8 ykind)).setCell ⟨wr.heap.size+1+1+1,5,none⟩ (.string ysp)).setCell ⟨wr.heap.size+1+1+1,6,none⟩ (.slice yxa yxr.length yxc)):=by
      repeat refine fF ?_ (by simp only;omega) _
      exact HB9.out
     have hs10:(((((((w9.setCell ⟨wr.heap.size+1+1+1,0,none⟩ (.int .i64 yid)).setCell ⟨wr.heap.size+1+1+1,1,none⟩ (.int .i64 yin)).setCell ⟨wr.heap.size+1+1+1,2,none⟩ (.int .i64 yout)).setCell ⟨wr.heap.size+1+1+1,3,none⟩ (.string yreg)).setCell ⟨wr.heap.size+1+1+1,4,none⟩ (.int .u8 ykind)).setCell ⟨wr.heap.size+1+1+1,5,none⟩ (.string ysp)).setCell ⟨wr.heap.size+1+1+1,6,none⟩ (.slice yxa yxr.length yxc)).heap.size=w9.heap.size:=by simp
     generalize (((((((w9.setCell ⟨wr.heap.size+1+1+1,0,none⟩ (.int .i64 yid)).setCell ⟨wr.heap.size+1+1+1,1,none⟩ (.int .i64 yin)).setCell ⟨wr.heap.size+1+1+1,2,none⟩ (.int .i64 yout)).setCell ⟨wr.heap.size+1+1+1,3,none⟩ (.string yreg)).setCell ⟨wr.heap.size+1+1+1,4,none⟩ (.int .u8 ykind)).setCell ⟨wr.heap.size+1+1+1,5,none⟩ (.string ysp)).setCell ⟨wr.heap.size+1+1+1,6,none⟩ (.slice yxa yxr.length yxc))=W10 at *
     have HYL10:=h_ (show(⟨yid,yin,yout,yreg,ykind,ysp,yxa,yxc,yxr⟩:Ev).lies W10 from Ev.frame HYL.out (by omega) (fun b hb=>hk9 b (by have:=HYU.out b hb;omega)))
     have HO10:=h_ (ah HO9.out (fun b hb=>hk9 b (fun e=>HNE.out (e▸hb))))
     have HYU10:=h_ (fun b (hb:(⟨yid,yin,yout,yreg,ykind,ysp,yxa,yxc,yxr⟩:Ev).uses b)=>(show wr.heap.size+4≤b by have:=HYU.out b hb;omega))
     have HB10:=h_ hb10
     have HR10:=h_ hr10
     have HAT10:=h_ (HAT.out.later hb10)
     obtain⟨ra,rcc,hrv,hSR⟩:=aj (k:=7) (enc:=Reg.enc) (Ok:=Flat) (fun _=>rfl) HAT10.out.rG (fun _ _=>trivial)
     have HCK:=h_ (fun(w':ft) (h:fB W10.heap.size W10 w')=>zaZ (⟨yid,yin,yout,yreg,ykind,ysp,yxa,yxc,yxr⟩:Ev) ra rcc m1.rG w' (HENV.out w' (HB10.out.trans (h.mono hb10.size))) (Ev.keeps _ _ _ h HYL10.out) HYF.out (Regs.later hSR h) hregs.out.1 (by have:=hregs.out.2;omega))
     have HEC:=h_ (zkp (⟨yid,yin,yout,yreg,ykind,ysp,yxa,yxc,yxr⟩:Ev) m1.rG)
     generalize zbv (⟨yid,yin,yout,yreg,ykind,ysp,yxa,yxc,yxr⟩:Ev) m1.rG=E at *
     simp only [Ev.enc] at HCK
     have HT10:=h_ (fun(w2 w3:ft) (h:fB W10.heap.size W10 w2) (h3:fB w2.heap.size w2 w3)=>(h.trans (h3.mono h.size):fB W10.heap.size W10 w3))
     have hbd:fB W10.heap.size W10 W10.drew:=(fE _ _).drew
     have hg10:=HAT10.out.glt
     have k3:∀ w',fB W10.heap.size W10 w'→∀ j,w'.cell? ⟨wr.heap.size+1+1+1,j,none⟩=_:=fun w' h j=>fm _ _ j _ 50 (0,0) ((h.block _ (by omega)).trans HR10.out)
     have k5:∀ w',fB W10.heap.size W10 w'→w'.cell? ⟨g,5,none⟩=some (.slice ra m1.rG.length rcc):=fun w' h=>(fm _ _ 5 m1.arr 142 (0,0) ((h.block _ hg10).trans HAT10.out.cells)).trans (by show some m1.rv=_;rw [hrv])
     obtain⟨Bt,hBt⟩:∃ Bt,Bt=(E != 0):=⟨_,rfl⟩
     have HBT:=h_ hBt
     have HS10:=h_ hs10
     have hle10:wr.heap.size+4≤W10.heap.size:=by omega
     clear hk9 hr10 hb10 n9 f9 hSR hrv HR9 HO9 HYL HYU hs10
     go_cut [106] (fun s wx=>s=.bool Bt∧fB W10.heap.size W10 wx)
     case first =>
      go_region_held3 (fun w'=>fB W10.heap.size W10 w') (repeat (first|with_reducible assumption|with_reducible exact hbd)) (first
       | (go_at_call 87;(with_reducible refine(HCK.out _ ?_).mono ?_);(first|with_reducible assumption|with_reducible exact hbd);rintro e w11 ⟨rfl,hb11⟩;have hc11:=HT10.out _ _ (by assumption) hb11;clear hb11))
      all_goals
       rw [←hBt]
       go_wp2_with fail
       go_meet
       exact⟨rfl,hc11⟩
     case rest =>
      obtain⟨rfl,hbc⟩:=hcut
      have hrowc:=(hbc.block (wr.heap.size+1+1+1) (by omega)).trans HR10.out
      have hsc:=hbc.size
      have HRC:=h_ hrowc
      have HLC:=h_ (Ev.keeps _ _ _ hbc HYL10.out)
      have HOC:=h_ (aq HO10.out hbc)
      have HBC:=h_ (HB10.out.trans (hbc.mono (by omega)))
      have kc:∀ j,wc.cell? ⟨wr.heap.size+1+1+1,j,none⟩=_:=fun j=>fm _ _ j _ 50 (0,0) hrowc
      have fcz:∀ j,wc.frozen? ⟨wr.heap.size+1+1+1,j,none⟩=false:=fun j=>by simp [fG,hrowc]
      clear hbc hrowc k3 k5 hbd HCK HT10 hBt
      go_upto_if 106 with fail
      go_cut [17] (fun s17 wx=>zj1 (dv m.rG (uc,fs)) wr s17 wx)
      case first =>
       by_cases h0:E=0
       · obtain rfl:Bt=false:=by have:=HBT.out;rw [this,h0];rfl
         have HP:=h_ (show dv m.rG (uc,fs)=((⟨yid,yin,yout,yreg,ykind,ysp,yxa,yxc,yxr⟩:Ev).c,fs) from by rw [←HYC.out];exact zju (by rw [←HMR.out,←HEC.out];exact h0))
         clear HBT h0
         go_wp2_with fail
         go_meet
         exact⟨(⟨yid,yin,yout,yreg,ykind,ysp,yxa,yxc,yxr⟩:Ev),fs,HP.out,HLC.out,HYF.out,fun b hb=>by have:=HYU10.out b hb;omega,HRC.out,HOC.out,HNE.out,HBC.out⟩
       · obtain rfl:Bt=true:=by have:=HBT.out;rw [this];simpa using h0
         have HP:=h_ (show dv m.rG (uc,fs)=((⟨yid,yin,yout,ak,ykind,ysp,yxa,yxc,yxr⟩:Ev).c,if eA az fs=true then fs else fs++[az]) from by rw [←HYC.out];exact ziw (y:=(⟨yid,yin,yout,yreg,ykind,ysp,yxa,yxc,yxr⟩:Ev)) (by rw [←HMR.out,←HEC.out];exact h0))
         have HYRF:=h_ (show(⟨yid,yin,yout,ak,ykind,ysp,yxa,yxc,yxr⟩:Ev).fits from⟨HYF.out.1,HYF.out.2.1,HYF.out.2.2.1,(show ak.size≤4000000 by decide),HYF.out.2.2.2.2⟩)
         have hks:∀ b,b≠wr.heap.size+1+1+1→(wc.setCell ⟨wr.heap.size+1+1+1,3,none⟩ (.string ⟨#[]⟩)).heap[b]? =wc.heap[b]?:=fun b h=>fC _ _ _ _ h
         have hrs:(wc.setCell ⟨wr.heap.size+1+1+1,3,none⟩ (.string ⟨#[]⟩)).heap[wr.heap.size+1+1+1]? =some (.cells (⟨yid,yin,yout,ak,ykind,ysp,yxa,yxc,yxr⟩:Ev).enc.toArray 50 (0,0)):=by
          rw [fp _ _ _ _ _ _ HRC.out,put3]
          rfl
         have hbs:fB wr.heap.size wr (wc.setCell ⟨wr.heap.size+1+1+1,3,none⟩ (.string ⟨#[]⟩)):=fF HBC.out (by simp only;omega) _
         have hss:(wc.setCell ⟨wr.heap.size+1+1+1,3,none⟩ (.string ⟨#[]⟩)).heap.size=wc.heap.size:=by simp
         have HOS:=h_ (ah HOC.out (fun b hb=>hks b (fun e=>HNE.out (e▸hb))))
         have HLS2:=h_ (show(⟨yid,yin,yout,ak,ykind,ysp,yxa,yxc,yxr⟩:Ev).lies (wc.setCell ⟨wr.heap.size+1+1+1,3,none⟩ (.string ⟨#[]⟩)) from Ev.frame (x:=(⟨yid,yin,yout,ak,ykind,ysp,yxa,yxc,yxr⟩:Ev)) HLC.out (by omega) (fun b hb=>hks b (by have:=HYU10.out b hb;omega)))
         have HRS:=h_ hrs
         have HBS:=h_ hbs
         have HSS:=h_ hss
         have HCT:=h_ (zdu fa fcp fs az (wc.setCell ⟨wr.heap.size+1+1+1,3,none⟩ (.string ⟨#[]⟩)) (zji HOS.out) (by omega))
         have hne3:wr.heap.size+4≤wc.heap.size:=by omega
         simp only [az] at HCT
         clear HBT hks hrs hbs hss h0
         go_wp2_with fail
         refine HCT.out.mono ?_
         rintro e w12 ⟨rfl,hb12⟩
         have hr12:=(hb12.block (wr.heap.size+1+1+1) (by rw [HSS.out];omega)).trans HRS.out
         have HR12:=h_ hr12
         have HL12:=h_ (Ev.keeps _ _ _ hb12 HLS2.out)
         have HO12:=h_ (aq HOS.out hb12)
         have HB12:=h_ (HBS.out.trans (hb12.mono (by rw [HSS.out];omega)))
         have hs12:=HB12.out.size
         clear hb12 hr12 HCT HOS HLS2 HRS kc fcz
         have hHH:eA az fs=eA ⟨#[82,69,71,73,79,78]⟩ fs:=rfl
         rw [hHH] at HP
         generalize eA ⟨#[82,69,71,73,79,78]⟩ fs=H at *
         cases H with
         | true =>
           go_wp2_with fail
           go_meet
           exact⟨(⟨yid,yin,yout,ak,ykind,ysp,yxa,yxc,yxr⟩:Ev),fs,HP.out,HL12.out,HYRF.out,fun b hb=>by have:=HYU10.out b hb;omega,HR12.out,HO12.out,HNE.out,HB12.out⟩
         | false =>
           go_wp2_with (at_builtin;refine aA _ _ rfl (.tmp 111) (.tmp 112) 55 rfl wr.heap.size 9 j0 _ 1 16 Tryz.underlying55 JI.out J0.out J1.out J2.out rfl (by decide) _ _ _ rfl HO12.out _ rfl rfl rfl ?h1 ?h63 ?hb ?hbase ?_)
           case h1=>first|rfl|(intro u hu;simp at hu;subst hu;rfl)
           case h63=>unfold maxLen;omega
           case hb=>omega
           case hbase=>exact hs12
           intro v' w13 hown13 hg13 hat13
           have hS3:wr.heap.size+1+1+1<w12.heap.size:=(gl.1 HR12.out).1
           have hk13:∀ b,b<w12.heap.size→(fM fa fs.length fcp).ownBlock≠some b→w13.heap[b]? =w12.heap[b]?:=fun b h1 h2=>(hg13.block b (by simp;omega) (fun e=>h2 e.symm)).trans (fD _ _ _ h1)
           have HE:=h_ (show zj1 (dv m.rG (uc,fs)) wr v' w13 from⟨(⟨yid,yin,yout,ak,ykind,ysp,yxa,yxc,yxr⟩:Ev),fs++[az],HP.out,Ev.frame HL12.out (gh (by simp) hg13.size) (fun b hb=>hk13 b (Ev.uses_lt HL12.out hb) (HSEP.out b hb)),HYRF.out,fun b hb=>by have:=HYU10.out b hb;omega,(hk13 _ hS3 HNE.out).trans HR12.out,by simpa [az] using hown13,by
            rcases hat13 with h|h
            · rw [h];exact HNE.out
            · rw [h];simp;omega,(HB12.out.alloc hs12 _).grown hg13 (gh hs12 (by simp)) (fun j hj=>(HO12.out.lt j hj).1)⟩)
           clear hown13 hg13 hat13 hk13
           go_wp2_with fail
           go_meet
           exact HE.out
      case rest =>
       obtain⟨z,fz,hp,hzl',hzf,hzu,hrow,hown,hne,hb6⟩:=hcut
       have HEND:=h_ (HS1.out z (by rw [hp]) hzf)
       rw [hp] at HEND
       have hfz:fz.length≤6:=by
        have h1:=zfh m.rG (uc,fs)
        rw [hp] at h1
        simp only at h1
        omega
       obtain⟨va6,vc6,rfl⟩:=dS hown
       have HZL:=h_ hzl'
       have HZU:=h_ hzu
       have HOW:=h_ hown
       have HB6:=h_ hb6
       have HA6:=h_ (HAT.out.later hb6)
       have hs6:=hb6.size
       have h36:wr.heap.size+1+1+1<wc.heap.size:=(gl.1 hrow).1
       have HROW6:=h_ hrow
       clear hp hzl' hzf hzu hown hne hb6 HBT HS1 HRC HLC HOC HBC HYF HYC HYL10 HO10 HYU10 HB10 HR10 HAT10 HEC HS10 HUF HUC HNE HSEP kc fcz
       obtain⟨zid,zin,zout,zreg,zkind,zsp,zxa,zxc,zxr⟩:=z
       simp only [Ev.enc] at HROW6
       obtain⟨ka,kc,hrv⟩:=HA6.out.row6.slice
       have hg6:=HA6.out.glt
       have c5:wc.cell? ⟨g,6,none⟩=some (.slice ka m1.evs.length kc):=by
        rw [fm _ _ 6 m1.arr 142 (0,0) HA6.out.cells,←hrv];rfl
       have c5':∀ o,(wc.alloc o).cell? ⟨g,6,none⟩=some (.slice ka m1.evs.length kc):=fun o=>by
        rw [fH _ _ _ (by simpa using hg6)];exact c5
       have db:∀ j,wc.cell? ⟨wr.heap.size+1+1+1,j,none⟩=_:=fun j=>fm _ _ j _ 50 (0,0) HROW6.out
       have db':∀ o j,(wc.alloc o).cell? ⟨wr.heap.size+1+1+1,j,none⟩=_:=fun o j=>(fH _ _ _ (by simpa using h36)).trans (db j)
       have mixed:Tryz.prog.follows Departure.mixedOrders=true:=by kernel_rfl
       have HO2:=h_ (fun(o:Obj)=>(show(wc.alloc o).drew.ownsRow B 50 7 (.slice ka m1.evs.length kc) m1.evs.length (m1.evs.flatMap Ev.enc) from hrv▸HA6.out.evs.alloc o))
       have HN:=h_ (zen wc [fL .i64 zid,.int .i64 zin,.int .i64 zout,.string zreg,.int .u8 zkind,.string zsp,.slice zxa zxr.length zxc] 50)
       have h63:=h_ (show m1.evs.length+1≤maxLen by unfold maxLen;omega)
       have HBS:=h_ (fun(o:Obj)=>(show B≤(wc.alloc o).drew.heap.size from by show B≤(wc.alloc o).heap.size;simp;omega))
       have H5:=h_ (show m1.arr[6]? =some (.slice ka m1.evs.length kc) from hrv▸rfl)
       have HRW:=h_ (show dM 142 6 50 7 B g m1.arr (.slice ka m1.evs.length kc) m1.evs.length (m1.evs.flatMap Ev.enc) wc from hrv▸HA6.out.row6)
       have HAF:=h_ (fun(o:Obj) (v':fw) (w2:ft)=>eO (v':=v') (w2:=w2) (m:=m1.evs.length+1) (ys:=m1.evs.flatMap Ev.enc++[fL .i64 zid,.int .i64 zin,.int .i64 zout,.string zreg,.int .u8 zkind,.string zsp,.slice zxa zxr.length zxc]) HRW.out (zeo wc o))
       have one7:=h_ (Ev.one (⟨zid,zin,zout,zreg,zkind,zsp,zxa,zxc,zxr⟩:Ev))
       simp only [Ev.enc] at one7
       have HF:=h_ (fun(v':fw) (w2:ft) (ho:w2.ownsRow B 50 7 v' (m1.evs.length+1) (m1.evs.flatMap Ev.enc++[fL .i64 zid,.int .i64 zin,.int .i64 zout,.string zreg,.int .u8 zkind,.string zsp,.slice zxa zxr.length zxc])) hg' hap hk hf=>(show(∃ ev',({ m1 with ev:=ev',evs:=m1.evs++[(⟨zid,zin,zout,zreg,zkind,zsp,zxa,zxc,zxr⟩:Ev)] }:Mg).at_ B g (w2.setCell ⟨g,6,none⟩ v')∧Mg.step g m1 { m1 with ev:=ev',evs:=m1.evs++[(⟨zid,zin,zout,zreg,zkind,zsp,zxa,zxc,zxr⟩:Ev)] } wc (w2.setCell ⟨g,6,none⟩ v'))∧Kept (mOwn g m1.ev) wc (w2.setCell ⟨g,6,none⟩ v') from by
        have hrp:cQ 142 6 50 7 B g m1.arr m1.ev (m1.evs++[(⟨zid,zin,zout,zreg,zkind,zsp,zxa,zxc,zxr⟩:Ev)]).length ((m1.evs++[(⟨zid,zin,zout,zreg,zkind,zsp,zxa,zxc,zxr⟩:Ev)]).flatMap Ev.enc) wc (w2.setCell ⟨g,6,none⟩ v'):=hrv▸eN (m:=(m1.evs++[(⟨zid,zin,zout,zreg,zkind,zsp,zxa,zxc,zxr⟩:Ev)]).length) (ys:=(m1.evs++[(⟨zid,zin,zout,zreg,zkind,zsp,zxa,zxc,zxr⟩:Ev)]).flatMap Ev.enc) HRW.out (by simpa [Ev.enc] using ho) hg' hap hk hf
        refine⟨HA6.out.evt HAT.out HB6.out HZL.out HZU.out hrp,?_⟩
        obtain⟨_,_,q,_⟩:=hrp
        exact q))
       clear HROW6
       go_upto_region 24 with fail
       go_region_law_o (refine zaG rfl (.tmp 119) (.tmp 121) 24 rfl B 50 i0 _ 7 88 Tryz.underlying24 II.out I0.out I1.out I2.out rfl (by decide) (.slice ka m1.evs.length kc) m1.evs.length (m1.evs.flatMap Ev.enc) (by rfl) (HO2.out _) ⟨wc.heap.size,0,none⟩ 1 1 [fL .i64 zid,.int .i64 zin,.int .i64 zout,.string zreg,.int .u8 zkind,.string zsp,.slice zxa zxr.length zxc] (by rfl) rfl HN.out one7.out h63.out (by omega) (HBS.out _) ?_;intro v' w2 hown2 hgrow2 hat2;obtain⟨hv',hgc,hap,hkp,hfr⟩:=HAF.out _ _ _ hown2 hgrow2 hat2;obtain⟨va,vc,rfl⟩:=hv';have c5n:w2.cell? ⟨g,6,none⟩=some (.slice ka m1.evs.length kc):=(fm _ _ 6 m1.arr 142 (0,0) hgc).trans H5.out;have z5n:w2.frozen? ⟨g,6,none⟩=false:=(by simp [fG,hgc]);have HX2:=h_ hown2;have HGC:=h_ hgc;have HAP:=h_ hap;have HKP:=h_ hkp;have HFR:=h_ hfr;clear hown2 hgrow2 hat2 hgc hap hkp hfr)
       all_goals
        obtain⟨⟨ev',q1,q2⟩,q3⟩:=HF.out _ _ HX2.out HGC.out HAP.out HKP.out HFR.out
        have hgr:g<wr.heap.size:=HAT.out.glt
        have hog:=HOW.out
        have HOF:=h_ (ah HOW.out (fun b hb=>q3.block b (HOW.out.lt b hb).2 (fun hm=>by
         have h1:=(HOW.out.lt b hb).1
         rcases hm with rfl|hm
         · omega
         · have:=(HAT.out.evs.lt b hm).2
           omega)))
        have HFB:=h_ (fun b (hb:(fM va6 fz.length vc6).ownBlock=some b) (hm:Mg.mine g { m1 with ev:=ev',evs:=m1.evs++[(⟨zid,zin,zout,zreg,zkind,zsp,zxa,zxc,zxr⟩:Ev)] } b)=>(show False from by
         have h1:=HOW.out.lt b hb
         rcases q2.2 b hm with h2|h2
         · have:=HAT.out.mine_lt h2
           omega
         · omega))
        obtain⟨m2,hm2⟩:∃ m2:Mg,m2={ m1 with ev:=ev',evs:=m1.evs++[(⟨zid,zin,zout,zreg,zkind,zsp,zxa,zxc,zxr⟩:Ev)] }:=⟨_,rfl⟩
        have HEND2:=h_ (show ∀ (kv':fw) (w':ft),({ m2 with kv:=kv',cls:=m2.cls++ei id fz }:Mg).at_ B g w'→Mg.step g m1 { m2 with kv:=kv',cls:=m2.cls++ei id fz } wr w'→zhZ (xs.map Ev.c) (ys.map Ev.c) (zs.map Ev.c) m B g ids w5 (k+1) w' from fun kv' w' p1 p2=>by
         subst hm2
         exact HEND.out ev' kv' w' p1 p2)
        rw [←hm2] at q1 q2 HFB
        have hm2c:m2.cls.length≤30000:=by rw [hm2];exact hm1c
        have Q2:=h_ ((Mg.step.of_below HB6.out).trans q2)
        generalize w2.setCell ⟨g,6,none⟩ (.slice va (m1.evs.length+1) vc)=W13 at *
        have Q1:=h_ q1
        have hB13:B≤W13.heap.size:=by have:=q2.1.size;omega
        have HST0:=h_ (show ∃ kv',({ m2 with kv:=kv',cls:=m2.cls++ei id (fz.take 0) }:Mg).at_ B g W13∧Mg.step g m2 { m2 with kv:=kv',cls:=m2.cls++ei id (fz.take 0) } W13 W13 from by
         have e0:ei id (fz.take 0)=[]:=rfl
         refine⟨m2.kv,?_,?_⟩
         · rw [e0,fP];exact q1
         · rw [e0,fP];exact Mg.step.refl _ _ _)
        clear hog q1 q2 q3 hm2 HF HEND HX2 HGC HAP HKP HFR c5n z5n c5 c5' db db' HO2 HN HBS H5 HRW HAF one7 hrv HAT
        go_wp2_with fail
        go_loopw [128] (fun i wq=>∃ j:Nat,j≤fz.length∧i=.int .i64 j∧∃ kv',({ m2 with kv:=kv',cls:=m2.cls++ei id (fz.take j) }:Mg).at_ B g wq∧Mg.step g m2 { m2 with kv:=kv',cls:=m2.cls++ei id (fz.take j) } W13 wq) (fun i _=>fz.length-(intOf i).toNat)
        case atStart=>exact⟨0,by omega,rfl,HST0.out⟩
        case round =>
         clear HST0
         obtain⟨j,hj,rfl,kv',hat,hst⟩:=hrel
         by_cases hjl:j<fz.length
         · obtain⟨f,hf⟩:∃ f,fz[j]? =some f:=⟨_,fT hjl⟩
           obtain⟨fb,fc,hfb⟩:∃ q c,(fM va6 fz.length vc6)=.slice (some ⟨q,0,none⟩) fz.length c:=zat HOF.out (by omega)
           obtain⟨rfl,_,rfl⟩:=gd hfb
           have hcf:wr.cell? ⟨fb,j,none⟩=some (.string f):=by
            rw [hst.1.cell (HOF.out.lt fb rfl).2 (fun hm=>HFB.out fb rfl hm),HOF.out.cellAt j (by omega)]
            simp [hf]
           have hcap:fz.length≤vc6:=by
            rcases HOF.out.2 with⟨h0,_⟩|⟨g',cap,cur,h0,_,_,hnc,_⟩
            · simp at h0
            · simp only [gf] at h0
              obtain⟨_,_,rfl⟩:=h0
              exact hnc
           have hcl2:(ei id (fz.take j)).length≤6:=by
            unfold ei
            rw [fR,fZ]
            omega
           have hBq:B≤wr.heap.size:=gh hB13 hst.1.size
           have HCL:=h_ (show Calls Tryz.prog 130 #[.pointer (some ⟨g,0,none⟩),.bool true,.agg #[.int .u8 3,.int .i64 id,.string ⟨#[]⟩,.string f]] wr (zbX B g _ _ _ wr) from ek B g _ _ _ true ⟨3,id,ak,f⟩ wr hat.row8 hBq (by simp only [fX];omega))
           have HAT3:=h_ hat
           have HST3:=h_ hst
           have HSN:=h_ (zhN (id:=id) hf)
           clear hat hst hf
           go_wp2_with fail
           refine HCL.out.mono ?_
           rintro e wA ⟨rfl,hp⟩
           obtain⟨kv2,p1,p2⟩:=HAT3.out.clash hp
           have HE:=h_ (show ∃ kv',({ m2 with kv:=kv',cls:=m2.cls++ei id (fz.take (j+1)) }:Mg).at_ B g wA∧Mg.step g m2 { m2 with kv:=kv',cls:=m2.cls++ei id (fz.take (j+1)) } W13 wA from by
            rw [HSN.out,←fQ]
            exact⟨kv2,p1,HST3.out.trans p2⟩)
           clear hp p1 p2 HCL
           go_wp2_with fail
           go_roundw
           case rel=>exact⟨j+1,by omega,by go_num,HE.out⟩
           case measure=>simp [intOf];omega
         · obtain rfl:j=fz.length:=by omega
           rw [fY] at hat hst
           have HE:=h_ (HEND2.out kv' wr hat (Q2.out.trans hst))
           clear hat hst
           go_wp2_with fail
           go_roundw
           case rel=>exact⟨k+1,by omega,by go_num,HE.out⟩
           case measure=>simp [intOf];omega
  · obtain rfl:k=ids.length:=by omega
    obtain⟨ev,evs,kv,q1,q2,q3,q4⟩:=HQ.out _ hrel
    have hel:evs.length≤3000:=by
     have h1:=congrArg f_ q3
     have h2:=(eT m.rG (xs.map Ev.c) (ys.map Ev.c) (zs.map Ev.c) ids).1
     rw [fR] at h1
     omega
    obtain⟨ea,ec,hev',hS⟩:=aj (k:=7) (enc:=Ev.enc) (Ok:=Ev.lies) (fun _=>rfl) q1.evs q1.each
    simp only at hev'
    subst hev'
    have HSO:=h_ (zeE ea ec evs wr hS q4 (by omega))
    have g6:wr.cell? ⟨g,6,none⟩=some (.slice ea evs.length ec):=fm _ _ 6 _ 142 (0,0) q1.cells
    have hBr:B≤wr.heap.size:=by have:=q2.1.size;omega
    have Q1:=h_ q1
    have Q2:=h_ q2
    have Q4:=h_ q4
    have hpw:=HASC.out
    rw [←q3] at hpw
    have HPW:=h_ hpw
    have Q3:=h_ q3
    clear q1 q2 q3 q4 hS hpw hrel
    go_wp2_with fail
    refine HSO.out.mono ?_
    rintro e w9 ⟨v,ys',rfl,hgr,hperm,hsrt⟩
    obtain⟨sa,sc,rfl⟩:=dS hgr.1
    have h9:=Q1.out.later hgr.2.2
    obtain⟨f1,f2⟩:=h9.sorted Q1.out hgr.2.2 hgr hBr
    have HE:=h_ (HFIN.out _ _ f1 (Q2.out.trans f2) ⟨_,_,_,rfl⟩ ((zh5 hperm hsrt HPW.out).trans (by rw [Q3.out])) (fun y hy=>by
     have h1:y.c∈evs.map Ev.c:=hperm.subset (fU.2 ⟨y,hy,rfl⟩)
     obtain⟨x,hx,hxy⟩:=fU.1 h1
     exact(Ev.fits_c y).1 (hxy▸(Ev.fits_c x).2 (Q4.out x hx))))
    have g9:w9.cell? ⟨g,6,none⟩=some (.slice ea evs.length ec):=fm _ _ 6 _ 142 (0,0) h9.cells
    have z9:w9.frozen? ⟨g,6,none⟩=false:=by simp [fG,h9.cells]
    clear hgr hperm hsrt h9 f1 f2
    go_wp2_with fail
    go_end0
    exact HE.out
end Go.Proofs.YtnlnmbcaongehaaGreatDoor
