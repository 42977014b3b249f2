/- merge.events: the events of the merged document. What MergeKeeps' two loops look at, in plain words. -/
import Derived.Test.YtnlnmbcaongehaaGreatDoorN15
set_option linter.unusedVariables false
set_option linter.unusedSimpArgs false
set_option maxRecDepth 100000
set_option maxHeartbeats 12800000
open Go.Lib renaming hid→h_
open Go renaming cell_of_row→Su,heap_setCell_same→Sv,World→Sw,heap_alloc_last→Sx,Value→Sy
open Go.RowKit renaming Below→Sz
open Go.RowKit.Below renaming heap_setCell→SA,heap_alloc→SB,refl→SC,setCell→SD
open Go.World renaming frozen?→SE,cell?_alloc_lt→SF,size_alloc→SG,ownsRow_nil→SH
open Go.Value renaming map→SI,int→SJ,slice→SK,ownBlock→SL,string→SM
open List renaming mem_singleton→SN,append_nil→SO,mem_append→SQ,append_assoc→SR,mem_flatMap→SS,length_map→SU,setIfInBounds_toArray→SV,getElem?_eq_getElem→SW,mem_map→SX,set_cons_zero→SY,set_cons_succ→SZ,length_append→S5,take_length→S6,length_take→S7,find?_cons→S8,map_cons→S9,length→S_
open Go.Value.slice renaming inj→Ta,injEq→Tb
open Nat renaming le_trans→Tc,le_of_lt→Td
open Array renaming getElem?_eq_some_iff→Te
namespace Go.Proofs.YtnlnmbcaongehaaGreatDoor
open Go.RowKit
theorem box4 (w:Sw)(xs ys zs ss:Array Sy)(T U:TypeId)(wx:Sw)(h:Sz (w.heap.size+4) ((((w.alloc (.cells xs T)).alloc (.cells ys T)).alloc (.cells zs T)).alloc (.cells ss U)) wx) :
 wx.heap[w.heap.size]? =some (.cells xs T (0,0))∧wx.heap[w.heap.size+1]? =some (.cells ys T (0,0))∧wx.heap[w.heap.size+1+1]? =some (.cells zs T (0,0))∧wx.heap[w.heap.size+1+1+1]? =some (.cells ss U (0,0)):=by
 refine⟨?_,?_,?_,?_⟩
 · rw [h.block _ (by omega),SB _ _ _ (by simp;try omega),SB _ _ _ (by simp;try omega),SB _ _ _ (by simp)]
   exact Sx w _
 · rw [h.block _ (by omega),SB _ _ _ (by simp;try omega),SB _ _ _ (by simp)]
   have:=Sx (w.alloc (.cells xs T)) (.cells ys T)
   rwa [SG] at this
 · rw [h.block _ (by omega),SB _ _ _ (by simp)]
   have:=Sx ((w.alloc (.cells xs T)).alloc (.cells ys T)) (.cells zs T)
   rwa [SG,SG] at this
 · rw [h.block _ (by omega)]
   have:=Sx (((w.alloc (.cells xs T)).alloc (.cells ys T)).alloc (.cells zs T)) (.cells ss U)
   rwa [SG,SG,SG] at this
theorem p_ (xs:List Ev)(z:Int):aj (xs.map Ev.c) z=if bm xs z=true then some ((xs.find? fun x=>x.id==z).getD aJ).c else none:=by
 rw [lS]
 unfold bm
 cases xs.find? (fun x=>x.id==z)<;>rfl
def pG (xs:List Ev)(g:Nat)(w:Sw):Prop:=∀ e∈xs,e.lies w∧e.fits∧∀ b,e.uses b→b<g
theorem pG.get {xs:List Ev} {g:Nat} {w w':Sw} (h:pG xs g w)(hb:Sz g w w')(hs:w.heap.size≤w'.heap.size)(z:Int):((xs.find? fun x=>x.id==z).getD aJ).lies w'∧((xs.find? fun x=>x.id==z).getD aJ).fits:=by
 cases hf:xs.find? (fun x=>x.id==z) with
 | none=>exact⟨iA _,mI⟩
 | some e =>
   obtain⟨h1,h2,h3⟩:=h e (List.mem_of_find?_eq_some hf)
   exact⟨Ev.frame h1 hs fun b q=>hb.block b (h3 b q),h2⟩
theorem lit1 (w:Sw)(s:ByteArray)(B:Nat)(hB:B≤w.heap.size):(w.alloc (.cells #[.string s] 9)).ownsRow B 9 1 (.slice (some ⟨w.heap.size,0,none⟩) 1 1) 1 [.string s] :=
 ⟨rfl,.inr ⟨_,_,_,rfl,hB,Sx w _,Nat.le_refl _,by decide,rfl,rfl⟩⟩
def qY (o:Option (EvC × List ByteArray))(wr:Sw)(fh:Sy)(wx:Sw):Prop :=
 ∃ (u:Ev) (fs:List ByteArray),o=some (u.c,fs)∧u.lies wx∧u.fits∧wx.heap[wr.heap.size+1+1+1]? =some (.cells u.enc.toArray 50 (0,0))∧wx.ownsRow wr.heap.size 9 1 fh fs.length (fs.map SM)∧fh.ownBlock≠some (wr.heap.size+1+1+1)∧Sz wr.heap.size wr wx
theorem put7 (v0 v1 v2 v3 v4 v5 v6 a0 a1 a2 a3 a4 a5 a6:Sy):((((((#[v0,v1,v2,v3,v4,v5,v6].setIfInBounds 0 a0).setIfInBounds 1 a1).setIfInBounds 2 a2).setIfInBounds 3 a3).setIfInBounds 4 a4).setIfInBounds 5 a5).setIfInBounds 6 a6=#[a0,a1,a2,a3,a4,a5,a6]:=by
 simp only [SV,SY,SZ]
theorem KH {w:Sw} {g:Nat} {v0 v1 v2 v3 v4 v5 v6 a0 a1 a2 a3 a4 a5 a6:Sy} (h:w.heap[g]? =some (.cells #[v0,v1,v2,v3,v4,v5,v6] 50 (0,0))) :
 (((((((w.setCell ⟨g,0,none⟩ a0).setCell ⟨g,1,none⟩ a1).setCell ⟨g,2,none⟩ a2).setCell ⟨g,3,none⟩ a3).setCell ⟨g,4,none⟩ a4).setCell ⟨g,5,none⟩ a5).setCell ⟨g,6,none⟩ a6).heap[g]? =some (.cells #[a0,a1,a2,a3,a4,a5,a6] 50 (0,0)):=by
 rw [Sv _ _ _ _ _ _ (Sv _ _ _ _ _ _ (Sv _ _ _ _ _ _ (Sv _ _ _ _ _ _ (Sv _ _ _ _ _ _ (Sv _ _ _ _ _ _ (Sv _ _ _ _ _ _ h)))))),put7]
theorem lT (x y:Ev):evEq x y=ob x.c y.c:=GH x y
theorem qY.box {o:Option (EvC × List ByteArray)} {wr wx:Sw} {fh:Sy} {v0 v1 v2 v3 v4 v5 v6:Sy} (u:Ev)(fs:List ByteArray)(ho:o=some (u.c,fs))(hl:u.lies wx)(hu:∀ b,u.uses b→b<wr.heap.size)(hf:u.fits)(hr:wx.heap[wr.heap.size+1+1+1]? =some (.cells #[v0,v1,v2,v3,v4,v5,v6] 50 (0,0)))
 (hown:wx.ownsRow wr.heap.size 9 1 fh fs.length (fs.map SM)) (hne:fh.ownBlock≠some (wr.heap.size+1+1+1)) (hb:Sz wr.heap.size wr wx) :
 qY o wr fh (((((((wx.setCell ⟨wr.heap.size+1+1+1,0,none⟩ (.int .i64 u.id)).setCell ⟨wr.heap.size+1+1+1,1,none⟩ (.int .i64 u.inn)).setCell ⟨wr.heap.size+1+1+1,2,none⟩ (.int .i64 u.out)).setCell ⟨wr.heap.size+1+1+1,3,none⟩ (.string u.region)).setCell ⟨wr.heap.size+1+1+1,4,none⟩ (.int .u8 u.kind)).setCell ⟨wr.heap.size+1+1+1,5,none⟩ (.string u.speaker)).setCell ⟨wr.heap.size+1+1+1,6,none⟩ (.slice u.at_ u.rows.length u.cap)):=by
 have key:∀ b,b≠wr.heap.size+1+1+1→(((((((wx.setCell ⟨wr.heap.size+1+1+1,0,none⟩ (.int .i64 u.id)).setCell ⟨wr.heap.size+1+1+1,1,none⟩ (.int .i64 u.inn)).setCell ⟨wr.heap.size+1+1+1,2,none⟩ (.int .i64 u.out)).setCell ⟨wr.heap.size+1+1+1,3,none⟩ (.string u.region)).setCell ⟨wr.heap.size+1+1+1,4,none⟩ (.int .u8 u.kind)).setCell ⟨wr.heap.size+1+1+1,5,none⟩ (.string u.speaker)).setCell ⟨wr.heap.size+1+1+1,6,none⟩ (.slice u.at_ u.rows.length u.cap)).heap[b]? =wx.heap[b]?:=fun b h=>by
  rw [SA _ _ _ _ h,SA _ _ _ _ h,SA _ _ _ _ h,SA _ _ _ _ h,SA _ _ _ _ h,SA _ _ _ _ h,SA _ _ _ _ h]
 refine⟨u,fs,ho,Ev.frame hl (by simp) (fun b q=>key b (by have:=hu b q;omega)),hf,KH hr,ah hown (fun b q=>key b (fun e=>hne (e▸q))),hne,?_⟩
 repeat refine SD ?_ (by simp only;omega) _
 exact hb
def K2 (p:EvC × List ByteArray)(wr:Sw)(fh:Sy)(wx:Sw):Prop :=
 ∃ (y:Ev) (fs:List ByteArray),p=(y.c,fs)∧y.lies wx∧y.fits∧(∀ b,y.uses b→wr.heap.size≤b)∧wx.heap[wr.heap.size+1+1+1]? =some (.cells y.enc.toArray 50 (0,0))∧wx.ownsRow wr.heap.size 9 1 fh fs.length (fs.map SM)∧fh.ownBlock≠some (wr.heap.size+1+1+1)∧Sz wr.heap.size wr wx
theorem MG (fs:List ByteArray):mn bf fs=fs.any fun f=>f.toList==bf.toList:=by
 unfold mn
 congr 1
 funext f
 rw [Bool.eq_iff_iff]
 simp only [beq_iff_eq]
 exact eq_comm
theorem IS {rG:List Reg} {y:Ev} {fs:List ByteArray} (h:C8 rG y.c=0):fZ rG (y.c,fs)=(y.c,fs):=by
 unfold fZ
 rw [if_pos h]
theorem FN {rG:List Reg} {y:Ev} {fs:List ByteArray} (h:C8 rG y.c≠0):fZ rG (y.c,fs)=(({ y with region:=aG }:Ev).c,if mn bf fs=true then fs else fs++[bf]):=by
 unfold fZ
 rw [if_neg h,MG]
 rfl
theorem MR (y:Ev)(rG:List Reg):pk y rG=C8 rG y.c:=vw (EvC.rep_c y.c).symm rG
theorem put3 (v0 v1 v2 v3 v4 v5 v6 a:Sy):#[v0,v1,v2,v3,v4,v5,v6].setIfInBounds 3 a=#[v0,v1,v2,a,v4,v5,v6]:=by
 simp only [SV,SY,SZ]
theorem Et {id:Int} {fs:List ByteArray} {j:Nat} {f:ByteArray} (h:fs[j]? =some f):lU id (fs.take (j+1))=lU id (fs.take j)++[⟨3,id,aG,f⟩]:=by
 unfold lU
 rw [List.take_add_one,h]
 simp
theorem Ir {w:Sw} {B:Nat} {a:Option Addr} {cap:Nat} {fs:List ByteArray} (h:w.ownsRow B 9 1 (.slice a fs.length cap) fs.length (fs.map SM)):af 1 strW Flat w a fs:=by
 rw [←Is] at h
 obtain⟨a',c',e,hS⟩:=ay (k:=1) (enc:=strW) (Ok:=Flat) (fun _=>rfl) h (fun _ _=>trivial)
 obtain⟨rfl,_,rfl⟩:=Ta e
 exact hS
def ER (xs ys zs:List EvC)(m:Mg)(B g:Nat)(ids:List Int)(w:Sw)(k:Nat)(wr:Sw):Prop :=
 ∃ ev eV kv,({ m with ev:=ev,eV:=eV,kv:=kv,cls:=m.cls++fJ m.rG xs ys zs (ids.take k) }:Mg).at_ B g wr∧Mg.step g m { m with ev:=ev,eV:=eV,kv:=kv,cls:=m.cls++fJ m.rG xs ys zs (ids.take k) } w wr∧eV.map Ev.c=jl m.rG xs ys zs (ids.take k)∧∀ e∈eV,e.fits
def Cz (xs ys zs:List EvC)(m:Mg)(B g:Nat)(w:Sw)(e:Ending)(w':Sw):Prop:=e=.returned (.tuple #[])∧∃ ev eV kv,({ m with ev:=ev,eV:=eV,kv:=kv,cls:=m.cls++fJ m.rG xs ys zs (aY xs ys zs) }:Mg).at_ B g w' ∧
 Mg.step g m { m with ev:=ev,eV:=eV,kv:=kv,cls:=m.cls++fJ m.rG xs ys zs (aY xs ys zs) } w w'∧eV.map Ev.c=fM (jl m.rG xs ys zs (aY xs ys zs))∧∀ e∈eV,e.fits
theorem tU (m:Mg)(B g x1 x2 y1 y2 z1 z2 n:Nat)(xs ys zs:List Ev)(xc yc zc:List Cm)(w:Sw)(h:m.at_ B g w)(hB:B≤w.heap.size)(hev:m.eV=[])(hcl:m.cls.length≤4000)
 (hX:bZ w x1 x2 n xs xc) (hY:bZ w y1 y2 n ys yc) (hZ:bZ w z1 z2 n zs zc) (nX:¬ m.mine g x1) (nY:¬ m.mine g y1) (nZ:¬ m.mine g z1) (lX:pG xs g w) (lY:pG ys g w) (lZ:pG zs g w)
 (hn:n≤1000) (hxl:xs.length≤1000) (hyl:ys.length≤1000) (hzl:zs.length≤1000) (hE:∀ w',Sz g w w'→Env w') (hR:∀ r∈m.rG,r.fits) (hRl:m.rG.length≤4000) :
 Calls Tryz.prog 80 #[.pointer (some ⟨g,0,none⟩),.agg #[SI (some x1),.map (some x2)],.agg #[SI (some y1),.map (some y2)],.agg #[SI (some z1),.map (some z2)]] w (Cz (xs.map Ev.c) (ys.map Ev.c) (zs.map Ev.c) m B g w):=by
 have hgl:=h.glt
 have hx1:=hX.ev.lt
 have hy1:=hY.ev.lt
 have hz1:=hZ.ev.lt
 have HV:=h_ (fun wx (q:Sz (w.heap.size+4) ((((w.alloc (.cells #[SI (some x1),.map (some x2)] 148)).alloc (.cells #[SI (some y1),.map (some y2)] 148)).alloc (.cells #[SI (some z1),.map (some z2)] 148)).alloc (.cells #[SI (some x1),.map (some y1),.map (some z1)] 145)) wx)=>box4 w #[SI (some x1),.map (some x2)] #[SI (some y1),.map (some y2)] #[SI (some z1),.map (some z2)] #[SI (some x1),.map (some y1),.map (some z1)] 148 145 wx q)
 have zX:=h_ (fun wx (q:Sz (w.heap.size+4) ((((w.alloc (.cells #[SI (some x1),.map (some x2)] 148)).alloc (.cells #[SI (some y1),.map (some y2)] 148)).alloc (.cells #[SI (some z1),.map (some z2)] 148)).alloc (.cells #[SI (some x1),.map (some y1),.map (some z1)] 145)) wx)=>(show Sz w.heap.size w wx from(bJ w _ _ _ _).trans (q.mono (by omega))))
 have hsz:((((w.alloc (.cells #[SI (some x1),.map (some x2)] 148)).alloc (.cells #[SI (some y1),.map (some y2)] 148)).alloc (.cells #[SI (some z1),.map (some z2)] 148)).alloc (.cells #[SI (some x1),.map (some y1),.map (some z1)] 145)).heap.size=w.heap.size+4:=by simp
 have xE:=h_ (show Calls Tryz.prog 136 #[.slice (some ⟨w.heap.size+1+1+1,0,none⟩) 3 3] ((((w.alloc (.cells #[SI (some x1),.map (some x2)] 148)).alloc (.cells #[SI (some y1),.map (some y2)] 148)).alloc (.cells #[SI (some z1),.map (some z2)] 148)).alloc (.cells #[SI (some x1),.map (some y1),.map (some z1)] 145)) (nv (fun j=>if j=0 then bA xs else if j=1 then bA ys else bA zs) ((((w.alloc (.cells #[SI (some x1),.map (some x2)] 148)).alloc (.cells #[SI (some y1),.map (some y2)] 148)).alloc (.cells #[SI (some z1),.map (some z2)] 148)).alloc (.cells #[SI (some x1),.map (some y1),.map (some z1)] 145))) from by
  have hr:=(HV.out _ (SC _ _)).2.2.2
  have hb:Sz w.heap.size w ((((w.alloc (.cells #[SI (some x1),.map (some x2)] 148)).alloc (.cells #[SI (some y1),.map (some y2)] 148)).alloc (.cells #[SI (some z1),.map (some z2)] 148)).alloc (.cells #[SI (some x1),.map (some y1),.map (some z1)] 145)):=bJ w _ _ _ _
  refine yZ (w.heap.size+1+1+1) (fun j=>if j=0 then x1 else if j=1 then y1 else z1) n _ _ ?_ ?_ ?_ (by simp) (fun j=>?_) (by omega)
  · rw [Su _ _ 0 _ 145 (0,0) hr];rfl
  · rw [Su _ _ 1 _ 145 (0,0) hr];rfl
  · rw [Su _ _ 2 _ 145 (0,0) hr];rfl
  · by_cases h0:j=0
    · subst h0
      exact hX.ev.below hb hx1
    · by_cases h1:j=1
      · subst h1
        exact hY.ev.below hb hy1
      · simp only [if_neg h0,if_neg h1]
        exact hZ.ev.below hb hz1)
 generalize Ph:((((w.alloc (.cells #[SI (some x1),.map (some x2)] 148)).alloc (.cells #[SI (some y1),.map (some y2)] 148)).alloc (.cells #[SI (some z1),.map (some z2)] 148)).alloc (.cells #[SI (some x1),.map (some y1),.map (some z1)] 145))=W0 at *
 have bu:=h_ hsz
 have hb0:Sz (w.heap.size+4) W0 W0:=SC _ _
 have HT:=h_ (fun(w2 w3:Sw) (q:Sz (w.heap.size+4) W0 w2) (q3:Sz w2.heap.size w2 w3)=>(q.trans (q3.mono (by have:=q.size;rw [bu.out] at this;exact this)):Sz (w.heap.size+4) W0 w3))
 have RC:=h_ Ph
 clear Ph hsz
 go_enter Tryz.func80,Tryz.ntmps80
 go_wp2_with fail
 rw [RC.out]
 refine xE.out.mono ?_
 rintro e w5 ⟨ids,vi,rfl,hasc,hmem,hoi,hb5⟩
 have xN:=HT.out _ _ hb0 hb5
 have ou:=Ov (xs:=xs) (ys:=ys) (zs:=zs) hasc _ ⟨rfl,rfl,rfl⟩ hmem
 have O1:ids.length≤3000:=by
  rw [ou]
  refine Tc (sW _ _ _) ?_
  simp
  omega
 have EO:=h_ (fun(id:Int) (hid:id∈ids)=>(show i64 id from by
  rw [ou] at hid
  refine GG ?_ ?_ ?_ hid<;>(intro e he;obtain⟨x,hx,rfl⟩:=SX.1 he)
  · exact(Ev.fits_c x).2 (lX x hx).2.1
  · exact(Ev.fits_c x).2 (lY x hx).2.1
  · exact(Ev.fits_c x).2 (lZ x hx).2.1))
 have KO:=h_ (zX.out _ xN)
 have hs5:w.heap.size+4≤w5.heap.size:=by have:=xN.size;rw [bu.out] at this;exact this
 have EM:=h_ (h.later (zX.out _ xN))
 have vI:=h_ (fun b (hb:m.mine g b)=>h.mine_lt hb)
 have qi:=h_ (HV.out _ xN)
 have JS:=h_ (show w5.ownsRow (w.heap.size+4) 2 1 vi ids.length (ids.map (SJ .i64)) from bu.out▸hoi)
 have HQ:=h_ (show ∀ w',ER (xs.map Ev.c) (ys.map Ev.c) (zs.map Ev.c) m B g ids w5 ids.length w'→∃ ev eV kv,({ m with ev:=ev,eV:=eV,kv:=kv,cls:=m.cls++fJ m.rG (xs.map Ev.c) (ys.map Ev.c) (zs.map Ev.c) ids }:Mg).at_ B g w'∧Mg.step g m { m with ev:=ev,eV:=eV,kv:=kv,cls:=m.cls++fJ m.rG (xs.map Ev.c) (ys.map Ev.c) (zs.map Ev.c) ids } w w'∧eV.map Ev.c=jl m.rG (xs.map Ev.c) (ys.map Ev.c) (zs.map Ev.c) ids∧(∀ e∈eV,e.fits) from fun w' hr=>by
  obtain⟨ev,eV,kv,q1,q2,q3,q4⟩:=hr
  rw [S6] at q1 q2 q3
  exact⟨ev,eV,kv,q1,(Mg.step.of_below KO.out).trans q2,q3,q4⟩)
 have aA:=h_ (show ∀ (m':Mg) (w':Sw),m'.at_ B g w'→Mg.step g m m' w w'→(∃ ev eV kv,m'={ m with ev:=ev,eV:=eV,kv:=kv,cls:=m.cls++fJ m.rG (xs.map Ev.c) (ys.map Ev.c) (zs.map Ev.c) ids })→m'.eV.map Ev.c=fM (jl m.rG (xs.map Ev.c) (ys.map Ev.c) (zs.map Ev.c) ids)→(∀ e∈m'.eV,e.fits)→Cz (xs.map Ev.c) (ys.map Ev.c) (zs.map Ev.c) m B g w (.returned (.tuple #[])) w' from fun m' w' q1 q2 q3 q4 q5=>by
  obtain⟨ev,eV,kv,rfl⟩:=q3
  rw [ou] at q1 q2 q4
  exact⟨rfl,ev,eV,kv,q1,q2,q4,q5⟩)
 have HASC:=h_ (show(jl m.rG (xs.map Ev.c) (ys.map Ev.c) (zs.map Ev.c) ids).Pairwise fun x y=>x.id<y.id from GA ids hasc fun id hid=>ou▸hid)
 have ll:=h_ (show ER (xs.map Ev.c) (ys.map Ev.c) (zs.map Ev.c) m B g ids w5 0 w5 from by
  have e2:fJ m.rG (xs.map Ev.c) (ys.map Ev.c) (zs.map Ev.c) (ids.take 0)=[]:=rfl
  refine⟨m.ev,[],m.kv,?_,?_,rfl,by simp⟩
  · rw [e2,SO,←hev]
    exact EM.out
  · rw [e2,SO,←hev]
    exact Mg.step.refl _ _ _)
 generalize Cz (xs.map Ev.c) (ys.map Ev.c) (zs.map Ev.c) m B g w=Q at *
 obtain⟨ia,ic,rfl⟩:=kf hoi
 obtain⟨j0,hj,hy0,hy1,hy2⟩:=info_parts Tryz.info9
 have JI:=h_ hj;have J0:=h_ hy0;have J1:=h_ hy1;have J2:=h_ hy2
 obtain⟨i0,hi,hi0,hi1,hi2⟩:=info_parts Tryz.info50
 have II:=h_ hi;have I0:=h_ hi0;have I1:=h_ hi1;have I2:=h_ hi2
 clear hj hy0 hy1 hy2 hi hi0 hi1 hi2
 clear hb5 hb0 xN hoi hasc hmem ou xE RC h
 have hsg:=qi.out
 go_wp2_with fail
 go_loopw [29] (fun i wr=>∃ k:Nat,k≤ids.length∧i=.int .i64 k∧ER (xs.map Ev.c) (ys.map Ev.c) (zs.map Ev.c) m B g ids w5 k wr) (fun i _=>ids.length-(intOf i).toNat)
 case atStart=>exact⟨0,by omega,rfl,ll.out⟩
 case round =>
  clear hsg ll
  obtain⟨k,hk,rfl,hrel⟩:=hrel
  by_cases hlt:k<ids.length
  · obtain⟨id,hid⟩:∃ id,ids[k]? =some id:=⟨_,SW hlt⟩
    have ub:=EO.out id (List.mem_of_getElem? hid)
    obtain⟨ev,eV,kv,hat,hstep,Jj,hfit⟩:=hrel
    have hbl:=hstep.low EM.out
    have H9:=hstep.1.size
    obtain⟨q,qc,hq⟩:∃ q c,(SK ia ids.length ic)=.slice (some ⟨q,0,none⟩) ids.length c:=kZ JS.out (by omega)
    obtain⟨rfl,_,rfl⟩:=Ta hq
    have hkeep:∀ b,w.heap.size≤b→b<w5.heap.size→wr.heap[b]? =w5.heap[b]?:=fun b h1 h2=>hstep.1.block b h2 fun hm=>by have:=vI.out b hm;omega
    have OJ:=JS.out.lt q rfl
    have hcell:wr.cell? ⟨q,k,none⟩=some (.int .i64 id):=by
     rw [Sw.cell?_of_block (w:=w5) (hkeep q (by omega) OJ.2),JS.out.cellAt k (by omega)]
     simp [hid]
    have Kv:ids.length≤ic:=by
     rcases JS.out.2 with⟨h0,_⟩|⟨g',cap,cur,h0,_,_,hnc,_⟩
     · simp at h0
     · simp only [Tb] at h0
       obtain⟨_,_,rfl⟩:=h0
       exact hnc
    have hbw:Sz g w wr:=Sz.trans (KO.out.mono (Td hgl)) hbl
    have hmap:∀ b,b<w.heap.size→¬ m.mine g b→wr.heap[b]? =w.heap[b]?:=fun b h1 h2=>(hstep.1.block b (by omega) h2).trans (KO.out.block b h1)
    obtain⟨p,hlp,hpe⟩:=qO (hX.ev.kept (hmap x1 hx1 nX)) ub
    obtain⟨s,hls,hse⟩:=qO (hY.ev.kept (hmap y1 hy1 nY)) ub
    obtain⟨t,hlt',hte⟩:=qO (hZ.ev.kept (hmap z1 hz1 nZ)) ub
    have hpl:=lX.get hbw (by omega) id
    have hsl:=lY.get hbw (by omega) id
    have htl:=lZ.get hbw (by omega) id
    rw [←hpe] at hpl
    rw [←hse] at hsl
    rw [←hte] at htl
    have h3:mgEv m.rG (xs.map Ev.c) (ys.map Ev.c) (zs.map Ev.c) id=(fK (if bm xs id=true then some p.c else none) (if bm ys id=true then some s.c else none) (if bm zs id=true then some t.c else none)).map (fZ m.rG):=by
     unfold mgEv
     rw [p_,p_,p_,←hpe,←hse,←hte]
    have r1:wr.heap[w.heap.size]? =_:=(hkeep _ (by omega) (by omega)).trans qi.out.1
    have r2:wr.heap[w.heap.size+1]? =_:=(hkeep _ (by omega) (by omega)).trans qi.out.2.1
    have r3:wr.heap[w.heap.size+1+1]? =_:=(hkeep _ (by omega) (by omega)).trans qi.out.2.2.1
    have ht0:(if bm zs id=true then some t.c else none).getD bC=t.c:=by
     rw [hte]
     unfold bm
     cases zs.find? (fun x=>x.id==id)<;>rfl
    have HT0:=h_ ht0
    clear ht0
    generalize bm xs id=A at *
    generalize bm ys id=C at *
    generalize bm zs id=D at *
    clear hpe hse hte
    have hsz4:wr.heap.size ≥ w.heap.size+4:=by omega
    have eW:=h_ (show fK (if A=true then some p.c else none) (if C=true then some s.c else none) (if D=true then some t.c else none)=none→∀ wx,Sz wr.heap.size wr wx→ER (xs.map Ev.c) (ys.map Ev.c) (zs.map Ev.c) m B g ids w5 (k+1) wx from fun h0 wx hbx=>by
     rw [h0] at h3
     have e1:=vk m.rG (xs.map Ev.c) (ys.map Ev.c) (zs.map Ev.c) ids k id hid
     have e2:=su m.rG (xs.map Ev.c) (ys.map Ev.c) (zs.map Ev.c) ids k id hid
     rw [h3] at e1 e2
     simp only [Option.map_none,Option.toList_none,SO,Option.getD_none,lU,List.map_nil] at e1 e2
     refine⟨ev,eV,kv,?_,?_,?_,hfit⟩
     · rw [e2];exact hat.later hbx
     · rw [e2];exact hstep.trans (Mg.step.of_below hbx)
     · rw [e1];exact Jj)
    have NR:Sz w.heap.size w wr∨True:=.inr trivial
    obtain⟨m1,hm1⟩:∃ m1:Mg,m1={ m with ev:=ev,eV:=eV,kv:=kv,cls:=m.cls++fJ m.rG (xs.map Ev.c) (ys.map Ev.c) (zs.map Ev.c) (ids.take k) }:=⟨_,rfl⟩
    have pd:=mT m.rG (xs.map Ev.c) (ys.map Ev.c) (zs.map Ev.c) (ids.take k)
    rw [S7] at pd
    have hm1e:m1.eV.length≤3000:=by
     have:=congrArg S_ Jj
     rw [SU] at this
     subst hm1
     simp only
     omega
    have Jd:m1.cls.length≤30000:=by
     subst hm1
     simp only [S5]
     omega
    have Jc:m1.rG=m.rG:=by subst hm1;rfl
    have qV:=h_ (show ∀ (c:EvC) (fs:List ByteArray),fK (if A=true then some p.c else none) (if C=true then some s.c else none) (if D=true then some t.c else none)=some (c,fs)→∀ (y:Ev),y.c=(fZ m.rG (c,fs)).1→y.fits→∀ (ev' kv':Sy) (w':Sw),({ m1 with ev:=ev',eV:=m1.eV++[y],kv:=kv',cls:=m1.cls++lU id (fZ m.rG (c,fs)).2 }:Mg).at_ B g w'→Mg.step g m1 { m1 with ev:=ev',eV:=m1.eV++[y],kv:=kv',cls:=m1.cls++lU id (fZ m.rG (c,fs)).2 } wr w'→ER (xs.map Ev.c) (ys.map Ev.c) (zs.map Ev.c) m B g ids w5 (k+1) w' from fun c fs h0 y hy hyf ev' kv' w' q1 q2=>by
     subst hm1
     rw [h0] at h3
     have e1:=vk m.rG (xs.map Ev.c) (ys.map Ev.c) (zs.map Ev.c) ids k id hid
     have e2:=su m.rG (xs.map Ev.c) (ys.map Ev.c) (zs.map Ev.c) ids k id hid
     rw [h3] at e1 e2
     simp only [Option.map_some,Option.toList_some,Option.getD_some] at e1 e2
     refine⟨ev',eV++[y],kv',?_,?_,?_,?_⟩
     · rw [e2,←SR];exact q1
     · rw [e2,←SR];exact hstep.trans q2
     · rw [e1,List.map_append,Jj,List.map_singleton,hy]
     · intro e he
       rcases SQ.1 he with he|he
       · exact hfit e he
       · rw [SN.1 he];exact hyf)
    have HAT:=h_ (show m1.at_ B g wr from hm1▸hat)
    have Qz:=h_ (fun w' (q:Sz wr.heap.size wr w')=>hE w' (hbw.trans (q.mono (by omega))))
    have qI:=h_ (show(∀ r∈m1.rG,r.fits)∧m1.rG.length≤4000 from by rw [Jc];exact⟨hR,hRl⟩)
    have HMR:=h_ Jc
    have Hk:=h_ hpl;have xU:=h_ hsl;have qj:=h_ htl
    have hkx:wr.heap[x1]? =wr.heap[x1]?:=rfl
    have hxl1:x1<wr.heap.size:=by omega
    have hyl1:y1<wr.heap.size:=by omega
    have hzl1:z1<wr.heap.size:=by omega
    have OV:∀ o,(wr.alloc o).heap[y1]? =wr.heap[y1]?:=fun o=>SB _ _ _ hyl1
    have Je:∀ o o',((wr.alloc o).alloc o').heap[z1]? =wr.heap[z1]?:=fun o o'=>(SB _ _ _ (by simp;omega)).trans (SB _ _ _ hzl1)
    have w5x:wr.heap[x1]? =w.heap[x1]?:=hmap x1 hx1 nX
    have w5y:wr.heap[y1]? =w.heap[y1]?:=hmap y1 hy1 nY
    have w5z:wr.heap[z1]? =w.heap[z1]?:=hmap z1 hz1 nZ
    have L1:=h_ (hlp wr rfl)
    have L2:=h_ (fun o=>hls (wr.alloc o) (OV o))
    have L3:=h_ (fun o o'=>hlt' ((wr.alloc o).alloc o') (Je o o'))
    have f1:∀ j,wr.cell? ⟨w.heap.size,j,none⟩=_:=fun j=>Su _ _ j _ 148 (0,0) r1
    have f2:∀ o j,(wr.alloc o).cell? ⟨w.heap.size+1,j,none⟩=_:=fun o j=>(SF _ _ _ (by simp;omega)).trans (Su _ _ j _ 148 (0,0) r2)
    have f3:∀ o o' j,((wr.alloc o).alloc o').cell? ⟨w.heap.size+1+1,j,none⟩=_:=fun o o' j=>(SF _ _ _ (by simp;omega)).trans ((SF _ _ _ (by simp;omega)).trans (Su _ _ j _ 148 (0,0) r3))
    have Ig:=h_ hid
    have Bwr:B≤wr.heap.size:=by omega
    clear hat hstep Jj hfit hm1 pd hpl hsl htl h3 hlp hls hlt' OV Je w5x w5y w5z hkeep hmap OJ hbl hbw hid Jc NR r1 r2 r3 hkx
    obtain⟨pid,pin,pout,preg,pkind,psp,pxa,pxc,pxr⟩:=p
    obtain⟨sid,sin,sout,sreg,skind,ssp,sxa,sxc,sxr⟩:=s
    obtain⟨tid,tin,tout,treg,tkind,tsp,txa,txc,txr⟩:=t
    simp only [Ev.enc] at L1 L2 L3
    go_upto_block 2 with(first
     | (at_lookup;refine aa _ rfl _ _ _ _ rfl _ _ _ rfl rfl L1.out ?_)
     | (at_lookup;refine aa _ rfl _ _ _ _ rfl _ _ _ rfl rfl (L2.out _) ?_)
     | (at_lookup;refine aa _ rfl _ _ _ _ rfl _ _ _ rfl rfl (L3.out _ _) ?_))
    have hrw:=box4 wr (#[SJ .i64 pid,.int .i64 pin,.int .i64 pout,.string preg,.int .u8 pkind,.string psp,.slice pxa pxr.length pxc]) (#[SJ .i64 sid,.int .i64 sin,.int .i64 sout,.string sreg,.int .u8 skind,.string ssp,.slice sxa sxr.length sxc]) (#[SJ .i64 tid,.int .i64 tin,.int .i64 tout,.string treg,.int .u8 tkind,.string tsp,.slice txa txr.length txc]) (#[SJ .i64 0,.int .i64 0,.int .i64 0,.string ⟨#[]⟩,.int .u8 0,.string ⟨#[]⟩,.slice none 0 0]) 50 50 _ (SC _ ((((wr.alloc (.cells #[SJ .i64 pid,.int .i64 pin,.int .i64 pout,.string preg,.int .u8 pkind,.string psp,.slice pxa pxr.length pxc] 50)).alloc (.cells #[SJ .i64 sid,.int .i64 sin,.int .i64 sout,.string sreg,.int .u8 skind,.string ssp,.slice sxa sxr.length sxc] 50)).alloc (.cells #[SJ .i64 tid,.int .i64 tin,.int .i64 tout,.string treg,.int .u8 tkind,.string tsp,.slice txa txr.length txc] 50)).alloc (.cells #[SJ .i64 0,.int .i64 0,.int .i64 0,.string ⟨#[]⟩,.int .u8 0,.string ⟨#[]⟩,.slice none 0 0] 50)))
    have lO:Sz wr.heap.size wr ((((wr.alloc (.cells #[SJ .i64 pid,.int .i64 pin,.int .i64 pout,.string preg,.int .u8 pkind,.string psp,.slice pxa pxr.length pxc] 50)).alloc (.cells #[SJ .i64 sid,.int .i64 sin,.int .i64 sout,.string sreg,.int .u8 skind,.string ssp,.slice sxa sxr.length sxc] 50)).alloc (.cells #[SJ .i64 tid,.int .i64 tin,.int .i64 tout,.string treg,.int .u8 tkind,.string tsp,.slice txa txr.length txc] 50)).alloc (.cells #[SJ .i64 0,.int .i64 0,.int .i64 0,.string ⟨#[]⟩,.int .u8 0,.string ⟨#[]⟩,.slice none 0 0] 50)):=bJ wr _ _ _ _
    have hsz7:((((wr.alloc (.cells #[SJ .i64 pid,.int .i64 pin,.int .i64 pout,.string preg,.int .u8 pkind,.string psp,.slice pxa pxr.length pxc] 50)).alloc (.cells #[SJ .i64 sid,.int .i64 sin,.int .i64 sout,.string sreg,.int .u8 skind,.string ssp,.slice sxa sxr.length sxc] 50)).alloc (.cells #[SJ .i64 tid,.int .i64 tin,.int .i64 tout,.string treg,.int .u8 tkind,.string tsp,.slice txa txr.length txc] 50)).alloc (.cells #[SJ .i64 0,.int .i64 0,.int .i64 0,.string ⟨#[]⟩,.int .u8 0,.string ⟨#[]⟩,.slice none 0 0] 50)).heap.size=wr.heap.size+4:=by simp
    generalize ((((wr.alloc (.cells #[SJ .i64 pid,.int .i64 pin,.int .i64 pout,.string preg,.int .u8 pkind,.string psp,.slice pxa pxr.length pxc] 50)).alloc (.cells #[SJ .i64 sid,.int .i64 sin,.int .i64 sout,.string sreg,.int .u8 skind,.string ssp,.slice sxa sxr.length sxc] 50)).alloc (.cells #[SJ .i64 tid,.int .i64 tin,.int .i64 tout,.string treg,.int .u8 tkind,.string tsp,.slice txa txr.length txc] 50)).alloc (.cells #[SJ .i64 0,.int .i64 0,.int .i64 0,.string ⟨#[]⟩,.int .u8 0,.string ⟨#[]⟩,.slice none 0 0] 50))=W7 at *
    have HRW:=h_ hrw
    have Ai:=h_ lO
    have c0:∀ j,W7.cell? ⟨wr.heap.size,j,none⟩=_:=fun j=>Su _ _ j _ 50 (0,0) hrw.1
    have c1:∀ j,W7.cell? ⟨wr.heap.size+1,j,none⟩=_:=fun j=>Su _ _ j _ 50 (0,0) hrw.2.1
    have c2:∀ j,W7.cell? ⟨wr.heap.size+1+1,j,none⟩=_:=fun j=>Su _ _ j _ 50 (0,0) hrw.2.2.1
    have z3:∀ j,W7.frozen? ⟨wr.heap.size+1+1+1,j,none⟩=false:=fun j=>by simp [SE,hrw.2.2.2]
    have d3:∀ j,W7.cell? ⟨wr.heap.size+1+1+1,j,none⟩=_:=fun j=>Su _ _ j _ 50 (0,0) hrw.2.2.2
    have RA:=h_ (fun(w8:Sw) (q:Sz W7.heap.size W7 w8)=>(show(∀ j,w8.cell? ⟨wr.heap.size+1,j,none⟩=#[SJ .i64 sid,.int .i64 sin,.int .i64 sout,.string sreg,.int .u8 skind,.string ssp,.slice sxa sxr.length sxc][j]?)∧(∀ j,w8.cell? ⟨wr.heap.size+1+1,j,none⟩=#[SJ .i64 tid,.int .i64 tin,.int .i64 tout,.string treg,.int .u8 tkind,.string tsp,.slice txa txr.length txc][j]?)∧(∀ j,w8.frozen? ⟨wr.heap.size+1+1+1,j,none⟩=false)∧(∀ j,w8.cell? ⟨wr.heap.size+1+1+1,j,none⟩=#[SJ .i64 0,.int .i64 0,.int .i64 0,.string ⟨#[]⟩,.int .u8 0,.string ⟨#[]⟩,.slice none 0 0][j]?)∧w8.heap[wr.heap.size+1+1+1]? =some (.cells #[SJ .i64 0,.int .i64 0,.int .i64 0,.string ⟨#[]⟩,.int .u8 0,.string ⟨#[]⟩,.slice none 0 0] 50 (0,0))∧Sz wr.heap.size wr w8 from
     ⟨fun j=>Su _ _ j _ 50 (0,0) ((q.block _ (by omega)).trans HRW.out.2.1),fun j=>Su _ _ j _ 50 (0,0) ((q.block _ (by omega)).trans HRW.out.2.2.1),fun j=>by simp [SE,(q.block (wr.heap.size+1+1+1) (by omega)).trans HRW.out.2.2.2],fun j=>Su _ _ j _ 50 (0,0) ((q.block _ (by omega)).trans HRW.out.2.2.2),(q.block _ (by omega)).trans HRW.out.2.2.2,Ai.out.trans (q.mono (by omega))⟩))
    have Hq:=h_ (EC (⟨pid,pin,pout,preg,pkind,psp,pxa,pxc,pxr⟩:Ev) (⟨sid,sin,sout,sreg,skind,ssp,sxa,sxc,sxr⟩:Ev) (⟨tid,tin,tout,treg,tkind,tsp,txa,txc,txr⟩:Ev) W7 (Ev.keeps _ _ _ lO Hk.out.1) (Ev.keeps _ _ _ lO xU.out.1) (Ev.keeps _ _ _ lO qj.out.1) Hk.out.2 xU.out.2 qj.out.2)
    have Nf:=h_ (fY (⟨pid,pin,pout,preg,pkind,psp,pxa,pxc,pxr⟩:Ev) (⟨sid,sin,sout,sreg,skind,ssp,sxa,sxc,sxr⟩:Ev) W7 (Ev.keeps _ _ _ lO Hk.out.1) (Ev.keeps _ _ _ lO xU.out.1) (fun r hr=>(Hk.out.2.2.2.2.2.2.2.2.1 r hr).2.1) (fun r hr=>(xU.out.2.2.2.2.2.2.2.2.1 r hr).2.1) Hk.out.2.2.2.2.2.2.2.2.2)
    have Nd:=h_ (fY (⟨pid,pin,pout,preg,pkind,psp,pxa,pxc,pxr⟩:Ev) (⟨tid,tin,tout,treg,tkind,tsp,txa,txc,txr⟩:Ev) W7 (Ev.keeps _ _ _ lO Hk.out.1) (Ev.keeps _ _ _ lO qj.out.1) (fun r hr=>(Hk.out.2.2.2.2.2.2.2.2.1 r hr).2.1) (fun r hr=>(qj.out.2.2.2.2.2.2.2.2.1 r hr).2.1) Hk.out.2.2.2.2.2.2.2.2.2)
    have HE1:=h_ (lT (⟨pid,pin,pout,preg,pkind,psp,pxa,pxc,pxr⟩:Ev) (⟨sid,sin,sout,sreg,skind,ssp,sxa,sxc,sxr⟩:Ev))
    have HE2:=h_ (lT (⟨pid,pin,pout,preg,pkind,psp,pxa,pxc,pxr⟩:Ev) (⟨tid,tin,tout,treg,tkind,tsp,txa,txc,txr⟩:Ev))
    have Dz:=h_ (show(lE (⟨pid,pin,pout,preg,pkind,psp,pxa,pxc,pxr⟩:Ev).c (⟨sid,sin,sout,sreg,skind,ssp,sxa,sxc,sxr⟩:Ev).c (⟨tid,tin,tout,treg,tkind,tsp,txa,txc,txr⟩:Ev).c).fits from BD ((Ev.fits_c _).2 Hk.out.2) ((Ev.fits_c _).2 xU.out.2) ((Ev.fits_c _).2 qj.out.2))
    generalize evEq (⟨pid,pin,pout,preg,pkind,psp,pxa,pxc,pxr⟩:Ev) (⟨sid,sin,sout,sreg,skind,ssp,sxa,sxc,sxr⟩:Ev)=E1 at *
    generalize evEq (⟨pid,pin,pout,preg,pkind,psp,pxa,pxc,pxr⟩:Ev) (⟨tid,tin,tout,treg,tkind,tsp,txa,txc,txr⟩:Ev)=E2 at *
    obtain⟨o,ho⟩:∃ o,o=fK (if A=true then some (⟨pid,pin,pout,preg,pkind,psp,pxa,pxc,pxr⟩:Ev).c else none) (if C=true then some (⟨sid,sin,sout,sreg,skind,ssp,sxa,sxc,sxr⟩:Ev).c else none) (if D=true then some (⟨tid,tin,tout,treg,tkind,tsp,txa,txc,txr⟩:Ev).c else none):=⟨_,rfl⟩
    rw [←ho] at eW qV
    have HO:=h_ ho
    simp only [Ev.enc] at Nf Nd Hq
    clear hrw lO ho f1 f2 f3 L1 L2 L3
    go_cut [17] (fun fh wx=>qY o wr fh wx)
    case first =>
     clear qV Qz qI HAT HMR
     cases A with
     | false =>
       cases C with
       | true =>
         have ho:o=some ((⟨sid,sin,sout,sreg,skind,ssp,sxa,sxc,sxr⟩:Ev).c,[]):=HO.out
         have HH:=h_ ho
         clear ho
         go_wp2_with fail
         go_meet
         exact qY.box (⟨sid,sin,sout,sreg,skind,ssp,sxa,sxc,sxr⟩:Ev) [] HH.out (Ev.keeps _ _ _ Ai.out xU.out.1) (fun b=>Ev.uses_lt xU.out.1) xU.out.2 HRW.out.2.2.2 (SH _ _ _ _) (by simp [SL]) Ai.out
       | false =>
         have ho:o=some ((⟨tid,tin,tout,treg,tkind,tsp,txa,txc,txr⟩:Ev).c,[]):=by
          have h1:=HO.out
          have h2:=HT0.out
          simp only [fK] at h1
          rw [h1]
          show some ((if D=true then some ((⟨tid,tin,tout,treg,tkind,tsp,txa,txc,txr⟩:Ev)).c else none).getD bC,[])=_
          rw [h2]
         have HH:=h_ ho
         clear ho
         go_wp2_with fail
         go_meet
         exact qY.box (⟨tid,tin,tout,treg,tkind,tsp,txa,txc,txr⟩:Ev) [] HH.out (Ev.keeps _ _ _ Ai.out qj.out.1) (fun b=>Ev.uses_lt qj.out.1) qj.out.2 HRW.out.2.2.2 (SH _ _ _ _) (by simp [SL]) Ai.out
     | true =>
       cases C with
       | true =>
         cases D with
         | true =>
           have ho:o=some (lE (⟨pid,pin,pout,preg,pkind,psp,pxa,pxc,pxr⟩:Ev).c (⟨sid,sin,sout,sreg,skind,ssp,sxa,sxc,sxr⟩:Ev).c (⟨tid,tin,tout,treg,tkind,tsp,txa,txc,txr⟩:Ev).c,eL (⟨pid,pin,pout,preg,pkind,psp,pxa,pxc,pxr⟩:Ev).c (⟨sid,sin,sout,sreg,skind,ssp,sxa,sxc,sxr⟩:Ev).c (⟨tid,tin,tout,treg,tkind,tsp,txa,txc,txr⟩:Ev).c):=HO.out
           go_wp2_with fail
           refine Hq.out.mono ?_
           rintro e w8 ⟨u,v,rfl,huc,OB,huu,huo,hub⟩
           rw [←huc] at ho
           have HH:=h_ ho
           have tZ:=RA.out w8 hub
           have HU1:=h_ OB
           have HU2:=h_ (show ∀ b,u.uses b→b<wr.heap.size from fun b hb=>by
            rcases huu b hb with q1|q1|q1
            · exact Ev.uses_lt Hk.out.1 q1
            · exact Ev.uses_lt xU.out.1 q1
            · exact Ev.uses_lt qj.out.1 q1)
           have HU3:=h_ (show u.fits from(Ev.fits_c u).1 (by rw [huc];exact Dz.out))
           have HU4:=h_ (eQ huo (show wr.heap.size≤W7.heap.size by omega))
           have HU5:=h_ (show v.ownBlock≠some (wr.heap.size+1+1+1) from fun e=>by have:=(huo.lt _ e).1;omega)
           generalize eL (⟨pid,pin,pout,preg,pkind,psp,pxa,pxc,pxr⟩:Ev).c (⟨sid,sin,sout,sreg,skind,ssp,sxa,sxc,sxr⟩:Ev).c (⟨tid,tin,tout,treg,tkind,tsp,txa,txc,txr⟩:Ev).c=fs at *
           have JR:=h_ tZ.2.2.2.2.1
           have Il:=h_ tZ.2.2.2.2.2
           have n3:=tZ.2.2.1
           have n4:=tZ.2.2.2.1
           clear ho huc OB huu huo hub tZ
           obtain⟨uid,uin,uout,ureg,ukind,usp,uxa,uxc,uxr⟩:=u
           simp only [Ev.enc]
           go_wp2_with fail
           go_meet
           exact qY.box (⟨uid,uin,uout,ureg,ukind,usp,uxa,uxc,uxr⟩:Ev) fs HH.out HU1.out HU2.out HU3.out JR.out HU4.out HU5.out Il.out
         | false =>
           go_wp2_with fail
           refine Nf.out.mono ?_
           rintro e w8 ⟨rfl,tF⟩
           have tZ:=RA.out w8 tF
           cases E1 with
           | false =>
             have ho:o=some ((⟨sid,sin,sout,sreg,skind,ssp,sxa,sxc,sxr⟩:Ev).c,[jJ]):=by
              have h1:o=(if ob (⟨pid,pin,pout,preg,pkind,psp,pxa,pxc,pxr⟩:Ev).c (⟨sid,sin,sout,sreg,skind,ssp,sxa,sxc,sxr⟩:Ev).c=true then none else some ((⟨sid,sin,sout,sreg,skind,ssp,sxa,sxc,sxr⟩:Ev).c,[jJ])):=HO.out
              rw [←HE1.out] at h1
              simpa using h1
             have HH:=h_ ho
             clear ho
             have Il:=h_ tZ.2.2.2.2.2
             have JR:=h_ tZ.2.2.2.2.1
             have Kp:wr.heap.size+4≤w8.heap.size:=by have:=tF.size;omega
             have I8:∀ o:Obj,(w8.alloc o).heap[wr.heap.size+1+1+1]? =w8.heap[wr.heap.size+1+1+1]?:=fun o=>SB _ _ _ (by omega)
             have c8:∀ o j,(w8.alloc o).cell? ⟨wr.heap.size+1+1+1,j,none⟩=_:=fun o j=>Su _ _ j _ 50 (0,0) ((I8 o).trans JR.out)
             have y8:∀ o j,(w8.alloc o).frozen? ⟨wr.heap.size+1+1+1,j,none⟩=false:=fun o j=>by simp [SE,(I8 o).trans JR.out]
             have n1:=tZ.1
             have n2:=tZ.2.1
             have HL8:=h_ (lit1 w8 jJ wr.heap.size (by omega))
             have HN8:=h_ (show(SK (some ⟨w8.heap.size,0,none⟩) 1 1).ownBlock≠some (wr.heap.size+1+1+1) from by simp [SL];omega)
             have HX9:=h_ (fun o=>(I8 o).trans JR.out)
             have mg:=h_ (fun o=>Il.out.alloc (Td (by omega)) o)
             clear tZ I8 tF
             go_wp2_with fail
             go_meet
             exact qY.box (⟨sid,sin,sout,sreg,skind,ssp,sxa,sxc,sxr⟩:Ev) [jJ] HH.out (Ev.keeps _ _ _ (mg.out _) xU.out.1) (fun b=>Ev.uses_lt xU.out.1) xU.out.2 (HX9.out _) HL8.out HN8.out (mg.out _)
           | true =>
             have ho:o=none:=by
              have h1:o=(if ob (⟨pid,pin,pout,preg,pkind,psp,pxa,pxc,pxr⟩:Ev).c (⟨sid,sin,sout,sreg,skind,ssp,sxa,sxc,sxr⟩:Ev).c=true then none else some ((⟨sid,sin,sout,sreg,skind,ssp,sxa,sxc,sxr⟩:Ev).c,[jJ])):=HO.out
              rw [←HE1.out] at h1
              simpa using h1
             have Il:=h_ tZ.2.2.2.2.2
             clear tZ
             have HE:=h_ (eW.out ho w8 Il.out)
             clear ho
             go_wp2_with fail
             go_roundw
             case rel=>exact⟨k+1,by omega,by go_num,HE.out⟩
             case measure=>simp [intOf];omega
       | false =>
         cases D with
         | true =>
           go_wp2_with fail
           refine Nd.out.mono ?_
           rintro e w8 ⟨rfl,tF⟩
           have tZ:=RA.out w8 tF
           cases E2 with
           | false =>
             have ho:o=some ((⟨tid,tin,tout,treg,tkind,tsp,txa,txc,txr⟩:Ev).c,[jJ]):=by
              have h1:o=(if ob (⟨pid,pin,pout,preg,pkind,psp,pxa,pxc,pxr⟩:Ev).c (⟨tid,tin,tout,treg,tkind,tsp,txa,txc,txr⟩:Ev).c=true then none else some ((⟨tid,tin,tout,treg,tkind,tsp,txa,txc,txr⟩:Ev).c,[jJ])):=HO.out
              rw [←HE2.out] at h1
              simpa using h1
             have HH:=h_ ho
             clear ho
             have Il:=h_ tZ.2.2.2.2.2
             have JR:=h_ tZ.2.2.2.2.1
             have Kp:wr.heap.size+4≤w8.heap.size:=by have:=tF.size;omega
             have I8:∀ o:Obj,(w8.alloc o).heap[wr.heap.size+1+1+1]? =w8.heap[wr.heap.size+1+1+1]?:=fun o=>SB _ _ _ (by omega)
             have c8:∀ o j,(w8.alloc o).cell? ⟨wr.heap.size+1+1+1,j,none⟩=_:=fun o j=>Su _ _ j _ 50 (0,0) ((I8 o).trans JR.out)
             have y8:∀ o j,(w8.alloc o).frozen? ⟨wr.heap.size+1+1+1,j,none⟩=false:=fun o j=>by simp [SE,(I8 o).trans JR.out]
             have n1:=tZ.1
             have n2:=tZ.2.1
             have HL8:=h_ (lit1 w8 jJ wr.heap.size (by omega))
             have HN8:=h_ (show(SK (some ⟨w8.heap.size,0,none⟩) 1 1).ownBlock≠some (wr.heap.size+1+1+1) from by simp [SL];omega)
             have HX9:=h_ (fun o=>(I8 o).trans JR.out)
             have mg:=h_ (fun o=>Il.out.alloc (Td (by omega)) o)
             clear tZ I8 tF
             go_wp2_with fail
             go_meet
             exact qY.box (⟨tid,tin,tout,treg,tkind,tsp,txa,txc,txr⟩:Ev) [jJ] HH.out (Ev.keeps _ _ _ (mg.out _) qj.out.1) (fun b=>Ev.uses_lt qj.out.1) qj.out.2 (HX9.out _) HL8.out HN8.out (mg.out _)
           | true =>
             have ho:o=none:=by
              have h1:o=(if ob (⟨pid,pin,pout,preg,pkind,psp,pxa,pxc,pxr⟩:Ev).c (⟨tid,tin,tout,treg,tkind,tsp,txa,txc,txr⟩:Ev).c=true then none else some ((⟨tid,tin,tout,treg,tkind,tsp,txa,txc,txr⟩:Ev).c,[jJ])):=HO.out
              rw [←HE2.out] at h1
              simpa using h1
             have Il:=h_ tZ.2.2.2.2.2
             clear tZ
             have HE:=h_ (eW.out ho w8 Il.out)
             clear ho
             go_wp2_with fail
             go_roundw
             case rel=>exact⟨k+1,by omega,by go_num,HE.out⟩
             case measure=>simp [intOf];omega
         | false =>
           have ho:o=none:=HO.out
           have HE:=h_ (eW.out ho W7 Ai.out)
           clear ho
           go_wp2_with fail
           go_roundw
           case rel=>exact⟨k+1,by omega,by go_num,HE.out⟩
           case measure=>simp [intOf];omega
    case rest =>
     obtain⟨u,fs,ho,OB,Rf,hrow,hown,hne,hbx⟩:=hcut
     have lF:=h_ (qV.out u.c fs ho)
     have hfl:fs.length≤5:=yN (HO.out▸ho)
     obtain⟨fa,fcp,rfl⟩:=kf hown
     have hsx:wr.heap.size+4≤wc.heap.size:=by have:=(Te.1 hrow).1;omega
     have J5:=h_ (hJ u wc OB (fun r hr=>(Rf.2.2.2.2.2.2.2.1 r hr).2.1) Rf.2.2.2.2.2.2.2.2)
     have HUF:=h_ Rf
     have HOWN:=h_ hown
     have xT:=h_ hne
     have mf:=h_ hbx
     obtain⟨uc,huc⟩:∃ uc,uc=u.c:=⟨_,rfl⟩
     rw [←huc] at lF J5
     have HUC:=h_ huc
     obtain⟨uid,uin,uout,ureg,ukind,usp,uxa,uxc,uxr⟩:=u
     simp only [Ev.enc] at J5 hrow
     have b0:∀ j,wc.cell? ⟨wr.heap.size+1+1+1,j,none⟩=_:=fun j=>Su _ _ j _ 50 (0,0) hrow
     have PY:=h_ hrow
     clear ho OB Rf hrow hown hne hbx huc eW HO qV Hq Nf Nd HE1 HE2 Dz RA c0 c1 c2 z3 d3 HRW Ai Hk xU qj
     go_wp2_with fail
     refine J5.out.mono ?_
     rintro e w9 ⟨y,rfl,y_,hyl,hyu,Gj⟩
     have C4:=(Gj.block (wr.heap.size+1+1+1) (by omega)).trans PY.out
     have fR:=Gj.size
     have n9:∀ j,w9.cell? ⟨wr.heap.size+1+1+1,j,none⟩=_:=fun j=>Su _ _ j _ 50 (0,0) C4
     have f9:∀ j,w9.frozen? ⟨wr.heap.size+1+1+1,j,none⟩=false:=fun j=>by simp [SE,C4]
     have M1:=h_ (show y.fits from(Ev.fits_c y).1 (by rw [y_,HUC.out];exact(Ev.fits_c _).2 HUF.out))
     have HYC:=h_ y_
     have JL:=h_ hyl
     have KL:=h_ hyu
     have PW:=h_ (show ∀ b,y.uses b→(SK fa fs.length fcp).ownBlock≠some b from fun b hb e=>by have h1:=(HOWN.out.lt b e).2;have h2:=hyu b hb;omega)
     have HB9:=h_ (mf.out.trans (Gj.mono (by omega)))
     have HO9:=h_ (aH HOWN.out Gj)
     have P5:=h_ C4
     clear y_ hyl hyu Gj C4 b0 J5
     obtain⟨yid,yin,yout,yreg,ykind,ysp,yxa,yxc,yxr⟩:=y
     simp only [Ev.enc]
     go_upto_region 20 with fail
     have qJ:∀ b,b≠wr.heap.size+1+1+1→(((((((w9.setCell ⟨wr.heap.size+1+1+1,0,none⟩ (.int .i64 yid)).setCell ⟨wr.heap.size+1+1+1,1,none⟩ (.int .i64 yin)).setCell ⟨wr.heap.size+1+1+1,2,none⟩ (.int .i64 yout)).setCell ⟨wr.heap.size+1+1+1,3,none⟩ (.string yreg)).setCell ⟨wr.heap.size+1+1+1,4,none⟩ (.int .u8 ykind)).setCell ⟨wr.heap.size+1+1+1,5,none⟩ (.string ysp)).setCell ⟨wr.heap.size+1+1+1,6,none⟩ (.slice yxa yxr.length yxc)).heap[b]? =w9.heap[b]?:=fun b h=>by
      rw [SA _ _ _ _ h,SA _ _ _ _ h,SA _ _ _ _ h,SA _ _ _ _ h,SA _ _ _ _ h,SA _ _ _ _ h,SA _ _ _ _ h]
     have OI:(((((((w9.setCell ⟨wr.heap.size+1+1+1,0,none⟩ (.int .i64 yid)).setCell ⟨wr.heap.size+1+1+1,1,none⟩ (.int .i64 yin)).setCell ⟨wr.heap.size+1+1+1,2,none⟩ (.int .i64 yout)).setCell ⟨wr.heap.size+1+1+1,3,none⟩ (.string yreg)).setCell ⟨wr.heap.size+1+1+1,4,none⟩ (.int .u8 ykind)).setCell ⟨wr.heap.size+1+1+1,5,none⟩ (.string ysp)).setCell ⟨wr.heap.size+1+1+1,6,none⟩ (.slice yxa yxr.length yxc)).heap[wr.heap.size+1+1+1]? =some (.cells #[SJ .i64 yid,.int .i64 yin,.int .i64 yout,.string yreg,.int .u8 ykind,.string ysp,.slice yxa yxr.length yxc] 50 (0,0)):=KH P5.out
     have Jo:Sz wr.heap.size wr (((((((w9.setCell ⟨wr.heap.size+1+1+1,0,none⟩ (.int .i64 yid)).setCell ⟨wr.heap.size+1+1+1,1,none⟩ (.int .i64 yin)).setCell ⟨wr.heap.size+1+1+1,2,none⟩ (.int .i64 yout)).setCell ⟨wr.heap.size+1+1+1,3,none⟩ (.string yreg)).setCell ⟨wr.heap.size+1+1+1,4,none⟩ (.int .u8 ykind)).setCell ⟨wr.heap.size+1+1+1,5,none⟩ (.string ysp)).setCell ⟨wr.heap.size+1+1+1,6,none⟩ (.slice yxa yxr.length yxc)):=by
      repeat refine SD ?_ (by simp only;omega) _
      exact HB9.out
     have Ec:(((((((w9.setCell ⟨wr.heap.size+1+1+1,0,none⟩ (.int .i64 yid)).setCell ⟨wr.heap.size+1+1+1,1,none⟩ (.int .i64 yin)).setCell ⟨wr.heap.size+1+1+1,2,none⟩ (.int .i64 yout)).setCell ⟨wr.heap.size+1+1+1,3,none⟩ (.string yreg)).setCell ⟨wr.heap.size+1+1+1,4,none⟩ (.int .u8 ykind)).setCell ⟨wr.heap.size+1+1+1,5,none⟩ (.string ysp)).setCell ⟨wr.heap.size+1+1+1,6,none⟩ (.slice yxa yxr.length yxc)).heap.size=w9.heap.size:=by simp
     generalize (((((((w9.setCell ⟨wr.heap.size+1+1+1,0,none⟩ (.int .i64 yid)).setCell ⟨wr.heap.size+1+1+1,1,none⟩ (.int .i64 yin)).setCell ⟨wr.heap.size+1+1+1,2,none⟩ (.int .i64 yout)).setCell ⟨wr.heap.size+1+1+1,3,none⟩ (.string yreg)).setCell ⟨wr.heap.size+1+1+1,4,none⟩ (.int .u8 ykind)).setCell ⟨wr.heap.size+1+1+1,5,none⟩ (.string ysp)).setCell ⟨wr.heap.size+1+1+1,6,none⟩ (.slice yxa yxr.length yxc))=W10 at *
     have Hc:=h_ (show(⟨yid,yin,yout,yreg,ykind,ysp,yxa,yxc,yxr⟩:Ev).lies W10 from Ev.frame JL.out (by omega) (fun b hb=>qJ b (by have:=KL.out b hb;omega)))
     have Qa:=h_ (ah HO9.out (fun b hb=>qJ b (fun e=>xT.out (e▸hb))))
     have zS:=h_ (fun b (hb:(⟨yid,yin,yout,yreg,ykind,ysp,yxa,yxc,yxr⟩:Ev).uses b)=>(show wr.heap.size+4≤b by have:=KL.out b hb;omega))
     have zY:=h_ Jo
     have Ni:=h_ OI
     have DC:=h_ (HAT.out.later Jo)
     obtain⟨ra,rcc,tE,hSR⟩:=ay (k:=7) (enc:=Reg.enc) (Ok:=Flat) (fun _=>rfl) DC.out.rG (fun _ _=>trivial)
     have Af:=h_ (fun(w':Sw) (h:Sz W10.heap.size W10 w')=>pq (⟨yid,yin,yout,yreg,ykind,ysp,yxa,yxc,yxr⟩:Ev) ra rcc m1.rG w' (Qz.out w' (zY.out.trans (h.mono Jo.size))) (Ev.keeps _ _ _ h Hc.out) M1.out (Regs.later hSR h) qI.out.1 (by have:=qI.out.2;omega))
     have HEC:=h_ (MR (⟨yid,yin,yout,yreg,ykind,ysp,yxa,yxc,yxr⟩:Ev) m1.rG)
     generalize pk (⟨yid,yin,yout,yreg,ykind,ysp,yxa,yxc,yxr⟩:Ev) m1.rG=E at *
     simp only [Ev.enc] at Af
     have PT:=h_ (fun(w2 w3:Sw) (h:Sz W10.heap.size W10 w2) (h3:Sz w2.heap.size w2 w3)=>(h.trans (h3.mono h.size):Sz W10.heap.size W10 w3))
     have hbd:Sz W10.heap.size W10 W10.drew:=(SC _ _).drew
     have Ji:=DC.out.glt
     have k3:∀ w',Sz W10.heap.size W10 w'→∀ j,w'.cell? ⟨wr.heap.size+1+1+1,j,none⟩=_:=fun w' h j=>Su _ _ j _ 50 (0,0) ((h.block _ (by omega)).trans Ni.out)
     have k5:∀ w',Sz W10.heap.size W10 w'→w'.cell? ⟨g,5,none⟩=some (.slice ra m1.rG.length rcc):=fun w' h=>(Su _ _ 5 m1.arr 142 (0,0) ((h.block _ Ji).trans DC.out.cells)).trans (by show some m1.rv=_;rw [tE])
     obtain⟨Bt,xO⟩:∃ Bt,Bt=(E != 0):=⟨_,rfl⟩
     have DB:=h_ xO
     have uQ:=h_ Ec
     have zak:wr.heap.size+4≤W10.heap.size:=by omega
     clear qJ OI Jo n9 f9 hSR tE P5 HO9 JL KL Ec
     go_cut [106] (fun s wx=>s=.bool Bt∧Sz W10.heap.size W10 wx)
     case first =>
      go_region_held3 (fun w'=>Sz W10.heap.size W10 w') (repeat (first|with_reducible assumption|with_reducible exact hbd)) (first
       | (go_at_call 87;(with_reducible refine(Af.out _ ?_).mono ?_);(first|with_reducible assumption|with_reducible exact hbd);rintro e w11 ⟨rfl,ue⟩;have hc11:=PT.out _ _ (by assumption) ue;clear ue))
      all_goals
       rw [←xO]
       go_wp2_with fail
       go_meet
       exact⟨rfl,hc11⟩
     case rest =>
      obtain⟨rfl,hbc⟩:=hcut
      have C0:=(hbc.block (wr.heap.size+1+1+1) (by omega)).trans Ni.out
      have hsc:=hbc.size
      have P4:=h_ C0
      have EW:=h_ (Ev.keeps _ _ _ hbc Hc.out)
      have NX:=h_ (aH Qa.out hbc)
      have Ik:=h_ (zY.out.trans (hbc.mono (by omega)))
      have kc:∀ j,wc.cell? ⟨wr.heap.size+1+1+1,j,none⟩=_:=fun j=>Su _ _ j _ 50 (0,0) C0
      have fcz:∀ j,wc.frozen? ⟨wr.heap.size+1+1+1,j,none⟩=false:=fun j=>by simp [SE,C0]
      clear hbc C0 k3 k5 hbd Af PT xO
      go_upto_if 106 with fail
      go_cut [17] (fun fh wx=>K2 (fZ m.rG (uc,fs)) wr fh wx)
      case first =>
       by_cases h0:E=0
       · obtain rfl:Bt=false:=by have:=DB.out;rw [this,h0];rfl
         have HP:=h_ (show fZ m.rG (uc,fs)=((⟨yid,yin,yout,yreg,ykind,ysp,yxa,yxc,yxr⟩:Ev).c,fs) from by rw [←HYC.out];exact IS (by rw [←HMR.out,←HEC.out];exact h0))
         clear DB h0
         go_wp2_with fail
         go_meet
         exact⟨(⟨yid,yin,yout,yreg,ykind,ysp,yxa,yxc,yxr⟩:Ev),fs,HP.out,EW.out,M1.out,fun b hb=>by have:=zS.out b hb;omega,P4.out,NX.out,xT.out,Ik.out⟩
       · obtain rfl:Bt=true:=by have:=DB.out;rw [this];simpa using h0
         have HP:=h_ (show fZ m.rG (uc,fs)=((⟨yid,yin,yout,aG,ykind,ysp,yxa,yxc,yxr⟩:Ev).c,if mn bf fs=true then fs else fs++[bf]) from by rw [←HYC.out];exact FN (y:=(⟨yid,yin,yout,yreg,ykind,ysp,yxa,yxc,yxr⟩:Ev)) (by rw [←HMR.out,←HEC.out];exact h0))
         have PL:=h_ (show(⟨yid,yin,yout,aG,ykind,ysp,yxa,yxc,yxr⟩:Ev).fits from⟨M1.out.1,M1.out.2.1,M1.out.2.2.1,(show aG.size≤4000000 by decide),M1.out.2.2.2.2⟩)
         have hks:∀ b,b≠wr.heap.size+1+1+1→(wc.setCell ⟨wr.heap.size+1+1+1,3,none⟩ (.string ⟨#[]⟩)).heap[b]? =wc.heap[b]?:=fun b h=>SA _ _ _ _ h
         have hrs:(wc.setCell ⟨wr.heap.size+1+1+1,3,none⟩ (.string ⟨#[]⟩)).heap[wr.heap.size+1+1+1]? =some (.cells (⟨yid,yin,yout,aG,ykind,ysp,yxa,yxc,yxr⟩:Ev).enc.toArray 50 (0,0)):=by
          rw [Sv _ _ _ _ _ _ P4.out,put3]
          rfl
         have hbs:Sz wr.heap.size wr (wc.setCell ⟨wr.heap.size+1+1+1,3,none⟩ (.string ⟨#[]⟩)):=SD Ik.out (by simp only;omega) _
         have hss:(wc.setCell ⟨wr.heap.size+1+1+1,3,none⟩ (.string ⟨#[]⟩)).heap.size=wc.heap.size:=by simp
         have HOS:=h_ (ah NX.out (fun b hb=>hks b (fun e=>xT.out (e▸hb))))
         have Qh:=h_ (show(⟨yid,yin,yout,aG,ykind,ysp,yxa,yxc,yxr⟩:Ev).lies (wc.setCell ⟨wr.heap.size+1+1+1,3,none⟩ (.string ⟨#[]⟩)) from Ev.frame (x:=(⟨yid,yin,yout,aG,ykind,ysp,yxa,yxc,yxr⟩:Ev)) EW.out (by omega) (fun b hb=>hks b (by have:=zS.out b hb;omega)))
         have zT:=h_ hrs
         have Ag:=h_ hbs
         have HSS:=h_ hss
         have HCT:=h_ (uq fa fcp fs bf (wc.setCell ⟨wr.heap.size+1+1+1,3,none⟩ (.string ⟨#[]⟩)) (Ir HOS.out) (by omega))
         have hne3:wr.heap.size+4≤wc.heap.size:=by omega
         simp only [bf] at HCT
         clear DB hks hrs hbs hss h0
         go_wp2_with fail
         refine HCT.out.mono ?_
         rintro e w12 ⟨rfl,Gm⟩
         have OH:=(Gm.block (wr.heap.size+1+1+1) (by rw [HSS.out];omega)).trans zT.out
         have Nh:=h_ OH
         have Nr:=h_ (Ev.keeps _ _ _ Gm Qh.out)
         have Nn:=h_ (aH HOS.out Gm)
         have Nw:=h_ (Ag.out.trans (Gm.mono (by rw [HSS.out];omega)))
         have Mj:=Nw.out.size
         clear Gm OH HCT HOS Qh zT kc fcz
         have hHH:mn bf fs=mn ⟨#[82,69,71,73,79,78]⟩ fs:=rfl
         rw [hHH] at HP
         generalize mn ⟨#[82,69,71,73,79,78]⟩ fs=H at *
         cases H with
         | true =>
           go_wp2_with fail
           go_meet
           exact⟨(⟨yid,yin,yout,aG,ykind,ysp,yxa,yxc,yxr⟩:Ev),fs,HP.out,Nr.out,PL.out,fun b hb=>by have:=zS.out b hb;omega,Nh.out,Nn.out,xT.out,Nw.out⟩
         | false =>
           go_wp2_with (at_builtin;refine aI _ _ rfl (.tmp 111) (.tmp 112) 55 rfl wr.heap.size 9 j0 _ 1 16 Tryz.underlying55 JI.out J0.out J1.out J2.out rfl (by decide) _ _ _ rfl Nn.out _ rfl rfl rfl ?h1 ?h63 ?hb ?hbase ?_)
           case h1=>first|rfl|(intro u hu;simp at hu;subst hu;rfl)
           case h63=>unfold maxLen;omega
           case hb=>omega
           case hbase=>exact Mj
           intro v' w13 Ga Jh Kx
           have wW:wr.heap.size+1+1+1<w12.heap.size:=(Te.1 Nh.out).1
           have Mp:∀ b,b<w12.heap.size→(SK fa fs.length fcp).ownBlock≠some b→w13.heap[b]? =w12.heap[b]?:=fun b h1 h2=>(Jh.block b (by simp;omega) (fun e=>h2 e.symm)).trans (SB _ _ _ h1)
           have HE:=h_ (show K2 (fZ m.rG (uc,fs)) wr v' w13 from⟨(⟨yid,yin,yout,aG,ykind,ysp,yxa,yxc,yxr⟩:Ev),fs++[bf],HP.out,Ev.frame Nr.out (Tc (by simp) Jh.size) (fun b hb=>Mp b (Ev.uses_lt Nr.out hb) (PW.out b hb)),PL.out,fun b hb=>by have:=zS.out b hb;omega,(Mp _ wW xT.out).trans Nh.out,by simpa [bf] using Ga,by
            rcases Kx with h|h
            · rw [h];exact xT.out
            · rw [h];simp;omega,(Nw.out.alloc Mj _).grown Jh (Tc Mj (by simp)) (fun j hj=>(Nn.out.lt j hj).1)⟩)
           clear Ga Jh Kx Mp
           go_wp2_with fail
           go_meet
           exact HE.out
      case rest =>
       obtain⟨z,fz,hp,Ow,Ox,hzu,hrow,hown,hne,hb6⟩:=hcut
       have nw:=h_ (lF.out z (by rw [hp]) Ox)
       rw [hp] at nw
       have hfz:fz.length≤6:=by
        have h1:=yM m.rG (uc,fs)
        rw [hp] at h1
        simp only at h1
        omega
       obtain⟨va6,vc6,rfl⟩:=kf hown
       have PK:=h_ Ow
       have HZU:=h_ hzu
       have HOW:=h_ hown
       have QK:=h_ hb6
       have uT:=h_ (HAT.out.later hb6)
       have hs6:=hb6.size
       have h36:wr.heap.size+1+1+1<wc.heap.size:=(Te.1 hrow).1
       have Hf:=h_ hrow
       clear hp Ow Ox hzu hown hne hb6 DB lF P4 EW NX Ik M1 HYC Hc Qa zS zY Ni DC HEC uQ HUF HUC xT PW kc fcz
       obtain⟨zid,zin,zout,zreg,zkind,zsp,zxa,zxc,zxr⟩:=z
       simp only [Ev.enc] at Hf
       obtain⟨ka,kc,tE⟩:=uT.out.row6.slice
       have hg6:=uT.out.glt
       have c5:wc.cell? ⟨g,6,none⟩=some (.slice ka m1.eV.length kc):=by
        rw [Su _ _ 6 m1.arr 142 (0,0) uT.out.cells,←tE];rfl
       have c5':∀ o,(wc.alloc o).cell? ⟨g,6,none⟩=some (.slice ka m1.eV.length kc):=fun o=>by
        rw [SF _ _ _ (by simpa using hg6)];exact c5
       have db:∀ j,wc.cell? ⟨wr.heap.size+1+1+1,j,none⟩=_:=fun j=>Su _ _ j _ 50 (0,0) Hf.out
       have db':∀ o j,(wc.alloc o).cell? ⟨wr.heap.size+1+1+1,j,none⟩=_:=fun o j=>(SF _ _ _ (by simpa using h36)).trans (db j)
       have mixed:Tryz.prog.follows Departure.mixedOrders=true:=by kernel_rfl
       have kH:=h_ (fun(o:Obj)=>(show(wc.alloc o).drew.ownsRow B 50 7 (.slice ka m1.eV.length kc) m1.eV.length (m1.eV.flatMap Ev.enc) from tE▸uT.out.eV.alloc o))
       have HN:=h_ (wG wc [SJ .i64 zid,.int .i64 zin,.int .i64 zout,.string zreg,.int .u8 zkind,.string zsp,.slice zxa zxr.length zxc] 50)
       have h63:=h_ (show m1.eV.length+1≤maxLen by unfold maxLen;omega)
       have Ag:=h_ (fun(o:Obj)=>(show B≤(wc.alloc o).drew.heap.size from by show B≤(wc.alloc o).heap.size;simp;omega))
       have H5:=h_ (show m1.arr[6]? =some (.slice ka m1.eV.length kc) from tE▸rfl)
       have HRW:=h_ (show lk 142 6 50 7 B g m1.arr (.slice ka m1.eV.length kc) m1.eV.length (m1.eV.flatMap Ev.enc) wc from tE▸uT.out.row6)
       have Io:=h_ (fun(o:Obj) (v':Sy) (w2:Sw)=>mO (v':=v') (w2:=w2) (m:=m1.eV.length+1) (ys:=m1.eV.flatMap Ev.enc++[SJ .i64 zid,.int .i64 zin,.int .i64 zout,.string zreg,.int .u8 zkind,.string zsp,.slice zxa zxr.length zxc]) HRW.out (wH wc o))
       have one7:=h_ (Ev.one (⟨zid,zin,zout,zreg,zkind,zsp,zxa,zxc,zxr⟩:Ev))
       simp only [Ev.enc] at one7
       have HF:=h_ (fun(v':Sy) (w2:Sw) (ho:w2.ownsRow B 50 7 v' (m1.eV.length+1) (m1.eV.flatMap Ev.enc++[SJ .i64 zid,.int .i64 zin,.int .i64 zout,.string zreg,.int .u8 zkind,.string zsp,.slice zxa zxr.length zxc])) hg' hap hk hf=>(show(∃ ev',({ m1 with ev:=ev',eV:=m1.eV++[(⟨zid,zin,zout,zreg,zkind,zsp,zxa,zxc,zxr⟩:Ev)] }:Mg).at_ B g (w2.setCell ⟨g,6,none⟩ v')∧Mg.step g m1 { m1 with ev:=ev',eV:=m1.eV++[(⟨zid,zin,zout,zreg,zkind,zsp,zxa,zxc,zxr⟩:Ev)] } wc (w2.setCell ⟨g,6,none⟩ v'))∧Kept (mOwn g m1.ev) wc (w2.setCell ⟨g,6,none⟩ v') from by
        have hrp:jq 142 6 50 7 B g m1.arr m1.ev (m1.eV++[(⟨zid,zin,zout,zreg,zkind,zsp,zxa,zxc,zxr⟩:Ev)]).length ((m1.eV++[(⟨zid,zin,zout,zreg,zkind,zsp,zxa,zxc,zxr⟩:Ev)]).flatMap Ev.enc) wc (w2.setCell ⟨g,6,none⟩ v'):=tE▸mN (m:=(m1.eV++[(⟨zid,zin,zout,zreg,zkind,zsp,zxa,zxc,zxr⟩:Ev)]).length) (ys:=(m1.eV++[(⟨zid,zin,zout,zreg,zkind,zsp,zxa,zxc,zxr⟩:Ev)]).flatMap Ev.enc) HRW.out (by simpa [Ev.enc] using ho) hg' hap hk hf
        refine⟨uT.out.evt HAT.out QK.out PK.out HZU.out hrp,?_⟩
        obtain⟨_,_,q,_⟩:=hrp
        exact q))
       clear Hf
       go_upto_region 24 with fail
       go_region_law_o (refine oM rfl (.tmp 119) (.tmp 121) 24 rfl B 50 i0 _ 7 88 Tryz.underlying24 II.out I0.out I1.out I2.out rfl (by decide) (.slice ka m1.eV.length kc) m1.eV.length (m1.eV.flatMap Ev.enc) (by rfl) (kH.out _) ⟨wc.heap.size,0,none⟩ 1 1 [SJ .i64 zid,.int .i64 zin,.int .i64 zout,.string zreg,.int .u8 zkind,.string zsp,.slice zxa zxr.length zxc] (by rfl) rfl HN.out one7.out h63.out (by omega) (Ag.out _) ?_;intro v' w2 hown2 hgrow2 lg;obtain⟨hv',hgc,hap,hkp,hfr⟩:=Io.out _ _ _ hown2 hgrow2 lg;obtain⟨va,vc,rfl⟩:=hv';have c5n:w2.cell? ⟨g,6,none⟩=some (.slice ka m1.eV.length kc):=(Su _ _ 6 m1.arr 142 (0,0) hgc).trans H5.out;have z5n:w2.frozen? ⟨g,6,none⟩=false:=(by simp [SE,hgc]);have Cp:=h_ hown2;have N0:=h_ hgc;have Im:=h_ hap;have JW:=h_ hkp;have tK:=h_ hfr;clear hown2 hgrow2 lg hgc hap hkp hfr)
       all_goals
        obtain⟨⟨ev',q1,q2⟩,q3⟩:=HF.out _ _ Cp.out N0.out Im.out JW.out tK.out
        have hgr:g<wr.heap.size:=HAT.out.glt
        have hog:=HOW.out
        have RH:=h_ (ah HOW.out (fun b hb=>q3.block b (HOW.out.lt b hb).2 (fun hm=>by
         have h1:=(HOW.out.lt b hb).1
         rcases hm with rfl|hm
         · omega
         · have:=(HAT.out.eV.lt b hm).2
           omega)))
        have Dz:=h_ (fun b (hb:(SK va6 fz.length vc6).ownBlock=some b) (hm:Mg.mine g { m1 with ev:=ev',eV:=m1.eV++[(⟨zid,zin,zout,zreg,zkind,zsp,zxa,zxc,zxr⟩:Ev)] } b)=>(show False from by
         have h1:=HOW.out.lt b hb
         rcases q2.2 b hm with h2|h2
         · have:=HAT.out.mine_lt h2
           omega
         · omega))
        obtain⟨m2,hm2⟩:∃ m2:Mg,m2={ m1 with ev:=ev',eV:=m1.eV++[(⟨zid,zin,zout,zreg,zkind,zsp,zxa,zxc,zxr⟩:Ev)] }:=⟨_,rfl⟩
        have QA:=h_ (show ∀ (kv':Sy) (w':Sw),({ m2 with kv:=kv',cls:=m2.cls++lU id fz }:Mg).at_ B g w'→Mg.step g m1 { m2 with kv:=kv',cls:=m2.cls++lU id fz } wr w'→ER (xs.map Ev.c) (ys.map Ev.c) (zs.map Ev.c) m B g ids w5 (k+1) w' from fun kv' w' p1 p2=>by
         subst hm2
         exact nw.out ev' kv' w' p1 p2)
        rw [←hm2] at q1 q2 Dz
        have hm2c:m2.cls.length≤30000:=by rw [hm2];exact Jd
        have Q2:=h_ ((Mg.step.of_below QK.out).trans q2)
        generalize w2.setCell ⟨g,6,none⟩ (.slice va (m1.eV.length+1) vc)=W13 at *
        have Q1:=h_ q1
        have hB13:B≤W13.heap.size:=by have:=q2.1.size;omega
        have PV:=h_ (show ∃ kv',({ m2 with kv:=kv',cls:=m2.cls++lU id (fz.take 0) }:Mg).at_ B g W13∧Mg.step g m2 { m2 with kv:=kv',cls:=m2.cls++lU id (fz.take 0) } W13 W13 from by
         have e0:lU id (fz.take 0)=[]:=rfl
         refine⟨m2.kv,?_,?_⟩
         · rw [e0,SO];exact q1
         · rw [e0,SO];exact Mg.step.refl _ _ _)
        clear hog q1 q2 q3 hm2 HF nw Cp N0 Im JW tK c5n z5n c5 c5' db db' kH HN Ag H5 HRW Io one7 tE HAT
        go_wp2_with fail
        go_loopw [128] (fun i wq=>∃ j:Nat,j≤fz.length∧i=.int .i64 j∧∃ kv',({ m2 with kv:=kv',cls:=m2.cls++lU id (fz.take j) }:Mg).at_ B g wq∧Mg.step g m2 { m2 with kv:=kv',cls:=m2.cls++lU id (fz.take j) } W13 wq) (fun i _=>fz.length-(intOf i).toNat)
        case atStart=>exact⟨0,by omega,rfl,PV.out⟩
        case round =>
         clear PV
         obtain⟨j,hj,rfl,kv',hat,hst⟩:=hrel
         by_cases hjl:j<fz.length
         · obtain⟨f,hf⟩:∃ f,fz[j]? =some f:=⟨_,SW hjl⟩
           obtain⟨fb,fc,ln⟩:∃ q c,(SK va6 fz.length vc6)=.slice (some ⟨q,0,none⟩) fz.length c:=kZ RH.out (by omega)
           obtain⟨rfl,_,rfl⟩:=Ta ln
           have hcf:wr.cell? ⟨fb,j,none⟩=some (.string f):=by
            rw [hst.1.cell (RH.out.lt fb rfl).2 (fun hm=>Dz.out fb rfl hm),RH.out.cellAt j (by omega)]
            simp [hf]
           have hcap:fz.length≤vc6:=by
            rcases RH.out.2 with⟨h0,_⟩|⟨g',cap,cur,h0,_,_,hnc,_⟩
            · simp at h0
            · simp only [Tb] at h0
              obtain⟨_,_,rfl⟩:=h0
              exact hnc
           have ud:(lU id (fz.take j)).length≤6:=by
            unfold lU
            rw [SU,S7]
            omega
           have hBq:B≤wr.heap.size:=Tc hB13 hst.1.size
           have qX:=h_ (show Calls Tryz.prog 130 #[.pointer (some ⟨g,0,none⟩),.bool true,.agg #[.int .u8 3,.int .i64 id,.string ⟨#[]⟩,.string f]] wr (qZ B g _ _ _ wr) from lW B g _ _ _ true ⟨3,id,aG,f⟩ wr hat.row8 hBq (by simp only [S5];omega))
           have HAT3:=h_ hat
           have HST3:=h_ hst
           have HSN:=h_ (Et (id:=id) hf)
           clear hat hst hf
           go_wp2_with fail
           refine qX.out.mono ?_
           rintro e wA ⟨rfl,hp⟩
           obtain⟨kv2,p1,p2⟩:=HAT3.out.clash hp
           have HE:=h_ (show ∃ kv',({ m2 with kv:=kv',cls:=m2.cls++lU id (fz.take (j+1)) }:Mg).at_ B g wA∧Mg.step g m2 { m2 with kv:=kv',cls:=m2.cls++lU id (fz.take (j+1)) } W13 wA from by
            rw [HSN.out,←SR]
            exact⟨kv2,p1,HST3.out.trans p2⟩)
           clear hp p1 p2 qX
           go_wp2_with fail
           go_roundw
           case rel=>exact⟨j+1,by omega,by go_num,HE.out⟩
           case measure=>simp [intOf];omega
         · obtain rfl:j=fz.length:=by omega
           rw [S6] at hat hst
           have HE:=h_ (QA.out kv' wr hat (Q2.out.trans hst))
           clear hat hst
           go_wp2_with fail
           go_roundw
           case rel=>exact⟨k+1,by omega,by go_num,HE.out⟩
           case measure=>simp [intOf];omega
  · obtain rfl:k=ids.length:=by omega
    obtain⟨ev,eV,kv,q1,q2,q3,q4⟩:=HQ.out _ hrel
    have hel:eV.length≤3000:=by
     have h1:=congrArg S_ q3
     have h2:=(mT m.rG (xs.map Ev.c) (ys.map Ev.c) (zs.map Ev.c) ids).1
     rw [SU] at h1
     omega
    obtain⟨ea,ec,O2,hS⟩:=ay (k:=7) (enc:=Ev.enc) (Ok:=Ev.lies) (fun _=>rfl) q1.eV q1.each
    simp only at O2
    subst O2
    have HSO:=h_ (xk ea ec eV wr hS q4 (by omega))
    have g6:wr.cell? ⟨g,6,none⟩=some (.slice ea eV.length ec):=Su _ _ 6 _ 142 (0,0) q1.cells
    have hBr:B≤wr.heap.size:=by have:=q2.1.size;omega
    have Q1:=h_ q1
    have Q2:=h_ q2
    have Q4:=h_ q4
    have hpw:=HASC.out
    rw [←q3] at hpw
    have HPW:=h_ hpw
    have Q3:=h_ q3
    clear q1 q2 q3 q4 hS hpw hrel
    go_wp2_with fail
    refine HSO.out.mono ?_
    rintro e w9 ⟨v,ys',rfl,hgr,hperm,hsrt⟩
    obtain⟨sa,sc,rfl⟩:=kf hgr.1
    have h9:=Q1.out.later hgr.2.2
    obtain⟨f1,f2⟩:=h9.sorted Q1.out hgr.2.2 hgr hBr
    have HE:=h_ (aA.out _ _ f1 (Q2.out.trans f2) ⟨_,_,_,rfl⟩ ((Fi hperm hsrt HPW.out).trans (by rw [Q3.out])) (fun y hy=>by
     have h1:y.c∈eV.map Ev.c:=hperm.subset (SX.2 ⟨y,hy,rfl⟩)
     obtain⟨x,hx,hxy⟩:=SX.1 h1
     exact(Ev.fits_c y).1 (hxy▸(Ev.fits_c x).2 (Q4.out x hx))))
    have g9:w9.cell? ⟨g,6,none⟩=some (.slice ea eV.length ec):=Su _ _ 6 _ 142 (0,0) h9.cells
    have z9:w9.frozen? ⟨g,6,none⟩=false:=by simp [SE,h9.cells]
    clear hgr hperm hsrt h9 f1 f2
    go_wp2_with fail
    go_end0
    exact HE.out
theorem sE (k:Int):∀ (l:List Ev)(i:Nat),(lJ (iI k) l i=-1∧aj (l.map Ev.c) k=none)∨∃ (j:Nat)(x:Ev),lJ (iI k) l i=((i+j:Nat):Int)∧l[j]? =some x∧aj (l.map Ev.c) k=some x.c
 | [],i=>.inl ⟨rfl,rfl⟩
 | x::l,i=>by
   by_cases h:x.id=k
   · have h1:iI k x=true:=by simp [iI,h]
     have h2:evAt k x.c=true:=by simp [evAt,Ev.c,h]
     refine .inr ⟨0,x,?_,rfl,?_⟩
     · simp only [lJ,h1,if_true,Nat.add_zero]
     · unfold aj
       rw [S9,S8,h2]
   · have h1:iI k x=false:=by simp [iI,h]
     have h2:evAt k x.c=false:=by simp [evAt,Ev.c,h]
     have e1:lJ (iI k) (x::l) i=lJ (iI k) l (i+1):=by simp [lJ,h1]
     have e2:aj ((x::l).map Ev.c) k=aj (l.map Ev.c) k:=by
      unfold aj
      rw [S9,S8,h2]
     rw [e1,e2]
     rcases sE k l (i+1) with h|⟨j,y,h3,h4,h5⟩
     · exact .inl h
     · exact .inr ⟨j+1,y,by rw [h3];congr 1;omega,by simpa using h4,h5⟩
theorem lI (d:Doc)(k:Int):(posOf (iI k) d.eV=-1∧aj d.c.eV k=none)∨∃ (j:Nat)(x:Ev),posOf (iI k) d.eV=(j:Int)∧d.eV[j]? =some x∧aj d.c.eV k=some x.c:=by
 have h:=sE k d.eV 0
 simp only [Nat.zero_add] at h
 exact h
theorem EA {xs ys:List Reg} {k:ByteArray} {c:ChgC} (h:c∈bH xs ys k):c.sec≠3:=by
 unfold bH at h
 split at h
 · obtain rfl:=SN.1 h
   show(2:Int)≠3
   decide
 · cases h
theorem GZ {xs ys:List Cm} {k:Int} {c:ChgC} (h:c∈ng xs ys k):c.sec≠3:=by
 unfold ng at h
 split at h
 · obtain rfl:=SN.1 h
   show(4:Int)≠3
   decide
 · cases h
theorem B_ {x y:Hd} {c:ChgC} (h:c∈jn x y):c.sec≠3:=by
 unfold jn at h
 split at h
 · cases h
 · obtain rfl:=SN.1 h
   show(1:Int)≠3
   decide
theorem CW (l:List Ev)(k:Int):(l.find? (evIs k)).isSome=(aj (l.map Ev.c) k).isSome:=by
 rw [lS]
 show _=(Option.map Ev.c (l.find? (evIs k))).isSome
 cases l.find? (evIs k)<;>rfl
theorem PF {x y:Doc} {c:ChgC} (h:c∈chgs x y)(hs:c.sec=3):c.added=!(aj x.c.eV c.id).isSome∧c.gone=!(aj y.c.eV c.id).isSome∧(∀ e,aj y.c.eV c.id=some e→c.ne=e)∧¬ (c.added=true∧c.gone=true):=by
 unfold chgs zL at h
 rcases SQ.1 h with h|h
 · exact absurd hs (B_ h)
 rcases SQ.1 h with h|h
 · obtain⟨k,_,hk⟩:=SS.1 h
   exact absurd hs (EA hk)
 rcases SQ.1 h with h|h
 · obtain⟨k,_,hk⟩:=SS.1 h
   unfold kt at hk
   split at hk
   · rename_i hc
     obtain rfl:=SN.1 hk
     have e1:(x.eV.find? (evIs k)).isSome=(aj x.c.eV k).isSome:=CW x.eV k
     have e2:(y.eV.find? (evIs k)).isSome=(aj y.c.eV k).isSome:=CW y.eV k
     refine⟨by simp only [e1],by simp only [e2],?_,?_⟩
     · intro e he
       have h3:aj (y.eV.map Ev.c) k=some e:=he
       rw [lS] at h3
       obtain⟨z,hz,rfl⟩:=Option.map_eq_some_iff.1 h3
       have hz':y.eV.find? (evIs k)=some z:=hz
       show((y.eV.find? (evIs k)).getD aJ).c=z.c
       rw [hz']
       rfl
     · rintro ⟨a1,a2⟩
       cases p1:x.eV.find? (evIs k) with
       | some v=>rw [p1] at a1;cases a1
       | none =>
         cases p2:y.eV.find? (evIs k) with
         | some v=>rw [p2] at a2;cases a2
         | none =>
           rw [p1,p2] at hc
           have h0:evEq aJ aJ=true:=by kernel_rfl
           have h1:((none:Option Ev).isSome != (none:Option Ev).isSome||!evEq ((none:Option Ev).getD aJ) ((none:Option Ev).getD aJ))=!evEq aJ aJ:=rfl
           rw [h1,h0] at hc
           cases hc
   · cases hk
 · obtain⟨k,_,hk⟩:=SS.1 h
   exact absurd hs (GZ hk)
theorem On {x y z:Doc} {c:ChgC} (he:fL x.c y.c z.c=0)(h:c∈chgs x y)(hs:c.sec=3)(ht:c.added=true∨∃ e,aj x.c.eV c.id=some e∧aj z.c.eV c.id=some e)(hc:aO (mgCl x.c y.c z.c) c.id=false) :
 (c.gone=true∧aj (jm x.c y.c z.c).eV c.id=none)∨(c.gone=false∧aj (jm x.c y.c z.c).eV c.id=some c.ne):=by
 obtain⟨h1,h2,h3,h4⟩:=PF h hs
 cases hx:aj x.c.eV c.id with
 | none =>
   have ha:c.added=true:=by rw [h1,hx];rfl
   cases hy:aj y.c.eV c.id with
   | none=>exact absurd ⟨ha,by rw [h2,hy];rfl⟩ h4
   | some v =>
     refine .inr ⟨by rw [h2,hy];rfl,?_⟩
     rw [h3 v hy]
     exact BG he hx hy hc
 | some u =>
   have ha:c.added=false:=by rw [h1,hx];rfl
   obtain⟨e,q1,q2⟩:=ht.resolve_left (by rw [ha];decide)
   rw [hx] at q1
   cases q1
   cases hy:aj y.c.eV c.id with
   | none=>exact .inl ⟨by rw [h2,hy];rfl,D9 he hx hy q2 hc⟩
   | some v =>
     refine .inr ⟨by rw [h2,hy];rfl,?_⟩
     rw [h3 v hy]
     exact pb he hx hy q2 hc
theorem LI {x y z:DocC} {e:EvC} (he:fL x y z=0)(hx:e∈x.eV)(hy:aj y.eV e.id=some e)(hz:aj z.eV e.id=some e)(hc:aO (mgCl x y z) e.id=false):aj (jm x y z).eV e.id=some e:=by
 have hq:aj x.eV e.id=some e:=by
  cases hf:aj x.eV e.id with
  | none=>exact absurd ⟨e,hx,rfl⟩ (lR hf)
  | some u =>
    obtain⟨q1,q2⟩:=bw hf
    rw [BK (G0 (lM he).1).ids q1 hx q2]
 exact pb he hq hy hz hc
end Go.Proofs.YtnlnmbcaongehaaGreatDoor
