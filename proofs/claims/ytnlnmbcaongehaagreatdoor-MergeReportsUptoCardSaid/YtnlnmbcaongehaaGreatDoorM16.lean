/- merge.value and merge.equal at structs, and at rows. (printed by gen_mgval2.py) A row of the call's own in a cell of a block of the call's own: append through that cell. -/
import Derived.Test.YtnlnmbcaongehaaGreatDoorM11
set_option linter.unusedVariables false
set_option linter.unusedSimpArgs false
set_option maxRecDepth 100000
set_option maxHeartbeats 12800000
open Go.Lib renaming hid→h_
open Go renaming bodyPost_ret→fm,cell_of_row→fp,World→ft,Value→fu,heap_alloc_last→fw,Calls→fB
open Go.RowKit renaming Below→fC
open Go.RowKit.Below renaming setCell→fD,heap_alloc→fE,refl→fF
open Nat renaming le_refl→fG
open Go.World renaming size_alloc→fH,frozen?→fI
open Go.Value renaming int→fJ,string→fK
open Array renaming getElem?_setIfInBounds→fL,getElem?_eq_some_iff→fM,ext_getElem?→fN
namespace Go.Proofs.YtnlnmbcaongehaaGreatDoor
open Go.RowKit
theorem aS (w:ft)(o1 o2 o3 o4:Obj):fC w.heap.size w ((((w.alloc o1).alloc o2).alloc o3).alloc o4):=((((fF _ _).alloc (fG _) _).alloc (by simp) _).alloc (by simp;try omega) _).alloc (by simp;try omega) _
theorem dN (w:ft)(xs ys zs ns:Array fu)(T:TypeId)(wx:ft)(h:fC (w.heap.size+4) ((((w.alloc (.cells xs T)).alloc (.cells ys T)).alloc (.cells zs T)).alloc (.cells ns T)) wx) :
 wx.heap[w.heap.size]? =some (.cells xs T (0,0))∧wx.heap[w.heap.size+1]? =some (.cells ys T (0,0))∧wx.heap[w.heap.size+1+1]? =some (.cells zs T (0,0))∧wx.heap[w.heap.size+1+1+1]? =some (.cells ns T (0,0)):=by
 refine⟨?_,?_,?_,?_⟩
 · rw [h.block _ (by omega),fE _ _ _ (by simp;try omega),fE _ _ _ (by simp;try omega),fE _ _ _ (by simp)]
   exact fw w _
 · rw [h.block _ (by omega),fE _ _ _ (by simp;try omega),fE _ _ _ (by simp)]
   have:=fw (w.alloc (.cells xs T)) (.cells ys T)
   rwa [fH] at this
 · rw [h.block _ (by omega),fE _ _ _ (by simp)]
   have:=fw ((w.alloc (.cells xs T)).alloc (.cells ys T)) (.cells zs T)
   rwa [fH,fH] at this
 · rw [h.block _ (by omega)]
   have:=fw (((w.alloc (.cells xs T)).alloc (.cells ys T)).alloc (.cells zs T)) (.cells ns T)
   rwa [fH,fH,fH] at this
def ay (x:Int × Bool):Array fu:=#[.int .u8 x.1,.bool x.2]
def ax (x:Int × Int):Array fu:=#[.int .i64 x.1,.int .i64 x.2]
def aD (x:Int × Int × Int × Bool):Array fu:=#[.int .i64 x.1,.int .i64 x.2.1,.int .i64 x.2.2.1,.bool x.2.2.2]
def anc4 (x y:Int × Int × Int × Bool):Bool:=x.1==y.1&&(x.2.1==y.2.1&&(x.2.2.1==y.2.2.1&&x.2.2.2==y.2.2.2))
def aF (x:Reg × Bool):Array fu:=#[.string x.1.name,.int .i64 x.1.top,.int .i64 x.1.height,.int .i64 x.1.left,.int .i64 x.1.width,.int .u8 x.1.align,.bool x.1.bottom,.bool x.2]
def may8 (x y:Reg × Bool):Bool:=d_ x.1 y.1&&x.2==y.2
theorem zka (x y:(Int × Bool))(w:ft):(binOp .eql 193 (.agg (ay x)) (.agg (ay y))).run Tryz.prog w=.ok (.bool (bV x y)) w:=by
 obtain⟨x0,x1⟩:=x
 obtain⟨y0,y1⟩:=y
 simp [go_sem,ay,bV]
 repeat' split
 all_goals simp_all
theorem zcR (x y:(Int × Bool))(w:ft):fB Tryz.prog 132 #[.agg (ay x),.agg (ay y)] w fun e w'=>e=.returned (.bool (bV x y))∧fC w.heap.size w w':=by
 have hq:=fun wx=>zka x y wx
 generalize bV x y=E at *
 obtain⟨x0,x1⟩:=x
 obtain⟨y0,y1⟩:=y
 simp only [ay] at *
 have hb:∀ o o',fC w.heap.size w ((w.alloc o).alloc o'):=fun o o'=>((fF _ _).alloc (fG _) _).alloc (by simp) _
 go_enter Tryz.func132,Tryz.ntmps132
 go_wp2_with fail
 go_ret
 exact⟨rfl,hb _ _⟩
theorem zcj (x y z:(Int × Bool))(w:ft):fB Tryz.prog 131 #[.agg (ay x),.agg (ay y),.agg (ay z),.func (.func 132) #[] #[]] w fun e w'=>e=.returned (.tuple #[.agg (ay (ai bV x y z).1),.bool (ai bV x y z).2])∧fC w.heap.size w w':=by
 have HE:=h_ (fun(a b:(Int × Bool)) (w1:ft)=>zcR a b w1)
 generalize hQ:(fun(e:Ending) (w':ft)=>e=.returned (.tuple #[.agg (ay (ai bV x y z).1),.bool (ai bV x y z).2])∧fC w.heap.size w w')=Q
 have HQ:=h_ (fun(p:(Int × Bool) × Bool) (hp:ai bV x y z=p) w' (hb:fC w.heap.size w w')=>show Q (.returned (.tuple #[.agg (ay p.1),.bool p.2])) w' from hQ▸⟨by rw [hp],hb⟩)
 clear hQ
 have HV:=h_ (fun wx (h:fC (w.heap.size+4) ((((w.alloc (.cells (ay x) 193)).alloc (.cells (ay y) 193)).alloc (.cells (ay z) 193)).alloc (.cells #[fJ .u8 0,.bool false] 193)) wx)=>dN w (ay x) (ay y) (ay z) #[fJ .u8 0,.bool false] 193 wx h)
 have HB:=h_ (fun wx (h:fC (w.heap.size+4) ((((w.alloc (.cells (ay x) 193)).alloc (.cells (ay y) 193)).alloc (.cells (ay z) 193)).alloc (.cells #[fJ .u8 0,.bool false] 193)) wx)=>(show fC w.heap.size w wx from(aS w _ _ _ _).trans (h.mono (by omega))))
 have hsz:((((w.alloc (.cells (ay x) 193)).alloc (.cells (ay y) 193)).alloc (.cells (ay z) 193)).alloc (.cells #[fJ .u8 0,.bool false] 193)).heap.size=w.heap.size+4:=by simp
 have h1:ai bV x y z=(if bV y z=true then (y,false) else if bV x z=true then (y,false) else if bV x y=true then (z,false) else (x,true)):=rfl
 have HYZ:=h_ (fun w1=>HE.out y z w1)
 have HXZ:=h_ (fun w1=>HE.out x z w1)
 have HXY:=h_ (fun w1=>HE.out x y w1)
 generalize bV y z=E1 at *
 generalize bV x z=E2 at *
 generalize bV x y=E3 at *
 have H1:=h_ h1
 clear h1 HE
 obtain⟨x0,x1⟩:=x
 obtain⟨y0,y1⟩:=y
 obtain⟨z0,z1⟩:=z
 simp only [ay] at HV HB hsz HYZ HXZ HXY ⊢
 generalize hW0:(((w.alloc (.cells #[fJ .u8 x0,.bool x1] 193)).alloc (.cells #[fJ .u8 y0,.bool y1] 193)).alloc (.cells #[fJ .u8 z0,.bool z1] 193)).alloc (.cells #[fJ .u8 0,.bool false] 193)=W0 at *
 have HW0:=h_ hW0
 have HSZ:=h_ hsz
 have hb0:fC (w.heap.size+4) W0 W0:=fF _ _
 have HT:=h_ (fun(w2 w3:ft) (h:fC (w.heap.size+4) W0 w2) (h3:fC w2.heap.size w2 w3)=>(h.trans (h3.mono (by have:=h.size;rw [HSZ.out] at this;exact this)):fC (w.heap.size+4) W0 w3))
 have fx:∀ wx,fC (w.heap.size+4) W0 wx→∀ j,wx.cell? ⟨w.heap.size,j,none⟩=_:=fun wx h j=>fp _ _ j _ 193 (0,0) (HV.out wx h).1
 have fy:∀ wx,fC (w.heap.size+4) W0 wx→∀ j,wx.cell? ⟨w.heap.size+1,j,none⟩=_:=fun wx h j=>fp _ _ j _ 193 (0,0) (HV.out wx h).2.1
 have fz:∀ wx,fC (w.heap.size+4) W0 wx→∀ j,wx.cell? ⟨w.heap.size+1+1,j,none⟩=_:=fun wx h j=>fp _ _ j _ 193 (0,0) (HV.out wx h).2.2.1
 have fn:∀ wx,fC (w.heap.size+4) W0 wx→∀ j,wx.cell? ⟨w.heap.size+1+1+1,j,none⟩=_:=fun wx h j=>fp _ _ j _ 193 (0,0) (HV.out wx h).2.2.2
 have zn:∀ wx,fC (w.heap.size+4) W0 wx→∀ j,wx.frozen? ⟨w.heap.size+1+1+1,j,none⟩=false:=fun wx h j=>by simp [fI,(HV.out wx h).2.2.2]
 clear hW0 hsz
 go_enter Tryz.func131,Tryz.ntmps131
 go_wp2_with fail
 rw [HW0.out]
 refine(HYZ.out _).mono ?_
 rintro e w1 ⟨rfl,hb1⟩
 have hc1:=HT.out _ _ hb0 hb1
 clear hb1
 cases E1 with
 | true =>
   go_wp2_with fail
   refine fm (v:=.tuple #[.agg (ay (y0,y1)),.bool false]) (by simp [results,Tryz.results131,go_sem,fn w1 hc1,ay]) rfl ?_
   refine HQ.out ((y0,y1),false) (by rw [H1.out];simp) _ ?_
   repeat refine fD ?_ (by simp;try omega) _
   exact HB.out _ hc1
 | false =>
   go_wp2_with fail
   refine(HXZ.out _).mono ?_
   rintro e w2 ⟨rfl,hb2⟩
   have hc2:=HT.out _ _ hc1 hb2
   clear hb2
   cases E2 with
   | true =>
     go_wp2_with fail
     refine fm (v:=.tuple #[.agg (ay (y0,y1)),.bool false]) (by simp [results,Tryz.results131,go_sem,fn w2 hc2,ay]) rfl ?_
     refine HQ.out ((y0,y1),false) (by rw [H1.out];simp) _ ?_
     repeat refine fD ?_ (by simp;try omega) _
     exact HB.out _ hc2
   | false =>
     go_wp2_with fail
     refine(HXY.out _).mono ?_
     rintro e w3 ⟨rfl,hb3⟩
     have hc3:=HT.out _ _ hc2 hb3
     clear hb3
     cases E3 with
     | true =>
       go_wp2_with fail
       refine fm (v:=.tuple #[.agg (ay (z0,z1)),.bool false]) (by simp [results,Tryz.results131,go_sem,fn w3 hc3,ay]) rfl ?_
       refine HQ.out ((z0,z1),false) (by rw [H1.out];simp) _ ?_
       repeat refine fD ?_ (by simp;try omega) _
       exact HB.out _ hc3
     | false =>
       go_wp2_with fail
       refine fm (v:=.tuple #[.agg (ay (x0,x1)),.bool true]) (by simp [results,Tryz.results131,go_sem,fn w3 hc3,ay]) rfl ?_
       refine HQ.out ((x0,x1),true) (by rw [H1.out];simp) _ ?_
       repeat refine fD ?_ (by simp;try omega) _
       exact HB.out _ hc3
theorem zj9 (x y:(Int × Int))(w:ft):(binOp .eql 46 (.agg (ax x)) (.agg (ax y))).run Tryz.prog w=.ok (.bool (bR x y)) w:=by
 obtain⟨x0,x1⟩:=x
 obtain⟨y0,y1⟩:=y
 simp [go_sem,ax,bR]
 repeat' split
 all_goals simp_all
theorem zcQ (x y:(Int × Int))(w:ft):fB Tryz.prog 197 #[.agg (ax x),.agg (ax y)] w fun e w'=>e=.returned (.bool (bR x y))∧fC w.heap.size w w':=by
 have hq:=fun wx=>zj9 x y wx
 generalize bR x y=E at *
 obtain⟨x0,x1⟩:=x
 obtain⟨y0,y1⟩:=y
 simp only [ax] at *
 have hb:∀ o o',fC w.heap.size w ((w.alloc o).alloc o'):=fun o o'=>((fF _ _).alloc (fG _) _).alloc (by simp) _
 go_enter Tryz.func197,Tryz.ntmps197
 go_wp2_with fail
 go_ret
 exact⟨rfl,hb _ _⟩
theorem zch (x y z:(Int × Int))(w:ft):fB Tryz.prog 196 #[.agg (ax x),.agg (ax y),.agg (ax z),.func (.func 197) #[] #[]] w fun e w'=>e=.returned (.tuple #[.agg (ax (ai bR x y z).1),.bool (ai bR x y z).2])∧fC w.heap.size w w':=by
 have HE:=h_ (fun(a b:(Int × Int)) (w1:ft)=>zcQ a b w1)
 generalize hQ:(fun(e:Ending) (w':ft)=>e=.returned (.tuple #[.agg (ax (ai bR x y z).1),.bool (ai bR x y z).2])∧fC w.heap.size w w')=Q
 have HQ:=h_ (fun(p:(Int × Int) × Bool) (hp:ai bR x y z=p) w' (hb:fC w.heap.size w w')=>show Q (.returned (.tuple #[.agg (ax p.1),.bool p.2])) w' from hQ▸⟨by rw [hp],hb⟩)
 clear hQ
 have HV:=h_ (fun wx (h:fC (w.heap.size+4) ((((w.alloc (.cells (ax x) 46)).alloc (.cells (ax y) 46)).alloc (.cells (ax z) 46)).alloc (.cells #[fJ .i64 0,.int .i64 0] 46)) wx)=>dN w (ax x) (ax y) (ax z) #[fJ .i64 0,.int .i64 0] 46 wx h)
 have HB:=h_ (fun wx (h:fC (w.heap.size+4) ((((w.alloc (.cells (ax x) 46)).alloc (.cells (ax y) 46)).alloc (.cells (ax z) 46)).alloc (.cells #[fJ .i64 0,.int .i64 0] 46)) wx)=>(show fC w.heap.size w wx from(aS w _ _ _ _).trans (h.mono (by omega))))
 have hsz:((((w.alloc (.cells (ax x) 46)).alloc (.cells (ax y) 46)).alloc (.cells (ax z) 46)).alloc (.cells #[fJ .i64 0,.int .i64 0] 46)).heap.size=w.heap.size+4:=by simp
 have h1:ai bR x y z=(if bR y z=true then (y,false) else if bR x z=true then (y,false) else if bR x y=true then (z,false) else (x,true)):=rfl
 have HYZ:=h_ (fun w1=>HE.out y z w1)
 have HXZ:=h_ (fun w1=>HE.out x z w1)
 have HXY:=h_ (fun w1=>HE.out x y w1)
 generalize bR y z=E1 at *
 generalize bR x z=E2 at *
 generalize bR x y=E3 at *
 have H1:=h_ h1
 clear h1 HE
 obtain⟨x0,x1⟩:=x
 obtain⟨y0,y1⟩:=y
 obtain⟨z0,z1⟩:=z
 simp only [ax] at HV HB hsz HYZ HXZ HXY ⊢
 generalize hW0:(((w.alloc (.cells #[fJ .i64 x0,.int .i64 x1] 46)).alloc (.cells #[fJ .i64 y0,.int .i64 y1] 46)).alloc (.cells #[fJ .i64 z0,.int .i64 z1] 46)).alloc (.cells #[fJ .i64 0,.int .i64 0] 46)=W0 at *
 have HW0:=h_ hW0
 have HSZ:=h_ hsz
 have hb0:fC (w.heap.size+4) W0 W0:=fF _ _
 have HT:=h_ (fun(w2 w3:ft) (h:fC (w.heap.size+4) W0 w2) (h3:fC w2.heap.size w2 w3)=>(h.trans (h3.mono (by have:=h.size;rw [HSZ.out] at this;exact this)):fC (w.heap.size+4) W0 w3))
 have fx:∀ wx,fC (w.heap.size+4) W0 wx→∀ j,wx.cell? ⟨w.heap.size,j,none⟩=_:=fun wx h j=>fp _ _ j _ 46 (0,0) (HV.out wx h).1
 have fy:∀ wx,fC (w.heap.size+4) W0 wx→∀ j,wx.cell? ⟨w.heap.size+1,j,none⟩=_:=fun wx h j=>fp _ _ j _ 46 (0,0) (HV.out wx h).2.1
 have fz:∀ wx,fC (w.heap.size+4) W0 wx→∀ j,wx.cell? ⟨w.heap.size+1+1,j,none⟩=_:=fun wx h j=>fp _ _ j _ 46 (0,0) (HV.out wx h).2.2.1
 have fn:∀ wx,fC (w.heap.size+4) W0 wx→∀ j,wx.cell? ⟨w.heap.size+1+1+1,j,none⟩=_:=fun wx h j=>fp _ _ j _ 46 (0,0) (HV.out wx h).2.2.2
 have zn:∀ wx,fC (w.heap.size+4) W0 wx→∀ j,wx.frozen? ⟨w.heap.size+1+1+1,j,none⟩=false:=fun wx h j=>by simp [fI,(HV.out wx h).2.2.2]
 clear hW0 hsz
 go_enter Tryz.func196,Tryz.ntmps196
 go_wp2_with fail
 rw [HW0.out]
 refine(HYZ.out _).mono ?_
 rintro e w1 ⟨rfl,hb1⟩
 have hc1:=HT.out _ _ hb0 hb1
 clear hb1
 cases E1 with
 | true =>
   go_wp2_with fail
   refine fm (v:=.tuple #[.agg (ax (y0,y1)),.bool false]) (by simp [results,Tryz.results196,go_sem,fn w1 hc1,ax]) rfl ?_
   refine HQ.out ((y0,y1),false) (by rw [H1.out];simp) _ ?_
   repeat refine fD ?_ (by simp;try omega) _
   exact HB.out _ hc1
 | false =>
   go_wp2_with fail
   refine(HXZ.out _).mono ?_
   rintro e w2 ⟨rfl,hb2⟩
   have hc2:=HT.out _ _ hc1 hb2
   clear hb2
   cases E2 with
   | true =>
     go_wp2_with fail
     refine fm (v:=.tuple #[.agg (ax (y0,y1)),.bool false]) (by simp [results,Tryz.results196,go_sem,fn w2 hc2,ax]) rfl ?_
     refine HQ.out ((y0,y1),false) (by rw [H1.out];simp) _ ?_
     repeat refine fD ?_ (by simp;try omega) _
     exact HB.out _ hc2
   | false =>
     go_wp2_with fail
     refine(HXY.out _).mono ?_
     rintro e w3 ⟨rfl,hb3⟩
     have hc3:=HT.out _ _ hc2 hb3
     clear hb3
     cases E3 with
     | true =>
       go_wp2_with fail
       refine fm (v:=.tuple #[.agg (ax (z0,z1)),.bool false]) (by simp [results,Tryz.results196,go_sem,fn w3 hc3,ax]) rfl ?_
       refine HQ.out ((z0,z1),false) (by rw [H1.out];simp) _ ?_
       repeat refine fD ?_ (by simp;try omega) _
       exact HB.out _ hc3
     | false =>
       go_wp2_with fail
       refine fm (v:=.tuple #[.agg (ax (x0,x1)),.bool true]) (by simp [results,Tryz.results196,go_sem,fn w3 hc3,ax]) rfl ?_
       refine HQ.out ((x0,x1),true) (by rw [H1.out];simp) _ ?_
       repeat refine fD ?_ (by simp;try omega) _
       exact HB.out _ hc3
theorem zkA (x y:(Int × Int × Int × Bool))(w:ft):(binOp .eql 211 (.agg (aD x)) (.agg (aD y))).run Tryz.prog w=.ok (.bool (anc4 x y)) w:=by
 obtain⟨x0,x1,x2,x3⟩:=x
 obtain⟨y0,y1,y2,y3⟩:=y
 simp [go_sem,aD,anc4]
 repeat' split
 all_goals simp_all
theorem zdq (x y:(Int × Int × Int × Bool))(w:ft):fB Tryz.prog 144 #[.agg (aD x),.agg (aD y)] w fun e w'=>e=.returned (.bool (anc4 x y))∧fC w.heap.size w w':=by
 have hq:=fun wx=>zkA x y wx
 generalize anc4 x y=E at *
 obtain⟨x0,x1,x2,x3⟩:=x
 obtain⟨y0,y1,y2,y3⟩:=y
 simp only [aD] at *
 have hb:∀ o o',fC w.heap.size w ((w.alloc o).alloc o'):=fun o o'=>((fF _ _).alloc (fG _) _).alloc (by simp) _
 go_enter Tryz.func144,Tryz.ntmps144
 go_wp2_with fail
 go_ret
 exact⟨rfl,hb _ _⟩
theorem zc9 (x y z:(Int × Int × Int × Bool))(w:ft):fB Tryz.prog 143 #[.agg (aD x),.agg (aD y),.agg (aD z),.func (.func 144) #[] #[]] w fun e w'=>e=.returned (.tuple #[.agg (aD (ai anc4 x y z).1),.bool (ai anc4 x y z).2])∧fC w.heap.size w w':=by
 have HE:=h_ (fun(a b:(Int × Int × Int × Bool)) (w1:ft)=>zdq a b w1)
 generalize hQ:(fun(e:Ending) (w':ft)=>e=.returned (.tuple #[.agg (aD (ai anc4 x y z).1),.bool (ai anc4 x y z).2])∧fC w.heap.size w w')=Q
 have HQ:=h_ (fun(p:(Int × Int × Int × Bool) × Bool) (hp:ai anc4 x y z=p) w' (hb:fC w.heap.size w w')=>show Q (.returned (.tuple #[.agg (aD p.1),.bool p.2])) w' from hQ▸⟨by rw [hp],hb⟩)
 clear hQ
 have HV:=h_ (fun wx (h:fC (w.heap.size+4) ((((w.alloc (.cells (aD x) 211)).alloc (.cells (aD y) 211)).alloc (.cells (aD z) 211)).alloc (.cells #[fJ .i64 0,.int .i64 0,.int .i64 0,.bool false] 211)) wx)=>dN w (aD x) (aD y) (aD z) #[fJ .i64 0,.int .i64 0,.int .i64 0,.bool false] 211 wx h)
 have HB:=h_ (fun wx (h:fC (w.heap.size+4) ((((w.alloc (.cells (aD x) 211)).alloc (.cells (aD y) 211)).alloc (.cells (aD z) 211)).alloc (.cells #[fJ .i64 0,.int .i64 0,.int .i64 0,.bool false] 211)) wx)=>(show fC w.heap.size w wx from(aS w _ _ _ _).trans (h.mono (by omega))))
 have hsz:((((w.alloc (.cells (aD x) 211)).alloc (.cells (aD y) 211)).alloc (.cells (aD z) 211)).alloc (.cells #[fJ .i64 0,.int .i64 0,.int .i64 0,.bool false] 211)).heap.size=w.heap.size+4:=by simp
 have h1:ai anc4 x y z=(if anc4 y z=true then (y,false) else if anc4 x z=true then (y,false) else if anc4 x y=true then (z,false) else (x,true)):=rfl
 have HYZ:=h_ (fun w1=>HE.out y z w1)
 have HXZ:=h_ (fun w1=>HE.out x z w1)
 have HXY:=h_ (fun w1=>HE.out x y w1)
 generalize anc4 y z=E1 at *
 generalize anc4 x z=E2 at *
 generalize anc4 x y=E3 at *
 have H1:=h_ h1
 clear h1 HE
 obtain⟨x0,x1,x2,x3⟩:=x
 obtain⟨y0,y1,y2,y3⟩:=y
 obtain⟨z0,z1,z2,z3⟩:=z
 simp only [aD] at HV HB hsz HYZ HXZ HXY ⊢
 generalize hW0:(((w.alloc (.cells #[fJ .i64 x0,.int .i64 x1,.int .i64 x2,.bool x3] 211)).alloc (.cells #[fJ .i64 y0,.int .i64 y1,.int .i64 y2,.bool y3] 211)).alloc (.cells #[fJ .i64 z0,.int .i64 z1,.int .i64 z2,.bool z3] 211)).alloc (.cells #[fJ .i64 0,.int .i64 0,.int .i64 0,.bool false] 211)=W0 at *
 have HW0:=h_ hW0
 have HSZ:=h_ hsz
 have hb0:fC (w.heap.size+4) W0 W0:=fF _ _
 have HT:=h_ (fun(w2 w3:ft) (h:fC (w.heap.size+4) W0 w2) (h3:fC w2.heap.size w2 w3)=>(h.trans (h3.mono (by have:=h.size;rw [HSZ.out] at this;exact this)):fC (w.heap.size+4) W0 w3))
 have fx:∀ wx,fC (w.heap.size+4) W0 wx→∀ j,wx.cell? ⟨w.heap.size,j,none⟩=_:=fun wx h j=>fp _ _ j _ 211 (0,0) (HV.out wx h).1
 have fy:∀ wx,fC (w.heap.size+4) W0 wx→∀ j,wx.cell? ⟨w.heap.size+1,j,none⟩=_:=fun wx h j=>fp _ _ j _ 211 (0,0) (HV.out wx h).2.1
 have fz:∀ wx,fC (w.heap.size+4) W0 wx→∀ j,wx.cell? ⟨w.heap.size+1+1,j,none⟩=_:=fun wx h j=>fp _ _ j _ 211 (0,0) (HV.out wx h).2.2.1
 have fn:∀ wx,fC (w.heap.size+4) W0 wx→∀ j,wx.cell? ⟨w.heap.size+1+1+1,j,none⟩=_:=fun wx h j=>fp _ _ j _ 211 (0,0) (HV.out wx h).2.2.2
 have zn:∀ wx,fC (w.heap.size+4) W0 wx→∀ j,wx.frozen? ⟨w.heap.size+1+1+1,j,none⟩=false:=fun wx h j=>by simp [fI,(HV.out wx h).2.2.2]
 clear hW0 hsz
 go_enter Tryz.func143,Tryz.ntmps143
 go_wp2_with fail
 rw [HW0.out]
 refine(HYZ.out _).mono ?_
 rintro e w1 ⟨rfl,hb1⟩
 have hc1:=HT.out _ _ hb0 hb1
 clear hb1
 cases E1 with
 | true =>
   go_wp2_with fail
   refine fm (v:=.tuple #[.agg (aD (y0,y1,y2,y3)),.bool false]) (by simp [results,Tryz.results143,go_sem,fn w1 hc1,aD]) rfl ?_
   refine HQ.out ((y0,y1,y2,y3),false) (by rw [H1.out];simp) _ ?_
   repeat refine fD ?_ (by simp;try omega) _
   exact HB.out _ hc1
 | false =>
   go_wp2_with fail
   refine(HXZ.out _).mono ?_
   rintro e w2 ⟨rfl,hb2⟩
   have hc2:=HT.out _ _ hc1 hb2
   clear hb2
   cases E2 with
   | true =>
     go_wp2_with fail
     refine fm (v:=.tuple #[.agg (aD (y0,y1,y2,y3)),.bool false]) (by simp [results,Tryz.results143,go_sem,fn w2 hc2,aD]) rfl ?_
     refine HQ.out ((y0,y1,y2,y3),false) (by rw [H1.out];simp) _ ?_
     repeat refine fD ?_ (by simp;try omega) _
     exact HB.out _ hc2
   | false =>
     go_wp2_with fail
     refine(HXY.out _).mono ?_
     rintro e w3 ⟨rfl,hb3⟩
     have hc3:=HT.out _ _ hc2 hb3
     clear hb3
     cases E3 with
     | true =>
       go_wp2_with fail
       refine fm (v:=.tuple #[.agg (aD (z0,z1,z2,z3)),.bool false]) (by simp [results,Tryz.results143,go_sem,fn w3 hc3,aD]) rfl ?_
       refine HQ.out ((z0,z1,z2,z3),false) (by rw [H1.out];simp) _ ?_
       repeat refine fD ?_ (by simp;try omega) _
       exact HB.out _ hc3
     | false =>
       go_wp2_with fail
       refine fm (v:=.tuple #[.agg (aD (x0,x1,x2,x3)),.bool true]) (by simp [results,Tryz.results143,go_sem,fn w3 hc3,aD]) rfl ?_
       refine HQ.out ((x0,x1,x2,x3),true) (by rw [H1.out];simp) _ ?_
       repeat refine fD ?_ (by simp;try omega) _
       exact HB.out _ hc3
theorem zkz (x y:(Reg × Bool))(w:ft):(binOp .eql 198 (.agg (aF x)) (.agg (aF y))).run Tryz.prog w=.ok (.bool (may8 x y)) w:=by
 obtain⟨⟨x0,x1,x2,x3,x4,x5,x6⟩,x7⟩:=x
 obtain⟨⟨y0,y1,y2,y3,y4,y5,y6⟩,y7⟩:=y
 simp [go_sem,aF,may8,d_]
 repeat' split
 all_goals simp_all
theorem zdp (x y:(Reg × Bool))(w:ft):fB Tryz.prog 135 #[.agg (aF x),.agg (aF y)] w fun e w'=>e=.returned (.bool (may8 x y))∧fC w.heap.size w w':=by
 have hq:=fun wx=>zkz x y wx
 generalize may8 x y=E at *
 obtain⟨⟨x0,x1,x2,x3,x4,x5,x6⟩,x7⟩:=x
 obtain⟨⟨y0,y1,y2,y3,y4,y5,y6⟩,y7⟩:=y
 simp only [aF] at *
 have hb:∀ o o',fC w.heap.size w ((w.alloc o).alloc o'):=fun o o'=>((fF _ _).alloc (fG _) _).alloc (by simp) _
 go_enter Tryz.func135,Tryz.ntmps135
 go_wp2_with fail
 go_ret
 exact⟨rfl,hb _ _⟩
theorem zc8 (x y z:(Reg × Bool))(w:ft):fB Tryz.prog 133 #[.agg (aF x),.agg (aF y),.agg (aF z),.func (.func 135) #[] #[]] w fun e w'=>e=.returned (.tuple #[.agg (aF (ai may8 x y z).1),.bool (ai may8 x y z).2])∧fC w.heap.size w w':=by
 have HE:=h_ (fun(a b:(Reg × Bool)) (w1:ft)=>zdp a b w1)
 generalize hQ:(fun(e:Ending) (w':ft)=>e=.returned (.tuple #[.agg (aF (ai may8 x y z).1),.bool (ai may8 x y z).2])∧fC w.heap.size w w')=Q
 have HQ:=h_ (fun(p:(Reg × Bool) × Bool) (hp:ai may8 x y z=p) w' (hb:fC w.heap.size w w')=>show Q (.returned (.tuple #[.agg (aF p.1),.bool p.2])) w' from hQ▸⟨by rw [hp],hb⟩)
 clear hQ
 have HV:=h_ (fun wx (h:fC (w.heap.size+4) ((((w.alloc (.cells (aF x) 198)).alloc (.cells (aF y) 198)).alloc (.cells (aF z) 198)).alloc (.cells #[fK ⟨#[]⟩,.int .i64 0,.int .i64 0,.int .i64 0,.int .i64 0,.int .u8 0,.bool false,.bool false] 198)) wx)=>dN w (aF x) (aF y) (aF z) #[fK ⟨#[]⟩,.int .i64 0,.int .i64 0,.int .i64 0,.int .i64 0,.int .u8 0,.bool false,.bool false] 198 wx h)
 have HB:=h_ (fun wx (h:fC (w.heap.size+4) ((((w.alloc (.cells (aF x) 198)).alloc (.cells (aF y) 198)).alloc (.cells (aF z) 198)).alloc (.cells #[fK ⟨#[]⟩,.int .i64 0,.int .i64 0,.int .i64 0,.int .i64 0,.int .u8 0,.bool false,.bool false] 198)) wx)=>(show fC w.heap.size w wx from(aS w _ _ _ _).trans (h.mono (by omega))))
 have hsz:((((w.alloc (.cells (aF x) 198)).alloc (.cells (aF y) 198)).alloc (.cells (aF z) 198)).alloc (.cells #[fK ⟨#[]⟩,.int .i64 0,.int .i64 0,.int .i64 0,.int .i64 0,.int .u8 0,.bool false,.bool false] 198)).heap.size=w.heap.size+4:=by simp
 have h1:ai may8 x y z=(if may8 y z=true then (y,false) else if may8 x z=true then (y,false) else if may8 x y=true then (z,false) else (x,true)):=rfl
 have HYZ:=h_ (fun w1=>HE.out y z w1)
 have HXZ:=h_ (fun w1=>HE.out x z w1)
 have HXY:=h_ (fun w1=>HE.out x y w1)
 generalize may8 y z=E1 at *
 generalize may8 x z=E2 at *
 generalize may8 x y=E3 at *
 have H1:=h_ h1
 clear h1 HE
 obtain⟨⟨x0,x1,x2,x3,x4,x5,x6⟩,x7⟩:=x
 obtain⟨⟨y0,y1,y2,y3,y4,y5,y6⟩,y7⟩:=y
 obtain⟨⟨z0,z1,z2,z3,z4,z5,z6⟩,z7⟩:=z
 simp only [aF] at HV HB hsz HYZ HXZ HXY ⊢
 generalize hW0:(((w.alloc (.cells #[fK x0,.int .i64 x1,.int .i64 x2,.int .i64 x3,.int .i64 x4,.int .u8 x5,.bool x6,.bool x7] 198)).alloc (.cells #[fK y0,.int .i64 y1,.int .i64 y2,.int .i64 y3,.int .i64 y4,.int .u8 y5,.bool y6,.bool y7] 198)).alloc (.cells #[fK z0,.int .i64 z1,.int .i64 z2,.int .i64 z3,.int .i64 z4,.int .u8 z5,.bool z6,.bool z7] 198)).alloc (.cells #[fK ⟨#[]⟩,.int .i64 0,.int .i64 0,.int .i64 0,.int .i64 0,.int .u8 0,.bool false,.bool false] 198)=W0 at *
 have HW0:=h_ hW0
 have HSZ:=h_ hsz
 have hb0:fC (w.heap.size+4) W0 W0:=fF _ _
 have HT:=h_ (fun(w2 w3:ft) (h:fC (w.heap.size+4) W0 w2) (h3:fC w2.heap.size w2 w3)=>(h.trans (h3.mono (by have:=h.size;rw [HSZ.out] at this;exact this)):fC (w.heap.size+4) W0 w3))
 have fx:∀ wx,fC (w.heap.size+4) W0 wx→∀ j,wx.cell? ⟨w.heap.size,j,none⟩=_:=fun wx h j=>fp _ _ j _ 198 (0,0) (HV.out wx h).1
 have fy:∀ wx,fC (w.heap.size+4) W0 wx→∀ j,wx.cell? ⟨w.heap.size+1,j,none⟩=_:=fun wx h j=>fp _ _ j _ 198 (0,0) (HV.out wx h).2.1
 have fz:∀ wx,fC (w.heap.size+4) W0 wx→∀ j,wx.cell? ⟨w.heap.size+1+1,j,none⟩=_:=fun wx h j=>fp _ _ j _ 198 (0,0) (HV.out wx h).2.2.1
 have fn:∀ wx,fC (w.heap.size+4) W0 wx→∀ j,wx.cell? ⟨w.heap.size+1+1+1,j,none⟩=_:=fun wx h j=>fp _ _ j _ 198 (0,0) (HV.out wx h).2.2.2
 have zn:∀ wx,fC (w.heap.size+4) W0 wx→∀ j,wx.frozen? ⟨w.heap.size+1+1+1,j,none⟩=false:=fun wx h j=>by simp [fI,(HV.out wx h).2.2.2]
 clear hW0 hsz
 go_enter Tryz.func133,Tryz.ntmps133
 go_wp2_with fail
 rw [HW0.out]
 refine(HYZ.out _).mono ?_
 rintro e w1 ⟨rfl,hb1⟩
 have hc1:=HT.out _ _ hb0 hb1
 clear hb1
 cases E1 with
 | true =>
   go_wp2_with fail
   refine fm (v:=.tuple #[.agg (aF ((⟨y0,y1,y2,y3,y4,y5,y6⟩:Reg),y7)),.bool false]) (by simp [results,Tryz.results133,go_sem,fn w1 hc1,aF]) rfl ?_
   refine HQ.out (((⟨y0,y1,y2,y3,y4,y5,y6⟩:Reg),y7),false) (by rw [H1.out];simp) _ ?_
   repeat refine fD ?_ (by simp;try omega) _
   exact HB.out _ hc1
 | false =>
   go_wp2_with fail
   refine(HXZ.out _).mono ?_
   rintro e w2 ⟨rfl,hb2⟩
   have hc2:=HT.out _ _ hc1 hb2
   clear hb2
   cases E2 with
   | true =>
     go_wp2_with fail
     refine fm (v:=.tuple #[.agg (aF ((⟨y0,y1,y2,y3,y4,y5,y6⟩:Reg),y7)),.bool false]) (by simp [results,Tryz.results133,go_sem,fn w2 hc2,aF]) rfl ?_
     refine HQ.out (((⟨y0,y1,y2,y3,y4,y5,y6⟩:Reg),y7),false) (by rw [H1.out];simp) _ ?_
     repeat refine fD ?_ (by simp;try omega) _
     exact HB.out _ hc2
   | false =>
     go_wp2_with fail
     refine(HXY.out _).mono ?_
     rintro e w3 ⟨rfl,hb3⟩
     have hc3:=HT.out _ _ hc2 hb3
     clear hb3
     cases E3 with
     | true =>
       go_wp2_with fail
       refine fm (v:=.tuple #[.agg (aF ((⟨z0,z1,z2,z3,z4,z5,z6⟩:Reg),z7)),.bool false]) (by simp [results,Tryz.results133,go_sem,fn w3 hc3,aF]) rfl ?_
       refine HQ.out (((⟨z0,z1,z2,z3,z4,z5,z6⟩:Reg),z7),false) (by rw [H1.out];simp) _ ?_
       repeat refine fD ?_ (by simp;try omega) _
       exact HB.out _ hc3
     | false =>
       go_wp2_with fail
       refine fm (v:=.tuple #[.agg (aF ((⟨x0,x1,x2,x3,x4,x5,x6⟩:Reg),x7)),.bool true]) (by simp [results,Tryz.results133,go_sem,fn w3 hc3,aF]) rfl ?_
       refine HQ.out (((⟨x0,x1,x2,x3,x4,x5,x6⟩:Reg),x7),true) (by rw [H1.out];simp) _ ?_
       repeat refine fD ?_ (by simp;try omega) _
       exact HB.out _ hc3
end Go.Proofs.YtnlnmbcaongehaaGreatDoor
namespace Go.Proofs.YtnlnmbcaongehaaGreatDoor
open Go.RowKit
theorem zaG {P:Program} {ops:Array Oper} {o:Oper} {a:Act} {w:ft} {K:Act→ft→Prop} {Q:Exit→Act→ft→Prop} {E:Prop} (hgd:o.guard=none)(s x:Operand)(t:TypeId)
 (ho:o.op=.call { callee:=.builtin .append,args:=#[s,x],argTypes:=#[t,t] })
 (base:Nat) (e:TypeId) (i:TypeInfo) (z:fu) (size bytes:Nat) (ht:P.underlying t=some (.slice e)) (hi:P.info? e=some i) (hz:i.zero=some z)
 (hsize:i.size=size) (hby:i.bytes=bytes) (hzs:z.cells.size=size) (hsz:0<size)
 (v:fu) (n:Nat) (xs:List fu) (hs:a.eval s=v) (hown:w.ownsRow base e size v n xs)
 (ad:Addr) (m c:Nat) (news:List fu) (hx:a.eval x=.slice (some ad) m c) (hl:news.length=m*size) (hnews:∀ j u,news[j]? =some u→w.cell? (ad.add j)=some u) (h1:∀ u∈news,u.oneCell'=true)
 (h63:n+m≤maxLen) (hbytes:(n+m)*bytes≤140737488355328) (hbase:base≤w.heap.size)
 (h:∀ v' w',w'.ownsRow base e size v' (n+m) (xs++news)→w.grownBy w' v.ownBlock→(v'.ownBlock=v.ownBlock∨v'.ownBlock=some w.heap.size)→K (a.put o.dst v') w') :
 if Region.wanted o (yielded ops a.tmps)=true then Oper.wp P o a w K Q else E:=by
 have hw:Region.wanted o (yielded ops a.tmps)=true:=by simp [Region.wanted,hgd]
 rw [if_pos hw]
 obtain⟨v',w',hrun,h2,h3,_,h5⟩:=run_append_own_at (P:=P) w base t o.type e i z size bytes ht hi hz hsize hby hzs hsz v n xs hown ad m c news hl hnews h1 h63 hbytes hbase
 unfold Oper.wp execOp
 simp only [ho,resolve,invoke,builtin,Sem.run_bind,Sem.run_pure,Result.andThen_ok,List.map_toArray,List.map_cons,List.map_nil,hs,hx,hrun]
 exact h v' w' h2 h3 h5
structure dM (T ix e k B g:Nat)(arr:Array fu)(v:fu)(n:Nat)(xs:List fu)(w:ft):Prop where
 cells:w.heap[g]? =some (.cells arr T (0,0))
 atIx:arr[ix]? =some v
 own:w.ownsRow B e k v n xs
 apart:v.ownBlock≠some g
section
variable {T ix e k B g n m:Nat} {arr:Array fu} {v v':fu} {xs ys:List fu} {w w' w2:ft}
theorem dM.lt (h:dM T ix e k B g arr v n xs w):g<w.heap.size:=(fM.1 h.cells).1
theorem dM.later (h:dM T ix e k B g arr v n xs w)(hb:fC w.heap.size w w'):dM T ix e k B g arr v n xs w':=⟨(hb.block g h.lt).trans h.cells,h.atIx,aq h.own hb,h.apart⟩
theorem dM.slice (h:dM T ix e k B g arr v n xs w):∃ a c,v=.slice a n c:=by
 rcases h.own.2 with⟨rfl,h0⟩|⟨q,cap,_,rfl,_⟩
 · exact⟨none,0,by rw [h0]⟩
 · exact⟨_,_,rfl⟩
def cQ (T ix e k B g:Nat)(arr:Array fu)(v:fu)(n:Nat)(xs:List fu)(w w':ft):Prop :=
 ∃ v',dM T ix e k B g (arr.setIfInBounds ix v') v' n xs w'∧Kept (mOwn g v) w w'∧(v'.ownBlock=v.ownBlock∨∃ b,v'.ownBlock=some b∧w.heap.size≤b)
theorem zjl {arr:Array fu} {ix:Nat} {v:fu} (h:arr[ix]? =some v):arr.setIfInBounds ix v=arr:=by
 apply fN
 intro i
 rw [fL]
 split
 · rename_i hi
   subst hi
   split
   · exact h.symm
   · rename_i h2
     exact absurd (fM.1 h).1 h2
 · rfl
theorem dM.same (h:dM T ix e k B g arr v n xs w)(hb:fC w.heap.size w w'):cQ T ix e k B g arr v n xs w w' :=
 ⟨v,by rw [zjl h.atIx];exact h.later hb,Kept.of_below hb,.inl rfl⟩
theorem eO {W:ft} (h:dM T ix e k B g arr v n xs w)(hW:fC w.heap.size w W)(ho:w2.ownsRow B e k v' m ys)(hg:W.grownBy w2 v.ownBlock)(ha:v'.ownBlock=v.ownBlock∨v'.ownBlock=some W.heap.size) :
 (∃ a c,v'=.slice a m c)∧w2.heap[g]? =some (.cells arr T (0,0))∧v'.ownBlock≠some g∧Kept (mOwn g v) w w2∧(v'.ownBlock=v.ownBlock∨∃ b,v'.ownBlock=some b∧w.heap.size≤b):=by
 have hgl:=h.lt
 have hs:=hW.size
 refine⟨?_,?_,?_,?_,?_⟩
 · rcases ho.2 with⟨rfl,h0⟩|⟨q,cap,_,rfl,_⟩
   · exact⟨none,0,by rw [h0]⟩
   · exact⟨_,_,rfl⟩
 · rw [hg.block g (by omega) (fun e=>h.apart e.symm),hW.block g hgl]
   exact h.cells
 · rcases ha with ha|ha
   · rw [ha];exact h.apart
   · rw [ha];simp;omega
 · exact(Kept.of_below (S:=mOwn g v) hW).andGrown hg fun k hk _=>.inr hk
 · rcases ha with ha|ha
   · exact .inl ha
   · exact .inr ⟨_,ha,hs⟩
theorem eN (h:dM T ix e k B g arr v n xs w)(ho:w2.ownsRow B e k v' m ys)(hg:w2.heap[g]? =some (.cells arr T (0,0)))(hap:v'.ownBlock≠some g)(hk:Kept (mOwn g v) w w2)(hf:v'.ownBlock=v.ownBlock∨∃ b,v'.ownBlock=some b∧w.heap.size≤b) :
 cQ T ix e k B g arr v m ys w (w2.setCell ⟨g,ix,none⟩ v'):=by
 refine⟨v',⟨heap_setCell_same _ _ _ _ _ _ hg,?_,?_,hap⟩,hk.setCell (.inr (.inl rfl)) _,hf⟩
 · rw [fL,if_pos rfl,if_pos (fM.1 h.atIx).1]
 · exact ah ho fun b hb=>fC.heap_setCell _ _ _ _ (fun e=>hap (by rw [hb,e]))
theorem cQ.trans {v2:fu} (h:dM T ix e k B g (arr.setIfInBounds ix v') v' n xs w')(hk:Kept (mOwn g v) w w')(hf:v'.ownBlock=v.ownBlock∨∃ b,v'.ownBlock=some b∧w.heap.size≤b)(h2:cQ T ix e k B g (arr.setIfInBounds ix v') v' m ys w' w2):cQ T ix e k B g arr v m ys w w2:=by
 obtain⟨v2,q1,q2,q3⟩:=h2
 have e1:(arr.setIfInBounds ix v').setIfInBounds ix v2=arr.setIfInBounds ix v2:=by
  apply fN
  intro i
  simp only [fL,Array.size_setIfInBounds]
  split<;>simp_all
 refine⟨v2,by rw [e1] at q1;exact q1,hk.trans q2 fun i hi hs=>?_,?_⟩
 · rcases hs with rfl|hs
   · exact .inl rfl
   · rcases hf with hf|⟨b,hb,hbl⟩
     · exact .inr (hf▸hs)
     · rw [hb] at hs
       obtain rfl:=Option.some.inj hs
       omega
 · rcases q3 with q3|⟨b,hb,hbl⟩
   · rcases hf with hf|⟨b,hb,hbl⟩
     · exact .inl (q3.trans hf)
     · exact .inr ⟨b,q3.trans hb,hbl⟩
   · exact .inr ⟨b,hb,Nat.le_trans hk.size hbl⟩
end
end Go.Proofs.YtnlnmbcaongehaaGreatDoor
