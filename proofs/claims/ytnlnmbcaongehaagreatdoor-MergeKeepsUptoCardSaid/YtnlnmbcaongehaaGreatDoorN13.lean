/- merge.value and merge.equal at structs, and at rows. A row of the call's own in a cell of a block of the call's own: append through that cell. merge.both: an event that all three sides have, field by field. -/
import Derived.Test.YtnlnmbcaongehaaGreatDoorN11
set_option linter.unusedVariables false
set_option linter.unusedSimpArgs false
set_option maxRecDepth 100000
set_option maxHeartbeats 12800000
open Go.Lib renaming hid→h_
open Go renaming cell_of_row→Su,World→Sv,bodyPost_ret→Sw,Value→Sx,heap_alloc_last→Sy,Calls→Sz,Ending→SA,heap_setCell_same→SB
open Go.RowKit renaming Below→SC
open Go.RowKit.Below renaming heap_alloc→SD,setCell→SE,refl→SF,heap_setCell→SG
open Nat renaming le_refl→SH
open Go.World renaming frozen?→SI,size_alloc→SJ,cell?_alloc_lt→SK
open Go.Proofs.Tryz renaming prog→SL,results196→SM,results143→SN,results133→SO,results131→SQ,ntmps195→SR,ntmps130→SS,func195→SU,func130→SV
open Go.Value renaming int→SW,string→SX
open List renaming length_append→SY,map_cons→SZ
open Array renaming getElem?_eq_some_iff→S5,getElem?_setIfInBounds→S6,ext_getElem?→S7
namespace Go.Proofs.YtnlnmbcaongehaaGreatDoor
open Go.RowKit
theorem bJ (w:Sv)(o1 o2 o3 o4:Obj):SC w.heap.size w ((((w.alloc o1).alloc o2).alloc o3).alloc o4):=((((SF _ _).alloc (SH _) _).alloc (by simp) _).alloc (by simp;try omega) _).alloc (by simp;try omega) _
theorem lp (w:Sv)(xs ys zs ns:Array Sx)(T:TypeId)(wx:Sv)(h:SC (w.heap.size+4) ((((w.alloc (.cells xs T)).alloc (.cells ys T)).alloc (.cells zs T)).alloc (.cells ns T)) wx) :
 wx.heap[w.heap.size]? =some (.cells xs T (0,0))∧wx.heap[w.heap.size+1]? =some (.cells ys T (0,0))∧wx.heap[w.heap.size+1+1]? =some (.cells zs T (0,0))∧wx.heap[w.heap.size+1+1+1]? =some (.cells ns T (0,0)):=by
 refine⟨?_,?_,?_,?_⟩
 · rw [h.block _ (by omega),SD _ _ _ (by simp;try omega),SD _ _ _ (by simp;try omega),SD _ _ _ (by simp)]
   exact Sy w _
 · rw [h.block _ (by omega),SD _ _ _ (by simp;try omega),SD _ _ _ (by simp)]
   have:=Sy (w.alloc (.cells xs T)) (.cells ys T)
   rwa [SJ] at this
 · rw [h.block _ (by omega),SD _ _ _ (by simp)]
   have:=Sy ((w.alloc (.cells xs T)).alloc (.cells ys T)) (.cells zs T)
   rwa [SJ,SJ] at this
 · rw [h.block _ (by omega)]
   have:=Sy (((w.alloc (.cells xs T)).alloc (.cells ys T)).alloc (.cells zs T)) (.cells ns T)
   rwa [SJ,SJ,SJ] at this
def aX (x:Int × Bool):Array Sx:=#[.int .u8 x.1,.bool x.2]
def aW (x:Int × Int):Array Sx:=#[.int .i64 x.1,.int .i64 x.2]
def bh (x:Int × Int × Int × Bool):Array Sx:=#[.int .i64 x.1,.int .i64 x.2.1,.int .i64 x.2.2.1,.bool x.2.2.2]
def anc4 (x y:Int × Int × Int × Bool):Bool:=x.1==y.1&&(x.2.1==y.2.1&&(x.2.2.1==y.2.2.1&&x.2.2.2==y.2.2.2))
def bj (x:Reg × Bool):Array Sx:=#[.string x.1.name,.int .i64 x.1.top,.int .i64 x.1.aK,.int .i64 x.1.left,.int .i64 x.1.width,.int .u8 x.1.align,.bool x.1.bottom,.bool x.2]
def may8 (x y:Reg × Bool):Bool:=mD x.1 y.1&&x.2==y.2
theorem Lr (x y:(Int × Bool))(w:Sv):(binOp .eql 193 (.agg (aX x)) (.agg (aX y))).run SL w=.ok (.bool (gX x y)) w:=by
 obtain⟨x0,x1⟩:=x
 obtain⟨y0,y1⟩:=y
 simp [go_sem,aX,gX]
 repeat' split
 all_goals simp_all
theorem sY (x y:(Int × Bool))(w:Sv):Sz SL 132 #[.agg (aX x),.agg (aX y)] w fun e w'=>e=.returned (.bool (gX x y))∧SC w.heap.size w w':=by
 have hq:=fun wx=>Lr x y wx
 generalize gX x y=E at *
 obtain⟨x0,x1⟩:=x
 obtain⟨y0,y1⟩:=y
 simp only [aX] at *
 have hb:∀ o o',SC w.heap.size w ((w.alloc o).alloc o'):=fun o o'=>((SF _ _).alloc (SH _) _).alloc (by simp) _
 go_enter Tryz.func132,Tryz.ntmps132
 go_wp2_with fail
 go_ret
 exact⟨rfl,hb _ _⟩
theorem rZ (x y z:(Int × Bool))(w:Sv):Sz SL 131 #[.agg (aX x),.agg (aX y),.agg (aX z),.func (.func 132) #[] #[]] w fun e w'=>e=.returned (.tuple #[.agg (aX (aF gX x y z).1),.bool (aF gX x y z).2])∧SC w.heap.size w w':=by
 have HE:=h_ (fun(a b:(Int × Bool)) (w1:Sv)=>sY a b w1)
 generalize hQ:(fun(e:SA) (w':Sv)=>e=.returned (.tuple #[.agg (aX (aF gX x y z).1),.bool (aF gX x y z).2])∧SC w.heap.size w w')=Q
 have HQ:=h_ (fun(p:(Int × Bool) × Bool) (hp:aF gX x y z=p) w' (hb:SC w.heap.size w w')=>show Q (.returned (.tuple #[.agg (aX p.1),.bool p.2])) w' from hQ▸⟨by rw [hp],hb⟩)
 clear hQ
 have HV:=h_ (fun wx (h:SC (w.heap.size+4) ((((w.alloc (.cells (aX x) 193)).alloc (.cells (aX y) 193)).alloc (.cells (aX z) 193)).alloc (.cells #[SW .u8 0,.bool false] 193)) wx)=>lp w (aX x) (aX y) (aX z) #[SW .u8 0,.bool false] 193 wx h)
 have HB:=h_ (fun wx (h:SC (w.heap.size+4) ((((w.alloc (.cells (aX x) 193)).alloc (.cells (aX y) 193)).alloc (.cells (aX z) 193)).alloc (.cells #[SW .u8 0,.bool false] 193)) wx)=>(show SC w.heap.size w wx from(bJ w _ _ _ _).trans (h.mono (by omega))))
 have hsz:((((w.alloc (.cells (aX x) 193)).alloc (.cells (aX y) 193)).alloc (.cells (aX z) 193)).alloc (.cells #[SW .u8 0,.bool false] 193)).heap.size=w.heap.size+4:=by simp
 have h1:aF gX x y z=(if gX y z=true then (y,false) else if gX x z=true then (y,false) else if gX x y=true then (z,false) else (x,true)):=rfl
 have Dp:=h_ (fun w1=>HE.out y z w1)
 have Dq:=h_ (fun w1=>HE.out x z w1)
 have Dr:=h_ (fun w1=>HE.out x y w1)
 generalize gX y z=E1 at *
 generalize gX x z=E2 at *
 generalize gX x y=E3 at *
 have H1:=h_ h1
 clear h1 HE
 obtain⟨x0,x1⟩:=x
 obtain⟨y0,y1⟩:=y
 obtain⟨z0,z1⟩:=z
 simp only [aX] at HV HB hsz Dp Dq Dr ⊢
 generalize hW0:(((w.alloc (.cells #[SW .u8 x0,.bool x1] 193)).alloc (.cells #[SW .u8 y0,.bool y1] 193)).alloc (.cells #[SW .u8 z0,.bool z1] 193)).alloc (.cells #[SW .u8 0,.bool false] 193)=W0 at *
 have HW0:=h_ hW0
 have bu:=h_ hsz
 have hb0:SC (w.heap.size+4) W0 W0:=SF _ _
 have HT:=h_ (fun(w2 w3:Sv) (h:SC (w.heap.size+4) W0 w2) (h3:SC w2.heap.size w2 w3)=>(h.trans (h3.mono (by have:=h.size;rw [bu.out] at this;exact this)):SC (w.heap.size+4) W0 w3))
 have fx:∀ wx,SC (w.heap.size+4) W0 wx→∀ j,wx.cell? ⟨w.heap.size,j,none⟩=_:=fun wx h j=>Su _ _ j _ 193 (0,0) (HV.out wx h).1
 have fy:∀ wx,SC (w.heap.size+4) W0 wx→∀ j,wx.cell? ⟨w.heap.size+1,j,none⟩=_:=fun wx h j=>Su _ _ j _ 193 (0,0) (HV.out wx h).2.1
 have fz:∀ wx,SC (w.heap.size+4) W0 wx→∀ j,wx.cell? ⟨w.heap.size+1+1,j,none⟩=_:=fun wx h j=>Su _ _ j _ 193 (0,0) (HV.out wx h).2.2.1
 have fn:∀ wx,SC (w.heap.size+4) W0 wx→∀ j,wx.cell? ⟨w.heap.size+1+1+1,j,none⟩=_:=fun wx h j=>Su _ _ j _ 193 (0,0) (HV.out wx h).2.2.2
 have zn:∀ wx,SC (w.heap.size+4) W0 wx→∀ j,wx.frozen? ⟨w.heap.size+1+1+1,j,none⟩=false:=fun wx h j=>by simp [SI,(HV.out wx h).2.2.2]
 clear hW0 hsz
 go_enter Tryz.func131,Tryz.ntmps131
 go_wp2_with fail
 rw [HW0.out]
 refine(Dp.out _).mono ?_
 rintro e w1 ⟨rfl,hb1⟩
 have hc1:=HT.out _ _ hb0 hb1
 clear hb1
 cases E1 with
 | true =>
   go_wp2_with fail
   refine Sw (v:=.tuple #[.agg (aX (y0,y1)),.bool false]) (by simp [results,SQ,go_sem,fn w1 hc1,aX]) rfl ?_
   refine HQ.out ((y0,y1),false) (by rw [H1.out];simp) _ ?_
   repeat refine SE ?_ (by simp;try omega) _
   exact HB.out _ hc1
 | false =>
   go_wp2_with fail
   refine(Dq.out _).mono ?_
   rintro e w2 ⟨rfl,hb2⟩
   have hc2:=HT.out _ _ hc1 hb2
   clear hb2
   cases E2 with
   | true =>
     go_wp2_with fail
     refine Sw (v:=.tuple #[.agg (aX (y0,y1)),.bool false]) (by simp [results,SQ,go_sem,fn w2 hc2,aX]) rfl ?_
     refine HQ.out ((y0,y1),false) (by rw [H1.out];simp) _ ?_
     repeat refine SE ?_ (by simp;try omega) _
     exact HB.out _ hc2
   | false =>
     go_wp2_with fail
     refine(Dr.out _).mono ?_
     rintro e w3 ⟨rfl,hb3⟩
     have hc3:=HT.out _ _ hc2 hb3
     clear hb3
     cases E3 with
     | true =>
       go_wp2_with fail
       refine Sw (v:=.tuple #[.agg (aX (z0,z1)),.bool false]) (by simp [results,SQ,go_sem,fn w3 hc3,aX]) rfl ?_
       refine HQ.out ((z0,z1),false) (by rw [H1.out];simp) _ ?_
       repeat refine SE ?_ (by simp;try omega) _
       exact HB.out _ hc3
     | false =>
       go_wp2_with fail
       refine Sw (v:=.tuple #[.agg (aX (x0,x1)),.bool true]) (by simp [results,SQ,go_sem,fn w3 hc3,aX]) rfl ?_
       refine HQ.out ((x0,x1),true) (by rw [H1.out];simp) _ ?_
       repeat refine SE ?_ (by simp;try omega) _
       exact HB.out _ hc3
theorem Lq (x y:(Int × Int))(w:Sv):(binOp .eql 46 (.agg (aW x)) (.agg (aW y))).run SL w=.ok (.bool (fu x y)) w:=by
 obtain⟨x0,x1⟩:=x
 obtain⟨y0,y1⟩:=y
 simp [go_sem,aW,fu]
 repeat' split
 all_goals simp_all
theorem sX (x y:(Int × Int))(w:Sv):Sz SL 197 #[.agg (aW x),.agg (aW y)] w fun e w'=>e=.returned (.bool (fu x y))∧SC w.heap.size w w':=by
 have hq:=fun wx=>Lq x y wx
 generalize fu x y=E at *
 obtain⟨x0,x1⟩:=x
 obtain⟨y0,y1⟩:=y
 simp only [aW] at *
 have hb:∀ o o',SC w.heap.size w ((w.alloc o).alloc o'):=fun o o'=>((SF _ _).alloc (SH _) _).alloc (by simp) _
 go_enter Tryz.func197,Tryz.ntmps197
 go_wp2_with fail
 go_ret
 exact⟨rfl,hb _ _⟩
theorem rX (x y z:(Int × Int))(w:Sv):Sz SL 196 #[.agg (aW x),.agg (aW y),.agg (aW z),.func (.func 197) #[] #[]] w fun e w'=>e=.returned (.tuple #[.agg (aW (aF fu x y z).1),.bool (aF fu x y z).2])∧SC w.heap.size w w':=by
 have HE:=h_ (fun(a b:(Int × Int)) (w1:Sv)=>sX a b w1)
 generalize hQ:(fun(e:SA) (w':Sv)=>e=.returned (.tuple #[.agg (aW (aF fu x y z).1),.bool (aF fu x y z).2])∧SC w.heap.size w w')=Q
 have HQ:=h_ (fun(p:(Int × Int) × Bool) (hp:aF fu x y z=p) w' (hb:SC w.heap.size w w')=>show Q (.returned (.tuple #[.agg (aW p.1),.bool p.2])) w' from hQ▸⟨by rw [hp],hb⟩)
 clear hQ
 have HV:=h_ (fun wx (h:SC (w.heap.size+4) ((((w.alloc (.cells (aW x) 46)).alloc (.cells (aW y) 46)).alloc (.cells (aW z) 46)).alloc (.cells #[SW .i64 0,.int .i64 0] 46)) wx)=>lp w (aW x) (aW y) (aW z) #[SW .i64 0,.int .i64 0] 46 wx h)
 have HB:=h_ (fun wx (h:SC (w.heap.size+4) ((((w.alloc (.cells (aW x) 46)).alloc (.cells (aW y) 46)).alloc (.cells (aW z) 46)).alloc (.cells #[SW .i64 0,.int .i64 0] 46)) wx)=>(show SC w.heap.size w wx from(bJ w _ _ _ _).trans (h.mono (by omega))))
 have hsz:((((w.alloc (.cells (aW x) 46)).alloc (.cells (aW y) 46)).alloc (.cells (aW z) 46)).alloc (.cells #[SW .i64 0,.int .i64 0] 46)).heap.size=w.heap.size+4:=by simp
 have h1:aF fu x y z=(if fu y z=true then (y,false) else if fu x z=true then (y,false) else if fu x y=true then (z,false) else (x,true)):=rfl
 have Dp:=h_ (fun w1=>HE.out y z w1)
 have Dq:=h_ (fun w1=>HE.out x z w1)
 have Dr:=h_ (fun w1=>HE.out x y w1)
 generalize fu y z=E1 at *
 generalize fu x z=E2 at *
 generalize fu x y=E3 at *
 have H1:=h_ h1
 clear h1 HE
 obtain⟨x0,x1⟩:=x
 obtain⟨y0,y1⟩:=y
 obtain⟨z0,z1⟩:=z
 simp only [aW] at HV HB hsz Dp Dq Dr ⊢
 generalize hW0:(((w.alloc (.cells #[SW .i64 x0,.int .i64 x1] 46)).alloc (.cells #[SW .i64 y0,.int .i64 y1] 46)).alloc (.cells #[SW .i64 z0,.int .i64 z1] 46)).alloc (.cells #[SW .i64 0,.int .i64 0] 46)=W0 at *
 have HW0:=h_ hW0
 have bu:=h_ hsz
 have hb0:SC (w.heap.size+4) W0 W0:=SF _ _
 have HT:=h_ (fun(w2 w3:Sv) (h:SC (w.heap.size+4) W0 w2) (h3:SC w2.heap.size w2 w3)=>(h.trans (h3.mono (by have:=h.size;rw [bu.out] at this;exact this)):SC (w.heap.size+4) W0 w3))
 have fx:∀ wx,SC (w.heap.size+4) W0 wx→∀ j,wx.cell? ⟨w.heap.size,j,none⟩=_:=fun wx h j=>Su _ _ j _ 46 (0,0) (HV.out wx h).1
 have fy:∀ wx,SC (w.heap.size+4) W0 wx→∀ j,wx.cell? ⟨w.heap.size+1,j,none⟩=_:=fun wx h j=>Su _ _ j _ 46 (0,0) (HV.out wx h).2.1
 have fz:∀ wx,SC (w.heap.size+4) W0 wx→∀ j,wx.cell? ⟨w.heap.size+1+1,j,none⟩=_:=fun wx h j=>Su _ _ j _ 46 (0,0) (HV.out wx h).2.2.1
 have fn:∀ wx,SC (w.heap.size+4) W0 wx→∀ j,wx.cell? ⟨w.heap.size+1+1+1,j,none⟩=_:=fun wx h j=>Su _ _ j _ 46 (0,0) (HV.out wx h).2.2.2
 have zn:∀ wx,SC (w.heap.size+4) W0 wx→∀ j,wx.frozen? ⟨w.heap.size+1+1+1,j,none⟩=false:=fun wx h j=>by simp [SI,(HV.out wx h).2.2.2]
 clear hW0 hsz
 go_enter Tryz.func196,Tryz.ntmps196
 go_wp2_with fail
 rw [HW0.out]
 refine(Dp.out _).mono ?_
 rintro e w1 ⟨rfl,hb1⟩
 have hc1:=HT.out _ _ hb0 hb1
 clear hb1
 cases E1 with
 | true =>
   go_wp2_with fail
   refine Sw (v:=.tuple #[.agg (aW (y0,y1)),.bool false]) (by simp [results,SM,go_sem,fn w1 hc1,aW]) rfl ?_
   refine HQ.out ((y0,y1),false) (by rw [H1.out];simp) _ ?_
   repeat refine SE ?_ (by simp;try omega) _
   exact HB.out _ hc1
 | false =>
   go_wp2_with fail
   refine(Dq.out _).mono ?_
   rintro e w2 ⟨rfl,hb2⟩
   have hc2:=HT.out _ _ hc1 hb2
   clear hb2
   cases E2 with
   | true =>
     go_wp2_with fail
     refine Sw (v:=.tuple #[.agg (aW (y0,y1)),.bool false]) (by simp [results,SM,go_sem,fn w2 hc2,aW]) rfl ?_
     refine HQ.out ((y0,y1),false) (by rw [H1.out];simp) _ ?_
     repeat refine SE ?_ (by simp;try omega) _
     exact HB.out _ hc2
   | false =>
     go_wp2_with fail
     refine(Dr.out _).mono ?_
     rintro e w3 ⟨rfl,hb3⟩
     have hc3:=HT.out _ _ hc2 hb3
     clear hb3
     cases E3 with
     | true =>
       go_wp2_with fail
       refine Sw (v:=.tuple #[.agg (aW (z0,z1)),.bool false]) (by simp [results,SM,go_sem,fn w3 hc3,aW]) rfl ?_
       refine HQ.out ((z0,z1),false) (by rw [H1.out];simp) _ ?_
       repeat refine SE ?_ (by simp;try omega) _
       exact HB.out _ hc3
     | false =>
       go_wp2_with fail
       refine Sw (v:=.tuple #[.agg (aW (x0,x1)),.bool true]) (by simp [results,SM,go_sem,fn w3 hc3,aW]) rfl ?_
       refine HQ.out ((x0,x1),true) (by rw [H1.out];simp) _ ?_
       repeat refine SE ?_ (by simp;try omega) _
       exact HB.out _ hc3
theorem N6 (x y:(Int × Int × Int × Bool))(w:Sv):(binOp .eql 211 (.agg (bh x)) (.agg (bh y))).run SL w=.ok (.bool (anc4 x y)) w:=by
 obtain⟨x0,x1,x2,x3⟩:=x
 obtain⟨y0,y1,y2,y3⟩:=y
 simp [go_sem,bh,anc4]
 repeat' split
 all_goals simp_all
theorem uk (x y:(Int × Int × Int × Bool))(w:Sv):Sz SL 144 #[.agg (bh x),.agg (bh y)] w fun e w'=>e=.returned (.bool (anc4 x y))∧SC w.heap.size w w':=by
 have hq:=fun wx=>N6 x y wx
 generalize anc4 x y=E at *
 obtain⟨x0,x1,x2,x3⟩:=x
 obtain⟨y0,y1,y2,y3⟩:=y
 simp only [bh] at *
 have hb:∀ o o',SC w.heap.size w ((w.alloc o).alloc o'):=fun o o'=>((SF _ _).alloc (SH _) _).alloc (by simp) _
 go_enter Tryz.func144,Tryz.ntmps144
 go_wp2_with fail
 go_ret
 exact⟨rfl,hb _ _⟩
theorem tM (x y z:(Int × Int × Int × Bool))(w:Sv):Sz SL 143 #[.agg (bh x),.agg (bh y),.agg (bh z),.func (.func 144) #[] #[]] w fun e w'=>e=.returned (.tuple #[.agg (bh (aF anc4 x y z).1),.bool (aF anc4 x y z).2])∧SC w.heap.size w w':=by
 have HE:=h_ (fun(a b:(Int × Int × Int × Bool)) (w1:Sv)=>uk a b w1)
 generalize hQ:(fun(e:SA) (w':Sv)=>e=.returned (.tuple #[.agg (bh (aF anc4 x y z).1),.bool (aF anc4 x y z).2])∧SC w.heap.size w w')=Q
 have HQ:=h_ (fun(p:(Int × Int × Int × Bool) × Bool) (hp:aF anc4 x y z=p) w' (hb:SC w.heap.size w w')=>show Q (.returned (.tuple #[.agg (bh p.1),.bool p.2])) w' from hQ▸⟨by rw [hp],hb⟩)
 clear hQ
 have HV:=h_ (fun wx (h:SC (w.heap.size+4) ((((w.alloc (.cells (bh x) 211)).alloc (.cells (bh y) 211)).alloc (.cells (bh z) 211)).alloc (.cells #[SW .i64 0,.int .i64 0,.int .i64 0,.bool false] 211)) wx)=>lp w (bh x) (bh y) (bh z) #[SW .i64 0,.int .i64 0,.int .i64 0,.bool false] 211 wx h)
 have HB:=h_ (fun wx (h:SC (w.heap.size+4) ((((w.alloc (.cells (bh x) 211)).alloc (.cells (bh y) 211)).alloc (.cells (bh z) 211)).alloc (.cells #[SW .i64 0,.int .i64 0,.int .i64 0,.bool false] 211)) wx)=>(show SC w.heap.size w wx from(bJ w _ _ _ _).trans (h.mono (by omega))))
 have hsz:((((w.alloc (.cells (bh x) 211)).alloc (.cells (bh y) 211)).alloc (.cells (bh z) 211)).alloc (.cells #[SW .i64 0,.int .i64 0,.int .i64 0,.bool false] 211)).heap.size=w.heap.size+4:=by simp
 have h1:aF anc4 x y z=(if anc4 y z=true then (y,false) else if anc4 x z=true then (y,false) else if anc4 x y=true then (z,false) else (x,true)):=rfl
 have Dp:=h_ (fun w1=>HE.out y z w1)
 have Dq:=h_ (fun w1=>HE.out x z w1)
 have Dr:=h_ (fun w1=>HE.out x y w1)
 generalize anc4 y z=E1 at *
 generalize anc4 x z=E2 at *
 generalize anc4 x y=E3 at *
 have H1:=h_ h1
 clear h1 HE
 obtain⟨x0,x1,x2,x3⟩:=x
 obtain⟨y0,y1,y2,y3⟩:=y
 obtain⟨z0,z1,z2,z3⟩:=z
 simp only [bh] at HV HB hsz Dp Dq Dr ⊢
 generalize hW0:(((w.alloc (.cells #[SW .i64 x0,.int .i64 x1,.int .i64 x2,.bool x3] 211)).alloc (.cells #[SW .i64 y0,.int .i64 y1,.int .i64 y2,.bool y3] 211)).alloc (.cells #[SW .i64 z0,.int .i64 z1,.int .i64 z2,.bool z3] 211)).alloc (.cells #[SW .i64 0,.int .i64 0,.int .i64 0,.bool false] 211)=W0 at *
 have HW0:=h_ hW0
 have bu:=h_ hsz
 have hb0:SC (w.heap.size+4) W0 W0:=SF _ _
 have HT:=h_ (fun(w2 w3:Sv) (h:SC (w.heap.size+4) W0 w2) (h3:SC w2.heap.size w2 w3)=>(h.trans (h3.mono (by have:=h.size;rw [bu.out] at this;exact this)):SC (w.heap.size+4) W0 w3))
 have fx:∀ wx,SC (w.heap.size+4) W0 wx→∀ j,wx.cell? ⟨w.heap.size,j,none⟩=_:=fun wx h j=>Su _ _ j _ 211 (0,0) (HV.out wx h).1
 have fy:∀ wx,SC (w.heap.size+4) W0 wx→∀ j,wx.cell? ⟨w.heap.size+1,j,none⟩=_:=fun wx h j=>Su _ _ j _ 211 (0,0) (HV.out wx h).2.1
 have fz:∀ wx,SC (w.heap.size+4) W0 wx→∀ j,wx.cell? ⟨w.heap.size+1+1,j,none⟩=_:=fun wx h j=>Su _ _ j _ 211 (0,0) (HV.out wx h).2.2.1
 have fn:∀ wx,SC (w.heap.size+4) W0 wx→∀ j,wx.cell? ⟨w.heap.size+1+1+1,j,none⟩=_:=fun wx h j=>Su _ _ j _ 211 (0,0) (HV.out wx h).2.2.2
 have zn:∀ wx,SC (w.heap.size+4) W0 wx→∀ j,wx.frozen? ⟨w.heap.size+1+1+1,j,none⟩=false:=fun wx h j=>by simp [SI,(HV.out wx h).2.2.2]
 clear hW0 hsz
 go_enter Tryz.func143,Tryz.ntmps143
 go_wp2_with fail
 rw [HW0.out]
 refine(Dp.out _).mono ?_
 rintro e w1 ⟨rfl,hb1⟩
 have hc1:=HT.out _ _ hb0 hb1
 clear hb1
 cases E1 with
 | true =>
   go_wp2_with fail
   refine Sw (v:=.tuple #[.agg (bh (y0,y1,y2,y3)),.bool false]) (by simp [results,SN,go_sem,fn w1 hc1,bh]) rfl ?_
   refine HQ.out ((y0,y1,y2,y3),false) (by rw [H1.out];simp) _ ?_
   repeat refine SE ?_ (by simp;try omega) _
   exact HB.out _ hc1
 | false =>
   go_wp2_with fail
   refine(Dq.out _).mono ?_
   rintro e w2 ⟨rfl,hb2⟩
   have hc2:=HT.out _ _ hc1 hb2
   clear hb2
   cases E2 with
   | true =>
     go_wp2_with fail
     refine Sw (v:=.tuple #[.agg (bh (y0,y1,y2,y3)),.bool false]) (by simp [results,SN,go_sem,fn w2 hc2,bh]) rfl ?_
     refine HQ.out ((y0,y1,y2,y3),false) (by rw [H1.out];simp) _ ?_
     repeat refine SE ?_ (by simp;try omega) _
     exact HB.out _ hc2
   | false =>
     go_wp2_with fail
     refine(Dr.out _).mono ?_
     rintro e w3 ⟨rfl,hb3⟩
     have hc3:=HT.out _ _ hc2 hb3
     clear hb3
     cases E3 with
     | true =>
       go_wp2_with fail
       refine Sw (v:=.tuple #[.agg (bh (z0,z1,z2,z3)),.bool false]) (by simp [results,SN,go_sem,fn w3 hc3,bh]) rfl ?_
       refine HQ.out ((z0,z1,z2,z3),false) (by rw [H1.out];simp) _ ?_
       repeat refine SE ?_ (by simp;try omega) _
       exact HB.out _ hc3
     | false =>
       go_wp2_with fail
       refine Sw (v:=.tuple #[.agg (bh (x0,x1,x2,x3)),.bool true]) (by simp [results,SN,go_sem,fn w3 hc3,bh]) rfl ?_
       refine HQ.out ((x0,x1,x2,x3),true) (by rw [H1.out];simp) _ ?_
       repeat refine SE ?_ (by simp;try omega) _
       exact HB.out _ hc3
theorem N5 (x y:(Reg × Bool))(w:Sv):(binOp .eql 198 (.agg (bj x)) (.agg (bj y))).run SL w=.ok (.bool (may8 x y)) w:=by
 obtain⟨⟨x0,x1,x2,x3,x4,x5,x6⟩,x7⟩:=x
 obtain⟨⟨y0,y1,y2,y3,y4,y5,y6⟩,y7⟩:=y
 simp [go_sem,bj,may8,mD]
 repeat' split
 all_goals simp_all
theorem uj (x y:(Reg × Bool))(w:Sv):Sz SL 135 #[.agg (bj x),.agg (bj y)] w fun e w'=>e=.returned (.bool (may8 x y))∧SC w.heap.size w w':=by
 have hq:=fun wx=>N5 x y wx
 generalize may8 x y=E at *
 obtain⟨⟨x0,x1,x2,x3,x4,x5,x6⟩,x7⟩:=x
 obtain⟨⟨y0,y1,y2,y3,y4,y5,y6⟩,y7⟩:=y
 simp only [bj] at *
 have hb:∀ o o',SC w.heap.size w ((w.alloc o).alloc o'):=fun o o'=>((SF _ _).alloc (SH _) _).alloc (by simp) _
 go_enter Tryz.func135,Tryz.ntmps135
 go_wp2_with fail
 go_ret
 exact⟨rfl,hb _ _⟩
theorem tL (x y z:(Reg × Bool))(w:Sv):Sz SL 133 #[.agg (bj x),.agg (bj y),.agg (bj z),.func (.func 135) #[] #[]] w fun e w'=>e=.returned (.tuple #[.agg (bj (aF may8 x y z).1),.bool (aF may8 x y z).2])∧SC w.heap.size w w':=by
 have HE:=h_ (fun(a b:(Reg × Bool)) (w1:Sv)=>uj a b w1)
 generalize hQ:(fun(e:SA) (w':Sv)=>e=.returned (.tuple #[.agg (bj (aF may8 x y z).1),.bool (aF may8 x y z).2])∧SC w.heap.size w w')=Q
 have HQ:=h_ (fun(p:(Reg × Bool) × Bool) (hp:aF may8 x y z=p) w' (hb:SC w.heap.size w w')=>show Q (.returned (.tuple #[.agg (bj p.1),.bool p.2])) w' from hQ▸⟨by rw [hp],hb⟩)
 clear hQ
 have HV:=h_ (fun wx (h:SC (w.heap.size+4) ((((w.alloc (.cells (bj x) 198)).alloc (.cells (bj y) 198)).alloc (.cells (bj z) 198)).alloc (.cells #[SX ⟨#[]⟩,.int .i64 0,.int .i64 0,.int .i64 0,.int .i64 0,.int .u8 0,.bool false,.bool false] 198)) wx)=>lp w (bj x) (bj y) (bj z) #[SX ⟨#[]⟩,.int .i64 0,.int .i64 0,.int .i64 0,.int .i64 0,.int .u8 0,.bool false,.bool false] 198 wx h)
 have HB:=h_ (fun wx (h:SC (w.heap.size+4) ((((w.alloc (.cells (bj x) 198)).alloc (.cells (bj y) 198)).alloc (.cells (bj z) 198)).alloc (.cells #[SX ⟨#[]⟩,.int .i64 0,.int .i64 0,.int .i64 0,.int .i64 0,.int .u8 0,.bool false,.bool false] 198)) wx)=>(show SC w.heap.size w wx from(bJ w _ _ _ _).trans (h.mono (by omega))))
 have hsz:((((w.alloc (.cells (bj x) 198)).alloc (.cells (bj y) 198)).alloc (.cells (bj z) 198)).alloc (.cells #[SX ⟨#[]⟩,.int .i64 0,.int .i64 0,.int .i64 0,.int .i64 0,.int .u8 0,.bool false,.bool false] 198)).heap.size=w.heap.size+4:=by simp
 have h1:aF may8 x y z=(if may8 y z=true then (y,false) else if may8 x z=true then (y,false) else if may8 x y=true then (z,false) else (x,true)):=rfl
 have Dp:=h_ (fun w1=>HE.out y z w1)
 have Dq:=h_ (fun w1=>HE.out x z w1)
 have Dr:=h_ (fun w1=>HE.out x y w1)
 generalize may8 y z=E1 at *
 generalize may8 x z=E2 at *
 generalize may8 x y=E3 at *
 have H1:=h_ h1
 clear h1 HE
 obtain⟨⟨x0,x1,x2,x3,x4,x5,x6⟩,x7⟩:=x
 obtain⟨⟨y0,y1,y2,y3,y4,y5,y6⟩,y7⟩:=y
 obtain⟨⟨z0,z1,z2,z3,z4,z5,z6⟩,z7⟩:=z
 simp only [bj] at HV HB hsz Dp Dq Dr ⊢
 generalize hW0:(((w.alloc (.cells #[SX x0,.int .i64 x1,.int .i64 x2,.int .i64 x3,.int .i64 x4,.int .u8 x5,.bool x6,.bool x7] 198)).alloc (.cells #[SX y0,.int .i64 y1,.int .i64 y2,.int .i64 y3,.int .i64 y4,.int .u8 y5,.bool y6,.bool y7] 198)).alloc (.cells #[SX z0,.int .i64 z1,.int .i64 z2,.int .i64 z3,.int .i64 z4,.int .u8 z5,.bool z6,.bool z7] 198)).alloc (.cells #[SX ⟨#[]⟩,.int .i64 0,.int .i64 0,.int .i64 0,.int .i64 0,.int .u8 0,.bool false,.bool false] 198)=W0 at *
 have HW0:=h_ hW0
 have bu:=h_ hsz
 have hb0:SC (w.heap.size+4) W0 W0:=SF _ _
 have HT:=h_ (fun(w2 w3:Sv) (h:SC (w.heap.size+4) W0 w2) (h3:SC w2.heap.size w2 w3)=>(h.trans (h3.mono (by have:=h.size;rw [bu.out] at this;exact this)):SC (w.heap.size+4) W0 w3))
 have fx:∀ wx,SC (w.heap.size+4) W0 wx→∀ j,wx.cell? ⟨w.heap.size,j,none⟩=_:=fun wx h j=>Su _ _ j _ 198 (0,0) (HV.out wx h).1
 have fy:∀ wx,SC (w.heap.size+4) W0 wx→∀ j,wx.cell? ⟨w.heap.size+1,j,none⟩=_:=fun wx h j=>Su _ _ j _ 198 (0,0) (HV.out wx h).2.1
 have fz:∀ wx,SC (w.heap.size+4) W0 wx→∀ j,wx.cell? ⟨w.heap.size+1+1,j,none⟩=_:=fun wx h j=>Su _ _ j _ 198 (0,0) (HV.out wx h).2.2.1
 have fn:∀ wx,SC (w.heap.size+4) W0 wx→∀ j,wx.cell? ⟨w.heap.size+1+1+1,j,none⟩=_:=fun wx h j=>Su _ _ j _ 198 (0,0) (HV.out wx h).2.2.2
 have zn:∀ wx,SC (w.heap.size+4) W0 wx→∀ j,wx.frozen? ⟨w.heap.size+1+1+1,j,none⟩=false:=fun wx h j=>by simp [SI,(HV.out wx h).2.2.2]
 clear hW0 hsz
 go_enter Tryz.func133,Tryz.ntmps133
 go_wp2_with fail
 rw [HW0.out]
 refine(Dp.out _).mono ?_
 rintro e w1 ⟨rfl,hb1⟩
 have hc1:=HT.out _ _ hb0 hb1
 clear hb1
 cases E1 with
 | true =>
   go_wp2_with fail
   refine Sw (v:=.tuple #[.agg (bj ((⟨y0,y1,y2,y3,y4,y5,y6⟩:Reg),y7)),.bool false]) (by simp [results,SO,go_sem,fn w1 hc1,bj]) rfl ?_
   refine HQ.out (((⟨y0,y1,y2,y3,y4,y5,y6⟩:Reg),y7),false) (by rw [H1.out];simp) _ ?_
   repeat refine SE ?_ (by simp;try omega) _
   exact HB.out _ hc1
 | false =>
   go_wp2_with fail
   refine(Dq.out _).mono ?_
   rintro e w2 ⟨rfl,hb2⟩
   have hc2:=HT.out _ _ hc1 hb2
   clear hb2
   cases E2 with
   | true =>
     go_wp2_with fail
     refine Sw (v:=.tuple #[.agg (bj ((⟨y0,y1,y2,y3,y4,y5,y6⟩:Reg),y7)),.bool false]) (by simp [results,SO,go_sem,fn w2 hc2,bj]) rfl ?_
     refine HQ.out (((⟨y0,y1,y2,y3,y4,y5,y6⟩:Reg),y7),false) (by rw [H1.out];simp) _ ?_
     repeat refine SE ?_ (by simp;try omega) _
     exact HB.out _ hc2
   | false =>
     go_wp2_with fail
     refine(Dr.out _).mono ?_
     rintro e w3 ⟨rfl,hb3⟩
     have hc3:=HT.out _ _ hc2 hb3
     clear hb3
     cases E3 with
     | true =>
       go_wp2_with fail
       refine Sw (v:=.tuple #[.agg (bj ((⟨z0,z1,z2,z3,z4,z5,z6⟩:Reg),z7)),.bool false]) (by simp [results,SO,go_sem,fn w3 hc3,bj]) rfl ?_
       refine HQ.out (((⟨z0,z1,z2,z3,z4,z5,z6⟩:Reg),z7),false) (by rw [H1.out];simp) _ ?_
       repeat refine SE ?_ (by simp;try omega) _
       exact HB.out _ hc3
     | false =>
       go_wp2_with fail
       refine Sw (v:=.tuple #[.agg (bj ((⟨x0,x1,x2,x3,x4,x5,x6⟩:Reg),x7)),.bool true]) (by simp [results,SO,go_sem,fn w3 hc3,bj]) rfl ?_
       refine HQ.out (((⟨x0,x1,x2,x3,x4,x5,x6⟩:Reg),x7),true) (by rw [H1.out];simp) _ ?_
       repeat refine SE ?_ (by simp;try omega) _
       exact HB.out _ hc3
end Go.Proofs.YtnlnmbcaongehaaGreatDoor
namespace Go.Proofs.YtnlnmbcaongehaaGreatDoor
open Go.RowKit
theorem oM {P:Program} {ops:Array Oper} {o:Oper} {a:Act} {w:Sv} {K:Act→Sv→Prop} {Q:Exit→Act→Sv→Prop} {E:Prop} (hgd:o.guard=none)(s x:Operand)(t:TypeId)
 (ho:o.op=.call { callee:=.builtin .append,args:=#[s,x],argTypes:=#[t,t] })
 (base:Nat) (e:TypeId) (i:TypeInfo) (z:Sx) (size bytes:Nat) (ht:P.underlying t=some (.slice e)) (hi:P.info? e=some i) (hz:i.zero=some z)
 (hsize:i.size=size) (hby:i.bytes=bytes) (hzs:z.cells.size=size) (hsz:0<size)
 (v:Sx) (n:Nat) (xs:List Sx) (hs:a.eval s=v) (hown:w.ownsRow base e size v n xs)
 (ad:Addr) (m c:Nat) (news:List Sx) (hx:a.eval x=.slice (some ad) m c) (hl:news.length=m*size) (hnews:∀ j u,news[j]? =some u→w.cell? (ad.add j)=some u) (h1:∀ u∈news,u.oneCell'=true)
 (h63:n+m≤maxLen) (hbytes:(n+m)*bytes≤140737488355328) (hbase:base≤w.heap.size)
 (h:∀ v' w',w'.ownsRow base e size v' (n+m) (xs++news)→w.grownBy w' v.ownBlock→(v'.ownBlock=v.ownBlock∨v'.ownBlock=some w.heap.size)→K (a.put o.dst v') w') :
 if Region.wanted o (yielded ops a.tmps)=true then Oper.wp P o a w K Q else E:=by
 have hw:Region.wanted o (yielded ops a.tmps)=true:=by simp [Region.wanted,hgd]
 rw [if_pos hw]
 obtain⟨v',w',hrun,h2,h3,_,h5⟩:=run_append_own_at (P:=P) w base t o.type e i z size bytes ht hi hz hsize hby hzs hsz v n xs hown ad m c news hl hnews h1 h63 hbytes hbase
 unfold Oper.wp execOp
 simp only [ho,resolve,invoke,builtin,Sem.run_bind,Sem.run_pure,Result.andThen_ok,List.map_toArray,SZ,List.map_nil,hs,hx,hrun]
 exact h v' w' h2 h3 h5
structure lk (T ix e k B g:Nat)(arr:Array Sx)(v:Sx)(n:Nat)(xs:List Sx)(w:Sv):Prop where
 cells:w.heap[g]? =some (.cells arr T (0,0))
 atIx:arr[ix]? =some v
 own:w.ownsRow B e k v n xs
 apart:v.ownBlock≠some g
section
variable {T ix e k B g n m:Nat} {arr:Array Sx} {v v':Sx} {xs ys:List Sx} {w w' w2:Sv}
theorem lk.lt (h:lk T ix e k B g arr v n xs w):g<w.heap.size:=(S5.1 h.cells).1
theorem lk.later (h:lk T ix e k B g arr v n xs w)(hb:SC w.heap.size w w'):lk T ix e k B g arr v n xs w':=⟨(hb.block g h.lt).trans h.cells,h.atIx,aH h.own hb,h.apart⟩
theorem lk.slice (h:lk T ix e k B g arr v n xs w):∃ a c,v=.slice a n c:=by
 rcases h.own.2 with⟨rfl,h0⟩|⟨q,cap,_,rfl,_⟩
 · exact⟨none,0,by rw [h0]⟩
 · exact⟨_,_,rfl⟩
def jq (T ix e k B g:Nat)(arr:Array Sx)(v:Sx)(n:Nat)(xs:List Sx)(w w':Sv):Prop :=
 ∃ v',lk T ix e k B g (arr.setIfInBounds ix v') v' n xs w'∧Kept (mOwn g v) w w'∧(v'.ownBlock=v.ownBlock∨∃ b,v'.ownBlock=some b∧w.heap.size≤b)
theorem Iv {arr:Array Sx} {ix:Nat} {v:Sx} (h:arr[ix]? =some v):arr.setIfInBounds ix v=arr:=by
 apply S7
 intro i
 rw [S6]
 split
 · rename_i hi
   subst hi
   split
   · exact h.symm
   · rename_i h2
     exact absurd (S5.1 h).1 h2
 · rfl
theorem lk.same (h:lk T ix e k B g arr v n xs w)(hb:SC w.heap.size w w'):jq T ix e k B g arr v n xs w w' :=
 ⟨v,by rw [Iv h.atIx];exact h.later hb,Kept.of_below hb,.inl rfl⟩
theorem mO {W:Sv} (h:lk T ix e k B g arr v n xs w)(hW:SC w.heap.size w W)(ho:w2.ownsRow B e k v' m ys)(hg:W.grownBy w2 v.ownBlock)(ha:v'.ownBlock=v.ownBlock∨v'.ownBlock=some W.heap.size) :
 (∃ a c,v'=.slice a m c)∧w2.heap[g]? =some (.cells arr T (0,0))∧v'.ownBlock≠some g∧Kept (mOwn g v) w w2∧(v'.ownBlock=v.ownBlock∨∃ b,v'.ownBlock=some b∧w.heap.size≤b):=by
 have hgl:=h.lt
 have hs:=hW.size
 refine⟨?_,?_,?_,?_,?_⟩
 · rcases ho.2 with⟨rfl,h0⟩|⟨q,cap,_,rfl,_⟩
   · exact⟨none,0,by rw [h0]⟩
   · exact⟨_,_,rfl⟩
 · rw [hg.block g (by omega) (fun e=>h.apart e.symm),hW.block g hgl]
   exact h.cells
 · rcases ha with ha|ha
   · rw [ha];exact h.apart
   · rw [ha];simp;omega
 · exact(Kept.of_below (S:=mOwn g v) hW).andGrown hg fun k hk _=>.inr hk
 · rcases ha with ha|ha
   · exact .inl ha
   · exact .inr ⟨_,ha,hs⟩
theorem mN (h:lk T ix e k B g arr v n xs w)(ho:w2.ownsRow B e k v' m ys)(hg:w2.heap[g]? =some (.cells arr T (0,0)))(hap:v'.ownBlock≠some g)(hk:Kept (mOwn g v) w w2)(hf:v'.ownBlock=v.ownBlock∨∃ b,v'.ownBlock=some b∧w.heap.size≤b) :
 jq T ix e k B g arr v m ys w (w2.setCell ⟨g,ix,none⟩ v'):=by
 refine⟨v',⟨SB _ _ _ _ _ _ hg,?_,?_,hap⟩,hk.setCell (.inr (.inl rfl)) _,hf⟩
 · rw [S6,if_pos rfl,if_pos (S5.1 h.atIx).1]
 · exact ah ho fun b hb=>SG _ _ _ _ (fun e=>hap (by rw [hb,e]))
theorem jq.trans {v2:Sx} (h:lk T ix e k B g (arr.setIfInBounds ix v') v' n xs w')(hk:Kept (mOwn g v) w w')(hf:v'.ownBlock=v.ownBlock∨∃ b,v'.ownBlock=some b∧w.heap.size≤b)(h2:jq T ix e k B g (arr.setIfInBounds ix v') v' m ys w' w2):jq T ix e k B g arr v m ys w w2:=by
 obtain⟨v2,q1,q2,q3⟩:=h2
 have e1:(arr.setIfInBounds ix v').setIfInBounds ix v2=arr.setIfInBounds ix v2:=by
  apply S7
  intro i
  simp only [S6,Array.size_setIfInBounds]
  split<;>simp_all
 refine⟨v2,by rw [e1] at q1;exact q1,hk.trans q2 fun i hi hs=>?_,?_⟩
 · rcases hs with rfl|hs
   · exact .inl rfl
   · rcases hf with hf|⟨b,hb,hbl⟩
     · exact .inr (hf▸hs)
     · rw [hb] at hs
       obtain rfl:=Option.some.inj hs
       omega
 · rcases q3 with q3|⟨b,hb,hbl⟩
   · rcases hf with hf|⟨b,hb,hbl⟩
     · exact .inl (q3.trans hf)
     · exact .inr ⟨b,q3.trans hb,hbl⟩
   · exact .inr ⟨b,hb,Nat.le_trans hk.size hbl⟩
end
end Go.Proofs.YtnlnmbcaongehaaGreatDoor
namespace Go.Proofs.YtnlnmbcaongehaaGreatDoor
open Go.RowKit
structure Rws where
 at_:Option Addr
 cap:Nat
 rows:List Row
def Rws.val (r:Rws):Sx:=.slice r.at_ r.rows.length r.cap
def Rws.eq (x y:Rws):Bool:=j8 x.rows y.rows
def Rws.ok (w:Sv)(r:Rws):Prop:=ft w r.at_ r.rows∧(∀ q∈r.rows,q.runs.length≤4000000)∧r.rows.length≤4000000
theorem Rws.ok.later {w w':Sv} {r:Rws} (h:r.ok w)(hb:SC w.heap.size w w'):r.ok w':=⟨ft.later h.1 hb,h.2⟩
theorem oB (x y:Rws)(w:Sv)(hx:x.ok w)(hy:y.ok w):Sz SL 84 #[x.val,y.val] w fun e w'=>e=.returned (.bool (x.eq y))∧SC w.heap.size w w' :=
 og x.at_ y.at_ x.cap y.cap x.rows y.rows w hx.1 hy.1 hx.2.1 hy.2.1 hx.2.2
theorem rY (x y z:Rws)(w:Sv)(hx:x.ok w)(hy:y.ok w)(hz:z.ok w):Sz SL 200 #[x.val,y.val,z.val,.func (.func 84) #[] #[]] w fun e w'=>e=.returned (.tuple #[(aF Rws.eq x y z).1.val,.bool (aF Rws.eq x y z).2])∧SC w.heap.size w w':=by
 have Dp:=h_ (fun(w1:Sv) (h:SC w.heap.size w w1)=>oB y z w1 (hy.later h) (hz.later h))
 have Dq:=h_ (fun(w1:Sv) (h:SC w.heap.size w w1)=>oB x z w1 (hx.later h) (hz.later h))
 have Dr:=h_ (fun(w1:Sv) (h:SC w.heap.size w w1)=>oB x y w1 (hx.later h) (hy.later h))
 have HT:=h_ (fun(w1 w2:Sv) (h:SC w.heap.size w w1) (h2:SC w1.heap.size w1 w2)=>h.trans (h2.mono h.size))
 generalize hQ:(fun(e:SA) (w':Sv)=>e=.returned (.tuple #[(aF Rws.eq x y z).1.val,.bool (aF Rws.eq x y z).2])∧SC w.heap.size w w')=Q
 have HQ:=h_ (fun(p:Rws × Bool) (hp:aF Rws.eq x y z=p) w' (hb:SC w.heap.size w w')=>show Q (.returned (.tuple #[p.1.val,.bool p.2])) w' from hQ▸⟨by rw [hp],hb⟩)
 clear hQ
 have h1:aF Rws.eq x y z=(if y.eq z=true then (y,false) else if x.eq z=true then (y,false) else if x.eq y=true then (z,false) else (x,true)):=rfl
 generalize y.eq z=E1 at *
 generalize x.eq z=E2 at *
 generalize x.eq y=E3 at *
 have H1:=h_ h1
 have hb0:SC w.heap.size w w:=SF _ _
 clear h1 hx hy hz
 have e0:x.val=.slice x.at_ x.rows.length x.cap:=rfl
 have e1:y.val=.slice y.at_ y.rows.length y.cap:=rfl
 have e2:z.val=.slice z.at_ z.rows.length z.cap:=rfl
 rw [e0,e1] at Dr
 rw [e0,e2] at Dq
 rw [e1,e2] at Dp
 rw [e0,e1,e2]
 go_enter Tryz.func200,Tryz.ntmps200
 go_wp2_with fail
 refine(Dp.out _ hb0).mono ?_
 rintro e w1 ⟨rfl,hb1⟩
 have hc1:=HT.out _ _ hb0 hb1
 clear hb1 hb0
 cases E1 with
 | true =>
   go_wp2_with fail
   exact HQ.out (y,false) (by rw [H1.out];simp) _ hc1
 | false =>
   go_wp2_with fail
   refine(Dq.out _ hc1).mono ?_
   rintro e w2 ⟨rfl,hb2⟩
   have hc2:=HT.out _ _ hc1 hb2
   clear hb2 hc1
   cases E2 with
   | true =>
     go_wp2_with fail
     exact HQ.out (y,false) (by rw [H1.out];simp) _ hc2
   | false =>
     go_wp2_with fail
     refine(Dr.out _ hc2).mono ?_
     rintro e w3 ⟨rfl,hb3⟩
     have hc3:=HT.out _ _ hc2 hb3
     clear hb3 hc2
     cases E3 with
     | true =>
       go_wp2_with fail
       exact HQ.out (z,false) (by rw [H1.out];simp) _ hc3
     | false =>
       go_wp2_with fail
       exact HQ.out (x,true) (by rw [H1.out];simp) _ hc3
abbrev QW (B g:Nat)(v:Sx)(fs:List ByteArray)(w:Sv):Prop:=lk 55 0 9 1 B g #[v] v fs.length (fs.map SX) w
def tw (B g:Nat)(v:Sx)(fs:List ByteArray)(w:Sv)(e:SA)(w':Sv):Prop:=e=.returned (.tuple #[])∧jq 55 0 9 1 B g #[v] v fs.length (fs.map SX) w w'
theorem DX (B g:Nat)(v:Sx)(fs:List ByteArray)(bad:Bool)(f:ByteArray)(w:Sv)(h:QW B g v fs w)(hB:B≤w.heap.size)(hl:fs.length≤1000000) :
 Sz SL 195 #[.bool bad,.string f,.pointer (some ⟨g,0,none⟩)] w (tw B g v (fs++fIf bad f) w):=by
 cases bad
 · have HS:=h_ (show tw B g v (fs++fIf false f) w (.returned (.tuple #[])) w from⟨rfl,by
    have e:fs++fIf false f=fs:=by simp [fIf]
    rw [e]
    exact h.same (SF _ _)⟩)
   generalize tw B g v (fs++fIf false f) w=Q at *
   go_enter SU,SR
   go_wp2_with fail
   go_end0
   exact HS.out
 · obtain⟨ka,kc,rfl⟩:=h.slice
   obtain⟨j0,hj,hy0,hy1,hy2⟩:=info_parts Tryz.info9
   have JI:=h_ hj;have J0:=h_ hy0;have J1:=h_ hy1;have J2:=h_ hy2
   have hg:=h.lt
   have c8:w.cell? ⟨g,0,none⟩=some (.slice ka fs.length kc):=by
    rw [Su _ _ 0 _ 55 (0,0) h.cells];exact h.atIx
   clear hj hy0 hy1 hy2
   have HO:=h_ h.own
   have h63:=h_ (show fs.length+1≤maxLen by unfold maxLen;omega)
   have Io:=h_ (fun(o:Obj) (v':Sx) (w2:Sv)=>mO (W:=w.alloc o) (v':=v') (w2:=w2) (m:=fs.length+1) (ys:=fs.map SX++[.string f]) h ((SF _ _).alloc (SH _) _))
   have HF:=h_ (fun(v':Sx) (w2:Sv) (ho:w2.ownsRow B 9 1 v' (fs.length+1) (fs.map SX++[.string f])) hg hap hk hf=>(show tw B g (.slice ka fs.length kc) (fs++fIf true f) w (.returned (.tuple #[])) (w2.setCell ⟨g,0,none⟩ v') from⟨rfl,by
    have e:(fs++fIf true f).map SX=fs.map SX++[.string f]:=by simp [fIf]
    have e2:(fs++fIf true f).length=fs.length+1:=by simp [fIf]
    rw [e,e2]
    exact mN h ho hg hap hk hf⟩))
   generalize tw B g (.slice ka fs.length kc) (fs++fIf true f) w=Q at *
   go_enter SU,SR
   go_wp2_with (at_builtin;refine aI _ _ rfl (.tmp 6) (.tmp 8) 55 rfl B 9 j0 _ 1 16 Tryz.underlying55 JI.out J0.out J1.out J2.out rfl (by decide) _ _ _ rfl HO.out _ rfl rfl rfl ?h1 h63.out ?hb hB ?_)
   case h1=>first|rfl|(intro u hu;simp at hu;subst hu;rfl)
   case hb=>omega
   intro v' w2 hown2 hgrow2 lg
   obtain⟨hv',hgc,hap,hkp,hfr⟩:=Io.out _ _ _ hown2 hgrow2 (by simpa using lg)
   obtain⟨va,vc,rfl⟩:=hv'
   have z8n:w2.frozen? ⟨g,0,none⟩=false:=by simp [SI,hgc]
   have c8n:w2.cell? ⟨g,0,none⟩=some (.slice ka fs.length kc):=Su _ _ 0 _ 55 (0,0) hgc
   have HX:=h_ (HF.out _ _ hown2 hgc hap hkp hfr)
   clear hown2 hgrow2 lg hgc hap hkp hfr
   go_wp2_with fail
   go_end0
   exact HX.out
structure BSt (w:Sv)(X Y Z O:Array Sx)(fs:List ByteArray)(wr:Sv):Prop where
 x:wr.heap[w.heap.size]? =some (.cells X 50 (0,0))
 y:wr.heap[w.heap.size+1]? =some (.cells Y 50 (0,0))
 z:wr.heap[w.heap.size+1+1]? =some (.cells Z 50 (0,0))
 n:wr.heap[w.heap.size+1+1+1]? =some (.cells #[SW .i64 0,.int .i64 0,.int .i64 0,.string ⟨#[]⟩,.int .u8 0,.string ⟨#[]⟩,.slice none 0 0] 50 (0,0))
 o:wr.heap[w.heap.size+1+1+1+1+1]? =some (.cells O 50 (0,0))
 row:∃ v,QW (w.heap.size+6) (w.heap.size+1+1+1+1) v fs wr
 below:SC w.heap.size w wr
section
variable {w wr w':Sv} {X Y Z O:Array Sx} {fs:List ByteArray}
theorem BSt.lt (h:BSt w X Y Z O fs wr):w.heap.size+1+1+1+1+1<wr.heap.size:=(S5.1 h.o).1
theorem BSt.later (h:BSt w X Y Z O fs wr)(hb:SC wr.heap.size wr w'):BSt w X Y Z O fs w':=by
 have hl:=h.lt
 obtain⟨v,hv⟩:=h.row
 exact⟨(hb.block _ (by omega)).trans h.x,(hb.block _ (by omega)).trans h.y,(hb.block _ (by omega)).trans h.z,(hb.block _ (by omega)).trans h.n,(hb.block _ (by omega)).trans h.o,⟨v,hv.later hb⟩,h.below.trans (hb.mono (by omega))⟩
theorem BSt.set (h:BSt w X Y Z O fs wr)(j:Nat)(u:Sx):BSt w X Y Z (O.setIfInBounds j u) fs (wr.setCell ⟨w.heap.size+1+1+1+1+1,j,none⟩ u):=by
 have hs:∀ b,b≠w.heap.size+1+1+1+1+1→(wr.setCell ⟨w.heap.size+1+1+1+1+1,j,none⟩ u).heap[b]? =wr.heap[b]?:=fun b hb=>SG _ _ _ _ hb
 obtain⟨v,hv⟩:=h.row
 refine⟨(hs _ (by omega)).trans h.x,(hs _ (by omega)).trans h.y,(hs _ (by omega)).trans h.z,(hs _ (by omega)).trans h.n,SB _ _ _ _ _ _ h.o,⟨v,⟨(hs _ (by omega)).trans hv.cells,hv.atIx,ah hv.own fun b hb=>hs b ?_,hv.apart⟩⟩,h.below.setCell (by simp only;omega) _⟩
 have:=(hv.own.lt b hb).1
 omega
theorem BSt.row1 (h:BSt w X Y Z O fs wr):∃ a c,wr.heap[w.heap.size+1+1+1+1]? =some (.cells #[.slice a fs.length c] 55 (0,0))∧wr.ownsRow (w.heap.size+6) 9 1 (.slice a fs.length c) fs.length (fs.map SX):=by
 obtain⟨v,hv⟩:=h.row
 obtain⟨a,c,rfl⟩:=hv.slice
 exact⟨a,c,hv.cells,hv.own⟩
theorem BSt.note (h:BSt w X Y Z O fs wr)(hl:fs.length≤1000)(bad:Bool)(f:ByteArray):Sz SL 195 #[.bool bad,.string f,.pointer (some ⟨w.heap.size+1+1+1+1,0,none⟩)] wr fun e w'=>e=.returned (.tuple #[])∧BSt w X Y Z O (fs++fIf bad f) w':=by
 have hlt:=h.lt
 obtain⟨v,hv⟩:=h.row
 refine(DX _ _ v fs bad f wr hv (by omega) (by omega)).mono fun e w' p=>?_
 obtain⟨he,v',q1,q2,q3⟩:=p
 have hk:∀ b,b<wr.heap.size→b≠w.heap.size+1+1+1+1→b<w.heap.size+6→w'.heap[b]? =wr.heap[b]?:=fun b h1 h2 h3=>q2.block b h1 fun hm=>by
  rcases hm with hm|hm
  · exact h2 hm
  · have:=(hv.own.lt b hm).1
    omega
 refine⟨he,(hk _ (by omega) (by omega) (by omega)).trans h.x,(hk _ (by omega) (by omega) (by omega)).trans h.y,(hk _ (by omega) (by omega) (by omega)).trans h.z,(hk _ (by omega) (by omega) (by omega)).trans h.n,(hk _ (by omega) (by omega) (by omega)).trans h.o,⟨v',by rw [show(#[v]:Array Sx).setIfInBounds 0 v'=#[v'] from rfl] at q1;exact q1⟩,?_⟩
 refine h.below.trans (q2.below (by omega) fun k hk hm=>?_)
 rcases hm with hm|hm
 · omega
 · have:=(hv.own.lt k hm).1
   omega
end
theorem lj (b:Bool)(f:ByteArray):(fIf b f).length≤1:=by cases b<;>simp [fIf]
theorem BSt.start (w:Sv)(X Y Z O:Array Sx):BSt w X Y Z O [] ((((((w.alloc (.cells X 50)).alloc (.cells Y 50)).alloc (.cells Z 50)).alloc (.cells #[SW .i64 0,.int .i64 0,.int .i64 0,.string ⟨#[]⟩,.int .u8 0,.string ⟨#[]⟩,.slice none 0 0] 50)).alloc (.cells #[.slice none 0 0] 55)).alloc (.cells O 50)):=by
 have a1:=Sy w (.cells X 50)
 have a2:=Sy (w.alloc (.cells X 50)) (.cells Y 50)
 have a3:=Sy ((w.alloc (.cells X 50)).alloc (.cells Y 50)) (.cells Z 50)
 have a4:=Sy (((w.alloc (.cells X 50)).alloc (.cells Y 50)).alloc (.cells Z 50)) (.cells #[SW .i64 0,.int .i64 0,.int .i64 0,.string ⟨#[]⟩,.int .u8 0,.string ⟨#[]⟩,.slice none 0 0] 50)
 have a5:=Sy ((((w.alloc (.cells X 50)).alloc (.cells Y 50)).alloc (.cells Z 50)).alloc (.cells #[SW .i64 0,.int .i64 0,.int .i64 0,.string ⟨#[]⟩,.int .u8 0,.string ⟨#[]⟩,.slice none 0 0] 50)) (.cells #[.slice none 0 0] 55)
 have a6:=Sy (((((w.alloc (.cells X 50)).alloc (.cells Y 50)).alloc (.cells Z 50)).alloc (.cells #[SW .i64 0,.int .i64 0,.int .i64 0,.string ⟨#[]⟩,.int .u8 0,.string ⟨#[]⟩,.slice none 0 0] 50)).alloc (.cells #[.slice none 0 0] 55)) (.cells O 50)
 simp only [SJ] at a2 a3 a4 a5 a6
 refine⟨?_,?_,?_,?_,a6,⟨.slice none 0 0,?_,rfl,Sv.ownsRow_nil _ _ _ _,by simp [Sx.ownBlock]⟩,?_⟩
 · rw [SD _ _ _ (by simp;try omega),SD _ _ _ (by simp;try omega),SD _ _ _ (by simp;try omega),SD _ _ _ (by simp;try omega),SD _ _ _ (by simp)]
   exact a1
 · rw [SD _ _ _ (by simp;try omega),SD _ _ _ (by simp;try omega),SD _ _ _ (by simp;try omega),SD _ _ _ (by simp)]
   exact a2
 · rw [SD _ _ _ (by simp;try omega),SD _ _ _ (by simp;try omega),SD _ _ _ (by simp)]
   exact a3
 · rw [SD _ _ _ (by simp;try omega),SD _ _ _ (by simp)]
   exact a4
 · rw [SD _ _ _ (by simp)]
   exact a5
 · exact(((((((SF _ _).alloc (SH _) _).alloc (by simp) _).alloc (by simp;try omega) _).alloc (by simp;try omega) _).alloc (by simp;try omega) _).alloc (by simp;try omega) _)
def xM (x y z:Ev)(w:Sv)(e:SA)(w':Sv):Prop:=∃ (u:Ev) (v:Sx),e=.returned (.tuple #[.agg u.enc.toArray,v])∧u.c=lE x.c y.c z.c∧u.lies w'∧(∀ b,u.uses b→x.uses b∨y.uses b∨z.uses b) ∧
 w'.ownsRow w.heap.size 9 1 v (eL x.c y.c z.c).length ((eL x.c y.c z.c).map SX)∧SC w.heap.size w w'
def Ev.rws (x:Ev):Rws:=⟨x.at_,x.cap,x.rows⟩
theorem rJ {α β:Type} (f:α→β)(eq:α→α→Bool)(eq':β→β→Bool)(h:∀ a b,eq a b=eq' (f a) (f b))(x y z:α):(f (aF eq x y z).1,(aF eq x y z).2)=aF eq' (f x) (f y) (f z):=by
 unfold aF
 rw [h,h,h]
 split
 · rfl
 · split
   · rfl
   · split<;>rfl
theorem CH (x y:List Row):j8 x y=mM (x.map Row.runs) (y.map Row.runs):=by
 unfold j8 mM
 induction x generalizing y with
 | nil=>cases y<;>rfl
 | cons a l ih =>
   cases y with
   | nil=>rfl
   | cons b m=>simp only [SZ,Lib.allEq,ih];rfl
theorem CM {α:Type} (eq:α→α→Bool)(x y z:α):(aF eq x y z).1=x∨(aF eq x y z).1=y∨(aF eq x y z).1=z:=by
 unfold aF
 split
 · exact .inr (.inl rfl)
 · split
   · exact .inr (.inl rfl)
   · split
     · exact .inr (.inr rfl)
     · exact .inl rfl
theorem JD {x y z:Ev} {w wr w':Sv} {X Y Z O:Array Sx} {fs:List ByteArray} {v:Sx} {r:Rws} {c5:Bool} (h:BSt w X Y Z O (eL x.c y.c z.c) wr)(hr:aF Rws.eq x.rws y.rws z.rws=(r,c5))(hx:x.lies w)(hy:y.lies w)(hz:z.lies w)
 (hv:wr.ownsRow (w.heap.size+6) 9 1 v (eL x.c y.c z.c).length ((eL x.c y.c z.c).map SX)) (hw:Kept (fun b=>b=w.heap.size+1+1+1) wr w') :
 xM x y z w (.returned (.tuple #[.agg #[.int .i64 x.id,.int .i64 (ot x.c y.c z.c).1.1,.int .i64 (ot x.c y.c z.c).1.2,.string (kM x.c y.c z.c).1,.int .u8 (qA x.c y.c z.c).1,.string (jc x.c y.c z.c).1,.slice r.at_ r.rows.length r.cap],v])) w':=by
 have hb:=h.below
 have hB:SC w.heap.size w w':=hb.trans (hw.below hb.size fun k hk e=>by omega)
 have hm:=CM Rws.eq x.rws y.rws z.rws
 rw [hr] at hm
 have hrows:(yJ x.c y.c z.c).1=r.rows.map Row.runs:=by
  have:=rJ (fun q:Rws=>q.rows.map Row.runs) Rws.eq mM (fun a b=>CH _ _) x.rws y.rws z.rws
  rw [hr] at this
  exact(congrArg Prod.fst this).symm
 refine⟨⟨x.id,_,_,_,_,_,r.at_,r.cap,r.rows⟩,v,rfl,?_,?_,?_,?_,hB⟩
 · unfold lE
   simp only [Ev.c,EvC.mk.injEq,true_and]
   exact hrows.symm
 · refine ft.later (w:=w) ?_ hB
   rcases hm with rfl|rfl|rfl
   · exact hx
   · exact hy
   · exact hz
 · intro b hu
   rcases hm with rfl|rfl|rfl
   · exact .inl hu
   · exact .inr (.inl hu)
   · exact .inr (.inr hu)
 · refine ah (w:=wr) ?_ fun b hb=>hw.block b (hv.lt b hb).2 ?_
   · exact⟨hv.1,hv.2.imp id fun⟨g,cap,cur,q1,q2,q3⟩=>⟨g,cap,cur,q1,by omega,q3⟩⟩
   · have:=(hv.lt b hb).1
     omega
theorem EC (x y z:Ev)(w:Sv)(hx:x.lies w)(hy:y.lies w)(hz:z.lies w)(hfx:x.fits)(wU:y.fits)(hfz:z.fits) :
 Sz SL 137 #[.agg x.enc.toArray,.agg y.enc.toArray,.agg z.enc.toArray] w (xM x y z w):=by
 have ok:∀ e:Ev,e.lies w→e.fits→e.rws.ok w:=fun e h hf=>⟨h,fun q hq=>(hf.2.2.2.2.2.2.2.1 q hq).2.1,hf.2.2.2.2.2.2.2.2⟩
 have M3:=h_ (fun w1=>rX (x.inn,x.out) (y.inn,y.out) (z.inn,z.out) w1)
 have Ia:=h_ (fun w1=>e_ x.region y.region z.region w1)
 have H_:=h_ (fun w1=>r8 x.kind y.kind z.kind w1)
 have EV:=h_ (fun w1=>e_ x.speaker y.speaker z.speaker w1)
 have HV5:=h_ (fun(w1:Sv) (h:SC w.heap.size w w1)=>rY x.rws y.rws z.rws w1 ((ok x hx hfx).later h) ((ok y hy wU).later h) ((ok z hz hfz).later h))
 have e1:aF fu (x.inn,x.out) (y.inn,y.out) (z.inn,z.out)=ot x.c y.c z.c:=rfl
 have e2:aF fH x.region y.region z.region=kM x.c y.c z.c:=rfl
 have e3:aF jd x.kind y.kind z.kind=qA x.c y.c z.c:=rfl
 have e4:aF fH x.speaker y.speaker z.speaker=jc x.c y.c z.c:=rfl
 rw [e1] at M3
 rw [e2] at Ia
 rw [e3] at H_
 rw [e4] at EV
 clear e1 e2 e3 e4
 have hF:eL x.c y.c z.c=fIf (ot x.c y.c z.c).2 jI++fIf (kM x.c y.c z.c).2 bf++fIf (qA x.c y.c z.c).2 rC++fIf (jc x.c y.c z.c).2 jH++fIf (aF Rws.eq x.rws y.rws z.rws).2 Em:=by
  have:=rJ (fun q:Rws=>q.rows.map Row.runs) Rws.eq mM (fun a b=>CH _ _) x.rws y.rws z.rws
  rw [congrArg Prod.snd this]
  rfl
 have aA:=h_ (fun(X Y Z O:Array Sx) (wr:Sv) (h:BSt w X Y Z O (eL x.c y.c z.c) wr) (r:Rws) (c5:Bool) (hr:aF Rws.eq x.rws y.rws z.rws=(r,c5)) (v:Sx) (hv:wr.ownsRow (w.heap.size+6) 9 1 v (eL x.c y.c z.c).length ((eL x.c y.c z.c).map SX)) (w':Sv) (hw:Kept (fun b=>b=w.heap.size+1+1+1) wr w')=>JD (fs:=[]) h hr hx hy hz hv hw)
 rw [hF] at aA
 generalize xM x y z w=Q at *
 generalize ot x.c y.c z.c=p1 at *
 generalize kM x.c y.c z.c=p2 at *
 generalize qA x.c y.c z.c=p3 at *
 generalize jc x.c y.c z.c=p4 at *
 generalize aF Rws.eq x.rws y.rws z.rws=p5 at *
 obtain⟨⟨s1,s2⟩,c1⟩:=p1
 obtain⟨s3,c2⟩:=p2
 obtain⟨s4,c3⟩:=p3
 obtain⟨s5,c4⟩:=p4
 obtain⟨r5,c5⟩:=p5
 have HST:=h_ (fun(O:Array Sx)=>BSt.start w x.enc.toArray y.enc.toArray z.enc.toArray O)
 clear hx hy hz hfx wU hfz ok hF
 obtain⟨xid,xin,xout,xreg,xkind,xsp,xa,xc,xr⟩:=x
 obtain⟨yid,yin,yout,yreg,ykind,ysp,ya,yc,yr⟩:=y
 obtain⟨zid,zin,zout,zreg,zkind,zsp,za,zc,zr⟩:=z
 obtain⟨ra5,rc5,rr5⟩:=r5
 simp only [Ev.enc,aW,Ev.rws,Rws.val] at *
 go_enter Tryz.func137,Tryz.ntmps137
 go_wp2_with fail
 have Dv:=h_ (HST.out #[SW .i64 xid,.int .i64 0,.int .i64 0,.string ⟨#[]⟩,.int .u8 0,.string ⟨#[]⟩,.slice none 0 0])
 clear HST
 refine(M3.out _).mono ?_
 rintro e w1 ⟨rfl,hb1⟩
 have lF:=h_ (Dv.out.later hb1)
 clear hb1 Dv M3
 have fx1:∀ j,w1.cell? ⟨w.heap.size,j,none⟩=_:=fun j=>Su _ _ j _ 50 (0,0) lF.out.x
 have fy1:∀ j,w1.cell? ⟨w.heap.size+1,j,none⟩=_:=fun j=>Su _ _ j _ 50 (0,0) lF.out.y
 have fz1:∀ j,w1.cell? ⟨w.heap.size+1+1,j,none⟩=_:=fun j=>Su _ _ j _ 50 (0,0) lF.out.z
 have fo1:∀ j,w1.cell? ⟨w.heap.size+1+1+1+1+1,j,none⟩=_:=fun j=>Su _ _ j _ 50 (0,0) lF.out.o
 have zo1:∀ j,w1.frozen? ⟨w.heap.size+1+1+1+1+1,j,none⟩=false:=fun j=>by simp [SI,lF.out.o]
 go_wp2_with fail
 have HT1:=h_ (show BSt w #[SW .i64 xid,.int .i64 xin,.int .i64 xout,.string xreg,.int .u8 xkind,.string xsp,.slice xa xr.length xc] #[SW .i64 yid,.int .i64 yin,.int .i64 yout,.string yreg,.int .u8 ykind,.string ysp,.slice ya yr.length yc] #[SW .i64 zid,.int .i64 zin,.int .i64 zout,.string zreg,.int .u8 zkind,.string zsp,.slice za zr.length zc] #[SW .i64 xid,.int .i64 s1,.int .i64 s2,.string ⟨#[]⟩,.int .u8 0,.string ⟨#[]⟩,.slice none 0 0] ([]) ((w1.setCell ⟨w.heap.size+1+1+1+1+1,1,none⟩ (.int .i64 s1)).setCell ⟨w.heap.size+1+1+1+1+1,2,none⟩ (.int .i64 s2)) from((lF.out.set 1 (.int .i64 s1)).set 2 (.int .i64 s2)))
 refine(HT1.out.note (by simp) c1 jI).mono ?_
 clear lF HT1 fx1 fy1 fz1 fo1 zo1
 rintro e w2 ⟨rfl,hs2⟩
 have HS2:=h_ (show BSt w #[SW .i64 xid,.int .i64 xin,.int .i64 xout,.string xreg,.int .u8 xkind,.string xsp,.slice xa xr.length xc] #[SW .i64 yid,.int .i64 yin,.int .i64 yout,.string yreg,.int .u8 ykind,.string ysp,.slice ya yr.length yc] #[SW .i64 zid,.int .i64 zin,.int .i64 zout,.string zreg,.int .u8 zkind,.string zsp,.slice za zr.length zc] #[SW .i64 xid,.int .i64 s1,.int .i64 s2,.string ⟨#[]⟩,.int .u8 0,.string ⟨#[]⟩,.slice none 0 0] (fIf c1 jI) w2 from hs2)
 clear hs2
 have fx2:∀ j,w2.cell? ⟨w.heap.size,j,none⟩=_:=fun j=>Su _ _ j _ 50 (0,0) HS2.out.x
 have fy2:∀ j,w2.cell? ⟨w.heap.size+1,j,none⟩=_:=fun j=>Su _ _ j _ 50 (0,0) HS2.out.y
 have fz2:∀ j,w2.cell? ⟨w.heap.size+1+1,j,none⟩=_:=fun j=>Su _ _ j _ 50 (0,0) HS2.out.z
 have fo2:∀ j,w2.cell? ⟨w.heap.size+1+1+1+1+1,j,none⟩=_:=fun j=>Su _ _ j _ 50 (0,0) HS2.out.o
 have zo2:∀ j,w2.frozen? ⟨w.heap.size+1+1+1+1+1,j,none⟩=false:=fun j=>by simp [SI,HS2.out.o]
 go_wp2_with fail
 refine(Ia.out _).mono ?_
 rintro e w3 ⟨rfl,hb3⟩
 have xR:=h_ (HS2.out.later hb3)
 clear hb3 HS2 Ia
 clear fx2 fy2 fz2 fo2 zo2
 have fx3:∀ j,w3.cell? ⟨w.heap.size,j,none⟩=_:=fun j=>Su _ _ j _ 50 (0,0) xR.out.x
 have fy3:∀ j,w3.cell? ⟨w.heap.size+1,j,none⟩=_:=fun j=>Su _ _ j _ 50 (0,0) xR.out.y
 have fz3:∀ j,w3.cell? ⟨w.heap.size+1+1,j,none⟩=_:=fun j=>Su _ _ j _ 50 (0,0) xR.out.z
 have fo3:∀ j,w3.cell? ⟨w.heap.size+1+1+1+1+1,j,none⟩=_:=fun j=>Su _ _ j _ 50 (0,0) xR.out.o
 have zo3:∀ j,w3.frozen? ⟨w.heap.size+1+1+1+1+1,j,none⟩=false:=fun j=>by simp [SI,xR.out.o]
 go_wp2_with fail
 have HT3:=h_ (show BSt w #[SW .i64 xid,.int .i64 xin,.int .i64 xout,.string xreg,.int .u8 xkind,.string xsp,.slice xa xr.length xc] #[SW .i64 yid,.int .i64 yin,.int .i64 yout,.string yreg,.int .u8 ykind,.string ysp,.slice ya yr.length yc] #[SW .i64 zid,.int .i64 zin,.int .i64 zout,.string zreg,.int .u8 zkind,.string zsp,.slice za zr.length zc] #[SW .i64 xid,.int .i64 s1,.int .i64 s2,.string s3,.int .u8 0,.string ⟨#[]⟩,.slice none 0 0] (fIf c1 jI) (w3.setCell ⟨w.heap.size+1+1+1+1+1,3,none⟩ (.string s3)) from(xR.out.set 3 (.string s3)))
 refine(HT3.out.note (by have:=lj c1 jI;omega) c2 bf).mono ?_
 clear xR HT3 fx3 fy3 fz3 fo3 zo3
 rintro e w4 ⟨rfl,hs4⟩
 have xQ:=h_ (show BSt w #[SW .i64 xid,.int .i64 xin,.int .i64 xout,.string xreg,.int .u8 xkind,.string xsp,.slice xa xr.length xc] #[SW .i64 yid,.int .i64 yin,.int .i64 yout,.string yreg,.int .u8 ykind,.string ysp,.slice ya yr.length yc] #[SW .i64 zid,.int .i64 zin,.int .i64 zout,.string zreg,.int .u8 zkind,.string zsp,.slice za zr.length zc] #[SW .i64 xid,.int .i64 s1,.int .i64 s2,.string s3,.int .u8 0,.string ⟨#[]⟩,.slice none 0 0] (fIf c1 jI++fIf c2 bf) w4 from hs4)
 clear hs4
 have fx4:∀ j,w4.cell? ⟨w.heap.size,j,none⟩=_:=fun j=>Su _ _ j _ 50 (0,0) xQ.out.x
 have fy4:∀ j,w4.cell? ⟨w.heap.size+1,j,none⟩=_:=fun j=>Su _ _ j _ 50 (0,0) xQ.out.y
 have fz4:∀ j,w4.cell? ⟨w.heap.size+1+1,j,none⟩=_:=fun j=>Su _ _ j _ 50 (0,0) xQ.out.z
 have fo4:∀ j,w4.cell? ⟨w.heap.size+1+1+1+1+1,j,none⟩=_:=fun j=>Su _ _ j _ 50 (0,0) xQ.out.o
 have zo4:∀ j,w4.frozen? ⟨w.heap.size+1+1+1+1+1,j,none⟩=false:=fun j=>by simp [SI,xQ.out.o]
 go_wp2_with fail
 refine(H_.out _).mono ?_
 rintro e w5 ⟨rfl,hb5⟩
 have xP:=h_ (xQ.out.later hb5)
 clear hb5 xQ H_
 clear fx4 fy4 fz4 fo4 zo4
 have fx5:∀ j,w5.cell? ⟨w.heap.size,j,none⟩=_:=fun j=>Su _ _ j _ 50 (0,0) xP.out.x
 have fy5:∀ j,w5.cell? ⟨w.heap.size+1,j,none⟩=_:=fun j=>Su _ _ j _ 50 (0,0) xP.out.y
 have fz5:∀ j,w5.cell? ⟨w.heap.size+1+1,j,none⟩=_:=fun j=>Su _ _ j _ 50 (0,0) xP.out.z
 have fo5:∀ j,w5.cell? ⟨w.heap.size+1+1+1+1+1,j,none⟩=_:=fun j=>Su _ _ j _ 50 (0,0) xP.out.o
 have zo5:∀ j,w5.frozen? ⟨w.heap.size+1+1+1+1+1,j,none⟩=false:=fun j=>by simp [SI,xP.out.o]
 go_wp2_with fail
 have Ds:=h_ (show BSt w #[SW .i64 xid,.int .i64 xin,.int .i64 xout,.string xreg,.int .u8 xkind,.string xsp,.slice xa xr.length xc] #[SW .i64 yid,.int .i64 yin,.int .i64 yout,.string yreg,.int .u8 ykind,.string ysp,.slice ya yr.length yc] #[SW .i64 zid,.int .i64 zin,.int .i64 zout,.string zreg,.int .u8 zkind,.string zsp,.slice za zr.length zc] #[SW .i64 xid,.int .i64 s1,.int .i64 s2,.string s3,.int .u8 s4,.string ⟨#[]⟩,.slice none 0 0] (fIf c1 jI++fIf c2 bf) (w5.setCell ⟨w.heap.size+1+1+1+1+1,4,none⟩ (.int .u8 s4)) from(xP.out.set 4 (.int .u8 s4)))
 refine(Ds.out.note (by simp only [SY];have:=lj c1 jI;have:=lj c2 bf;omega) c3 rC).mono ?_
 clear xP Ds fx5 fy5 fz5 fo5 zo5
 rintro e w6 ⟨rfl,hs6⟩
 have Du:=h_ (show BSt w #[SW .i64 xid,.int .i64 xin,.int .i64 xout,.string xreg,.int .u8 xkind,.string xsp,.slice xa xr.length xc] #[SW .i64 yid,.int .i64 yin,.int .i64 yout,.string yreg,.int .u8 ykind,.string ysp,.slice ya yr.length yc] #[SW .i64 zid,.int .i64 zin,.int .i64 zout,.string zreg,.int .u8 zkind,.string zsp,.slice za zr.length zc] #[SW .i64 xid,.int .i64 s1,.int .i64 s2,.string s3,.int .u8 s4,.string ⟨#[]⟩,.slice none 0 0] (fIf c1 jI++fIf c2 bf++fIf c3 rC) w6 from hs6)
 clear hs6
 have fx6:∀ j,w6.cell? ⟨w.heap.size,j,none⟩=_:=fun j=>Su _ _ j _ 50 (0,0) Du.out.x
 have fy6:∀ j,w6.cell? ⟨w.heap.size+1,j,none⟩=_:=fun j=>Su _ _ j _ 50 (0,0) Du.out.y
 have fz6:∀ j,w6.cell? ⟨w.heap.size+1+1,j,none⟩=_:=fun j=>Su _ _ j _ 50 (0,0) Du.out.z
 have fo6:∀ j,w6.cell? ⟨w.heap.size+1+1+1+1+1,j,none⟩=_:=fun j=>Su _ _ j _ 50 (0,0) Du.out.o
 have zo6:∀ j,w6.frozen? ⟨w.heap.size+1+1+1+1+1,j,none⟩=false:=fun j=>by simp [SI,Du.out.o]
 go_wp2_with fail
 refine(EV.out _).mono ?_
 rintro e w7 ⟨rfl,lO⟩
 have Ib:=h_ (Du.out.later lO)
 clear lO Du EV
 clear fx6 fy6 fz6 fo6 zo6
 have fx7:∀ j,w7.cell? ⟨w.heap.size,j,none⟩=_:=fun j=>Su _ _ j _ 50 (0,0) Ib.out.x
 have fy7:∀ j,w7.cell? ⟨w.heap.size+1,j,none⟩=_:=fun j=>Su _ _ j _ 50 (0,0) Ib.out.y
 have fz7:∀ j,w7.cell? ⟨w.heap.size+1+1,j,none⟩=_:=fun j=>Su _ _ j _ 50 (0,0) Ib.out.z
 have fo7:∀ j,w7.cell? ⟨w.heap.size+1+1+1+1+1,j,none⟩=_:=fun j=>Su _ _ j _ 50 (0,0) Ib.out.o
 have zo7:∀ j,w7.frozen? ⟨w.heap.size+1+1+1+1+1,j,none⟩=false:=fun j=>by simp [SI,Ib.out.o]
 go_wp2_with fail
 have PS:=h_ (show BSt w #[SW .i64 xid,.int .i64 xin,.int .i64 xout,.string xreg,.int .u8 xkind,.string xsp,.slice xa xr.length xc] #[SW .i64 yid,.int .i64 yin,.int .i64 yout,.string yreg,.int .u8 ykind,.string ysp,.slice ya yr.length yc] #[SW .i64 zid,.int .i64 zin,.int .i64 zout,.string zreg,.int .u8 zkind,.string zsp,.slice za zr.length zc] #[SW .i64 xid,.int .i64 s1,.int .i64 s2,.string s3,.int .u8 s4,.string s5,.slice none 0 0] (fIf c1 jI++fIf c2 bf++fIf c3 rC) (w7.setCell ⟨w.heap.size+1+1+1+1+1,5,none⟩ (.string s5)) from(Ib.out.set 5 (.string s5)))
 refine(PS.out.note (by simp only [SY];have:=lj c1 jI;have:=lj c2 bf;have:=lj c3 rC;omega) c4 jH).mono ?_
 clear Ib PS fx7 fy7 fz7 fo7 zo7
 rintro e w8 ⟨rfl,Kp⟩
 have Ab:=h_ (show BSt w #[SW .i64 xid,.int .i64 xin,.int .i64 xout,.string xreg,.int .u8 xkind,.string xsp,.slice xa xr.length xc] #[SW .i64 yid,.int .i64 yin,.int .i64 yout,.string yreg,.int .u8 ykind,.string ysp,.slice ya yr.length yc] #[SW .i64 zid,.int .i64 zin,.int .i64 zout,.string zreg,.int .u8 zkind,.string zsp,.slice za zr.length zc] #[SW .i64 xid,.int .i64 s1,.int .i64 s2,.string s3,.int .u8 s4,.string s5,.slice none 0 0] (fIf c1 jI++fIf c2 bf++fIf c3 rC++fIf c4 jH) w8 from Kp)
 clear Kp
 have fx8:∀ j,w8.cell? ⟨w.heap.size,j,none⟩=_:=fun j=>Su _ _ j _ 50 (0,0) Ab.out.x
 have fy8:∀ j,w8.cell? ⟨w.heap.size+1,j,none⟩=_:=fun j=>Su _ _ j _ 50 (0,0) Ab.out.y
 have fz8:∀ j,w8.cell? ⟨w.heap.size+1+1,j,none⟩=_:=fun j=>Su _ _ j _ 50 (0,0) Ab.out.z
 have fo8:∀ j,w8.cell? ⟨w.heap.size+1+1+1+1+1,j,none⟩=_:=fun j=>Su _ _ j _ 50 (0,0) Ab.out.o
 have zo8:∀ j,w8.frozen? ⟨w.heap.size+1+1+1+1+1,j,none⟩=false:=fun j=>by simp [SI,Ab.out.o]
 go_wp2_with fail
 refine(HV5.out _ (Ab.out.below)).mono ?_
 rintro e w9 ⟨rfl,Gj⟩
 have uP:=h_ (Ab.out.later Gj)
 clear Gj Ab HV5
 clear fx8 fy8 fz8 fo8 zo8
 have fx9:∀ j,w9.cell? ⟨w.heap.size,j,none⟩=_:=fun j=>Su _ _ j _ 50 (0,0) uP.out.x
 have fy9:∀ j,w9.cell? ⟨w.heap.size+1,j,none⟩=_:=fun j=>Su _ _ j _ 50 (0,0) uP.out.y
 have fz9:∀ j,w9.cell? ⟨w.heap.size+1+1,j,none⟩=_:=fun j=>Su _ _ j _ 50 (0,0) uP.out.z
 have fo9:∀ j,w9.cell? ⟨w.heap.size+1+1+1+1+1,j,none⟩=_:=fun j=>Su _ _ j _ 50 (0,0) uP.out.o
 have zo9:∀ j,w9.frozen? ⟨w.heap.size+1+1+1+1+1,j,none⟩=false:=fun j=>by simp [SI,uP.out.o]
 go_wp2_with fail
 have HT9:=h_ (show BSt w #[SW .i64 xid,.int .i64 xin,.int .i64 xout,.string xreg,.int .u8 xkind,.string xsp,.slice xa xr.length xc] #[SW .i64 yid,.int .i64 yin,.int .i64 yout,.string yreg,.int .u8 ykind,.string ysp,.slice ya yr.length yc] #[SW .i64 zid,.int .i64 zin,.int .i64 zout,.string zreg,.int .u8 zkind,.string zsp,.slice za zr.length zc] #[SW .i64 xid,.int .i64 s1,.int .i64 s2,.string s3,.int .u8 s4,.string s5,.slice ra5 rr5.length rc5] (fIf c1 jI++fIf c2 bf++fIf c3 rC++fIf c4 jH) (w9.setCell ⟨w.heap.size+1+1+1+1+1,6,none⟩ (.slice ra5 rr5.length rc5)) from(uP.out.set 6 (.slice ra5 rr5.length rc5)))
 refine(HT9.out.note (by simp only [SY];have:=lj c1 jI;have:=lj c2 bf;have:=lj c3 rC;have:=lj c4 jH;omega) c5 Em).mono ?_
 clear uP HT9 fx9 fy9 fz9 fo9 zo9
 rintro e w10 ⟨rfl,Ec⟩
 have uQ:=h_ (show BSt w #[SW .i64 xid,.int .i64 xin,.int .i64 xout,.string xreg,.int .u8 xkind,.string xsp,.slice xa xr.length xc] #[SW .i64 yid,.int .i64 yin,.int .i64 yout,.string yreg,.int .u8 ykind,.string ysp,.slice ya yr.length yc] #[SW .i64 zid,.int .i64 zin,.int .i64 zout,.string zreg,.int .u8 zkind,.string zsp,.slice za zr.length zc] #[SW .i64 xid,.int .i64 s1,.int .i64 s2,.string s3,.int .u8 s4,.string s5,.slice ra5 rr5.length rc5] (fIf c1 jI++fIf c2 bf++fIf c3 rC++fIf c4 jH++fIf c5 Em) w10 from Ec)
 clear Ec
 have fx10:∀ j,w10.cell? ⟨w.heap.size,j,none⟩=_:=fun j=>Su _ _ j _ 50 (0,0) uQ.out.x
 have fy10:∀ j,w10.cell? ⟨w.heap.size+1,j,none⟩=_:=fun j=>Su _ _ j _ 50 (0,0) uQ.out.y
 have fz10:∀ j,w10.cell? ⟨w.heap.size+1+1,j,none⟩=_:=fun j=>Su _ _ j _ 50 (0,0) uQ.out.z
 have fo10:∀ j,w10.cell? ⟨w.heap.size+1+1+1+1+1,j,none⟩=_:=fun j=>Su _ _ j _ 50 (0,0) uQ.out.o
 have zo10:∀ j,w10.frozen? ⟨w.heap.size+1+1+1+1+1,j,none⟩=false:=fun j=>by simp [SI,uQ.out.o]
 obtain⟨fa,fc,ln,hfo⟩:=uQ.out.row1
 have HFO:=h_ hfo
 have ff:∀ j,w10.cell? ⟨w.heap.size+1+1+1+1,j,none⟩=_:=fun j=>Su _ _ j _ 55 (0,0) ln
 have hnb:=uQ.out.n
 have fn:∀ j,w10.cell? ⟨w.heap.size+1+1+1,j,none⟩=_:=fun j=>Su _ _ j _ 50 (0,0) hnb
 have zn:∀ j,w10.frozen? ⟨w.heap.size+1+1+1,j,none⟩=false:=fun j=>by simp [SI,hnb]
 clear ln hfo hnb
 generalize hfs:(fIf c1 jI++fIf c2 bf++fIf c3 rC++fIf c4 jH++fIf c5 Em).length=fl at *
 have HFL:=h_ hfs
 clear hfs fx10 fy10 fz10 zo10
 go_wp2_with fail
 go_region
 go_wp2_with fail
 refine Sw (v:=.tuple #[.agg #[SW .i64 xid,.int .i64 s1,.int .i64 s2,.string s3,.int .u8 s4,.string s5,.slice ra5 rr5.length rc5],.slice fa fl fc]) (by simp [results,Tryz.results137,go_sem,fn]) rfl ?_
 have nw:=aA.out _ _ _ _ _ uQ.out ⟨ra5,rc5,rr5⟩ c5 rfl (.slice fa fl fc) HFO.out
 refine nw _ ?_
 refine Kept.drew ?_
 refine Kept.setCell (Kept.setCell (Kept.setCell (Kept.setCell (Kept.setCell (Kept.setCell (Kept.setCell (Kept.refl _ _) ?_ _) ?_ _) ?_ _) ?_ _) ?_ _) ?_ _) ?_ _
 all_goals exact .inr rfl
end Go.Proofs.YtnlnmbcaongehaaGreatDoor
namespace Go.Proofs.YtnlnmbcaongehaaGreatDoor
open Go.RowKit
theorem Tryz.info135:(SL.info? 135).map (fun i=>(i.zero,i.size,i.bytes))=some (some (.agg #[.int .u8 0,.int .i64 0,.string ⟨#[]⟩,.string ⟨#[]⟩]),4,48):=by kernel_rfl
abbrev ClAt (B g:Nat)(arr:Array Sx)(kv:Sx)(cls:List Cl)(w:Sv):Prop:=lk 142 8 135 4 B g arr kv cls.length (cls.flatMap Cl.enc) w
def qZ (B g:Nat)(arr:Array Sx)(kv:Sx)(cls:List Cl)(w:Sv)(e:SA)(w':Sv):Prop:=e=.returned (.tuple #[])∧jq 142 8 135 4 B g arr kv cls.length (cls.flatMap Cl.enc) w w'
theorem MV (w:Sv)(o:Obj)(c:Cl)(j:Nat)(u:Sx)(h:c.enc[j]? =some u):((w.alloc o).alloc (.cells c.enc.toArray 135)).drew.cell? ((⟨w.heap.size+1,0,none⟩:Addr).add j)=some u:=by
 have:=nj (w.alloc o) c.enc.toArray 135 j u (by simpa using h)
 rw [SJ] at this
 exact this
theorem Iq (w:Sv)(o o':Obj):SC w.heap.size w ((w.alloc o).alloc o').drew:=(((SF _ _).alloc (SH _) _).alloc (by simp) _).drew
theorem lW (B g:Nat)(arr:Array Sx)(kv:Sx)(cls:List Cl)(is:Bool)(c:Cl)(w:Sv)(h:ClAt B g arr kv cls w)(hB:B≤w.heap.size)(hl:cls.length≤1000000) :
 Sz SL 130 #[.pointer (some ⟨g,0,none⟩),.bool is,.agg c.enc.toArray] w (qZ B g arr kv (cls++clIf is c) w):=by
 cases is
 · have HS:=h_ (fun w' (hb:SC w.heap.size w w')=>(show qZ B g arr kv (cls++clIf false c) w (.returned (.tuple #[])) w' from⟨rfl,by
    have e:cls++clIf false c=cls:=by simp [clIf]
    rw [e]
    exact h.same hb⟩))
   generalize qZ B g arr kv (cls++clIf false c) w=Q at *
   obtain⟨sec,id,name,field⟩:=c
   simp only [Cl.enc]
   go_enter SV,SS
   go_wp2_with fail
   go_end0
   exact HS.out _ ((SF _ _).alloc (SH _) _)
 · obtain⟨ka,kc,rfl⟩:=h.slice
   obtain⟨j0,hj,hy0,hy1,hy2⟩:=info_parts Tryz.info135
   have JI:=h_ hj;have J0:=h_ hy0;have J1:=h_ hy1;have J2:=h_ hy2
   have hg:=h.lt
   have c8:∀ o,(w.alloc o).cell? ⟨g,8,none⟩=some (.slice ka cls.length kc):=fun o=>by
    rw [SK _ _ _ (by simpa using hg),Su _ _ 8 arr 142 (0,0) h.cells];exact h.atIx
   have c8':∀ o o',((w.alloc o).alloc o').cell? ⟨g,8,none⟩=some (.slice ka cls.length kc):=fun o o'=>by
    rw [SK _ _ _ (by simp;omega)];exact c8 o
   clear hj hy0 hy1 hy2
   have mixed:SL.follows Departure.mixedOrders=true:=by kernel_rfl
   have kH:=h_ (fun(o o':Obj)=>(show((w.alloc o).alloc o').drew.ownsRow B 135 4 (.slice ka cls.length kc) cls.length (cls.flatMap Cl.enc) from(h.own.alloc o).alloc o'))
   have HN:=h_ (fun(o:Obj)=>MV w o c)
   have h63:=h_ (show cls.length+1≤maxLen by unfold maxLen;omega)
   have Ag:=h_ (fun(o o':Obj)=>(show B≤((w.alloc o).alloc o').drew.heap.size from by show B≤((w.alloc o).alloc o').heap.size;simp;omega))
   have H8:=h_ h.atIx
   have Io:=h_ (fun(o o':Obj) (v':Sx) (w2:Sv)=>mO (v':=v') (w2:=w2) (m:=cls.length+1) (ys:=cls.flatMap Cl.enc++c.enc) h (Iq w o o'))
   have one4:=h_ (Cl.one c)
   have HF:=h_ (fun(v':Sx) (w2:Sv) (ho:w2.ownsRow B 135 4 v' (cls.length+1) (cls.flatMap Cl.enc++c.enc)) hg hap hk hf=>(show qZ B g arr (.slice ka cls.length kc) (cls++clIf true c) w (.returned (.tuple #[])) (w2.setCell ⟨g,8,none⟩ v') from⟨rfl,by
    have e:(cls++clIf true c).flatMap Cl.enc=cls.flatMap Cl.enc++c.enc:=by simp [clIf]
    have e2:(cls++clIf true c).length=cls.length+1:=by simp [clIf]
    rw [e,e2]
    exact mN h ho hg hap hk hf⟩))
   generalize qZ B g arr (.slice ka cls.length kc) (cls++clIf true c) w=Q at *
   obtain⟨sec,id,name,field⟩:=c
   simp only [Cl.enc]
   go_enter SV,SS
   go_wp2_with fail
   go_region_law_o (refine oM rfl (.tmp 11) (.tmp 13) 59 rfl B 135 j0 _ 4 48 Tryz.underlying59 JI.out J0.out J1.out J2.out rfl (by decide) (.slice ka cls.length kc) cls.length (cls.flatMap Cl.enc) (by rfl) (kH.out _ _) ⟨w.heap.size+1,0,none⟩ 1 1 [.int .u8 sec,.int .i64 id,.string name,.string field] (by rfl) rfl (HN.out _) one4.out h63.out (by omega) (Ag.out _ _) ?_;intro v' w2 hown2 hgrow2 lg;obtain⟨hv',hgc,hap,hkp,hfr⟩:=Io.out _ _ _ _ hown2 hgrow2 lg;obtain⟨va,vc,rfl⟩:=hv';have c8n:w2.cell? ⟨g,8,none⟩=some (.slice ka cls.length kc):=(Su _ _ 8 arr 142 (0,0) hgc).trans H8.out;have z8n:w2.frozen? ⟨g,8,none⟩=false:=(by simp [SI,hgc]);have HX:=h_ hown2;have HG:=h_ hgrow2;have HA:=h_ lg;clear hown2 hgrow2 lg)
   all_goals
    go_wp2_with fail
    go_end0
    exact HF.out _ _ HX.out hgc hap hkp hfr
end Go.Proofs.YtnlnmbcaongehaaGreatDoor
