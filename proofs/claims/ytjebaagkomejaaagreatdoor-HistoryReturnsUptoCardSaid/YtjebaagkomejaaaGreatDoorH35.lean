/- edit.Apply: its changes of one event. history: back, Undo, Redo. -/
import Derived.Test.YtjebaagkomejaaaGreatDoorH29
set_option linter.unusedVariables false
set_option linter.unusedSimpArgs false
set_option maxRecDepth 100000
set_option maxHeartbeats 12800000
open Go.Lib renaming hid→h_
open List renaming setIfInBounds_toArray→YA,getElem_cons_zero→YB,getElem_cons_succ→YC,getElem_toArray→YD,set_cons_zero→YE,set_cons_succ→YF
open Array renaming toArray_toList→YG
open Go renaming cell_of_row→Sh,World→Si,bodyPost_end→Sj,Calls→Sk,wp_region_held_drew→Sl
open Go.World renaming frozen?→Sm
open List renaming mem_append→Sn,length_map→Sp,mem_cons→Sq
open Go.RowKit.Below renaming refl→Sr
open Go.Value renaming slice→Ss,string→St
namespace Go.Proofs.YtjebaagkomejaaaGreatDoor
open Go.RowKit
theorem tV (g gx:Nat)(x:Ed)(y:Ev)(w:Si)(h1:w.heap[g]? =some (.cells y.enc.toArray 72 (0,0)))(h2:w.heap[gx]? =some (.cells x.enc.toArray 40 (0,0))) :
 Sk Tryz.prog 33 #[.pointer (some ⟨g,0,none⟩),.pointer (some ⟨gx,0,none⟩)] w fun e w'=>(∃ v,e=.returned v)∧w'.heap[g]? =some (.cells ({ y with inn:=x.inn,out:=x.out }:Ev).enc.toArray 72 (0,0))∧Kept (fun b=>b=g) w w':=by
 have q3:w.cell? ⟨gx,3,none⟩=some (.int .i64 x.inn):=Sh _ _ 3 _ 40 (0,0) h2
 have q4:w.cell? ⟨gx,4,none⟩=some (.int .i64 x.out):=Sh _ _ 4 _ 40 (0,0) h2
 have p1:w.cell? ⟨g,1,none⟩=some (.int .i64 y.inn):=Sh _ _ 1 _ 72 (0,0) h1
 have p2:w.cell? ⟨g,2,none⟩=some (.int .i64 y.out):=Sh _ _ 2 _ 72 (0,0) h1
 have fz:∀ j,w.frozen? ⟨g,j,none⟩=false:=fun j=>by simp [Sm,h1]
 have R:((w.setCell ⟨g,1,none⟩ (.int .i64 x.inn)).setCell ⟨g,2,none⟩ (.int .i64 x.out)).heap[g]? =some (.cells ({ y with inn:=x.inn,out:=x.out }:Ev).enc.toArray 72 (0,0)):=by
  rw [heap_setCell_same _ g 2 _ 72 (.int .i64 x.out) (heap_setCell_same w g 1 _ 72 (.int .i64 x.inn) h1)]
  simp [Ev.enc]
 have K:Kept (fun b=>b=g) w ((w.setCell ⟨g,1,none⟩ (.int .i64 x.inn)).setCell ⟨g,2,none⟩ (.int .i64 x.out)):=bH (bH (Kept.refl _ _) 1 _) 2 _
 go_enter Tryz.func33,Tryz.ntmps33
 go_wp2_with fail
 refine Sj (v:=.tuple #[]) (by simp [results,Tryz.results33,go_sem]) rfl ?_
 exact⟨⟨_,rfl⟩,R,K⟩
theorem tU (g gx:Nat)(x:Ed)(y:Ev)(w:Si)(h1:w.heap[g]? =some (.cells y.enc.toArray 72 (0,0)))(h2:w.heap[gx]? =some (.cells x.enc.toArray 40 (0,0))) :
 Sk Tryz.prog 34 #[.pointer (some ⟨g,0,none⟩),.pointer (some ⟨gx,0,none⟩)] w fun e w'=>(∃ v,e=.returned v)∧w'.heap[g]? =some (.cells ({ y with at_:=x.at_,cap:=x.cap,rows:=x.rows }:Ev).enc.toArray 72 (0,0))∧Kept (fun b=>b=g) w w':=by
 have q22:w.cell? ⟨gx,22,none⟩=some (.slice x.at_ x.rows.length x.cap):=Sh _ _ 22 _ 40 (0,0) h2
 have p6:w.cell? ⟨g,6,none⟩=some (.slice y.at_ y.rows.length y.cap):=Sh _ _ 6 _ 72 (0,0) h1
 have fz:∀ j,w.frozen? ⟨g,j,none⟩=false:=fun j=>by simp [Sm,h1]
 have R:(w.setCell ⟨g,6,none⟩ (.slice x.at_ x.rows.length x.cap)).heap[g]? =some (.cells ({ y with at_:=x.at_,cap:=x.cap,rows:=x.rows }:Ev).enc.toArray 72 (0,0)):=by
  rw [heap_setCell_same w g 6 _ 72 (.slice x.at_ x.rows.length x.cap) h1]
  simp [Ev.enc]
 have K:Kept (fun b=>b=g) w (w.setCell ⟨g,6,none⟩ (.slice x.at_ x.rows.length x.cap)):=bH (Kept.refl _ _) 6 _
 go_enter Tryz.func34,Tryz.ntmps34
 go_wp2_with fail
 refine Sj (v:=.tuple #[]) (by simp [results,Tryz.results34,go_sem]) rfl ?_
 exact⟨⟨_,rfl⟩,R,K⟩
theorem tT (g gx:Nat)(x:Ed)(y:Ev)(w:Si)(h1:w.heap[g]? =some (.cells y.enc.toArray 72 (0,0)))(h2:w.heap[gx]? =some (.cells x.enc.toArray 40 (0,0))) :
 Sk Tryz.prog 35 #[.pointer (some ⟨g,0,none⟩),.pointer (some ⟨gx,0,none⟩)] w fun e w'=>(∃ v,e=.returned v)∧w'.heap[g]? =some (.cells ({ y with region:=x.name }:Ev).enc.toArray 72 (0,0))∧Kept (fun b=>b=g) w w':=by
 have q13:w.cell? ⟨gx,13,none⟩=some (.string x.name):=Sh _ _ 13 _ 40 (0,0) h2
 have p3:w.cell? ⟨g,3,none⟩=some (.string y.region):=Sh _ _ 3 _ 72 (0,0) h1
 have fz:∀ j,w.frozen? ⟨g,j,none⟩=false:=fun j=>by simp [Sm,h1]
 have R:(w.setCell ⟨g,3,none⟩ (.string x.name)).heap[g]? =some (.cells ({ y with region:=x.name }:Ev).enc.toArray 72 (0,0)):=by
  rw [heap_setCell_same w g 3 _ 72 (.string x.name) h1]
  simp [Ev.enc]
 have K:Kept (fun b=>b=g) w (w.setCell ⟨g,3,none⟩ (.string x.name)):=bH (Kept.refl _ _) 3 _
 go_enter Tryz.func35,Tryz.ntmps35
 go_wp2_with fail
 refine Sj (v:=.tuple #[]) (by simp [results,Tryz.results35,go_sem]) rfl ?_
 exact⟨⟨_,rfl⟩,R,K⟩
theorem tS (g gx:Nat)(x:Ed)(y:Ev)(w:Si)(h1:w.heap[g]? =some (.cells y.enc.toArray 72 (0,0)))(h2:w.heap[gx]? =some (.cells x.enc.toArray 40 (0,0))) :
 Sk Tryz.prog 36 #[.pointer (some ⟨g,0,none⟩),.pointer (some ⟨gx,0,none⟩)] w fun e w'=>(∃ v,e=.returned v)∧w'.heap[g]? =some (.cells ({ y with kind:=x.kind }:Ev).enc.toArray 72 (0,0))∧Kept (fun b=>b=g) w w':=by
 have q9:w.cell? ⟨gx,9,none⟩=some (.int .u8 x.kind):=Sh _ _ 9 _ 40 (0,0) h2
 have p4:w.cell? ⟨g,4,none⟩=some (.int .u8 y.kind):=Sh _ _ 4 _ 72 (0,0) h1
 have fz:∀ j,w.frozen? ⟨g,j,none⟩=false:=fun j=>by simp [Sm,h1]
 have R:(w.setCell ⟨g,4,none⟩ (.int .u8 x.kind)).heap[g]? =some (.cells ({ y with kind:=x.kind }:Ev).enc.toArray 72 (0,0)):=by
  rw [heap_setCell_same w g 4 _ 72 (.int .u8 x.kind) h1]
  simp [Ev.enc]
 have K:Kept (fun b=>b=g) w (w.setCell ⟨g,4,none⟩ (.int .u8 x.kind)):=bH (Kept.refl _ _) 4 _
 go_enter Tryz.func36,Tryz.ntmps36
 go_wp2_with fail
 refine Sj (v:=.tuple #[]) (by simp [results,Tryz.results36,go_sem]) rfl ?_
 exact⟨⟨_,rfl⟩,R,K⟩
theorem tR (g gx:Nat)(x:Ed)(y:Ev)(w:Si)(h1:w.heap[g]? =some (.cells y.enc.toArray 72 (0,0)))(h2:w.heap[gx]? =some (.cells x.enc.toArray 40 (0,0))) :
 Sk Tryz.prog 37 #[.pointer (some ⟨g,0,none⟩),.pointer (some ⟨gx,0,none⟩)] w fun e w'=>(∃ v,e=.returned v)∧w'.heap[g]? =some (.cells ({ y with speaker:=x.name }:Ev).enc.toArray 72 (0,0))∧Kept (fun b=>b=g) w w':=by
 have q13:w.cell? ⟨gx,13,none⟩=some (.string x.name):=Sh _ _ 13 _ 40 (0,0) h2
 have p5:w.cell? ⟨g,5,none⟩=some (.string y.speaker):=Sh _ _ 5 _ 72 (0,0) h1
 have fz:∀ j,w.frozen? ⟨g,j,none⟩=false:=fun j=>by simp [Sm,h1]
 have R:(w.setCell ⟨g,5,none⟩ (.string x.name)).heap[g]? =some (.cells ({ y with speaker:=x.name }:Ev).enc.toArray 72 (0,0)):=by
  rw [heap_setCell_same w g 5 _ 72 (.string x.name) h1]
  simp [Ev.enc]
 have K:Kept (fun b=>b=g) w (w.setCell ⟨g,5,none⟩ (.string x.name)):=bH (Kept.refl _ _) 5 _
 go_enter Tryz.func37,Tryz.ntmps37
 go_wp2_with fail
 refine Sj (v:=.tuple #[]) (by simp [results,Tryz.results37,go_sem]) rfl ?_
 exact⟨⟨_,rfl⟩,R,K⟩
theorem j1 {f:EvC→Int × EvC} {B g:Nat} {y y2:Ev} {w w':Si} (hf0:(f y.c)=(0,y2.c))(hB:B≤g)(hgw:g<w.heap.size)(hl:y2.lies w)(hu:∀ k,y2.uses k→k≠g)(hfit:y2.fits)(hr:w'.heap[g]? =some (.cells y2.enc.toArray 72 (0,0)))(hk:Kept (fun b=>b=g) w w'):cO f B g y w (.returned (.int .i64 0)) w':=by
 refine⟨y2,by rw [hf0],fun _=>⟨by rw [hf0],Ev.frame hl hk.size fun k h=>hk.block k (Ev.uses_lt hl h) (hu k h),hfit,hr⟩,hk.below (by omega) fun b hb e=>by omega⟩
theorem DU (g3 gx:Nat)(x:Ed)(w:Si)(hb3:w.heap[g3]? =some (.cells #[.func (.func 33) #[] #[.pointer (some ⟨gx,0,none⟩)]] 83 (0,0)))(hbx:w.heap[gx]? =some (.cells x.enc.toArray 40 (0,0)))(hxl:x.lies w)(hx:x.fits):fF 30 #[.pointer (some ⟨g3,0,none⟩)] (fun e=>(0,{ e with inn:=x.inn,out:=x.out })) w:=by
 intro g B y w1 hb hB hBg hyl hyu qS h hg qT hyp
 have hs:=hb.size
 have l3:=aR hb3
 have lx:=aR hbx
 have lg:=aR hg
 have c3:w1.cell? ⟨g3,0,none⟩=some (.func (.func 33) #[] #[.pointer (some ⟨gx,0,none⟩)]):=Sh _ _ 0 _ 83 (0,0) ((hb.block g3 l3).trans hb3)
 have HM:=h_ (tV g gx x y w1 hg ((hb.block gx lx).trans hbx))
 have HP:=h_ (fun(w':Si) (hr:w'.heap[g]? =some (.cells ({ y with inn:=x.inn,out:=x.out }:Ev).enc.toArray 72 (0,0))) (hk:Kept (fun b=>b=g) w1 w')=>j1 (f:=fun e=>(0,{ e with inn:=x.inn,out:=x.out })) (B:=B) (y:=y) (y2:={ y with inn:=x.inn,out:=x.out }) rfl hBg lg (hyl) (fun k h=>(hyu k h).2) ⟨h.1,hx.2.1.2.2.1,hx.2.1.2.2.2.1,h.2.2.2⟩ hr hk)
 generalize cO (fun e=>(0,{ e with inn:=x.inn,out:=x.out })) B g y w1=Q at *
 show Sk Tryz.prog 30 #[.pointer (some ⟨g,0,none⟩),.pointer (some ⟨g3,0,none⟩)] w1 Q
 clear hyl hyu qS h hg qT hyp hb hb3 hbx hxl hx
 go_enter Tryz.func30,Tryz.ntmps30
 go_wp2_with fail
 refine HM.out.mono ?_
 rintro e w2 ⟨⟨v,rfl⟩,hr,hk⟩
 have HF:=h_ (HP.out w2 hr hk)
 clear HM HP hr hk
 go_wp2_with fail
 exact HF.out
theorem DT (g3 gx:Nat)(x:Ed)(w:Si)(hb3:w.heap[g3]? =some (.cells #[.func (.func 34) #[] #[.pointer (some ⟨gx,0,none⟩)]] 83 (0,0)))(hbx:w.heap[gx]? =some (.cells x.enc.toArray 40 (0,0)))(hxl:x.lies w)(hx:x.fits):fF 30 #[.pointer (some ⟨g3,0,none⟩)] (fun e=>(0,{ e with rows:=x.rows.map Row.runs })) w:=by
 intro g B y w1 hb hB hBg hyl hyu qS h hg qT hyp
 have hs:=hb.size
 have l3:=aR hb3
 have lx:=aR hbx
 have lg:=aR hg
 have c3:w1.cell? ⟨g3,0,none⟩=some (.func (.func 34) #[] #[.pointer (some ⟨gx,0,none⟩)]):=Sh _ _ 0 _ 83 (0,0) ((hb.block g3 l3).trans hb3)
 have HM:=h_ (tU g gx x y w1 hg ((hb.block gx lx).trans hbx))
 have HP:=h_ (fun(w':Si) (hr:w'.heap[g]? =some (.cells ({ y with at_:=x.at_,cap:=x.cap,rows:=x.rows }:Ev).enc.toArray 72 (0,0))) (hk:Kept (fun b=>b=g) w1 w')=>j1 (f:=fun e=>(0,{ e with rows:=x.rows.map Row.runs })) (B:=B) (y:=y) (y2:={ y with at_:=x.at_,cap:=x.cap,rows:=x.rows }) rfl hBg lg (Ed.later hxl hb) (fun k h=>by have:=gU hxl h;omega) ⟨h.1,h.2.1,h.2.2.1,h.2.2.2.1,h.2.2.2.2.1,h.2.2.2.2.2.1,h.2.2.2.2.2.2.1,hx.2.2.2.2.2.2.2.1,hx.2.2.2.2.2.2.2.2⟩ hr hk)
 generalize cO (fun e=>(0,{ e with rows:=x.rows.map Row.runs })) B g y w1=Q at *
 show Sk Tryz.prog 30 #[.pointer (some ⟨g,0,none⟩),.pointer (some ⟨g3,0,none⟩)] w1 Q
 clear hyl hyu qS h hg qT hyp hb hb3 hbx hxl hx
 go_enter Tryz.func30,Tryz.ntmps30
 go_wp2_with fail
 refine HM.out.mono ?_
 rintro e w2 ⟨⟨v,rfl⟩,hr,hk⟩
 have HF:=h_ (HP.out w2 hr hk)
 clear HM HP hr hk
 go_wp2_with fail
 exact HF.out
theorem DS (g3 gx:Nat)(x:Ed)(w:Si)(hb3:w.heap[g3]? =some (.cells #[.func (.func 35) #[] #[.pointer (some ⟨gx,0,none⟩)]] 83 (0,0)))(hbx:w.heap[gx]? =some (.cells x.enc.toArray 40 (0,0)))(hxl:x.lies w)(hx:x.fits):fF 30 #[.pointer (some ⟨g3,0,none⟩)] (fun e=>(0,{ e with region:=x.name })) w:=by
 intro g B y w1 hb hB hBg hyl hyu qS h hg qT hyp
 have hs:=hb.size
 have l3:=aR hb3
 have lx:=aR hbx
 have lg:=aR hg
 have c3:w1.cell? ⟨g3,0,none⟩=some (.func (.func 35) #[] #[.pointer (some ⟨gx,0,none⟩)]):=Sh _ _ 0 _ 83 (0,0) ((hb.block g3 l3).trans hb3)
 have HM:=h_ (tT g gx x y w1 hg ((hb.block gx lx).trans hbx))
 have HP:=h_ (fun(w':Si) (hr:w'.heap[g]? =some (.cells ({ y with region:=x.name }:Ev).enc.toArray 72 (0,0))) (hk:Kept (fun b=>b=g) w1 w')=>j1 (f:=fun e=>(0,{ e with region:=x.name })) (B:=B) (y:=y) (y2:={ y with region:=x.name }) rfl hBg lg (hyl) (fun k h=>(hyu k h).2) ⟨h.1,h.2.1,h.2.2.1,hx.2.2.2.2.1,h.2.2.2.2⟩ hr hk)
 generalize cO (fun e=>(0,{ e with region:=x.name })) B g y w1=Q at *
 show Sk Tryz.prog 30 #[.pointer (some ⟨g,0,none⟩),.pointer (some ⟨g3,0,none⟩)] w1 Q
 clear hyl hyu qS h hg qT hyp hb hb3 hbx hxl hx
 go_enter Tryz.func30,Tryz.ntmps30
 go_wp2_with fail
 refine HM.out.mono ?_
 rintro e w2 ⟨⟨v,rfl⟩,hr,hk⟩
 have HF:=h_ (HP.out w2 hr hk)
 clear HM HP hr hk
 go_wp2_with fail
 exact HF.out
theorem DR (g3 gx:Nat)(x:Ed)(w:Si)(hb3:w.heap[g3]? =some (.cells #[.func (.func 36) #[] #[.pointer (some ⟨gx,0,none⟩)]] 83 (0,0)))(hbx:w.heap[gx]? =some (.cells x.enc.toArray 40 (0,0)))(hxl:x.lies w)(hx:x.fits):fF 30 #[.pointer (some ⟨g3,0,none⟩)] (fun e=>(0,{ e with kind:=x.kind })) w:=by
 intro g B y w1 hb hB hBg hyl hyu qS h hg qT hyp
 have hs:=hb.size
 have l3:=aR hb3
 have lx:=aR hbx
 have lg:=aR hg
 have c3:w1.cell? ⟨g3,0,none⟩=some (.func (.func 36) #[] #[.pointer (some ⟨gx,0,none⟩)]):=Sh _ _ 0 _ 83 (0,0) ((hb.block g3 l3).trans hb3)
 have HM:=h_ (tS g gx x y w1 hg ((hb.block gx lx).trans hbx))
 have HP:=h_ (fun(w':Si) (hr:w'.heap[g]? =some (.cells ({ y with kind:=x.kind }:Ev).enc.toArray 72 (0,0))) (hk:Kept (fun b=>b=g) w1 w')=>j1 (f:=fun e=>(0,{ e with kind:=x.kind })) (B:=B) (y:=y) (y2:={ y with kind:=x.kind }) rfl hBg lg (hyl) (fun k h=>(hyu k h).2) ⟨h.1,h.2.1,h.2.2.1,h.2.2.2.1,hx.2.2.1.1,hx.2.2.1.2,h.2.2.2.2.2.2⟩ hr hk)
 generalize cO (fun e=>(0,{ e with kind:=x.kind })) B g y w1=Q at *
 show Sk Tryz.prog 30 #[.pointer (some ⟨g,0,none⟩),.pointer (some ⟨g3,0,none⟩)] w1 Q
 clear hyl hyu qS h hg qT hyp hb hb3 hbx hxl hx
 go_enter Tryz.func30,Tryz.ntmps30
 go_wp2_with fail
 refine HM.out.mono ?_
 rintro e w2 ⟨⟨v,rfl⟩,hr,hk⟩
 have HF:=h_ (HP.out w2 hr hk)
 clear HM HP hr hk
 go_wp2_with fail
 exact HF.out
theorem DQ (g3 gx:Nat)(x:Ed)(w:Si)(hb3:w.heap[g3]? =some (.cells #[.func (.func 37) #[] #[.pointer (some ⟨gx,0,none⟩)]] 83 (0,0)))(hbx:w.heap[gx]? =some (.cells x.enc.toArray 40 (0,0)))(hxl:x.lies w)(hx:x.fits):fF 30 #[.pointer (some ⟨g3,0,none⟩)] (fun e=>(0,{ e with speaker:=x.name })) w:=by
 intro g B y w1 hb hB hBg hyl hyu qS h hg qT hyp
 have hs:=hb.size
 have l3:=aR hb3
 have lx:=aR hbx
 have lg:=aR hg
 have c3:w1.cell? ⟨g3,0,none⟩=some (.func (.func 37) #[] #[.pointer (some ⟨gx,0,none⟩)]):=Sh _ _ 0 _ 83 (0,0) ((hb.block g3 l3).trans hb3)
 have HM:=h_ (tR g gx x y w1 hg ((hb.block gx lx).trans hbx))
 have HP:=h_ (fun(w':Si) (hr:w'.heap[g]? =some (.cells ({ y with speaker:=x.name }:Ev).enc.toArray 72 (0,0))) (hk:Kept (fun b=>b=g) w1 w')=>j1 (f:=fun e=>(0,{ e with speaker:=x.name })) (B:=B) (y:=y) (y2:={ y with speaker:=x.name }) rfl hBg lg (hyl) (fun k h=>(hyu k h).2) ⟨h.1,h.2.1,h.2.2.1,h.2.2.2.1,h.2.2.2.2.1,h.2.2.2.2.2.1,hx.2.2.2.2.1,h.2.2.2.2.2.2.2⟩ hr hk)
 generalize cO (fun e=>(0,{ e with speaker:=x.name })) B g y w1=Q at *
 show Sk Tryz.prog 30 #[.pointer (some ⟨g,0,none⟩),.pointer (some ⟨g3,0,none⟩)] w1 Q
 clear hyl hyu qS h hg qT hyp hb hb3 hbx hxl hx
 go_enter Tryz.func30,Tryz.ntmps30
 go_wp2_with fail
 refine HM.out.mono ?_
 rintro e w2 ⟨⟨v,rfl⟩,hr,hk⟩
 have HF:=h_ (HP.out w2 hr hk)
 clear HM HP hr hk
 go_wp2_with fail
 exact HF.out
theorem vg (b:Nat)(h:Hs)(w:Si)(H:HsAt b h w)(yG:h.undo.length≤16)(hlr:h.redo.length≤16):Sk Tryz.prog 52 #[.pointer (some ⟨b,0,none⟩),.pointer (some ⟨b,16,none⟩),.pointer (some ⟨b,17,none⟩)] w fun e w'=>e=.returned (.int .i64 (fq h.c).1)∧dj (fun _=>False) (fq h.c).2 b h w w':=by
 have HH:=h_ H
 have hbl:=dW H.at_
 have Fy:=h_ (show h.undo=[]→fq h.c=(6,h.c) from fun e=>by unfold fq Hs.c;simp [e])
 have Fk:=h_ (fun(m:Nat) (D:Doc) (hm:h.undo.length=m+1) (hD:h.undo[m]? =some D)=>(show fq h.c=(0,({ h with doc:=D,undo:=h.undo.take m,redo:=h.redo++[h.doc] }:Hs).c) from by
  unfold fq Hs.c
  simp only
  rw [List.getLast?_eq_getElem?,Sp,hm,Nat.add_sub_cancel,List.getElem?_map,hD]
  simp only [Option.map_some,List.dropLast_eq_take,Sp,hm,Nat.add_sub_cancel,List.map_take,List.map_append,List.map_cons,List.map_nil]))
 have HQ:=h_ (fun(q:Int) (h':Hs) (w':Si) (hs:fq h.c=(q,h'.c)) (s:bD (fun _=>False) b h w h' w')=>(show(fun(e:Ending) (w':Si)=>e=.returned (.int .i64 (fq h.c).1)∧dj (fun _=>False) (fq h.c).2 b h w w') (.returned (.int .i64 q)) w' from by
  rw [hs];exact⟨rfl,s.post rfl⟩))
 generalize (fun(e:Ending) (w':Si)=>e=.returned (.int .i64 (fq h.c).1)∧dj (fun _=>False) (fq h.c).2 b h w w')=Q at *
 obtain⟨j0,hj,hy0,hy1,hy2⟩:=info_parts Tryz.info27
 have JI:=h_ hj;have J0:=h_ hy0;have J1:=h_ hy1;have J2:=h_ hy2
 clear H hj hy0 hy1 hy2
 have cF:w.cell? ⟨b,16,none⟩=some (.slice h.ua h.undo.length h.uc):=(aT HH.out.at_).2.2.1
 cases hn:h.undo.length with
 | zero =>
   have HF:=h_ (HQ.out 6 h w (Fy.out (List.eq_nil_of_length_eq_zero hn)) (bD.of_below HH.out (Sr _ _)))
   rw [hn] at cF
   clear HQ Fk Fy HH
   go_enter Tryz.func52,Tryz.ntmps52
   go_wp2_with fail
   exact HF.out
 | succ m =>
   obtain⟨D,hD⟩:∃ D,h.undo[m]? =some D:=⟨_,List.getElem?_eq_getElem (by omega)⟩
   have A6:=h_ (Fk.out m D hn hD)
   have Bl:=h_ hD
   have HN:=h_ hn
   rw [hn] at cF
   have KM:m+1≤16:=by omega
   clear Fk Fy hD hn yG
   go_enter Tryz.func52,Tryz.ntmps52
   go_upto_region 4 with fail
   go_cut [] from 14 to 24 (fun wx=>∃ a c,bD (fun _=>False) b h w { h with ra:=a,rc:=c,redo:=h.redo++[h.doc] } wx)
   case first =>
    have HW0:=HH.out
    have hdw:Below w.heap.size w w.drew:=(Sr _ _).drew
    have nH:=h_ (fun(w':Si) (hb:Below w.heap.size w w')=>(show Kept (fun k=>(Ss h.ra h.redo.length h.rc).ownBlock=some k∨k=b) w w'∧w'.rangeAt b 0 h.doc.enc from⟨Kept.of_below hb,(aT ((hb.block b hbl).trans HW0.at_)).1⟩))
    have hS0:=nH.out _ hdw
    have lK:=h_ (HW0.later hdw)
    have cj:=h_ (fun(v w2:Si) (hv:Below w.heap.size w v) (r2:w2.heap[b]? =some (.cells h.enc.toArray 82 (0,0))) (hk:Kept (fun k=>(Ss h.ra h.redo.length h.rc).ownBlock=some k) v w2)=>(show Kept (fun k=>(Ss h.ra h.redo.length h.rc).ownBlock=some k∨k=b) w w2∧w2.rangeAt b 0 h.doc.enc from⟨(Kept.of_below hv).trans hk fun i _ e=>.inl e,(aT r2).1⟩))
    have tg:=h_ (fun(v w2:Si) (u:Value) (hv:Below w.heap.size w v) (r2:w2.heap[b]? =some (.cells h.enc.toArray 82 (0,0))) (hk:Kept (fun k=>(Ss h.ra h.redo.length h.rc).ownBlock=some k) v w2)=>(show Kept (fun k=>(Ss h.ra h.redo.length h.rc).ownBlock=some k∨k=b) w (w2.setCell ⟨b,17,none⟩ u)∧(w2.setCell ⟨b,17,none⟩ u).rangeAt b 0 h.doc.enc from⟨((Kept.of_below hv).trans hk fun i _ e=>.inl e).setCell (p:=⟨b,17,none⟩) (.inr (.inr rfl)) u,fun j x hx=>by
     have hj:j<8:=(List.getElem?_eq_some_iff.1 hx).1
     have hne:(⟨b,0+j,none⟩:Addr)≠⟨b,17,none⟩:=fun e=>by simp only [Addr.mk.injEq] at e;omega
     rw [Si.cell?_setCell_other (h:=hne.symm)]
     exact(aT r2).1 j x hx⟩))
    have tf:=h_ (fun(v w3:Si) (h1:Hs) (hv:Below w.heap.size w v) (s:bD (fun _=>False) b h v h1 w3)=>(bD.of_below HW0 hv).trans s)
    have kY:=h_ (fun(v:Si) (hv:HsAt b h v) (v':Value) (w2:Si) (o:Obj) ho hg hat=>Cg (N:=fun _=>False) (v:=v) (w2:=w2) (v':=v') (o:=o) hv ho hg hat)
    clear HW0 HH HQ A6 Bl HN cF
    go_upto_region 4 with fail
    refine Sl (S:=fun w'=>Kept (fun k=>(Ss h.ra h.redo.length h.rc).ownBlock=some k∨k=b) w w'∧w'.rangeAt b 0 h.doc.enc) (by kernel_rfl) hS0 (fun _=>?_)
    generalize w.drew=v0 at *
    have Ij:=h_ (fun(w':Si) (hb:Below v0.heap.size v0 w')=>(aT ((hb.block b (dW lK.out.at_)).trans lK.out.at_)).2.2.2)
    have A9:=h_ (fun(w':Si) (hb:Below v0.heap.size v0 w')=>nH.out w' (hdw.trans (hb.mono hdw.size)))
    have HOW:=h_ lK.out.redo
    have qN:=h_ (kY.out v0 lK.out)
    have CR:=h_ (fun(w2:Si)=>cj.out v0 w2 hdw)
    have CQ:=h_ (fun(w2:Si) (u:Value)=>tg.out v0 w2 u hdw)
    have Io:=h_ (fun(w3:Si) (h1:Hs)=>tf.out v0 w3 h1 hdw)
    clear lK nH kY cj tg tf
    obtain⟨xF,sav,ua,uc,undo,ra,rc,redo⟩:=h
    obtain⟨ft,fl,fr,fd,fla,fra,frc,fgs,fea,fec,fvs,fca,fcc,fms⟩:=xF
    simp only [Doc.enc] at *
    refine ab 0 (.pointer (some ⟨b,17,none⟩)) hS0 ?_
    refine ab 1 (.pointer (some ⟨b,17,none⟩)) hS0 ?_
    refine ab 2 (.pointer (some ⟨b,17,none⟩)) hS0 ?_
    refine ab 4 (.pointer (some ⟨b,0,none⟩)) hS0 ?_
    refine ab 5 (.pointer (some ⟨b,0,none⟩)) hS0 ?_
    refine ab 6 (.pointer (some ⟨b,0,none⟩)) hS0 ?_
    refine ab 7 (.agg #[St ft,.string fl,.int .u8 fr,.bool fd,.int .i64 fla,.slice fra fgs.length frc,.slice fea fvs.length fec,.slice fca fms.length fcc]) hS0 ?_ (hy:=yieldsIf_load_mid (by rfl) 27 (.tmp 20) rfl b 0 rfl [St ft,.string fl,.int .u8 fr,.bool fd,.int .i64 fla,.slice fra fgs.length frc,.slice fea fvs.length fec,.slice fca fms.length fcc] _ (fun w_ h_=>h_.2) Tryz.underlying27 rfl ag)
    refine dH 3 8 (fun K hK=>?_) (fun K hK=>?_)
    focus
     have q8:=Ij.out v0 (Sr _ _)
     go_simp
     refine goOn hK hS0 ?_
     clear hK q8
     refine aq 8 (fun K hK=>?_)
     go_simp
     have hal:Below v0.heap.size v0 (v0.alloc (.cells #[St ft,.string fl,.int .u8 fr,.bool fd,.int .i64 fla,.slice fra fgs.length frc,.slice fea fvs.length fec,.slice fca fms.length fcc] 27)):=(Sr _ _).alloc (Nat.le_refl _) _
     refine goOn hK (A9.out _ hal) ?_
     clear hK
    rotate_left
    focus
     go_simp
     have hal:Below v0.heap.size v0 (v0.alloc (.cells #[St ft,.string fl,.int .u8 fr,.bool fd,.int .i64 fla,.slice fra fgs.length frc,.slice fea fvs.length fec,.slice fca fms.length fcc] 27)):=(Sr _ _).alloc (Nat.le_refl _) _
     refine goOn hK (A9.out _ hal) ?_
     clear hK
     refine aq 3 (fun K hK=>?_)
     have q8:=Ij.out (v0.alloc (.cells #[St ft,.string fl,.int .u8 fr,.bool fd,.int .i64 fla,.slice fra fgs.length frc,.slice fea fvs.length fec,.slice fca fms.length fcc] 27)) hal
     go_simp
     refine goOn hK (A9.out _ hal) ?_
     clear hK q8
    all_goals
     refine aq 9 (fun K hK=>?_)
     refine gC v0 #[St ft,.string fl,.int .u8 fr,.bool fd,.int .i64 fla,.slice fra fgs.length frc,.slice fea fvs.length fec,.slice fca fms.length fcc] rfl (.tmp 17) (.tmp 22) 55 rfl 0 27 j0 _ 8 120 Tryz.underlying55 JI.out J0.out J1.out J2.out rfl (by decide) (.slice ra redo.length rc) redo.length (redo.flatMap Doc.enc) (by rfl) HOW.out v0.heap.size (by rfl) rfl rfl (by simp [Value.oneCell']) (by unfold maxLen;omega) (by omega) (Nat.zero_le _) ?_
     intro v' w2 hown hgrow hat
     obtain⟨a,c,rfl,r2,hk2,hst⟩:=qN.out v' w2 _ hown hgrow hat
     have c16:w2.cell? ⟨b,17,none⟩=some (.slice ra redo.length rc):=(aT r2).2.2.2
     have f16:w2.frozen? ⟨b,17,none⟩=false:=dI r2 17
     refine goOn hK (CR.out w2 r2 hk2) ?_
     clear hK hown hgrow hat
     refine ab 10 (.pointer (some ⟨b,17,none⟩)) (CR.out w2 r2 hk2) ?_
     refine aq 11 (fun K hK=>?_)
     go_simp
     refine goOn hK (CQ.out w2 _ r2 hk2) ?_
     clear hK
     refine wpAnyH_done (by kernel_rfl) ?_ _
     go_wp2_with fail
     go_meet
     exact⟨a,c,Io.out _ _ hst⟩
   case rest =>
    obtain⟨a,c,dE⟩:=hcut
    obtain⟨w1,hw1⟩:∃ x,x=wc:=⟨_,rfl⟩
    subst hw1
    obtain⟨h1,qV⟩:∃ h1:Hs,h1={ h with ra:=a,rc:=c,redo:=h.redo++[h.doc] }:=⟨_,rfl⟩
    rw [←qV] at dE
    have hu1:h1.undo=h.undo:=by rw [qV]
    have ht1:h1.redo=h.redo++[h.doc]:=by rw [qV]
    have hs1:h1.saved=h.saved:=by rw [qV]
    have hl1:h1.undo.length=m+1:=by rw [hu1];exact HN.out
    have hD1:h1.undo[m]? =some D:=by rw [hu1];exact Bl.out
    have r1:=dE.1.at_
    obtain⟨ga,ca,hfm⟩:=dw dE.1.undo (by omega)
    have how:=dE.1.undo
    have c1:w1.cell? ⟨b,16,none⟩=some (.slice (some ⟨ga,0,none⟩) (m+1) ca):=by rw [←hl1,←hfm];exact(aT r1).2.2.1
    rw [hfm] at how
    have hcap:m+1≤ca∧ca≤9223372036854775807:=by
     rcases how.2 with⟨h0,_⟩|⟨g',cap',cur,h0,_,_,hnc,hmx,_⟩
     · simp at h0
     · simp only [Ss.injEq] at h0
       obtain⟨_,_,rfl⟩:=h0
       simp only [maxLen] at hmx
       omega
    obtain⟨a',c',oa,Bs⟩:=aA (k:=8) (enc:=Doc.enc) (Ok:=Flat) (fun _=>rfl) how (fun _ _=>trivial)
    simp only [Ss.injEq] at oa
    obtain⟨rfl,_,rfl⟩:=oa
    obtain⟨b0,off,D',qW,hb0,En,Hj,_⟩:=ah.at_ Bs (show m<h1.undo.length by omega)
    simp only [Option.some.injEq,Addr.mk.injEq,and_true] at qW
    obtain⟨rfl,rfl⟩:=qW
    rw [hD1] at En
    obtain rfl:=Option.some.inj En
    have yF:w1.rangeAt ga (m*8) D.enc:=fun j v hv=>by have:=Hj j v hv;rwa [Nat.zero_add] at this
    have E3:D∈h1.docs:=by
     simp only [Hs.docs,Sq,Sn]
     exact .inr (.inr (.inl (List.mem_of_getElem? hD1)))
    have hA:=vN (N:=fun _=>False) dE.1 (.inl E3)
    have hth:=j_ (o:=0) r1 (by omega)
    have hone:=km D
    have hm0:(0:Int)≤(m:Int):=by omega
    have hgb:ga≠b:=fun e=>by
     have GQ:(Ss h1.ua h1.undo.length h1.uc).ownBlock=some b:=by rw [hfm,e];rfl
     exact(dE.1.ub b GQ).1 rfl
    have S2:=h_ (dE.trans hA)
    have Fq:=h_ Bs
    have hkb:Kept (fun k=>k=b) w1 (w1.setCells b 0 D.enc):=eL (S:=fun k=>k=b) rfl _ _ (Kept.refl _ _)
    have IV:=h_ qV
    have LX:=h_ E3
    have Im:=h_ hu1
    have Bg:=h_ hl1
    have IZ:=h_ hfm
    clear dE hA r1 how Bs Hj hb0 En E3 qV hu1 ht1 hs1 hl1 hfm hD1
    go_upto_region 6 with(first|(refine aj 27 (.tmp 31) rfl ga (m*8) rfl D.enc _ yF Tryz.underlying27 rfl ag (by rfl) ?_)|(refine wpList_store_mid rfl 27 (.tmp 34) (.tmp 32) rfl b 0 D.enc.toArray rfl rfl hth ag hone ?_))
    generalize w1.setCells b 0 D.enc=w2 at *
    have S2':=S2.out
    have r2:=S2'.1.at_
    have c2:w2.cell? ⟨b,16,none⟩=some (.slice (some ⟨ga,0,none⟩) (m+1) ca):=by rw [←Bg.out,←IZ.out];exact(aT r2).2.2.1
    have hs2:=hkb.size
    have hSt:=lh m (ah.frame Fq.out hs2 (fun k hk=>hkb.block k (aP Fq.out hk) (by obtain⟨_,ad,e,rfl⟩:=hk;obtain rfl:=Option.some.inj e;exact hgb)) (fun _ _ _=>trivial))
    have htl:(h1.undo.take m).length=m:=by rw [List.length_take,Bg.out];omega
    obtain⟨ys,hys⟩:∃ ys,ys=h1.undo.take m:=⟨_,rfl⟩
    rw [←hys] at hSt htl
    have BA:=h_ (fun(v':Value) (w3:Si) ho hg hat=>Ac (N:=fun _=>False) (b:=b) (ys:=ys) (v':=v') (w2:=w3) S2'.1 ho hg hat (fun d hd=>by rw [hys] at hd;simp only [Hs.docs,Sq,Sn];exact .inr (.inr (.inl (List.mem_of_mem_take hd)))))
    have HST:=h_ hSt
    have A7:=h_ htl
    have Lp:=h_ hys
    clear htl hys
    clear c1 yF hth hkb Fq hSt r2 S2'
    go_wp2_with (at_builtin;refine aI (enc:=Doc.enc) (Ok:=Flat) _ rfl (.const (.slice none 0 0)) (.tmp 41) 55 rfl 0 27 j0 _ 8 120 Tryz.underlying55 JI.out J0.out J1.out J2.out rfl (by decide) (fun _=>rfl) (fun x v hv=>Doc.one x v hv) _ 0 [] rfl (Si.ownsRow_nil _ _ _ _) (some ⟨ga,0,none⟩) ca ys ?hx HST.out ?h63 ?hb ?hbase ?_)
    case hx=>rw [A7.out]
    case h63=>rw [A7.out];unfold maxLen;omega
    case hb=>rw [A7.out];omega
    intro v' w3 ho hg hat
    replace ho:w3.ownsRow 0 27 8 v' ys.length (ys.flatMap Doc.enc):=by first|exact ho|(rw [A7.out];exact ho)|simpa [A7.out] using ho
    obtain⟨a2,c2',rfl,r3,hb3,Aa⟩:=BA.out v' w3 ho hg hat
    have d16:w3.cell? ⟨b,16,none⟩=some (.slice h1.ua h1.undo.length h1.uc):=(aT r3).2.2.1
    have e16:w3.frozen? ⟨b,16,none⟩=false:=dI r3 16
    have Lc:=IV.out
    have HF:=h_ (HQ.out 0 _ _ (by rw [A6.out,Lp.out];subst Lc;rfl) (S2.out.trans Aa))
    clear ho hg hat r3 hb3 Aa BA HST HQ A6 S2 IV LX Im IZ HH
    go_wp2_with fail
    exact HF.out
theorem lz (b:Nat)(h:Hs)(w:Si)(H:HsAt b h w)(yG:h.undo.length≤16)(hlr:h.redo.length≤16):Sk Tryz.prog 14 #[.pointer (some ⟨b,0,none⟩)] w fun e w'=>e=.returned (.int .i64 (fq h.c).1)∧dj (fun _=>False) (fq h.c).2 b h w w':=by
 have hd0:Below w.heap.size w w.drew:=(Sr _ _).drew
 have fI:=h_ (fun(v0:Si) (hv:Below w.heap.size w v0) (h1:Hs) (v1:Si) (s:HsAt b h1 v1∧h1.c=(fq h.c).2∧qM (fun _=>False) b h h1 v0∧Kept (h.own b) v0 v1)=>(show(fun(e:Ending) (w':Si)=>e=.returned (.int .i64 (fq h.c).1)∧dj (fun _=>False) (fq h.c).2 b h w w') (.returned (.int .i64 (fq h.c).1)) v1 from
  ⟨rfl,((bD.of_below H hv).trans ⟨s.1,s.2.2.1,s.2.2.2⟩).post s.2.1⟩))
 have Bo:=h_ (fun(v0:Si) (hv:Below w.heap.size w v0)=>vg b h v0 (H.later hv) yG hlr)
 generalize (fun(e:Ending) (w':Si)=>e=.returned (.int .i64 (fq h.c).1)∧dj (fun _=>False) (fq h.c).2 b h w w')=Q at *
 generalize (fq h.c).1=q at *
 clear H
 go_enter Tryz.func14,Tryz.ntmps14
 go_upto_region 3 with fail
 refine Sl (S:=fun _=>True) (by kernel_rfl) trivial (fun _=>?_)
 have Jm:=h_ (Bo.out _ hd0)
 have HQ:=h_ (fI.out _ hd0)
 clear Bo fI
 generalize w.drew=v0 at *
 refine ab 0 (.pointer (some ⟨b,0,none⟩)) trivial ?_
 refine ab 1 (.pointer (some ⟨b,0,none⟩)) trivial ?_
 refine ab 2 (.pointer (some ⟨b,0,none⟩)) trivial ?_
 refine ab 3 (.pointer (some ⟨b,16,none⟩)) trivial ?_
 refine ab 4 (.pointer (some ⟨b,0,none⟩)) trivial ?_
 refine ab 5 (.pointer (some ⟨b,0,none⟩)) trivial ?_
 refine ab 6 (.pointer (some ⟨b,17,none⟩)) trivial ?_
 refine aq 7 (fun K hK=>?_)
 go_simp
 refine(Jm.out).mono ?_
 rintro e_ v1 ⟨rfl,h1,hst⟩
 go_wp2_with fail
 refine goOn hK trivial ?_
 clear hK
 refine ab 8 (.int .i64 q) trivial ?_
 refine wpAnyH_done (by kernel_rfl) ?_ _
 have HF:=h_ (HQ.out h1 v1 hst)
 clear hst HQ Jm
 go_wp2_with fail
 exact HF.out
end Go.Proofs.YtjebaagkomejaaaGreatDoor
