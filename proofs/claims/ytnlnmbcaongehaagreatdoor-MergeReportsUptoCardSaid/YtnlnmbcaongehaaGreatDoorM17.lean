/- merge.both: an event that all three sides have, field by field. (printed by gen_mgboth.py) The contract of merge.clash: a clash is laid behind the others, or not. The merger's block: the merged document so far and the clashes, and how it grows. -/
import Derived.Test.YtnlnmbcaongehaaGreatDoorM16
set_option linter.unusedVariables false
set_option linter.unusedSimpArgs false
set_option maxRecDepth 100000
set_option maxHeartbeats 12800000
open Go.Lib renaming hid→h_
open Go renaming cell_of_row→fm,World→fp,Value→ft,heap_alloc_last→fu,heap_setCell_same→fw,Calls→fB
open Go.RowKit renaming Below→fC
open Go.RowKit.Below renaming heap_alloc→fD,refl→fE,heap_setCell→fF
open Go.Value renaming int→fG,string→fH
open Nat renaming le_refl→fI,le_trans→fJ
open Go.World renaming frozen?→fK,cell?_alloc_lt→fL,size_alloc→fM
open Array renaming getElem?_eq_some_iff→fN
open List renaming mem_singleton→fO,length_append→fP,mem_append→fQ
open Option.some renaming inj→fR
namespace Go.Proofs.YtnlnmbcaongehaaGreatDoor
open Go.RowKit
structure Rws where
 at_:Option Addr
 cap:Nat
 rows:List Row
def Rws.val (r:Rws):ft:=.slice r.at_ r.rows.length r.cap
def Rws.eq (x y:Rws):Bool:=bS x.rows y.rows
def Rws.ok (w:fp)(r:Rws):Prop:=bu w r.at_ r.rows∧(∀ q∈r.rows,q.runs.length≤4000000)∧r.rows.length≤4000000
theorem Rws.ok.later {w w':fp} {r:Rws} (h:r.ok w)(hb:fC w.heap.size w w'):r.ok w':=⟨bu.later h.1 hb,h.2⟩
theorem zar (x y:Rws)(w:fp)(hx:x.ok w)(hy:y.ok w):fB Tryz.prog 84 #[x.val,y.val] w fun e w'=>e=.returned (.bool (x.eq y))∧fC w.heap.size w w' :=
 zaj x.at_ y.at_ x.cap y.cap x.rows y.rows w hx.1 hy.1 hx.2.1 hy.2.1 hx.2.2
theorem zci (x y z:Rws)(w:fp)(hx:x.ok w)(hy:y.ok w)(hz:z.ok w):fB Tryz.prog 200 #[x.val,y.val,z.val,.func (.func 84) #[] #[]] w fun e w'=>e=.returned (.tuple #[(ai Rws.eq x y z).1.val,.bool (ai Rws.eq x y z).2])∧fC w.heap.size w w':=by
 have HYZ:=h_ (fun(w1:fp) (h:fC w.heap.size w w1)=>zar y z w1 (hy.later h) (hz.later h))
 have HXZ:=h_ (fun(w1:fp) (h:fC w.heap.size w w1)=>zar x z w1 (hx.later h) (hz.later h))
 have HXY:=h_ (fun(w1:fp) (h:fC w.heap.size w w1)=>zar x y w1 (hx.later h) (hy.later h))
 have HT:=h_ (fun(w1 w2:fp) (h:fC w.heap.size w w1) (h2:fC w1.heap.size w1 w2)=>h.trans (h2.mono h.size))
 generalize hQ:(fun(e:Ending) (w':fp)=>e=.returned (.tuple #[(ai Rws.eq x y z).1.val,.bool (ai Rws.eq x y z).2])∧fC w.heap.size w w')=Q
 have HQ:=h_ (fun(p:Rws × Bool) (hp:ai Rws.eq x y z=p) w' (hb:fC w.heap.size w w')=>show Q (.returned (.tuple #[p.1.val,.bool p.2])) w' from hQ▸⟨by rw [hp],hb⟩)
 clear hQ
 have h1:ai Rws.eq x y z=(if y.eq z=true then (y,false) else if x.eq z=true then (y,false) else if x.eq y=true then (z,false) else (x,true)):=rfl
 generalize y.eq z=E1 at *
 generalize x.eq z=E2 at *
 generalize x.eq y=E3 at *
 have H1:=h_ h1
 have hb0:fC w.heap.size w w:=fE _ _
 clear h1 hx hy hz
 have e0:x.val=.slice x.at_ x.rows.length x.cap:=rfl
 have e1:y.val=.slice y.at_ y.rows.length y.cap:=rfl
 have e2:z.val=.slice z.at_ z.rows.length z.cap:=rfl
 rw [e0,e1] at HXY
 rw [e0,e2] at HXZ
 rw [e1,e2] at HYZ
 rw [e0,e1,e2]
 go_enter Tryz.func200,Tryz.ntmps200
 go_wp2_with fail
 refine(HYZ.out _ hb0).mono ?_
 rintro e w1 ⟨rfl,hb1⟩
 have hc1:=HT.out _ _ hb0 hb1
 clear hb1 hb0
 cases E1 with
 | true =>
   go_wp2_with fail
   exact HQ.out (y,false) (by rw [H1.out];simp) _ hc1
 | false =>
   go_wp2_with fail
   refine(HXZ.out _ hc1).mono ?_
   rintro e w2 ⟨rfl,hb2⟩
   have hc2:=HT.out _ _ hc1 hb2
   clear hb2 hc1
   cases E2 with
   | true =>
     go_wp2_with fail
     exact HQ.out (y,false) (by rw [H1.out];simp) _ hc2
   | false =>
     go_wp2_with fail
     refine(HXY.out _ hc2).mono ?_
     rintro e w3 ⟨rfl,hb3⟩
     have hc3:=HT.out _ _ hc2 hb3
     clear hb3 hc2
     cases E3 with
     | true =>
       go_wp2_with fail
       exact HQ.out (z,false) (by rw [H1.out];simp) _ hc3
     | false =>
       go_wp2_with fail
       exact HQ.out (x,true) (by rw [H1.out];simp) _ hc3
abbrev zkW (B g:Nat)(v:ft)(fs:List ByteArray)(w:fp):Prop:=dM 55 0 9 1 B g #[v] v fs.length (fs.map fH) w
def zc4 (B g:Nat)(v:ft)(fs:List ByteArray)(w:fp)(e:Ending)(w':fp):Prop:=e=.returned (.tuple #[])∧cQ 55 0 9 1 B g #[v] v fs.length (fs.map fH) w w'
theorem zhq (B g:Nat)(v:ft)(fs:List ByteArray)(bad:Bool)(f:ByteArray)(w:fp)(h:zkW B g v fs w)(hB:B≤w.heap.size)(hl:fs.length≤1000000) :
 fB Tryz.prog 195 #[.bool bad,.string f,.pointer (some ⟨g,0,none⟩)] w (zc4 B g v (fs++fIf bad f) w):=by
 cases bad
 · have HS:=h_ (show zc4 B g v (fs++fIf false f) w (.returned (.tuple #[])) w from⟨rfl,by
    have e:fs++fIf false f=fs:=by simp [fIf]
    rw [e]
    exact h.same (fE _ _)⟩)
   generalize zc4 B g v (fs++fIf false f) w=Q at *
   go_enter Tryz.func195,Tryz.ntmps195
   go_wp2_with fail
   go_end0
   exact HS.out
 · obtain⟨ka,kc,rfl⟩:=h.slice
   obtain⟨j0,hj,hy0,hy1,hy2⟩:=info_parts Tryz.info9
   have JI:=h_ hj;have J0:=h_ hy0;have J1:=h_ hy1;have J2:=h_ hy2
   have hg:=h.lt
   have c8:w.cell? ⟨g,0,none⟩=some (.slice ka fs.length kc):=by
    rw [fm _ _ 0 _ 55 (0,0) h.cells];exact h.atIx
   clear hj hy0 hy1 hy2
   have HO:=h_ h.own
   have h63:=h_ (show fs.length+1≤maxLen by unfold maxLen;omega)
   have HAF:=h_ (fun(o:Obj) (v':ft) (w2:fp)=>eO (W:=w.alloc o) (v':=v') (w2:=w2) (m:=fs.length+1) (ys:=fs.map fH++[.string f]) h ((fE _ _).alloc (fI _) _))
   have HF:=h_ (fun(v':ft) (w2:fp) (ho:w2.ownsRow B 9 1 v' (fs.length+1) (fs.map fH++[.string f])) hg hap hk hf=>(show zc4 B g (.slice ka fs.length kc) (fs++fIf true f) w (.returned (.tuple #[])) (w2.setCell ⟨g,0,none⟩ v') from⟨rfl,by
    have e:(fs++fIf true f).map fH=fs.map fH++[.string f]:=by simp [fIf]
    have e2:(fs++fIf true f).length=fs.length+1:=by simp [fIf]
    rw [e,e2]
    exact eN h ho hg hap hk hf⟩))
   generalize zc4 B g (.slice ka fs.length kc) (fs++fIf true f) w=Q at *
   go_enter Tryz.func195,Tryz.ntmps195
   go_wp2_with (at_builtin;refine aA _ _ rfl (.tmp 6) (.tmp 8) 55 rfl B 9 j0 _ 1 16 Tryz.underlying55 JI.out J0.out J1.out J2.out rfl (by decide) _ _ _ rfl HO.out _ rfl rfl rfl ?h1 h63.out ?hb hB ?_)
   case h1=>first|rfl|(intro u hu;simp at hu;subst hu;rfl)
   case hb=>omega
   intro v' w2 hown2 hgrow2 hat2
   obtain⟨hv',hgc,hap,hkp,hfr⟩:=HAF.out _ _ _ hown2 hgrow2 (by simpa using hat2)
   obtain⟨va,vc,rfl⟩:=hv'
   have z8n:w2.frozen? ⟨g,0,none⟩=false:=by simp [fK,hgc]
   have c8n:w2.cell? ⟨g,0,none⟩=some (.slice ka fs.length kc):=fm _ _ 0 _ 55 (0,0) hgc
   have HX:=h_ (HF.out _ _ hown2 hgc hap hkp hfr)
   clear hown2 hgrow2 hat2 hgc hap hkp hfr
   go_wp2_with fail
   go_end0
   exact HX.out
structure BSt (w:fp)(X Y Z O:Array ft)(fs:List ByteArray)(wr:fp):Prop where
 x:wr.heap[w.heap.size]? =some (.cells X 50 (0,0))
 y:wr.heap[w.heap.size+1]? =some (.cells Y 50 (0,0))
 z:wr.heap[w.heap.size+1+1]? =some (.cells Z 50 (0,0))
 n:wr.heap[w.heap.size+1+1+1]? =some (.cells #[fG .i64 0,.int .i64 0,.int .i64 0,.string ⟨#[]⟩,.int .u8 0,.string ⟨#[]⟩,.slice none 0 0] 50 (0,0))
 o:wr.heap[w.heap.size+1+1+1+1+1]? =some (.cells O 50 (0,0))
 row:∃ v,zkW (w.heap.size+6) (w.heap.size+1+1+1+1) v fs wr
 below:fC w.heap.size w wr
section
variable {w wr w':fp} {X Y Z O:Array ft} {fs:List ByteArray}
theorem BSt.lt (h:BSt w X Y Z O fs wr):w.heap.size+1+1+1+1+1<wr.heap.size:=(fN.1 h.o).1
theorem BSt.later (h:BSt w X Y Z O fs wr)(hb:fC wr.heap.size wr w'):BSt w X Y Z O fs w':=by
 have hl:=h.lt
 obtain⟨v,hv⟩:=h.row
 exact⟨(hb.block _ (by omega)).trans h.x,(hb.block _ (by omega)).trans h.y,(hb.block _ (by omega)).trans h.z,(hb.block _ (by omega)).trans h.n,(hb.block _ (by omega)).trans h.o,⟨v,hv.later hb⟩,h.below.trans (hb.mono (by omega))⟩
theorem BSt.set (h:BSt w X Y Z O fs wr)(j:Nat)(u:ft):BSt w X Y Z (O.setIfInBounds j u) fs (wr.setCell ⟨w.heap.size+1+1+1+1+1,j,none⟩ u):=by
 have hs:∀ b,b≠w.heap.size+1+1+1+1+1→(wr.setCell ⟨w.heap.size+1+1+1+1+1,j,none⟩ u).heap[b]? =wr.heap[b]?:=fun b hb=>fF _ _ _ _ hb
 obtain⟨v,hv⟩:=h.row
 refine⟨(hs _ (by omega)).trans h.x,(hs _ (by omega)).trans h.y,(hs _ (by omega)).trans h.z,(hs _ (by omega)).trans h.n,fw _ _ _ _ _ _ h.o,⟨v,⟨(hs _ (by omega)).trans hv.cells,hv.atIx,ah hv.own fun b hb=>hs b ?_,hv.apart⟩⟩,h.below.setCell (by simp only;omega) _⟩
 have:=(hv.own.lt b hb).1
 omega
theorem BSt.row1 (h:BSt w X Y Z O fs wr):∃ a c,wr.heap[w.heap.size+1+1+1+1]? =some (.cells #[.slice a fs.length c] 55 (0,0))∧wr.ownsRow (w.heap.size+6) 9 1 (.slice a fs.length c) fs.length (fs.map fH):=by
 obtain⟨v,hv⟩:=h.row
 obtain⟨a,c,rfl⟩:=hv.slice
 exact⟨a,c,hv.cells,hv.own⟩
theorem BSt.note (h:BSt w X Y Z O fs wr)(hl:fs.length≤1000)(bad:Bool)(f:ByteArray):fB Tryz.prog 195 #[.bool bad,.string f,.pointer (some ⟨w.heap.size+1+1+1+1,0,none⟩)] wr fun e w'=>e=.returned (.tuple #[])∧BSt w X Y Z O (fs++fIf bad f) w':=by
 have hlt:=h.lt
 obtain⟨v,hv⟩:=h.row
 refine(zhq _ _ v fs bad f wr hv (by omega) (by omega)).mono fun e w' p=>?_
 obtain⟨he,v',q1,q2,q3⟩:=p
 have hk:∀ b,b<wr.heap.size→b≠w.heap.size+1+1+1+1→b<w.heap.size+6→w'.heap[b]? =wr.heap[b]?:=fun b h1 h2 h3=>q2.block b h1 fun hm=>by
  rcases hm with hm|hm
  · exact h2 hm
  · have:=(hv.own.lt b hm).1
    omega
 refine⟨he,(hk _ (by omega) (by omega) (by omega)).trans h.x,(hk _ (by omega) (by omega) (by omega)).trans h.y,(hk _ (by omega) (by omega) (by omega)).trans h.z,(hk _ (by omega) (by omega) (by omega)).trans h.n,(hk _ (by omega) (by omega) (by omega)).trans h.o,⟨v',by rw [show(#[v]:Array ft).setIfInBounds 0 v'=#[v'] from rfl] at q1;exact q1⟩,?_⟩
 refine h.below.trans (q2.below (by omega) fun k hk hm=>?_)
 rcases hm with hm|hm
 · omega
 · have:=(hv.own.lt k hm).1
   omega
end
theorem dL (b:Bool)(f:ByteArray):(fIf b f).length≤1:=by cases b<;>simp [fIf]
theorem BSt.start (w:fp)(X Y Z O:Array ft):BSt w X Y Z O [] ((((((w.alloc (.cells X 50)).alloc (.cells Y 50)).alloc (.cells Z 50)).alloc (.cells #[fG .i64 0,.int .i64 0,.int .i64 0,.string ⟨#[]⟩,.int .u8 0,.string ⟨#[]⟩,.slice none 0 0] 50)).alloc (.cells #[.slice none 0 0] 55)).alloc (.cells O 50)):=by
 have a1:=fu w (.cells X 50)
 have a2:=fu (w.alloc (.cells X 50)) (.cells Y 50)
 have a3:=fu ((w.alloc (.cells X 50)).alloc (.cells Y 50)) (.cells Z 50)
 have a4:=fu (((w.alloc (.cells X 50)).alloc (.cells Y 50)).alloc (.cells Z 50)) (.cells #[fG .i64 0,.int .i64 0,.int .i64 0,.string ⟨#[]⟩,.int .u8 0,.string ⟨#[]⟩,.slice none 0 0] 50)
 have a5:=fu ((((w.alloc (.cells X 50)).alloc (.cells Y 50)).alloc (.cells Z 50)).alloc (.cells #[fG .i64 0,.int .i64 0,.int .i64 0,.string ⟨#[]⟩,.int .u8 0,.string ⟨#[]⟩,.slice none 0 0] 50)) (.cells #[.slice none 0 0] 55)
 have a6:=fu (((((w.alloc (.cells X 50)).alloc (.cells Y 50)).alloc (.cells Z 50)).alloc (.cells #[fG .i64 0,.int .i64 0,.int .i64 0,.string ⟨#[]⟩,.int .u8 0,.string ⟨#[]⟩,.slice none 0 0] 50)).alloc (.cells #[.slice none 0 0] 55)) (.cells O 50)
 simp only [fM] at a2 a3 a4 a5 a6
 refine⟨?_,?_,?_,?_,a6,⟨.slice none 0 0,?_,rfl,fp.ownsRow_nil _ _ _ _,by simp [ft.ownBlock]⟩,?_⟩
 · rw [fD _ _ _ (by simp;try omega),fD _ _ _ (by simp;try omega),fD _ _ _ (by simp;try omega),fD _ _ _ (by simp;try omega),fD _ _ _ (by simp)]
   exact a1
 · rw [fD _ _ _ (by simp;try omega),fD _ _ _ (by simp;try omega),fD _ _ _ (by simp;try omega),fD _ _ _ (by simp)]
   exact a2
 · rw [fD _ _ _ (by simp;try omega),fD _ _ _ (by simp;try omega),fD _ _ _ (by simp)]
   exact a3
 · rw [fD _ _ _ (by simp;try omega),fD _ _ _ (by simp)]
   exact a4
 · rw [fD _ _ _ (by simp)]
   exact a5
 · exact(((((((fE _ _).alloc (fI _) _).alloc (by simp) _).alloc (by simp;try omega) _).alloc (by simp;try omega) _).alloc (by simp;try omega) _).alloc (by simp;try omega) _)
def zeQ (x y z:Ev)(w:fp)(e:Ending)(w':fp):Prop:=∃ (u:Ev) (v:ft),e=.returned (.tuple #[.agg u.enc.toArray,v])∧u.c=eV x.c y.c z.c∧u.lies w'∧(∀ b,u.uses b→x.uses b∨y.uses b∨z.uses b) ∧
 w'.ownsRow w.heap.size 9 1 v (bf x.c y.c z.c).length ((bf x.c y.c z.c).map fH)∧fC w.heap.size w w'
def Ev.rws (x:Ev):Rws:=⟨x.at_,x.cap,x.rows⟩
theorem zb9 {α β:Type} (f:α→β)(eq:α→α→Bool)(eq':β→β→Bool)(h:∀ a b,eq a b=eq' (f a) (f b))(x y z:α):(f (ai eq x y z).1,(ai eq x y z).2)=ai eq' (f x) (f y) (f z):=by
 unfold ai
 rw [h,h,h]
 split
 · rfl
 · split
   · rfl
   · split<;>rfl
theorem zgw (x y:List Row):bS x y=zbl (x.map Row.runs) (y.map Row.runs):=by
 unfold bS zbl
 induction x generalizing y with
 | nil=>cases y<;>rfl
 | cons a l ih =>
   cases y with
   | nil=>rfl
   | cons b m=>simp only [List.map_cons,Lib.allEq,ih];rfl
theorem zgz {α:Type} (eq:α→α→Bool)(x y z:α):(ai eq x y z).1=x∨(ai eq x y z).1=y∨(ai eq x y z).1=z:=by
 unfold ai
 split
 · exact .inr (.inl rfl)
 · split
   · exact .inr (.inl rfl)
   · split
     · exact .inr (.inr rfl)
     · exact .inl rfl
theorem zjO {x y z:Ev} {w wr w':fp} {X Y Z O:Array ft} {fs:List ByteArray} {v:ft} {r:Rws} {c5:Bool} (h:BSt w X Y Z O (bf x.c y.c z.c) wr)(hr:ai Rws.eq x.rws y.rws z.rws=(r,c5))(hx:x.lies w)(hy:y.lies w)(hz:z.lies w)
 (hv:wr.ownsRow (w.heap.size+6) 9 1 v (bf x.c y.c z.c).length ((bf x.c y.c z.c).map fH)) (hw:Kept (fun b=>b=w.heap.size+1+1+1) wr w') :
 zeQ x y z w (.returned (.tuple #[.agg #[.int .i64 x.id,.int .i64 (zaO x.c y.c z.c).1.1,.int .i64 (zaO x.c y.c z.c).1.2,.string (ed x.c y.c z.c).1,.int .u8 (zcx x.c y.c z.c).1,.string (dj x.c y.c z.c).1,.slice r.at_ r.rows.length r.cap],v])) w':=by
 have hb:=h.below
 have hB:fC w.heap.size w w':=hb.trans (hw.below hb.size fun k hk e=>by omega)
 have hm:=zgz Rws.eq x.rws y.rws z.rws
 rw [hr] at hm
 have hrows:(zgE x.c y.c z.c).1=r.rows.map Row.runs:=by
  have:=zb9 (fun q:Rws=>q.rows.map Row.runs) Rws.eq zbl (fun a b=>zgw _ _) x.rws y.rws z.rws
  rw [hr] at this
  exact(congrArg Prod.fst this).symm
 refine⟨⟨x.id,_,_,_,_,_,r.at_,r.cap,r.rows⟩,v,rfl,?_,?_,?_,?_,hB⟩
 · unfold eV
   simp only [Ev.c,EvC.mk.injEq,true_and]
   exact hrows.symm
 · refine bu.later (w:=w) ?_ hB
   rcases hm with rfl|rfl|rfl
   · exact hx
   · exact hy
   · exact hz
 · intro b hu
   rcases hm with rfl|rfl|rfl
   · exact .inl hu
   · exact .inr (.inl hu)
   · exact .inr (.inr hu)
 · refine ah (w:=wr) ?_ fun b hb=>hw.block b (hv.lt b hb).2 ?_
   · exact⟨hv.1,hv.2.imp id fun⟨g,cap,cur,q1,q2,q3⟩=>⟨g,cap,cur,q1,by omega,q3⟩⟩
   · have:=(hv.lt b hb).1
     omega
theorem zhS (x y z:Ev)(w:fp)(hx:x.lies w)(hy:y.lies w)(hz:z.lies w)(hfx:x.fits)(hfy:y.fits)(hfz:z.fits) :
 fB Tryz.prog 137 #[.agg x.enc.toArray,.agg y.enc.toArray,.agg z.enc.toArray] w (zeQ x y z w):=by
 have ok:∀ e:Ev,e.lies w→e.fits→e.rws.ok w:=fun e h hf=>⟨h,fun q hq=>(hf.2.2.2.2.2.2.2.1 q hq).2.1,hf.2.2.2.2.2.2.2.2⟩
 have HV1:=h_ (fun w1=>zch (x.inn,x.out) (y.inn,y.out) (z.inn,z.out) w1)
 have HV2:=h_ (fun w1=>bm x.region y.region z.region w1)
 have HV3:=h_ (fun w1=>zck x.kind y.kind z.kind w1)
 have HV4:=h_ (fun w1=>bm x.speaker y.speaker z.speaker w1)
 have HV5:=h_ (fun(w1:fp) (h:fC w.heap.size w w1)=>zci x.rws y.rws z.rws w1 ((ok x hx hfx).later h) ((ok y hy hfy).later h) ((ok z hz hfz).later h))
 have e1:ai bR (x.inn,x.out) (y.inn,y.out) (z.inn,z.out)=zaO x.c y.c z.c:=rfl
 have e2:ai b_ x.region y.region z.region=ed x.c y.c z.c:=rfl
 have e3:ai dU x.kind y.kind z.kind=zcx x.c y.c z.c:=rfl
 have e4:ai b_ x.speaker y.speaker z.speaker=dj x.c y.c z.c:=rfl
 rw [e1] at HV1
 rw [e2] at HV2
 rw [e3] at HV3
 rw [e4] at HV4
 clear e1 e2 e3 e4
 have hF:bf x.c y.c z.c=fIf (zaO x.c y.c z.c).2 dV++fIf (ed x.c y.c z.c).2 az++fIf (zcx x.c y.c z.c).2 zb5++fIf (dj x.c y.c z.c).2 cV++fIf (ai Rws.eq x.rws y.rws z.rws).2 zhH:=by
  have:=zb9 (fun q:Rws=>q.rows.map Row.runs) Rws.eq zbl (fun a b=>zgw _ _) x.rws y.rws z.rws
  rw [congrArg Prod.snd this]
  rfl
 have HFIN:=h_ (fun(X Y Z O:Array ft) (wr:fp) (h:BSt w X Y Z O (bf x.c y.c z.c) wr) (r:Rws) (c5:Bool) (hr:ai Rws.eq x.rws y.rws z.rws=(r,c5)) (v:ft) (hv:wr.ownsRow (w.heap.size+6) 9 1 v (bf x.c y.c z.c).length ((bf x.c y.c z.c).map fH)) (w':fp) (hw:Kept (fun b=>b=w.heap.size+1+1+1) wr w')=>zjO (fs:=[]) h hr hx hy hz hv hw)
 rw [hF] at HFIN
 generalize zeQ x y z w=Q at *
 generalize zaO x.c y.c z.c=p1 at *
 generalize ed x.c y.c z.c=p2 at *
 generalize zcx x.c y.c z.c=p3 at *
 generalize dj x.c y.c z.c=p4 at *
 generalize ai Rws.eq x.rws y.rws z.rws=p5 at *
 obtain⟨⟨s1,s2⟩,c1⟩:=p1
 obtain⟨s3,c2⟩:=p2
 obtain⟨s4,c3⟩:=p3
 obtain⟨s5,c4⟩:=p4
 obtain⟨r5,c5⟩:=p5
 have HST:=h_ (fun(O:Array ft)=>BSt.start w x.enc.toArray y.enc.toArray z.enc.toArray O)
 clear hx hy hz hfx hfy hfz ok hF
 obtain⟨xid,xin,xout,xreg,xkind,xsp,xa,xc,xr⟩:=x
 obtain⟨yid,yin,yout,yreg,ykind,ysp,ya,yc,yr⟩:=y
 obtain⟨zid,zin,zout,zreg,zkind,zsp,za,zc,zr⟩:=z
 obtain⟨ra5,rc5,rr5⟩:=r5
 simp only [Ev.enc,ax,Ev.rws,Rws.val] at *
 go_enter Tryz.func137,Tryz.ntmps137
 go_wp2_with fail
 have HS0:=h_ (HST.out #[fG .i64 xid,.int .i64 0,.int .i64 0,.string ⟨#[]⟩,.int .u8 0,.string ⟨#[]⟩,.slice none 0 0])
 clear HST
 refine(HV1.out _).mono ?_
 rintro e w1 ⟨rfl,hb1⟩
 have HS1:=h_ (HS0.out.later hb1)
 clear hb1 HS0 HV1
 have fx1:∀ j,w1.cell? ⟨w.heap.size,j,none⟩=_:=fun j=>fm _ _ j _ 50 (0,0) HS1.out.x
 have fy1:∀ j,w1.cell? ⟨w.heap.size+1,j,none⟩=_:=fun j=>fm _ _ j _ 50 (0,0) HS1.out.y
 have fz1:∀ j,w1.cell? ⟨w.heap.size+1+1,j,none⟩=_:=fun j=>fm _ _ j _ 50 (0,0) HS1.out.z
 have fo1:∀ j,w1.cell? ⟨w.heap.size+1+1+1+1+1,j,none⟩=_:=fun j=>fm _ _ j _ 50 (0,0) HS1.out.o
 have zo1:∀ j,w1.frozen? ⟨w.heap.size+1+1+1+1+1,j,none⟩=false:=fun j=>by simp [fK,HS1.out.o]
 go_wp2_with fail
 have HT1:=h_ (show BSt w #[fG .i64 xid,.int .i64 xin,.int .i64 xout,.string xreg,.int .u8 xkind,.string xsp,.slice xa xr.length xc] #[fG .i64 yid,.int .i64 yin,.int .i64 yout,.string yreg,.int .u8 ykind,.string ysp,.slice ya yr.length yc] #[fG .i64 zid,.int .i64 zin,.int .i64 zout,.string zreg,.int .u8 zkind,.string zsp,.slice za zr.length zc] #[fG .i64 xid,.int .i64 s1,.int .i64 s2,.string ⟨#[]⟩,.int .u8 0,.string ⟨#[]⟩,.slice none 0 0] ([]) ((w1.setCell ⟨w.heap.size+1+1+1+1+1,1,none⟩ (.int .i64 s1)).setCell ⟨w.heap.size+1+1+1+1+1,2,none⟩ (.int .i64 s2)) from((HS1.out.set 1 (.int .i64 s1)).set 2 (.int .i64 s2)))
 refine(HT1.out.note (by simp) c1 dV).mono ?_
 clear HS1 HT1 fx1 fy1 fz1 fo1 zo1
 rintro e w2 ⟨rfl,hs2⟩
 have HS2:=h_ (show BSt w #[fG .i64 xid,.int .i64 xin,.int .i64 xout,.string xreg,.int .u8 xkind,.string xsp,.slice xa xr.length xc] #[fG .i64 yid,.int .i64 yin,.int .i64 yout,.string yreg,.int .u8 ykind,.string ysp,.slice ya yr.length yc] #[fG .i64 zid,.int .i64 zin,.int .i64 zout,.string zreg,.int .u8 zkind,.string zsp,.slice za zr.length zc] #[fG .i64 xid,.int .i64 s1,.int .i64 s2,.string ⟨#[]⟩,.int .u8 0,.string ⟨#[]⟩,.slice none 0 0] (fIf c1 dV) w2 from hs2)
 clear hs2
 have fx2:∀ j,w2.cell? ⟨w.heap.size,j,none⟩=_:=fun j=>fm _ _ j _ 50 (0,0) HS2.out.x
 have fy2:∀ j,w2.cell? ⟨w.heap.size+1,j,none⟩=_:=fun j=>fm _ _ j _ 50 (0,0) HS2.out.y
 have fz2:∀ j,w2.cell? ⟨w.heap.size+1+1,j,none⟩=_:=fun j=>fm _ _ j _ 50 (0,0) HS2.out.z
 have fo2:∀ j,w2.cell? ⟨w.heap.size+1+1+1+1+1,j,none⟩=_:=fun j=>fm _ _ j _ 50 (0,0) HS2.out.o
 have zo2:∀ j,w2.frozen? ⟨w.heap.size+1+1+1+1+1,j,none⟩=false:=fun j=>by simp [fK,HS2.out.o]
 go_wp2_with fail
 refine(HV2.out _).mono ?_
 rintro e w3 ⟨rfl,hb3⟩
 have HS3:=h_ (HS2.out.later hb3)
 clear hb3 HS2 HV2
 clear fx2 fy2 fz2 fo2 zo2
 have fx3:∀ j,w3.cell? ⟨w.heap.size,j,none⟩=_:=fun j=>fm _ _ j _ 50 (0,0) HS3.out.x
 have fy3:∀ j,w3.cell? ⟨w.heap.size+1,j,none⟩=_:=fun j=>fm _ _ j _ 50 (0,0) HS3.out.y
 have fz3:∀ j,w3.cell? ⟨w.heap.size+1+1,j,none⟩=_:=fun j=>fm _ _ j _ 50 (0,0) HS3.out.z
 have fo3:∀ j,w3.cell? ⟨w.heap.size+1+1+1+1+1,j,none⟩=_:=fun j=>fm _ _ j _ 50 (0,0) HS3.out.o
 have zo3:∀ j,w3.frozen? ⟨w.heap.size+1+1+1+1+1,j,none⟩=false:=fun j=>by simp [fK,HS3.out.o]
 go_wp2_with fail
 have HT3:=h_ (show BSt w #[fG .i64 xid,.int .i64 xin,.int .i64 xout,.string xreg,.int .u8 xkind,.string xsp,.slice xa xr.length xc] #[fG .i64 yid,.int .i64 yin,.int .i64 yout,.string yreg,.int .u8 ykind,.string ysp,.slice ya yr.length yc] #[fG .i64 zid,.int .i64 zin,.int .i64 zout,.string zreg,.int .u8 zkind,.string zsp,.slice za zr.length zc] #[fG .i64 xid,.int .i64 s1,.int .i64 s2,.string s3,.int .u8 0,.string ⟨#[]⟩,.slice none 0 0] (fIf c1 dV) (w3.setCell ⟨w.heap.size+1+1+1+1+1,3,none⟩ (.string s3)) from(HS3.out.set 3 (.string s3)))
 refine(HT3.out.note (by have:=dL c1 dV;omega) c2 az).mono ?_
 clear HS3 HT3 fx3 fy3 fz3 fo3 zo3
 rintro e w4 ⟨rfl,hs4⟩
 have HS4:=h_ (show BSt w #[fG .i64 xid,.int .i64 xin,.int .i64 xout,.string xreg,.int .u8 xkind,.string xsp,.slice xa xr.length xc] #[fG .i64 yid,.int .i64 yin,.int .i64 yout,.string yreg,.int .u8 ykind,.string ysp,.slice ya yr.length yc] #[fG .i64 zid,.int .i64 zin,.int .i64 zout,.string zreg,.int .u8 zkind,.string zsp,.slice za zr.length zc] #[fG .i64 xid,.int .i64 s1,.int .i64 s2,.string s3,.int .u8 0,.string ⟨#[]⟩,.slice none 0 0] (fIf c1 dV++fIf c2 az) w4 from hs4)
 clear hs4
 have fx4:∀ j,w4.cell? ⟨w.heap.size,j,none⟩=_:=fun j=>fm _ _ j _ 50 (0,0) HS4.out.x
 have fy4:∀ j,w4.cell? ⟨w.heap.size+1,j,none⟩=_:=fun j=>fm _ _ j _ 50 (0,0) HS4.out.y
 have fz4:∀ j,w4.cell? ⟨w.heap.size+1+1,j,none⟩=_:=fun j=>fm _ _ j _ 50 (0,0) HS4.out.z
 have fo4:∀ j,w4.cell? ⟨w.heap.size+1+1+1+1+1,j,none⟩=_:=fun j=>fm _ _ j _ 50 (0,0) HS4.out.o
 have zo4:∀ j,w4.frozen? ⟨w.heap.size+1+1+1+1+1,j,none⟩=false:=fun j=>by simp [fK,HS4.out.o]
 go_wp2_with fail
 refine(HV3.out _).mono ?_
 rintro e w5 ⟨rfl,hb5⟩
 have HS5:=h_ (HS4.out.later hb5)
 clear hb5 HS4 HV3
 clear fx4 fy4 fz4 fo4 zo4
 have fx5:∀ j,w5.cell? ⟨w.heap.size,j,none⟩=_:=fun j=>fm _ _ j _ 50 (0,0) HS5.out.x
 have fy5:∀ j,w5.cell? ⟨w.heap.size+1,j,none⟩=_:=fun j=>fm _ _ j _ 50 (0,0) HS5.out.y
 have fz5:∀ j,w5.cell? ⟨w.heap.size+1+1,j,none⟩=_:=fun j=>fm _ _ j _ 50 (0,0) HS5.out.z
 have fo5:∀ j,w5.cell? ⟨w.heap.size+1+1+1+1+1,j,none⟩=_:=fun j=>fm _ _ j _ 50 (0,0) HS5.out.o
 have zo5:∀ j,w5.frozen? ⟨w.heap.size+1+1+1+1+1,j,none⟩=false:=fun j=>by simp [fK,HS5.out.o]
 go_wp2_with fail
 have HT5:=h_ (show BSt w #[fG .i64 xid,.int .i64 xin,.int .i64 xout,.string xreg,.int .u8 xkind,.string xsp,.slice xa xr.length xc] #[fG .i64 yid,.int .i64 yin,.int .i64 yout,.string yreg,.int .u8 ykind,.string ysp,.slice ya yr.length yc] #[fG .i64 zid,.int .i64 zin,.int .i64 zout,.string zreg,.int .u8 zkind,.string zsp,.slice za zr.length zc] #[fG .i64 xid,.int .i64 s1,.int .i64 s2,.string s3,.int .u8 s4,.string ⟨#[]⟩,.slice none 0 0] (fIf c1 dV++fIf c2 az) (w5.setCell ⟨w.heap.size+1+1+1+1+1,4,none⟩ (.int .u8 s4)) from(HS5.out.set 4 (.int .u8 s4)))
 refine(HT5.out.note (by simp only [fP];have:=dL c1 dV;have:=dL c2 az;omega) c3 zb5).mono ?_
 clear HS5 HT5 fx5 fy5 fz5 fo5 zo5
 rintro e w6 ⟨rfl,hs6⟩
 have HS6:=h_ (show BSt w #[fG .i64 xid,.int .i64 xin,.int .i64 xout,.string xreg,.int .u8 xkind,.string xsp,.slice xa xr.length xc] #[fG .i64 yid,.int .i64 yin,.int .i64 yout,.string yreg,.int .u8 ykind,.string ysp,.slice ya yr.length yc] #[fG .i64 zid,.int .i64 zin,.int .i64 zout,.string zreg,.int .u8 zkind,.string zsp,.slice za zr.length zc] #[fG .i64 xid,.int .i64 s1,.int .i64 s2,.string s3,.int .u8 s4,.string ⟨#[]⟩,.slice none 0 0] (fIf c1 dV++fIf c2 az++fIf c3 zb5) w6 from hs6)
 clear hs6
 have fx6:∀ j,w6.cell? ⟨w.heap.size,j,none⟩=_:=fun j=>fm _ _ j _ 50 (0,0) HS6.out.x
 have fy6:∀ j,w6.cell? ⟨w.heap.size+1,j,none⟩=_:=fun j=>fm _ _ j _ 50 (0,0) HS6.out.y
 have fz6:∀ j,w6.cell? ⟨w.heap.size+1+1,j,none⟩=_:=fun j=>fm _ _ j _ 50 (0,0) HS6.out.z
 have fo6:∀ j,w6.cell? ⟨w.heap.size+1+1+1+1+1,j,none⟩=_:=fun j=>fm _ _ j _ 50 (0,0) HS6.out.o
 have zo6:∀ j,w6.frozen? ⟨w.heap.size+1+1+1+1+1,j,none⟩=false:=fun j=>by simp [fK,HS6.out.o]
 go_wp2_with fail
 refine(HV4.out _).mono ?_
 rintro e w7 ⟨rfl,hb7⟩
 have HS7:=h_ (HS6.out.later hb7)
 clear hb7 HS6 HV4
 clear fx6 fy6 fz6 fo6 zo6
 have fx7:∀ j,w7.cell? ⟨w.heap.size,j,none⟩=_:=fun j=>fm _ _ j _ 50 (0,0) HS7.out.x
 have fy7:∀ j,w7.cell? ⟨w.heap.size+1,j,none⟩=_:=fun j=>fm _ _ j _ 50 (0,0) HS7.out.y
 have fz7:∀ j,w7.cell? ⟨w.heap.size+1+1,j,none⟩=_:=fun j=>fm _ _ j _ 50 (0,0) HS7.out.z
 have fo7:∀ j,w7.cell? ⟨w.heap.size+1+1+1+1+1,j,none⟩=_:=fun j=>fm _ _ j _ 50 (0,0) HS7.out.o
 have zo7:∀ j,w7.frozen? ⟨w.heap.size+1+1+1+1+1,j,none⟩=false:=fun j=>by simp [fK,HS7.out.o]
 go_wp2_with fail
 have HT7:=h_ (show BSt w #[fG .i64 xid,.int .i64 xin,.int .i64 xout,.string xreg,.int .u8 xkind,.string xsp,.slice xa xr.length xc] #[fG .i64 yid,.int .i64 yin,.int .i64 yout,.string yreg,.int .u8 ykind,.string ysp,.slice ya yr.length yc] #[fG .i64 zid,.int .i64 zin,.int .i64 zout,.string zreg,.int .u8 zkind,.string zsp,.slice za zr.length zc] #[fG .i64 xid,.int .i64 s1,.int .i64 s2,.string s3,.int .u8 s4,.string s5,.slice none 0 0] (fIf c1 dV++fIf c2 az++fIf c3 zb5) (w7.setCell ⟨w.heap.size+1+1+1+1+1,5,none⟩ (.string s5)) from(HS7.out.set 5 (.string s5)))
 refine(HT7.out.note (by simp only [fP];have:=dL c1 dV;have:=dL c2 az;have:=dL c3 zb5;omega) c4 cV).mono ?_
 clear HS7 HT7 fx7 fy7 fz7 fo7 zo7
 rintro e w8 ⟨rfl,hs8⟩
 have HS8:=h_ (show BSt w #[fG .i64 xid,.int .i64 xin,.int .i64 xout,.string xreg,.int .u8 xkind,.string xsp,.slice xa xr.length xc] #[fG .i64 yid,.int .i64 yin,.int .i64 yout,.string yreg,.int .u8 ykind,.string ysp,.slice ya yr.length yc] #[fG .i64 zid,.int .i64 zin,.int .i64 zout,.string zreg,.int .u8 zkind,.string zsp,.slice za zr.length zc] #[fG .i64 xid,.int .i64 s1,.int .i64 s2,.string s3,.int .u8 s4,.string s5,.slice none 0 0] (fIf c1 dV++fIf c2 az++fIf c3 zb5++fIf c4 cV) w8 from hs8)
 clear hs8
 have fx8:∀ j,w8.cell? ⟨w.heap.size,j,none⟩=_:=fun j=>fm _ _ j _ 50 (0,0) HS8.out.x
 have fy8:∀ j,w8.cell? ⟨w.heap.size+1,j,none⟩=_:=fun j=>fm _ _ j _ 50 (0,0) HS8.out.y
 have fz8:∀ j,w8.cell? ⟨w.heap.size+1+1,j,none⟩=_:=fun j=>fm _ _ j _ 50 (0,0) HS8.out.z
 have fo8:∀ j,w8.cell? ⟨w.heap.size+1+1+1+1+1,j,none⟩=_:=fun j=>fm _ _ j _ 50 (0,0) HS8.out.o
 have zo8:∀ j,w8.frozen? ⟨w.heap.size+1+1+1+1+1,j,none⟩=false:=fun j=>by simp [fK,HS8.out.o]
 go_wp2_with fail
 refine(HV5.out _ (HS8.out.below)).mono ?_
 rintro e w9 ⟨rfl,hb9⟩
 have HS9:=h_ (HS8.out.later hb9)
 clear hb9 HS8 HV5
 clear fx8 fy8 fz8 fo8 zo8
 have fx9:∀ j,w9.cell? ⟨w.heap.size,j,none⟩=_:=fun j=>fm _ _ j _ 50 (0,0) HS9.out.x
 have fy9:∀ j,w9.cell? ⟨w.heap.size+1,j,none⟩=_:=fun j=>fm _ _ j _ 50 (0,0) HS9.out.y
 have fz9:∀ j,w9.cell? ⟨w.heap.size+1+1,j,none⟩=_:=fun j=>fm _ _ j _ 50 (0,0) HS9.out.z
 have fo9:∀ j,w9.cell? ⟨w.heap.size+1+1+1+1+1,j,none⟩=_:=fun j=>fm _ _ j _ 50 (0,0) HS9.out.o
 have zo9:∀ j,w9.frozen? ⟨w.heap.size+1+1+1+1+1,j,none⟩=false:=fun j=>by simp [fK,HS9.out.o]
 go_wp2_with fail
 have HT9:=h_ (show BSt w #[fG .i64 xid,.int .i64 xin,.int .i64 xout,.string xreg,.int .u8 xkind,.string xsp,.slice xa xr.length xc] #[fG .i64 yid,.int .i64 yin,.int .i64 yout,.string yreg,.int .u8 ykind,.string ysp,.slice ya yr.length yc] #[fG .i64 zid,.int .i64 zin,.int .i64 zout,.string zreg,.int .u8 zkind,.string zsp,.slice za zr.length zc] #[fG .i64 xid,.int .i64 s1,.int .i64 s2,.string s3,.int .u8 s4,.string s5,.slice ra5 rr5.length rc5] (fIf c1 dV++fIf c2 az++fIf c3 zb5++fIf c4 cV) (w9.setCell ⟨w.heap.size+1+1+1+1+1,6,none⟩ (.slice ra5 rr5.length rc5)) from(HS9.out.set 6 (.slice ra5 rr5.length rc5)))
 refine(HT9.out.note (by simp only [fP];have:=dL c1 dV;have:=dL c2 az;have:=dL c3 zb5;have:=dL c4 cV;omega) c5 zhH).mono ?_
 clear HS9 HT9 fx9 fy9 fz9 fo9 zo9
 rintro e w10 ⟨rfl,hs10⟩
 have HS10:=h_ (show BSt w #[fG .i64 xid,.int .i64 xin,.int .i64 xout,.string xreg,.int .u8 xkind,.string xsp,.slice xa xr.length xc] #[fG .i64 yid,.int .i64 yin,.int .i64 yout,.string yreg,.int .u8 ykind,.string ysp,.slice ya yr.length yc] #[fG .i64 zid,.int .i64 zin,.int .i64 zout,.string zreg,.int .u8 zkind,.string zsp,.slice za zr.length zc] #[fG .i64 xid,.int .i64 s1,.int .i64 s2,.string s3,.int .u8 s4,.string s5,.slice ra5 rr5.length rc5] (fIf c1 dV++fIf c2 az++fIf c3 zb5++fIf c4 cV++fIf c5 zhH) w10 from hs10)
 clear hs10
 have fx10:∀ j,w10.cell? ⟨w.heap.size,j,none⟩=_:=fun j=>fm _ _ j _ 50 (0,0) HS10.out.x
 have fy10:∀ j,w10.cell? ⟨w.heap.size+1,j,none⟩=_:=fun j=>fm _ _ j _ 50 (0,0) HS10.out.y
 have fz10:∀ j,w10.cell? ⟨w.heap.size+1+1,j,none⟩=_:=fun j=>fm _ _ j _ 50 (0,0) HS10.out.z
 have fo10:∀ j,w10.cell? ⟨w.heap.size+1+1+1+1+1,j,none⟩=_:=fun j=>fm _ _ j _ 50 (0,0) HS10.out.o
 have zo10:∀ j,w10.frozen? ⟨w.heap.size+1+1+1+1+1,j,none⟩=false:=fun j=>by simp [fK,HS10.out.o]
 obtain⟨fa,fc,hfb,hfo⟩:=HS10.out.row1
 have HFO:=h_ hfo
 have ff:∀ j,w10.cell? ⟨w.heap.size+1+1+1+1,j,none⟩=_:=fun j=>fm _ _ j _ 55 (0,0) hfb
 have hnb:=HS10.out.n
 have fn:∀ j,w10.cell? ⟨w.heap.size+1+1+1,j,none⟩=_:=fun j=>fm _ _ j _ 50 (0,0) hnb
 have zn:∀ j,w10.frozen? ⟨w.heap.size+1+1+1,j,none⟩=false:=fun j=>by simp [fK,hnb]
 clear hfb hfo hnb
 generalize hfs:(fIf c1 dV++fIf c2 az++fIf c3 zb5++fIf c4 cV++fIf c5 zhH).length=fl at *
 have HFL:=h_ hfs
 clear hfs fx10 fy10 fz10 zo10
 go_wp2_with fail
 go_region
 go_wp2_with fail
 refine bodyPost_ret (v:=.tuple #[.agg #[fG .i64 xid,.int .i64 s1,.int .i64 s2,.string s3,.int .u8 s4,.string s5,.slice ra5 rr5.length rc5],.slice fa fl fc]) (by simp [results,Tryz.results137,go_sem,fn]) rfl ?_
 have HEND:=HFIN.out _ _ _ _ _ HS10.out ⟨ra5,rc5,rr5⟩ c5 rfl (.slice fa fl fc) HFO.out
 refine HEND _ ?_
 refine Kept.drew ?_
 refine Kept.setCell (Kept.setCell (Kept.setCell (Kept.setCell (Kept.setCell (Kept.setCell (Kept.setCell (Kept.refl _ _) ?_ _) ?_ _) ?_ _) ?_ _) ?_ _) ?_ _) ?_ _
 all_goals exact .inr rfl
end Go.Proofs.YtnlnmbcaongehaaGreatDoor
namespace Go.Proofs.YtnlnmbcaongehaaGreatDoor
open Go.RowKit
theorem Tryz.info135:(Tryz.prog.info? 135).map (fun i=>(i.zero,i.size,i.bytes))=some (some (.agg #[.int .u8 0,.int .i64 0,.string ⟨#[]⟩,.string ⟨#[]⟩]),4,48):=by kernel_rfl
abbrev ClAt (B g:Nat)(arr:Array ft)(kv:ft)(cls:List Cl)(w:fp):Prop:=dM 142 8 135 4 B g arr kv cls.length (cls.flatMap Cl.enc) w
def zbX (B g:Nat)(arr:Array ft)(kv:ft)(cls:List Cl)(w:fp)(e:Ending)(w':fp):Prop:=e=.returned (.tuple #[])∧cQ 142 8 135 4 B g arr kv cls.length (cls.flatMap Cl.enc) w w'
theorem zks (w:fp)(o:Obj)(c:Cl)(j:Nat)(u:ft)(h:c.enc[j]? =some u):((w.alloc o).alloc (.cells c.enc.toArray 135)).drew.cell? ((⟨w.heap.size+1,0,none⟩:Addr).add j)=some u:=by
 have:=za7 (w.alloc o) c.enc.toArray 135 j u (by simpa using h)
 rw [fM] at this
 exact this
theorem zjh (w:fp)(o o':Obj):fC w.heap.size w ((w.alloc o).alloc o').drew:=(((fE _ _).alloc (fI _) _).alloc (by simp) _).drew
theorem ek (B g:Nat)(arr:Array ft)(kv:ft)(cls:List Cl)(is:Bool)(c:Cl)(w:fp)(h:ClAt B g arr kv cls w)(hB:B≤w.heap.size)(hl:cls.length≤1000000) :
 fB Tryz.prog 130 #[.pointer (some ⟨g,0,none⟩),.bool is,.agg c.enc.toArray] w (zbX B g arr kv (cls++clIf is c) w):=by
 cases is
 · have HS:=h_ (fun w' (hb:fC w.heap.size w w')=>(show zbX B g arr kv (cls++clIf false c) w (.returned (.tuple #[])) w' from⟨rfl,by
    have e:cls++clIf false c=cls:=by simp [clIf]
    rw [e]
    exact h.same hb⟩))
   generalize zbX B g arr kv (cls++clIf false c) w=Q at *
   obtain⟨sec,id,name,field⟩:=c
   simp only [Cl.enc]
   go_enter Tryz.func130,Tryz.ntmps130
   go_wp2_with fail
   go_end0
   exact HS.out _ ((fE _ _).alloc (fI _) _)
 · obtain⟨ka,kc,rfl⟩:=h.slice
   obtain⟨j0,hj,hy0,hy1,hy2⟩:=info_parts Tryz.info135
   have JI:=h_ hj;have J0:=h_ hy0;have J1:=h_ hy1;have J2:=h_ hy2
   have hg:=h.lt
   have c8:∀ o,(w.alloc o).cell? ⟨g,8,none⟩=some (.slice ka cls.length kc):=fun o=>by
    rw [fL _ _ _ (by simpa using hg),fm _ _ 8 arr 142 (0,0) h.cells];exact h.atIx
   have c8':∀ o o',((w.alloc o).alloc o').cell? ⟨g,8,none⟩=some (.slice ka cls.length kc):=fun o o'=>by
    rw [fL _ _ _ (by simp;omega)];exact c8 o
   clear hj hy0 hy1 hy2
   have mixed:Tryz.prog.follows Departure.mixedOrders=true:=by kernel_rfl
   have HO2:=h_ (fun(o o':Obj)=>(show((w.alloc o).alloc o').drew.ownsRow B 135 4 (.slice ka cls.length kc) cls.length (cls.flatMap Cl.enc) from(h.own.alloc o).alloc o'))
   have HN:=h_ (fun(o:Obj)=>zks w o c)
   have h63:=h_ (show cls.length+1≤maxLen by unfold maxLen;omega)
   have HBS:=h_ (fun(o o':Obj)=>(show B≤((w.alloc o).alloc o').drew.heap.size from by show B≤((w.alloc o).alloc o').heap.size;simp;omega))
   have H8:=h_ h.atIx
   have HAF:=h_ (fun(o o':Obj) (v':ft) (w2:fp)=>eO (v':=v') (w2:=w2) (m:=cls.length+1) (ys:=cls.flatMap Cl.enc++c.enc) h (zjh w o o'))
   have one4:=h_ (Cl.one c)
   have HF:=h_ (fun(v':ft) (w2:fp) (ho:w2.ownsRow B 135 4 v' (cls.length+1) (cls.flatMap Cl.enc++c.enc)) hg hap hk hf=>(show zbX B g arr (.slice ka cls.length kc) (cls++clIf true c) w (.returned (.tuple #[])) (w2.setCell ⟨g,8,none⟩ v') from⟨rfl,by
    have e:(cls++clIf true c).flatMap Cl.enc=cls.flatMap Cl.enc++c.enc:=by simp [clIf]
    have e2:(cls++clIf true c).length=cls.length+1:=by simp [clIf]
    rw [e,e2]
    exact eN h ho hg hap hk hf⟩))
   generalize zbX B g arr (.slice ka cls.length kc) (cls++clIf true c) w=Q at *
   obtain⟨sec,id,name,field⟩:=c
   simp only [Cl.enc]
   go_enter Tryz.func130,Tryz.ntmps130
   go_wp2_with fail
   go_region_law_o (refine zaG rfl (.tmp 11) (.tmp 13) 59 rfl B 135 j0 _ 4 48 Tryz.underlying59 JI.out J0.out J1.out J2.out rfl (by decide) (.slice ka cls.length kc) cls.length (cls.flatMap Cl.enc) (by rfl) (HO2.out _ _) ⟨w.heap.size+1,0,none⟩ 1 1 [.int .u8 sec,.int .i64 id,.string name,.string field] (by rfl) rfl (HN.out _) one4.out h63.out (by omega) (HBS.out _ _) ?_;intro v' w2 hown2 hgrow2 hat2;obtain⟨hv',hgc,hap,hkp,hfr⟩:=HAF.out _ _ _ _ hown2 hgrow2 hat2;obtain⟨va,vc,rfl⟩:=hv';have c8n:w2.cell? ⟨g,8,none⟩=some (.slice ka cls.length kc):=(fm _ _ 8 arr 142 (0,0) hgc).trans H8.out;have z8n:w2.frozen? ⟨g,8,none⟩=false:=(by simp [fK,hgc]);have HX:=h_ hown2;have HG:=h_ hgrow2;have HA:=h_ hat2;clear hown2 hgrow2 hat2)
   all_goals
    go_wp2_with fail
    go_end0
    exact HF.out _ _ HX.out hgc hap hkp hfr
end Go.Proofs.YtnlnmbcaongehaaGreatDoor
namespace Go.Proofs.YtnlnmbcaongehaaGreatDoor
open Go.RowKit
structure Mg where
 hd:Hd
 rv:ft
 rG:List Reg
 ev:ft
 evs:List Ev
 cv:ft
 cms:List Cm
 kv:ft
 cls:List Cl
def Mg.arr (m:Mg):Array ft:=#[.string m.hd.title,.string m.hd.lang,.int .u8 m.hd.rate,.bool m.hd.drop,.int .i64 m.hd.last,m.rv,m.ev,m.cv,m.kv]
def Mg.mine (g:Nat)(m:Mg)(b:Nat):Prop:=b=g∨m.rv.ownBlock=some b∨m.ev.ownBlock=some b∨m.cv.ownBlock=some b∨m.kv.ownBlock=some b
structure Mg.tags (g:Nat)(m:Mg)(t:Nat→Nat):Prop where
 g:t g=0
 r:∀ b,m.rv.ownBlock=some b→t b=1
 e:∀ b,m.ev.ownBlock=some b→t b=2
 c:∀ b,m.cv.ownBlock=some b→t b=3
 k:∀ b,m.kv.ownBlock=some b→t b=4
 u:∀ x∈m.evs,∀ b,x.uses b→t b=5
structure Mg.at_ (m:Mg)(B g:Nat)(w:fp):Prop where
 cells:w.heap[g]? =some (.cells m.arr 142 (0,0))
 rG:w.ownsRow B 44 7 m.rv m.rG.length (m.rG.flatMap Reg.enc)
 evs:w.ownsRow B 50 7 m.ev m.evs.length (m.evs.flatMap Ev.enc)
 each:∀ x∈m.evs,x.lies w
 cms:w.ownsRow B 52 8 m.cv m.cms.length (m.cms.flatMap Cm.enc)
 cls:w.ownsRow B 135 4 m.kv m.cls.length (m.cls.flatMap Cl.enc)
 lt:g<B
 low:∀ x∈m.evs,∀ b,x.uses b→g≤b
 sep:∃ t,m.tags g t
def Mg.step (g:Nat)(m m':Mg)(w w':fp):Prop:=Kept (m.mine g) w w'∧∀ b,m'.mine g b→m.mine g b∨w.heap.size≤b
theorem eR {B B' e k n:Nat} {v:ft} {xs:List ft} {w:fp} (h:w.ownsRow B e k v n xs)(hB:B'≤B):w.ownsRow B' e k v n xs :=
 ⟨h.1,h.2.imp id fun⟨g,cap,cur,q1,q2,q3⟩=>⟨g,cap,cur,q1,fJ hB q2,q3⟩⟩
section
variable {m m' m2:Mg} {B g:Nat} {w w' w2:fp}
theorem Mg.step.refl (g:Nat)(m:Mg)(w:fp):Mg.step g m m w w:=⟨Kept.refl _ _,fun b h=>.inl h⟩
theorem Mg.step.trans (h:Mg.step g m m' w w')(h2:Mg.step g m' m2 w' w2):Mg.step g m m2 w w2 :=
 ⟨h.1.trans h2.1 fun i hi hs=>(h.2 i hs).resolve_right (by omega),fun b hb=>(h2.2 b hb).elim (fun q=>h.2 b q) fun q=>.inr (fJ h.1.size q)⟩
theorem Mg.step.of_below (hb:fC w.heap.size w w'):Mg.step g m m w w':=⟨Kept.of_below hb,fun b h=>.inl h⟩
theorem Mg.at_.glt (h:m.at_ B g w):g<w.heap.size:=(fN.1 h.cells).1
theorem Mg.at_.kept (h:m.at_ B g w)(hs:w.heap.size≤w'.heap.size)(hb:∀ b,b<w.heap.size→(m.mine g b∨∃ x∈m.evs,x.uses b)→w'.heap[b]? =w.heap[b]?):m.at_ B g w' :=
 ⟨(hb g h.glt (.inl (.inl rfl))).trans h.cells,ah h.rG fun b q=>hb b (h.rG.lt b q).2 (.inl (.inr (.inl q))),ah h.evs fun b q=>hb b (h.evs.lt b q).2 (.inl (.inr (.inr (.inl q)))),
  fun x hx=>Ev.frame (h.each x hx) hs fun b q=>hb b (Ev.uses_lt (h.each x hx) q) (.inr ⟨x,hx,q⟩),ah h.cms fun b q=>hb b (h.cms.lt b q).2 (.inl (.inr (.inr (.inr (.inl q))))),
  ah h.cls fun b q=>hb b (h.cls.lt b q).2 (.inl (.inr (.inr (.inr (.inr q))))),h.lt,h.low,h.sep⟩
theorem Mg.at_.later (h:m.at_ B g w)(hb:fC w.heap.size w w'):m.at_ B g w':=h.kept hb.size fun b q _=>hb.block b q
theorem zcJ {v v':ft} {n:Nat} {t:Nat→Nat} {k:Nat} (ht:∀ b,v.ownBlock=some b→t b=k)(hl:∀ b,v.ownBlock=some b→b<n)(hf:v'.ownBlock=v.ownBlock∨∃ b,v'.ownBlock=some b∧n≤b) :
 ∀ b,v'.ownBlock=some b→(if b<n then t b else k)=k:=by
 intro b hb
 rcases hf with hf|⟨q,hq,hn⟩
 · rw [hf] at hb
   rw [if_pos (hl b hb)]
   exact ht b hb
 · rw [hq] at hb
   obtain rfl:=fR hb
   rw [if_neg (by omega)]
theorem fj {v v':ft} {n b:Nat} {S:Nat→Prop} (hS:v.ownBlock=some b→S b)(hf:v'.ownBlock=v.ownBlock∨∃ q,v'.ownBlock=some q∧n≤q)(hb:v'.ownBlock=some b):S b∨n≤b:=by
 rcases hf with hf|⟨q,hq,hn⟩
 · exact .inl (hS (hf▸hb))
 · rw [hq] at hb
   obtain rfl:=fR hb
   exact .inr hn
theorem a_ {t:Nat→Nat} {n b k j:Nat} (h:t b=j)(hb:b<n):(if b<n then t b else k)=j:=by rw [if_pos hb];exact h
theorem Mg.at_.clash (h:m.at_ B g w) {cls:List Cl} (hp:cQ 142 8 135 4 B g m.arr m.kv cls.length (cls.flatMap Cl.enc) w w'):∃ kv',({ m with kv:=kv',cls:=cls }:Mg).at_ B g w'∧Mg.step g m { m with kv:=kv',cls:=cls } w w':=by
 obtain⟨v',ha,hk,hf⟩:=hp
 obtain⟨t,ht⟩:=h.sep
 have hne:∀ b j,t b=j→j≠0→j≠4→¬ mOwn g m.kv b:=fun b j hj hz h4 hm=>by
  rcases hm with rfl|hm
  · exact hz (hj.symm.trans ht.g)
  · exact h4 (hj.symm.trans (ht.k b hm))
 refine⟨v',⟨ha.cells,ah h.rG fun b q=>hk.block b (h.rG.lt b q).2 (hne b 1 (ht.r b q) (by decide) (by decide)),ah h.evs fun b q=>hk.block b (h.evs.lt b q).2 (hne b 2 (ht.e b q) (by decide) (by decide)),
  fun x hx=>Ev.frame (h.each x hx) hk.size fun b q=>hk.block b (Ev.uses_lt (h.each x hx) q) (hne b 5 (ht.u x hx b q) (by decide) (by decide)),ah h.cms fun b q=>hk.block b (h.cms.lt b q).2 (hne b 3 (ht.c b q) (by decide) (by decide)),
  ha.own,h.lt,h.low,⟨fun b=>if b<w.heap.size then t b else 4,a_ ht.g h.glt,fun b q=>a_ (ht.r b q) (h.rG.lt b q).2,fun b q=>a_ (ht.e b q) (h.evs.lt b q).2,fun b q=>a_ (ht.c b q) (h.cms.lt b q).2,
   zcJ ht.k (fun b q=>(h.cls.lt b q).2) hf,fun x hx b q=>a_ (ht.u x hx b q) (Ev.uses_lt (h.each x hx) q)⟩⟩,hk.mono fun i hi hm=>hm.elim .inl fun q=>.inr (.inr (.inr (.inr q))),?_⟩
 rintro b (q|q|q|q|q)
 · exact .inl (.inl q)
 · exact .inl (.inr (.inl q))
 · exact .inl (.inr (.inr (.inl q)))
 · exact .inl (.inr (.inr (.inr (.inl q))))
 · exact fj (S:=m.mine g) (fun q=>.inr (.inr (.inr (.inr q)))) hf q
theorem Mg.at_.reg (h:m.at_ B g w) {rG:List Reg} (hp:cQ 142 5 44 7 B g m.arr m.rv rG.length (rG.flatMap Reg.enc) w w'):∃ rv',({ m with rv:=rv',rG:=rG }:Mg).at_ B g w'∧Mg.step g m { m with rv:=rv',rG:=rG } w w':=by
 obtain⟨v',ha,hk,hf⟩:=hp
 obtain⟨t,ht⟩:=h.sep
 have hne:∀ b j,t b=j→j≠0→j≠1→¬ mOwn g m.rv b:=fun b j hj hz h4 hm=>by
  rcases hm with rfl|hm
  · exact hz (hj.symm.trans ht.g)
  · exact h4 (hj.symm.trans (ht.r b hm))
 refine⟨v',⟨ha.cells,ha.own,ah h.evs fun b q=>hk.block b (h.evs.lt b q).2 (hne b 2 (ht.e b q) (by decide) (by decide)),
  fun x hx=>Ev.frame (h.each x hx) hk.size fun b q=>hk.block b (Ev.uses_lt (h.each x hx) q) (hne b 5 (ht.u x hx b q) (by decide) (by decide)),ah h.cms fun b q=>hk.block b (h.cms.lt b q).2 (hne b 3 (ht.c b q) (by decide) (by decide)),
  ah h.cls fun b q=>hk.block b (h.cls.lt b q).2 (hne b 4 (ht.k b q) (by decide) (by decide)),h.lt,h.low,⟨fun b=>if b<w.heap.size then t b else 1,a_ ht.g h.glt,zcJ ht.r (fun b q=>(h.rG.lt b q).2) hf,fun b q=>a_ (ht.e b q) (h.evs.lt b q).2,fun b q=>a_ (ht.c b q) (h.cms.lt b q).2,
   fun b q=>a_ (ht.k b q) (h.cls.lt b q).2,fun x hx b q=>a_ (ht.u x hx b q) (Ev.uses_lt (h.each x hx) q)⟩⟩,hk.mono fun i hi hm=>hm.elim .inl fun q=>.inr (.inl q),?_⟩
 rintro b (q|q|q|q|q)
 · exact .inl (.inl q)
 · exact fj (S:=m.mine g) (fun q=>.inr (.inl q)) hf q
 · exact .inl (.inr (.inr (.inl q)))
 · exact .inl (.inr (.inr (.inr (.inl q))))
 · exact .inl (.inr (.inr (.inr (.inr q))))
theorem Mg.at_.cm (h:m.at_ B g w) {cms:List Cm} (hp:cQ 142 7 52 8 B g m.arr m.cv cms.length (cms.flatMap Cm.enc) w w'):∃ cv',({ m with cv:=cv',cms:=cms }:Mg).at_ B g w'∧Mg.step g m { m with cv:=cv',cms:=cms } w w':=by
 obtain⟨v',ha,hk,hf⟩:=hp
 obtain⟨t,ht⟩:=h.sep
 have hne:∀ b j,t b=j→j≠0→j≠3→¬ mOwn g m.cv b:=fun b j hj hz h4 hm=>by
  rcases hm with rfl|hm
  · exact hz (hj.symm.trans ht.g)
  · exact h4 (hj.symm.trans (ht.c b hm))
 refine⟨v',⟨ha.cells,ah h.rG fun b q=>hk.block b (h.rG.lt b q).2 (hne b 1 (ht.r b q) (by decide) (by decide)),ah h.evs fun b q=>hk.block b (h.evs.lt b q).2 (hne b 2 (ht.e b q) (by decide) (by decide)),
  fun x hx=>Ev.frame (h.each x hx) hk.size fun b q=>hk.block b (Ev.uses_lt (h.each x hx) q) (hne b 5 (ht.u x hx b q) (by decide) (by decide)),ha.own,
  ah h.cls fun b q=>hk.block b (h.cls.lt b q).2 (hne b 4 (ht.k b q) (by decide) (by decide)),h.lt,h.low,⟨fun b=>if b<w.heap.size then t b else 3,a_ ht.g h.glt,fun b q=>a_ (ht.r b q) (h.rG.lt b q).2,fun b q=>a_ (ht.e b q) (h.evs.lt b q).2,zcJ ht.c (fun b q=>(h.cms.lt b q).2) hf,
   fun b q=>a_ (ht.k b q) (h.cls.lt b q).2,fun x hx b q=>a_ (ht.u x hx b q) (Ev.uses_lt (h.each x hx) q)⟩⟩,hk.mono fun i hi hm=>hm.elim .inl fun q=>.inr (.inr (.inr (.inl q))),?_⟩
 rintro b (q|q|q|q|q)
 · exact .inl (.inl q)
 · exact .inl (.inr (.inl q))
 · exact .inl (.inr (.inr (.inl q)))
 · exact fj (S:=m.mine g) (fun q=>.inr (.inr (.inr (.inl q)))) hf q
 · exact .inl (.inr (.inr (.inr (.inr q))))
theorem Mg.at_.evt (h:m.at_ B g w) {y:Ev} {w0:fp} (h0:m.at_ B g w0)(h01:fC w0.heap.size w0 w)(hy:y.lies w)(hu:∀ b,y.uses b→w0.heap.size≤b)(hp:cQ 142 6 50 7 B g m.arr m.ev (m.evs++[y]).length ((m.evs++[y]).flatMap Ev.enc) w w'):∃ ev',({ m with ev:=ev',evs:=m.evs++[y] }:Mg).at_ B g w'∧Mg.step g m { m with ev:=ev',evs:=m.evs++[y] } w w':=by
 obtain⟨v',ha,hk,hf⟩:=hp
 obtain⟨t,ht⟩:=h.sep
 have hne:∀ b j,t b=j→j≠0→j≠2→¬ mOwn g m.ev b:=fun b j hj hz h4 hm=>by
  rcases hm with rfl|hm
  · exact hz (hj.symm.trans ht.g)
  · exact h4 (hj.symm.trans (ht.e b hm))
 have hyk:∀ b,y.uses b→w'.heap[b]? =w.heap[b]?:=fun b q=>hk.block b (Ev.uses_lt hy q) fun hm=>by
  have:=hu b q
  rcases hm with rfl|hm
  · have:=h0.glt
    omega
  · have:=(h0.evs.lt b hm).2
    omega
 let T:Nat→Nat:=fun b=>if b<w0.heap.size then t b else if b<w.heap.size then 5 else 2
 have hT:∀ b j,t b=j→b<w0.heap.size→T b=j:=fun b j hj hb=>by simp only [T,if_pos hb];exact hj
 refine⟨v',⟨ha.cells,ah h.rG fun b q=>hk.block b (h.rG.lt b q).2 (hne b 1 (ht.r b q) (by decide) (by decide)),ha.own,fun x hx=>?_,ah h.cms fun b q=>hk.block b (h.cms.lt b q).2 (hne b 3 (ht.c b q) (by decide) (by decide)),
  ah h.cls fun b q=>hk.block b (h.cls.lt b q).2 (hne b 4 (ht.k b q) (by decide) (by decide)),h.lt,fun x hx b q=>(fQ.1 hx).elim (fun hx=>h.low x hx b q) (fun hx=>by obtain rfl:=fO.1 hx;have:=hu b q;have:=h0.glt;omega),⟨T,hT _ _ ht.g h0.glt,fun b q=>hT _ _ (ht.r b q) (h0.rG.lt b q).2,fun b q=>?_,fun b q=>hT _ _ (ht.c b q) (h0.cms.lt b q).2,fun b q=>hT _ _ (ht.k b q) (h0.cls.lt b q).2,fun x hx b q=>?_⟩⟩,hk.mono fun i hi hm=>hm.elim .inl fun q=>.inr (.inr (.inl q)),?_⟩
 · rcases fQ.1 hx with hx|hx
   · exact Ev.frame (h.each x hx) hk.size fun b q=>hk.block b (Ev.uses_lt (h.each x hx) q) (hne b 5 (ht.u x hx b q) (by decide) (by decide))
   · obtain rfl:=fO.1 hx
     exact Ev.frame hy hk.size hyk
 · have hs:=h01.size
   rcases hf with hf|⟨p,hp,hn⟩
   · exact hT _ _ (ht.e b (hf▸q)) (h0.evs.lt b (hf▸q)).2
   · have q':v'.ownBlock=some b:=q
     rw [hp] at q'
     obtain rfl:=fR q'
     show(if p<w0.heap.size then t p else if p<w.heap.size then 5 else 2)=2
     rw [if_neg (by omega),if_neg (by omega)]
 · rcases fQ.1 hx with hx|hx
   · exact hT _ _ (ht.u x hx b q) (Ev.uses_lt (h0.each x hx) q)
   · obtain rfl:=fO.1 hx
     have h1:=hu b q
     have h2:=Ev.uses_lt hy q
     show(if b<w0.heap.size then t b else if b<w.heap.size then 5 else 2)=5
     rw [if_neg (by omega),if_pos h2]
 · rintro b (q|q|q|q|q)
   · exact .inl (.inl q)
   · exact .inl (.inr (.inl q))
   · exact fj (S:=m.mine g) (fun q=>.inr (.inr (.inl q))) hf q
   · exact .inl (.inr (.inr (.inr (.inl q))))
   · exact .inl (.inr (.inr (.inr (.inr q))))
theorem Mg.at_.sorted (h:m.at_ B g w) {v:ft} {ys:List Ev} {w0:fp} (h0:m.at_ B g w0)(h01:fC w0.heap.size w0 w)(hv:zc3 w0.heap.size w0 v ys w)(hB:B≤w0.heap.size) :
 ({ m with ev:=v,evs:=ys }:Mg).at_ B g (w.setCell ⟨g,6,none⟩ v)∧Mg.step g m { m with ev:=v,evs:=ys } w0 (w.setCell ⟨g,6,none⟩ v):=by
 obtain⟨t,ht⟩:=h.sep
 have hs:=h01.size
 have hgl:=h0.glt
 have hbk:∀ b,b≠g→(w.setCell ⟨g,6,none⟩ v).heap[b]? =w.heap[b]?:=fun b hb=>fF _ _ _ _ hb
 have htg:∀ b j,t b=j→j≠0→b≠g:=fun b j hj h0 e=>h0 (by rw [←hj,e];exact ht.g)
 have hvl:∀ b,v.ownBlock=some b→w0.heap.size≤b∧b<w.heap.size:=fun b q=>hv.1.lt b q
 have hvo:∀ b,v.ownBlock=some b→b≠g:=fun b q e=>by
  have:=(hvl b q).1
  omega
 have hyu:∀ y∈ys,∀ b,y.uses b→v.ownBlock≠some b∧w0.heap.size≤b:=fun y hy=>(hv.2.1 y hy).2
 refine⟨⟨fw _ _ _ _ _ _ h.cells,ah h.rG fun b q=>hbk b (htg b 1 (ht.r b q) (by decide)),eR (ah hv.1 fun b q=>hbk b (hvo b q)) hB,fun x hx=>?_,ah h.cms fun b q=>hbk b (htg b 3 (ht.c b q) (by decide)),
  ah h.cls fun b q=>hbk b (htg b 4 (ht.k b q) (by decide)),h.lt,fun x hx b q=>(by have:=(hyu x hx b q).2;omega),⟨fun b=>if b<w0.heap.size then t b else if v.ownBlock=some b then 2 else 5,a_ ht.g hgl,fun b q=>a_ (ht.r b q) (h0.rG.lt b q).2,fun b q=>?_,fun b q=>a_ (ht.c b q) (h0.cms.lt b q).2,fun b q=>a_ (ht.k b q) (h0.cls.lt b q).2,fun x hx b q=>?_⟩⟩,?_,?_⟩
 · exact Ev.frame (hv.2.1 x hx).1 (by simp) fun b q=>hbk b fun e=>by
    have:=(hyu x hx b q).2
    omega
 · have:=(hvl b q).1
   rw [if_neg (by omega),if_pos q]
 · obtain⟨h1,h2⟩:=hyu x hx b q
   rw [if_neg (by omega),if_neg h1]
 · exact(Kept.of_below (S:=m.mine g) h01).setCell (.inr (.inl rfl)) _
 · rintro b (q|q|q|q|q)
   · exact .inl (.inl q)
   · exact .inl (.inr (.inl q))
   · exact .inr (hvl b q).1
   · exact .inl (.inr (.inr (.inr (.inl q))))
   · exact .inl (.inr (.inr (.inr (.inr q))))
end
theorem Mg.at_.row5 {m:Mg} {B g:Nat} {w:fp} (h:m.at_ B g w):dM 142 5 44 7 B g m.arr m.rv m.rG.length (m.rG.flatMap Reg.enc) w:=⟨h.cells,rfl,h.rG,fun e=>by
 obtain⟨t,ht⟩:=h.sep
 have:=ht.r g e
 rw [ht.g] at this
 cases this⟩
theorem Mg.at_.row6 {m:Mg} {B g:Nat} {w:fp} (h:m.at_ B g w):dM 142 6 50 7 B g m.arr m.ev m.evs.length (m.evs.flatMap Ev.enc) w:=⟨h.cells,rfl,h.evs,fun e=>by
 obtain⟨t,ht⟩:=h.sep
 have:=ht.e g e
 rw [ht.g] at this
 cases this⟩
theorem Mg.at_.row7 {m:Mg} {B g:Nat} {w:fp} (h:m.at_ B g w):dM 142 7 52 8 B g m.arr m.cv m.cms.length (m.cms.flatMap Cm.enc) w:=⟨h.cells,rfl,h.cms,fun e=>by
 obtain⟨t,ht⟩:=h.sep
 have:=ht.c g e
 rw [ht.g] at this
 cases this⟩
theorem Mg.at_.row8 {m:Mg} {B g:Nat} {w:fp} (h:m.at_ B g w):ClAt B g m.arr m.kv m.cls w:=⟨h.cells,rfl,h.cls,fun e=>by
 obtain⟨t,ht⟩:=h.sep
 have:=ht.k g e
 rw [ht.g] at this
 cases this⟩
theorem Mg.at_.mine_ge {m:Mg} {B g b:Nat} {w:fp} (h:m.at_ B g w)(hb:m.mine g b):g≤b:=by
 have hl:=h.lt
 rcases hb with rfl|hb|hb|hb|hb
 · exact fI _
 · have:=(h.rG.lt b hb).1;omega
 · have:=(h.evs.lt b hb).1;omega
 · have:=(h.cms.lt b hb).1;omega
 · have:=(h.cls.lt b hb).1;omega
theorem Mg.at_.mine_lt {m:Mg} {B g b:Nat} {w:fp} (h:m.at_ B g w)(hb:m.mine g b):b<w.heap.size:=by
 rcases hb with rfl|hb|hb|hb|hb
 · exact h.glt
 · exact(h.rG.lt b hb).2
 · exact(h.evs.lt b hb).2
 · exact(h.cms.lt b hb).2
 · exact(h.cls.lt b hb).2
theorem Mg.step.low {m m':Mg} {B g:Nat} {w w':fp} (h:Mg.step g m m' w w')(hm:m.at_ B g w):fC g w w' :=
 h.1.below (Nat.le_of_lt hm.glt) fun k hk hs=>by have:=hm.mine_ge hs;omega
theorem zet {α:Type} {k g:Nat} {enc:α→List ft} {w w':fp} {a:Option Addr} {xs:List α} (h:af k enc Flat w a xs)(hu:∀ b,zb0 a xs b→b<g)(hb:fC g w w')(hs:w.heap.size≤w'.heap.size):af k enc Flat w' a xs :=
 af.frame h hs (fun b q=>hb.block b (hu b q)) fun _ _ _=>trivial
theorem zeo (w:fp)(o:Obj):fC w.heap.size w (w.alloc o).drew:=((fE _ _).alloc (fI _) _).drew
theorem zen (w:fp)(cs:List ft)(T:TypeId)(j:Nat)(u:ft)(h:cs[j]? =some u):(w.alloc (.cells cs.toArray T)).drew.cell? ((⟨w.heap.size,0,none⟩:Addr).add j)=some u :=
 za7 w cs.toArray T j u (by simpa using h)
theorem Mg.at_.doc {m:Mg} {B g:Nat} {w:fp} (h:m.at_ B g w):∃ d:Doc,d.lies w∧d.hd=m.hd∧d.rG=m.rG∧d.evs=m.evs∧d.cms=m.cms∧m.arr=(d.enc++[m.kv]).toArray:=by
 obtain⟨a1,c1,e1,h1⟩:=aj (k:=7) (enc:=Reg.enc) (Ok:=Flat) (fun _=>rfl) h.rG (fun _ _=>trivial)
 obtain⟨a2,c2,e2,h2⟩:=aj (k:=7) (enc:=Ev.enc) (Ok:=Ev.lies) (fun _=>rfl) h.evs h.each
 obtain⟨a3,c3,e3,h3⟩:=aj (k:=8) (enc:=Cm.enc) (Ok:=Flat) (fun _=>rfl) h.cms (fun _ _=>trivial)
 refine⟨⟨m.hd.title,m.hd.lang,m.hd.rate,m.hd.drop,m.hd.last,a1,c1,m.rG,a2,c2,m.evs,a3,c3,m.cms⟩,⟨h1,h2,h3⟩,rfl,rfl,rfl,rfl,?_⟩
 simp only [Mg.arr,Doc.enc,e1,e2,e3]
 rfl
end Go.Proofs.YtnlnmbcaongehaaGreatDoor
