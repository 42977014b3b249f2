/- merge.refused: the error of three documents ahead of a merge; merge.anchorOf. (printed by gen_mgsmall.py) merge.comments, within a round: the boxes of the round and the merger. -/
import Derived.Test.YtnlnmbcaongehaaGreatDoorM18
set_option linter.unusedVariables false
set_option linter.unusedSimpArgs false
set_option maxRecDepth 100000
set_option maxHeartbeats 12800000
open Go.Lib renaming hid→h_
open Go renaming cell_of_row→fm,rounds_succ→fp,World→ft
open Go.RowKit renaming Below→fu
open Nat renaming le_refl→fw
open Go.Value renaming string→fB
namespace Go.Proofs.YtnlnmbcaongehaaGreatDoor
open Go.RowKit
def en (c:Cm):Int × Int × Int × Bool:=(c.ev,c.frm,c.til,c.lost)
theorem bJ (c:Cm)(w:ft):Calls Tryz.prog 142 #[.agg c.enc.toArray] w fun e w'=>e=.returned (.agg (aD (en c)))∧fu w.heap.size w w':=by
 obtain⟨id,ev,frm,til,au,tx,dn,lo⟩:=c
 simp only [Cm.enc,en,aD]
 go_enter Tryz.func142,Tryz.ntmps142
 go_wp2_with fail
 refine bodyPost_ret (v:=.agg #[.int .i64 ev,.int .i64 frm,.int .i64 til,.bool lo]) (by simp [results,Tryz.results142,go_sem]) rfl ⟨rfl,?_⟩
 repeat refine fu.setCell ?_ (by simp) _
 exact((fu.refl _ _).alloc (fw _) _).alloc (by simp) _
theorem zhj (a b c:Doc):aO a.c b.c c.c=if aG a≠0 then aG a else if aG b≠0 then aG b else if aG c≠0 then aG c else if b.last<a.last∨c.last<a.last then 8 else 0:=by
 unfold aO
 rw [←bw,←bw,←bw]
 rfl
theorem zek (x y z:Doc)(w:ft)(hE:Env w)(hx:x.lies w)(hy:y.lies w)(hz:z.lies w)(fx:x.fits)(fy:y.fits)(fz:z.fits) :
 Calls Tryz.prog 74 #[.agg x.enc.toArray,.agg y.enc.toArray,.agg z.enc.toArray] w fun e w'=>e=.returned (.int .i64 (aO x.c y.c z.c))∧fu w.heap.size w w':=by
 have H1:=h_ (fun w1 (h:fu w.heap.size w w1)=>cK x w1 (hE.below h (fw _)) (Doc.later hx h) fx)
 have H2:=h_ (fun w1 (h:fu w.heap.size w w1)=>cK y w1 (hE.below h (fw _)) (Doc.later hy h) fy)
 have H3:=h_ (fun w1 (h:fu w.heap.size w w1)=>cK z w1 (hE.below h (fw _)) (Doc.later hz h) fz)
 rw [zhj]
 generalize aG x=e1 at *
 generalize aG y=e2 at *
 generalize aG z=e3 at *
 have hlx:i64 x.last:=fx.2.2.2.2.1
 have hly:i64 y.last:=fy.2.2.2.2.1
 have hlz:i64 z.last:=fz.2.2.2.2.1
 generalize hQ:(fun(e:Ending) (w':ft)=>e=.returned (.int .i64 (if e1≠0 then e1 else if e2≠0 then e2 else if e3≠0 then e3 else if y.last<x.last∨z.last<x.last then 8 else 0))∧fu w.heap.size w w')=Q
 have HQ:=h_ (fun(v:Int) (hv:(if e1≠0 then e1 else if e2≠0 then e2 else if e3≠0 then e3 else if y.last<x.last∨z.last<x.last then 8 else 0)=v) w' (hb:fu w.heap.size w w')=>show Q (.returned (.int .i64 v)) w' from hQ▸⟨by rw [hv],hb⟩)
 clear hQ hx hy hz fx fy fz
 obtain⟨xt,xl,xr,xd,xla,xra,xrc,xregs,xea,xec,xevs,xca,xcc,xcms⟩:=x
 obtain⟨yt,yl,yr,yd,yla,yra,yrc,yregs,yea,yec,yevs,yca,ycc,ycms⟩:=y
 obtain⟨zt,zl,zr,zd,zla,zra,zrc,zregs,zea,zec,zevs,zca,zcc,zcms⟩:=z
 simp only at HQ hlx hly hlz
 simp only [Doc.enc] at *
 have HV:=h_ (fun wx (h:fu (w.heap.size+4) ((((w.alloc (.cells #[fB xt,.string xl,.int .u8 xr,.bool xd,.int .i64 xla,.slice xra xregs.length xrc,.slice xea xevs.length xec,.slice xca xcms.length xcc] 27)).alloc (.cells #[fB yt,.string yl,.int .u8 yr,.bool yd,.int .i64 yla,.slice yra yregs.length yrc,.slice yea yevs.length yec,.slice yca ycms.length ycc] 27)).alloc (.cells #[fB zt,.string zl,.int .u8 zr,.bool zd,.int .i64 zla,.slice zra zregs.length zrc,.slice zea zevs.length zec,.slice zca zcms.length zcc] 27)).alloc (.cells #[fB xt,.string xl,.int .u8 xr,.bool xd,.int .i64 xla,.slice xra xregs.length xrc,.slice xea xevs.length xec,.slice xca xcms.length xcc,fB yt,.string yl,.int .u8 yr,.bool yd,.int .i64 yla,.slice yra yregs.length yrc,.slice yea yevs.length yec,.slice yca ycms.length ycc,fB zt,.string zl,.int .u8 zr,.bool zd,.int .i64 zla,.slice zra zregs.length zrc,.slice zea zevs.length zec,.slice zca zcms.length zcc] 27)) wx)=>dN w #[fB xt,.string xl,.int .u8 xr,.bool xd,.int .i64 xla,.slice xra xregs.length xrc,.slice xea xevs.length xec,.slice xca xcms.length xcc] #[fB yt,.string yl,.int .u8 yr,.bool yd,.int .i64 yla,.slice yra yregs.length yrc,.slice yea yevs.length yec,.slice yca ycms.length ycc] #[fB zt,.string zl,.int .u8 zr,.bool zd,.int .i64 zla,.slice zra zregs.length zrc,.slice zea zevs.length zec,.slice zca zcms.length zcc] #[fB xt,.string xl,.int .u8 xr,.bool xd,.int .i64 xla,.slice xra xregs.length xrc,.slice xea xevs.length xec,.slice xca xcms.length xcc,fB yt,.string yl,.int .u8 yr,.bool yd,.int .i64 yla,.slice yra yregs.length yrc,.slice yea yevs.length yec,.slice yca ycms.length ycc,fB zt,.string zl,.int .u8 zr,.bool zd,.int .i64 zla,.slice zra zregs.length zrc,.slice zea zevs.length zec,.slice zca zcms.length zcc] 27 wx h)
 have HB:=h_ (fun wx (h:fu (w.heap.size+4) ((((w.alloc (.cells #[fB xt,.string xl,.int .u8 xr,.bool xd,.int .i64 xla,.slice xra xregs.length xrc,.slice xea xevs.length xec,.slice xca xcms.length xcc] 27)).alloc (.cells #[fB yt,.string yl,.int .u8 yr,.bool yd,.int .i64 yla,.slice yra yregs.length yrc,.slice yea yevs.length yec,.slice yca ycms.length ycc] 27)).alloc (.cells #[fB zt,.string zl,.int .u8 zr,.bool zd,.int .i64 zla,.slice zra zregs.length zrc,.slice zea zevs.length zec,.slice zca zcms.length zcc] 27)).alloc (.cells #[fB xt,.string xl,.int .u8 xr,.bool xd,.int .i64 xla,.slice xra xregs.length xrc,.slice xea xevs.length xec,.slice xca xcms.length xcc,fB yt,.string yl,.int .u8 yr,.bool yd,.int .i64 yla,.slice yra yregs.length yrc,.slice yea yevs.length yec,.slice yca ycms.length ycc,fB zt,.string zl,.int .u8 zr,.bool zd,.int .i64 zla,.slice zra zregs.length zrc,.slice zea zevs.length zec,.slice zca zcms.length zcc] 27)) wx)=>(show fu w.heap.size w wx from(aS w _ _ _ _).trans (h.mono (by omega))))
 have hsz:((((w.alloc (.cells #[fB xt,.string xl,.int .u8 xr,.bool xd,.int .i64 xla,.slice xra xregs.length xrc,.slice xea xevs.length xec,.slice xca xcms.length xcc] 27)).alloc (.cells #[fB yt,.string yl,.int .u8 yr,.bool yd,.int .i64 yla,.slice yra yregs.length yrc,.slice yea yevs.length yec,.slice yca ycms.length ycc] 27)).alloc (.cells #[fB zt,.string zl,.int .u8 zr,.bool zd,.int .i64 zla,.slice zra zregs.length zrc,.slice zea zevs.length zec,.slice zca zcms.length zcc] 27)).alloc (.cells #[fB xt,.string xl,.int .u8 xr,.bool xd,.int .i64 xla,.slice xra xregs.length xrc,.slice xea xevs.length xec,.slice xca xcms.length xcc,fB yt,.string yl,.int .u8 yr,.bool yd,.int .i64 yla,.slice yra yregs.length yrc,.slice yea yevs.length yec,.slice yca ycms.length ycc,fB zt,.string zl,.int .u8 zr,.bool zd,.int .i64 zla,.slice zra zregs.length zrc,.slice zea zevs.length zec,.slice zca zcms.length zcc] 27)).heap.size=w.heap.size+4:=by simp
 go_enter Tryz.func74,Tryz.ntmps74
 go_wp2_with fail
 generalize ((((w.alloc (.cells #[fB xt,.string xl,.int .u8 xr,.bool xd,.int .i64 xla,.slice xra xregs.length xrc,.slice xea xevs.length xec,.slice xca xcms.length xcc] 27)).alloc (.cells #[fB yt,.string yl,.int .u8 yr,.bool yd,.int .i64 yla,.slice yra yregs.length yrc,.slice yea yevs.length yec,.slice yca ycms.length ycc] 27)).alloc (.cells #[fB zt,.string zl,.int .u8 zr,.bool zd,.int .i64 zla,.slice zra zregs.length zrc,.slice zea zevs.length zec,.slice zca zcms.length zcc] 27)).alloc (.cells #[fB xt,.string xl,.int .u8 xr,.bool xd,.int .i64 xla,.slice xra xregs.length xrc,.slice xea xevs.length xec,.slice xca xcms.length xcc,fB yt,.string yl,.int .u8 yr,.bool yd,.int .i64 yla,.slice yra yregs.length yrc,.slice yea yevs.length yec,.slice yca ycms.length ycc,fB zt,.string zl,.int .u8 zr,.bool zd,.int .i64 zla,.slice zra zregs.length zrc,.slice zea zevs.length zec,.slice zca zcms.length zcc] 27))=W0 at *
 have hb0:fu (w.heap.size+4) W0 W0:=fu.refl _ _
 have HSZ:=h_ hsz
 have HT:=h_ (fun(w2 w3:ft) (o:Obj) (h:fu (w.heap.size+4) W0 w2) (h3:fu (w2.alloc o).heap.size (w2.alloc o) w3)=>((h.alloc (by have:=h.size;rw [HSZ.out] at this;exact this) o).trans (h3.mono (by have:=h.size;rw [HSZ.out] at this;simp;omega)):fu (w.heap.size+4) W0 w3))
 have HTA:=h_ (fun(w2:ft) (o:Obj) (h:fu (w.heap.size+4) W0 w2)=>(h.alloc (by have:=h.size;rw [HSZ.out] at this;exact this) o:fu (w.heap.size+4) W0 (w2.alloc o)))
 clear hsz
 refine wp_loop_rounds 4 ?_
 rw [fp]
 have fn1:∀ j,W0.cell? ⟨w.heap.size+1+1+1,j,none⟩=_:=fun j=>fm _ _ j _ 27 (0,0) (HV.out _ hb0).2.2.2
 go_wp2_with fail
 refine(H1.out _ (HB.out _ (HTA.out _ _ hb0))).mono ?_
 rintro e w1 ⟨rfl,hbn1⟩
 have hb1:=HT.out _ _ _ hb0 hbn1
 clear hbn1 fn1
 by_cases he1:e1=0
 · subst he1
   go_wp2_with fail
   rw [fp]
   have fn2:∀ j,w1.cell? ⟨w.heap.size+1+1+1,j,none⟩=_:=fun j=>fm _ _ j _ 27 (0,0) (HV.out _ hb1).2.2.2
   go_wp2_with fail
   refine(H2.out _ (HB.out _ (HTA.out _ _ hb1))).mono ?_
   rintro e w2 ⟨rfl,hbn2⟩
   have hb2:=HT.out _ _ _ hb1 hbn2
   clear hbn2 fn2
   by_cases he2:e2=0
   · subst he2
     go_wp2_with fail
     rw [fp]
     have fn3:∀ j,w2.cell? ⟨w.heap.size+1+1+1,j,none⟩=_:=fun j=>fm _ _ j _ 27 (0,0) (HV.out _ hb2).2.2.2
     go_wp2_with fail
     refine(H3.out _ (HB.out _ (HTA.out _ _ hb2))).mono ?_
     rintro e w3 ⟨rfl,hbn3⟩
     have hb3:=HT.out _ _ _ hb2 hbn3
     clear hbn3 fn3
     by_cases he3:e3=0
     · subst he3
       go_wp2_with fail
       rw [fp]
       have q0:∀ j,w3.cell? ⟨w.heap.size,j,none⟩=_:=fun j=>fm _ _ j _ 27 (0,0) (HV.out _ hb3).1
       have q1:∀ j,w3.cell? ⟨w.heap.size+1,j,none⟩=_:=fun j=>fm _ _ j _ 27 (0,0) (HV.out _ hb3).2.1
       have q2:∀ j,w3.cell? ⟨w.heap.size+1+1,j,none⟩=_:=fun j=>fm _ _ j _ 27 (0,0) (HV.out _ hb3).2.2.1
       have HB3:=h_ (HB.out _ hb3)
       clear hb0 hb1 hb2 hb3 HV HB HT HTA H1 H2 H3
       rcases(by omega:yla<xla∨xla≤yla) with hA|hA
       · have HE:=h_ (HQ.out 8 (by simp;omega) w3 HB3.out)
         clear HQ
         go_wp2_with fail
         exact HE.out
       · rcases(by omega:zla<xla∨xla≤zla) with hB|hB
         · have HE:=h_ (HQ.out 8 (by simp;omega) w3 HB3.out)
           clear HQ
           go_wp2_with fail
           exact HE.out
         · have HE:=h_ (HQ.out 0 (by simp;omega) w3 HB3.out)
           clear HQ
           go_wp2_with fail
           exact HE.out
     · have HE:=h_ (HQ.out e3 (by simp [he3]) w3 (HB.out _ hb3))
       have hn:¬ (e3=0):=he3
       clear HQ
       go_wp2_with fail
       exact HE.out
   · have HE:=h_ (HQ.out e2 (by simp [he2]) w2 (HB.out _ hb2))
     have hn:¬ (e2=0):=he2
     clear HQ
     go_wp2_with fail
     exact HE.out
 · have HE:=h_ (HQ.out e1 (by simp [he1]) w1 (HB.out _ hb1))
   have hn:¬ (e1=0):=he1
   clear HQ
   go_wp2_with fail
   exact HE.out
end Go.Proofs.YtnlnmbcaongehaaGreatDoor
namespace Go.Proofs.YtnlnmbcaongehaaGreatDoor
open Go.RowKit
structure CSt (m1:Mg)(B g G S:Nat)(id:Int)(X Y Z O:Array Value)(cls:List Cl)(wr wx:ft):Prop where
 b0:wx.heap[G]? =some (.cells #[.pointer (some ⟨g,0,none⟩)] 140 (0,0))
 i:wx.heap[S]? =some (.cells #[.int .i64 id] 2 (0,0))
 x:wx.heap[S+1]? =some (.cells X 52 (0,0))
 y:wx.heap[S+1+1]? =some (.cells Y 52 (0,0))
 z:wx.heap[S+1+1+1]? =some (.cells Z 52 (0,0))
 o:wx.heap[S+1+1+1+1]? =some (.cells O 52 (0,0))
 m:∃ kv,({ m1 with kv:=kv,cls:=cls }:Mg).at_ B g wx∧Mg.step g m1 { m1 with kv:=kv,cls:=cls } wr wx∧∀ b,({ m1 with kv:=kv,cls:=cls }:Mg).mine g b→b≠G∧(b<S∨S+5≤b)
 u:∀ e∈m1.evs,∀ b,e.uses b→b<S
section
variable {m1:Mg} {B g G S:Nat} {id:Int} {X Y Z O:Array Value} {cls:List Cl} {wr wx w':ft}
theorem CSt.lt (h:CSt m1 B g G S id X Y Z O cls wr wx):S+4<wx.heap.size:=(Array.getElem?_eq_some_iff.1 h.o).1
theorem CSt.later (h:CSt m1 B g G S id X Y Z O cls wr wx)(hG:G<S)(hb:fu wx.heap.size wx w'):CSt m1 B g G S id X Y Z O cls wr w':=by
 have hl:=h.lt
 obtain⟨kv,h1,h2,h3⟩:=h.m
 exact⟨(hb.block _ (by omega)).trans h.b0,(hb.block _ (by omega)).trans h.i,(hb.block _ (by omega)).trans h.x,(hb.block _ (by omega)).trans h.y,(hb.block _ (by omega)).trans h.z,(hb.block _ (by omega)).trans h.o,⟨kv,h1.later hb,h2.trans (Mg.step.of_below hb),h3⟩,h.u⟩
theorem CSt.set (h:CSt m1 B g G S id X Y Z O cls wr wx)(hG:G<S)(hS:wr.heap.size≤S)(j:Nat)(u:Value):CSt m1 B g G S id X Y Z (O.setIfInBounds j u) cls wr (wx.setCell ⟨S+1+1+1+1,j,none⟩ u):=by
 have hs:∀ b,b≠S+1+1+1+1→(wx.setCell ⟨S+1+1+1+1,j,none⟩ u).heap[b]? =wx.heap[b]?:=fun b hb=>fu.heap_setCell _ _ _ _ hb
 obtain⟨kv,h1,h2,h3⟩:=h.m
 have hk:Kept (Mg.mine g m1) wr (wx.setCell ⟨S+1+1+1+1,j,none⟩ u):=h2.1.setCell (.inl (by simp only;omega)) _
 refine⟨(hs _ (by omega)).trans h.b0,(hs _ (by omega)).trans h.i,(hs _ (by omega)).trans h.x,(hs _ (by omega)).trans h.y,(hs _ (by omega)).trans h.z,heap_setCell_same _ _ _ _ _ _ h.o,⟨kv,?_,⟨hk,h2.2⟩,h3⟩,h.u⟩
 refine h1.kept (by simp) fun b hb hm=>hs b ?_
 rcases hm with hm|⟨e,he,hm⟩
 · have:=h3 b hm
   omega
 · have:=h.u e he b hm
   omega
theorem CSt.note (h:CSt m1 B g G S id X Y Z O cls wr wx)(hG:G<S)(hB:B≤wx.heap.size)(hl:cls.length≤900000)(is:Bool)(f:ByteArray) :
 Calls Tryz.prog 141 #[.bool is,.string f,.pointer (some ⟨G,0,none⟩),.pointer (some ⟨S,0,none⟩)] wx fun e w'=>e=.returned (.tuple #[])∧CSt m1 B g G S id X Y Z O (cls++clIf is ⟨4,id,ak,f⟩) wr w':=by
 have hlt:=h.lt
 obtain⟨kv,h1,h2,h3⟩:=h.m
 refine(zep B g G S { m1 with kv:=kv,cls:=cls } is f id wx h1 hB (by simp only;omega) (by rw [fm _ _ 0 _ 140 (0,0) h.b0];rfl) (by rw [fm _ _ 0 _ 2 (0,0) h.i];rfl)).mono fun e w' p=>?_
 obtain⟨he,kv',q1,q2⟩:=p
 have hk:∀ b,b<wx.heap.size→(b=G∨(S≤b∧b<S+5))→w'.heap[b]? =wx.heap[b]?:=fun b hb hc=>q2.1.block b hb fun hm=>by
  have:=h3 b hm
  omega
 refine⟨he,(hk _ (by omega) (.inl rfl)).trans h.b0,(hk _ (by omega) (.inr (by omega))).trans h.i,(hk _ (by omega) (.inr (by omega))).trans h.x,(hk _ (by omega) (.inr (by omega))).trans h.y,(hk _ (by omega) (.inr (by omega))).trans h.z,(hk _ (by omega) (.inr (by omega))).trans h.o,⟨kv',q1,h2.trans q2,fun b hb=>?_⟩,h.u⟩
 rcases q2.2 b hb with hm|hm
 · exact h3 b hm
 · omega
end
end Go.Proofs.YtnlnmbcaongehaaGreatDoor
