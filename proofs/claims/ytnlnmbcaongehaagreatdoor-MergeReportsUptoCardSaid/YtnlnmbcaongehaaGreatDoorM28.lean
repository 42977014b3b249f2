/- merge.Merge, where nothing gets a new ID. (printed by gen_mgmerge.py) -/
import Derived.Test.YtnlnmbcaongehaaGreatDoorM25
import Derived.Test.YtnlnmbcaongehaaGreatDoorM26
import Derived.Test.YtnlnmbcaongehaaGreatDoorM27
set_option linter.unusedVariables false
set_option linter.unusedSimpArgs false
set_option maxRecDepth 100000
set_option maxHeartbeats 12800000
open Go.Lib renaming hid→h_
open Go renaming cell_of_row→kR,heap_setCell_same→kS,wpAnyH_take→kT,World→kU,bodyPost_ret→kV
open Go.RowKit renaming Below→kW
open Go.Value renaming string→kX
open Nat renaming le_refl→kY,le_trans→kZ
open Go.World renaming frozen?→k0,ownsRow_nil→k7
open Go.RowKit.Below renaming heap_setCell→k9,setCell→k_
open And renaming intro→lf
open List renaming setIfInBounds_toArray→lg,getElem_cons_zero→lh,getElem_cons_succ→lj,getElem_toArray→lk,set_cons_zero→ll,set_cons_succ→ln,length_append→lp,length_nil→lq,length_map→lr
open Array renaming toArray_toList→lu,getElem?_eq_some_iff→lv
open Go.Act renaming put→lC
namespace Go.Proofs.YtnlnmbcaongehaaGreatDoor
open Go.RowKit
def zc2 (x y z:DocC)(w:kU)(e:Ending)(w':kU):Prop:=∃ (d:Doc) (kv:Value),e=.returned (.tuple #[.agg d.enc.toArray,kv,.int .i64 (zah x y z)])∧d.c=zcA x y z∧d.lies w'∧d.fits∧(∀ b,d.uses b→w.heap.size≤b)∧w'.ownsRow w.heap.size 135 4 kv (mgCl x y z).length ((mgCl x y z).flatMap Cl.enc)∧kW w.heap.size w w'
theorem zDoc_uses (b n:Nat):zDoc.uses b→n≤b:=by
 rintro (⟨h,_⟩|(⟨h,_⟩|⟨x,hx,_⟩)|⟨h,_⟩)
 · exact absurd rfl h
 · exact absurd rfl h
 · cases hx
 · exact absurd rfl h
theorem zdY {t:DocC} (h:cErr t=0):0≤t.hd.last:=by
 have hp:=(za2 (d:=t.rep) h).1
 unfold ef at hp
 split at hp
 · cases hp
 · split at hp
   · cases hp
   · split at hp
     · cases hp
     · split at hp
       · rename_i h1
         rw [hp] at h1
         cases h1
       · split at hp
         · cases hp
         · rename_i h1
           have:t.rep.last=t.hd.last:=rfl
           omega
theorem zer {x y z:DocC} (h:aO x y z≠0):zah x y z=aO x y z∧zcA x y z=zj2∧mgCl x y z=[]:=by
 have h1:zah x y z=aO x y z:=by
  unfold zah
  rw [if_pos h]
 refine⟨h1,?_,?_⟩
 · unfold zcA
   rw [if_neg (by rw [h1];exact h)]
 · unfold mgCl
   rw [if_neg (by rw [h1];exact h)]
theorem aV.mono {w:kU} {b1 b2 n k:Nat} {xs:List Ev} {ys:List Cm} (h:aV w b1 b2 n xs ys)(hn:n≤k):aV w b1 b2 k xs ys:=⟨h.ev.mono hn,h.cm.mono hn⟩
theorem Mg.at_.doc_low {m:Mg} {B g:Nat} {w:kU} (h:m.at_ B g w):∃ d:Doc,d.lies w∧d.hd=m.hd∧d.rG=m.rG∧d.evs=m.evs∧d.cms=m.cms∧m.arr=(d.enc++[m.kv]).toArray∧∀ b,d.uses b→g≤b:=by
 obtain⟨a1,c1,e1,h1⟩:=aj (k:=7) (enc:=Reg.enc) (Ok:=Flat) (fun _=>rfl) h.rG (fun _ _=>trivial)
 obtain⟨a2,c2,e2,h2⟩:=aj (k:=7) (enc:=Ev.enc) (Ok:=Ev.lies) (fun _=>rfl) h.evs h.each
 obtain⟨a3,c3,e3,h3⟩:=aj (k:=8) (enc:=Cm.enc) (Ok:=Flat) (fun _=>rfl) h.cms (fun _ _=>trivial)
 have hl:=h.lt
 refine⟨⟨m.hd.title,m.hd.lang,m.hd.rate,m.hd.drop,m.hd.last,a1,c1,m.rG,a2,c2,m.evs,a3,c3,m.cms⟩,⟨h1,h2,h3⟩,rfl,rfl,rfl,rfl,?_,?_⟩
 · simp only [Mg.arr,Doc.enc,e1,e2,e3]
   rfl
 · rintro b (⟨_,ad,ha,rfl⟩|(⟨_,ad,ha,rfl⟩|⟨x,hx,hb⟩)|⟨_,ad,ha,rfl⟩)
   · have ha':a1=some ad:=ha
     have:=(h.rG.lt ad.block (by rw [e1,ha'];rfl)).1
     omega
   · have ha':a2=some ad:=ha
     have:=(h.evs.lt ad.block (by rw [e2,ha'];rfl)).1
     omega
   · exact h.low x hx b hb
   · have ha':a3=some ad:=ha
     have:=(h.cms.lt ad.block (by rw [e3,ha'];rfl)).1
     omega
theorem zj8:(Tryz.prog.info? 27).map (·.size)=some 8:=by kernel_rfl
theorem zk2 (a b:ByteArray)(c:Int)(d:Bool)(e:Int)(f1 f2 f3:Option Addr)(n1 n2 n3 m1 m2 m3:Nat):(#[kX a,.string b,.int .u8 c,.bool d,.int .i64 e,.slice f1 n1 m1,.slice f2 n2 m2,.slice f3 n3 m3].all (·.oneCell'))=true:=by simp [Value.oneCell']
theorem size_setRow (w:kU)(g:Nat)(cs:Array Value):(w.setRow g cs).heap.size=w.heap.size:=by unfold kU.setRow;simp
theorem zgG (w:kU)(g:Nat)(cs:Array Value):Kept (fun b=>b=g) w (w.drew.setRow g cs):=⟨rfl,rfl,rfl,by rw [size_setRow];exact kY _,fun k _ hn=>dZ _ _ _ _ hn⟩
theorem zkq {w:kU} {g:Nat} {v0 v1 v2 v3 v4 v5 v6 v7 a0 a1 a2 a3 a4 a5 a6 a7:Value} (h:w.heap[g]? =some (.cells #[v0,v1,v2,v3,v4,v5,v6,v7] 27 (0,0))) :
 ((((((((w.setCell ⟨g,0,none⟩ a0).setCell ⟨g,1,none⟩ a1).setCell ⟨g,2,none⟩ a2).setCell ⟨g,3,none⟩ a3).setCell ⟨g,4,none⟩ a4).setCell ⟨g,5,none⟩ a5).setCell ⟨g,6,none⟩ a6).setCell ⟨g,7,none⟩ a7).heap[g]? =some (.cells #[a0,a1,a2,a3,a4,a5,a6,a7] 27 (0,0)):=by
 rw [kS _ _ _ _ _ _ (kS _ _ _ _ _ _ (kS _ _ _ _ _ _ (kS _ _ _ _ _ _ (kS _ _ _ _ _ _ (kS _ _ _ _ _ _ (kS _ _ _ _ _ _ (kS _ _ _ _ _ _ h))))))),put8]
theorem zki (x y z:Doc)(w:kU)(hE:Env w)(hx:x.lies w)(hy:y.lies w)(hz:z.lies w)(fx:x.fits)(fy:y.fits)(fz:z.fits)(hold0:aO x.c y.c z.c=0→zdf x.c y.c z.c=[]) :
 Calls Tryz.prog 26 #[.agg x.enc.toArray,.agg y.enc.toArray,.agg z.enc.toArray] w (zc2 x.c y.c z.c w):=by
 have HREF:=h_ (fun w1 (h:kW w.heap.size w w1)=>zek x y z w1 (hE.below h (kY _)) (Doc.later hx h) (Doc.later hy h) (Doc.later hz h) fx fy fz)
 have HQ0:=h_ (fun(h0:aO x.c y.c z.c≠0) (w':kU) (hb:kW w.heap.size w w')=>(show zc2 x.c y.c z.c w (.returned (.tuple #[.agg #[kX ⟨#[]⟩,.string ⟨#[]⟩,.int .u8 0,.bool false,.int .i64 0,.slice none 0 0,.slice none 0 0,.slice none 0 0],.slice none 0 0,.int .i64 (aO x.c y.c z.c)])) w' from by
  obtain⟨h1,h2,h3⟩:=zer h0
  refine⟨zDoc,.slice none 0 0,by rw [h1];rfl,by rw [h2];rfl,zeS w',(zeT 0).doc (by decide),fun b=>zDoc_uses b _,by rw [h3];exact k7 _ _ _ _,hb⟩))
 have HREN:=h_ (fun(h0:aO x.c y.c z.c=0) (w1:kU) (h:kW w.heap.size w w1)=>(show Calls Tryz.prog 75 #[.agg x.enc.toArray,.agg y.enc.toArray,.agg z.enc.toArray] w1 (zgm [] (max y.last z.last) w1) from by
  obtain⟨h1,h2,h3,_⟩:=eb h0
  have l1:=zab (d:=x) (by rw [bw];exact h1)
  have l2:=zab (d:=y) (by rw [bw];exact h2)
  have l3:=zab (d:=z) (by rw [bw];exact h3)
  have:=zeh x y z w1 (Doc.later hx h) (Doc.later hy h) (Doc.later hz h) fx fy fz 1000 (by decide) (by omega) (by omega) (by omega) ⟨zdY h2,za8 h2⟩ ⟨zdY h3,za8 h3⟩
  rwa [zk3,hold0 h0] at this))
 have HLN:=h_ (fun(h0:aO x.c y.c z.c=0)=>(show(x.rG.length≤16∧x.evs.length≤400∧x.cms.length≤64)∧(y.rG.length≤16∧y.evs.length≤400∧y.cms.length≤64)∧(z.rG.length≤16∧z.evs.length≤400∧z.cms.length≤64) from by
  obtain⟨h1,h2,h3,_⟩:=eb h0
  exact⟨zab (d:=x) (by rw [bw];exact h1),zab (d:=y) (by rw [bw];exact h2),zab (d:=z) (by rw [bw];exact h3)⟩))
 have HRN:=h_ (fun(mb:Nat) (w1:kU) (h:kW w.heap.size w w1) (hM:VMap w1 mb 0 (fun _=>none))=>ze9 z mb 0 w1 (Doc.later hz h) fz hM)
 generalize hR:aO x.c y.c z.c=R at *
 obtain⟨C1,hC1⟩:∃ C1,C1=x.c:=⟨_,rfl⟩
 obtain⟨C2,hC2⟩:∃ C2,C2=y.c:=⟨_,rfl⟩
 obtain⟨C3,hC3⟩:∃ C3,C3=z.c:=⟨_,rfl⟩
 rw [←hC1,←hC2,←hC3] at HQ0 hold0 hR ⊢
 rw [←hC3] at HRN
 generalize hQ:zc2 C1 C2 C3 w=Q at *
 obtain⟨xt,xl,xr,xd,xla,xra,xrc,xregs,xea,xec,xevs,xca,xcc,xcms⟩:=x
 obtain⟨yt,yl,yr,yd,yla,yra,yrc,yregs,yea,yec,yevs,yca,ycc,ycms⟩:=y
 obtain⟨zt,zl,zr,zd,zla,zra,zrc,zregs,zea,zec,zevs,zca,zcc,zcms⟩:=z
 simp only [Doc.enc] at HREF HREN HRN ⊢
 have HV:=h_ (fun wx (h:kW (w.heap.size+4) ((((w.alloc (.cells #[kX xt,.string xl,.int .u8 xr,.bool xd,.int .i64 xla,.slice xra xregs.length xrc,.slice xea xevs.length xec,.slice xca xcms.length xcc] 27)).alloc (.cells #[kX yt,.string yl,.int .u8 yr,.bool yd,.int .i64 yla,.slice yra yregs.length yrc,.slice yea yevs.length yec,.slice yca ycms.length ycc] 27)).alloc (.cells #[kX zt,.string zl,.int .u8 zr,.bool zd,.int .i64 zla,.slice zra zregs.length zrc,.slice zea zevs.length zec,.slice zca zcms.length zcc] 27)).alloc (.cells #[kX ⟨#[]⟩,.string ⟨#[]⟩,.int .u8 0,.bool false,.int .i64 0,.slice none 0 0,.slice none 0 0,.slice none 0 0] 27)) wx)=>dN w #[kX xt,.string xl,.int .u8 xr,.bool xd,.int .i64 xla,.slice xra xregs.length xrc,.slice xea xevs.length xec,.slice xca xcms.length xcc] #[kX yt,.string yl,.int .u8 yr,.bool yd,.int .i64 yla,.slice yra yregs.length yrc,.slice yea yevs.length yec,.slice yca ycms.length ycc] #[kX zt,.string zl,.int .u8 zr,.bool zd,.int .i64 zla,.slice zra zregs.length zrc,.slice zea zevs.length zec,.slice zca zcms.length zcc] #[kX ⟨#[]⟩,.string ⟨#[]⟩,.int .u8 0,.bool false,.int .i64 0,.slice none 0 0,.slice none 0 0,.slice none 0 0] 27 wx h)
 have HB:=h_ (fun wx (h:kW (w.heap.size+4) ((((w.alloc (.cells #[kX xt,.string xl,.int .u8 xr,.bool xd,.int .i64 xla,.slice xra xregs.length xrc,.slice xea xevs.length xec,.slice xca xcms.length xcc] 27)).alloc (.cells #[kX yt,.string yl,.int .u8 yr,.bool yd,.int .i64 yla,.slice yra yregs.length yrc,.slice yea yevs.length yec,.slice yca ycms.length ycc] 27)).alloc (.cells #[kX zt,.string zl,.int .u8 zr,.bool zd,.int .i64 zla,.slice zra zregs.length zrc,.slice zea zevs.length zec,.slice zca zcms.length zcc] 27)).alloc (.cells #[kX ⟨#[]⟩,.string ⟨#[]⟩,.int .u8 0,.bool false,.int .i64 0,.slice none 0 0,.slice none 0 0,.slice none 0 0] 27)) wx)=>(show kW w.heap.size w wx from(aS w _ _ _ _).trans (h.mono (by omega))))
 have hsz:((((w.alloc (.cells #[kX xt,.string xl,.int .u8 xr,.bool xd,.int .i64 xla,.slice xra xregs.length xrc,.slice xea xevs.length xec,.slice xca xcms.length xcc] 27)).alloc (.cells #[kX yt,.string yl,.int .u8 yr,.bool yd,.int .i64 yla,.slice yra yregs.length yrc,.slice yea yevs.length yec,.slice yca ycms.length ycc] 27)).alloc (.cells #[kX zt,.string zl,.int .u8 zr,.bool zd,.int .i64 zla,.slice zra zregs.length zrc,.slice zea zevs.length zec,.slice zca zcms.length zcc] 27)).alloc (.cells #[kX ⟨#[]⟩,.string ⟨#[]⟩,.int .u8 0,.bool false,.int .i64 0,.slice none 0 0,.slice none 0 0,.slice none 0 0] 27)).heap.size=w.heap.size+4:=by simp
 generalize hW0:((((w.alloc (.cells #[kX xt,.string xl,.int .u8 xr,.bool xd,.int .i64 xla,.slice xra xregs.length xrc,.slice xea xevs.length xec,.slice xca xcms.length xcc] 27)).alloc (.cells #[kX yt,.string yl,.int .u8 yr,.bool yd,.int .i64 yla,.slice yra yregs.length yrc,.slice yea yevs.length yec,.slice yca ycms.length ycc] 27)).alloc (.cells #[kX zt,.string zl,.int .u8 zr,.bool zd,.int .i64 zla,.slice zra zregs.length zrc,.slice zea zevs.length zec,.slice zca zcms.length zcc] 27)).alloc (.cells #[kX ⟨#[]⟩,.string ⟨#[]⟩,.int .u8 0,.bool false,.int .i64 0,.slice none 0 0,.slice none 0 0,.slice none 0 0] 27))=W0 at *
 have HW0:=h_ hW0
 have HSZ:=h_ hsz
 have hb0:kW (w.heap.size+4) W0 W0:=kW.refl _ _
 have HT:=h_ (fun(w2 w3:kU) (h:kW (w.heap.size+4) W0 w2) (h3:kW w2.heap.size w2 w3)=>(h.trans (h3.mono (by have:=h.size;rw [HSZ.out] at this;exact this)):kW (w.heap.size+4) W0 w3))
 clear hW0 hsz
 have fx0:=fun(wx:kU) (h:kW (w.heap.size+4) W0 wx) j=>kR _ _ j _ 27 (0,0) (HV.out wx h).1
 have fy0:=fun(wx:kU) (h:kW (w.heap.size+4) W0 wx) j=>kR _ _ j _ 27 (0,0) (HV.out wx h).2.1
 have fz0:=fun(wx:kU) (h:kW (w.heap.size+4) W0 wx) j=>kR _ _ j _ 27 (0,0) (HV.out wx h).2.2.1
 have fr0:=fun(wx:kU) (h:kW (w.heap.size+4) W0 wx) j=>kR _ _ j _ 27 (0,0) (HV.out wx h).2.2.2
 go_enter Tryz.func26,Tryz.ntmps26
 go_upto_region 1 with fail
 rw [HW0.out]
 have a1:=fx0 W0 hb0
 have a2:=fy0 W0 hb0
 have a3:=fz0 W0 hb0
 go_wp2_with fail
 refine(HREF.out W0 (HB.out _ hb0)).mono ?_
 rintro e w1 ⟨rfl,hb1⟩
 have hc1:=HT.out _ _ hb0 hb1
 clear hb1 a1 a2 a3
 by_cases h0:R=0
 · subst h0
   have hold:=hold0 (by first|trivial|rfl)
   clear hold0
   have a1:=fx0 w1 hc1
   have a2:=fy0 w1 hc1
   have a3:=fz0 w1 hc1
   go_wp2_with fail
   refine(HREN.out (by first|trivial|rfl) w1 (HB.out _ hc1)).mono ?_
   rintro e w2 ⟨mb,rfl,hmap,hmbl,hb2⟩
   have hc2:=HT.out _ _ hc1 hb2
   clear hb2 a1 a2 a3
   obtain⟨L,hL⟩:∃ L,L=max yla zla:=⟨_,rfl⟩
   have hL2:(if yla≤zla then zla else yla)=L:=by rw [hL];omega
   have hmap0:VMap w2 mb 0 (fun _=>none):=hmap
   have HMAP:=h_ hmap0
   have HC2:=h_ hc2
   have a2:=fy0 w2 hc2
   have a3:=fz0 w2 hc2
   have hs2:w.heap.size+4≤w2.heap.size:=by have:=hc2.size;rw [HSZ.out] at this;exact this
   clear hmap hmap0 hc1 hc2
   go_wp2_with (at_range;refine bK _ rfl _ 137 2 rfl Tryz.underlying137 mb 0 _ rfl HMAP.out ?_;intro w3 cnt0 hr0 hcn hg0 hs0)
   go_frame
   have hcn0:cnt0=0:=by omega
   subst hcn0
   rw [←hL]
   have HB3:=h_ (show kW (w.heap.size+4) W0 w3 from HC2.out.grown hg0 hs2 (fun k h=>by cases h))
   have HM3:=h_ (show VMap w3 mb 0 (fun _=>none) from HMAP.out.kept (hg0.block mb HMAP.out.lt (by simp)))
   have HR0:=h_ hr0
   have a5:=fz0 w3 HB3.out
   clear hr0 hg0 a2 a3
   refine wp_loop_rounds 1 ?_
   rw [rounds_succ]
   go_wp2_with (at_next;refine bP _ rfl _ rfl mb w2.heap.size 0 _ _ 0 rfl HR0.out ?done ?more)
   refine(HRN.out mb w3 (HB.out _ HB3.out) HM3.out).mono ?_
   rintro e w4 ⟨z',rfl,hzc,hzl,hzu,hb4⟩
   have hc4:=HT.out _ _ HB3.out hb4
   have HV4:=h_ (HV.out _ hc4)
   have HB4:=h_ (HB.out _ hc4)
   have HZC:=h_ hzc
   have HZL:=h_ hzl
   have HZU:=h_ (fun b hb=>kZ HB3.out.size (hzu b hb))
   have hs4:w.heap.size+4≤w4.heap.size:=by have:=hc4.size;rw [HSZ.out] at this;exact this
   have a6:=fz0 w4 hc4
   have z6:∀ j,w4.frozen? ⟨w.heap.size+1+1,j,none⟩=false:=fun j=>by simp [k0,HV4.out.2.2.1]
   clear hb4 hzc hzl hzu a5 fx0 fy0 fz0 fr0 hc4 HR0 HM3 HMAP HC2
   obtain⟨nt,nl,nr,nd,nla,nra,nrc,nregs,nea,nec,nevs,nca,ncc,ncms⟩:=z'
   simp only [Doc.enc]
   go_upto_region 12 with fail
   have hk8:∀ b,b≠w.heap.size+1+1→((((((((w4.setCell ⟨w.heap.size+1+1,0,none⟩ (.string nt)).setCell ⟨w.heap.size+1+1,1,none⟩ (.string nl)).setCell ⟨w.heap.size+1+1,2,none⟩ (.int .u8 nr)).setCell ⟨w.heap.size+1+1,3,none⟩ (.bool nd)).setCell ⟨w.heap.size+1+1,4,none⟩ (.int .i64 nla)).setCell ⟨w.heap.size+1+1,5,none⟩ (.slice nra nregs.length nrc)).setCell ⟨w.heap.size+1+1,6,none⟩ (.slice nea nevs.length nec)).setCell ⟨w.heap.size+1+1,7,none⟩ (.slice nca ncms.length ncc)).heap[b]? =w4.heap[b]?:=fun b h=>by
    rw [k9 _ _ _ _ h,k9 _ _ _ _ h,k9 _ _ _ _ h,k9 _ _ _ _ h,k9 _ _ _ _ h,k9 _ _ _ _ h,k9 _ _ _ _ h,k9 _ _ _ _ h]
   have hr8:((((((((w4.setCell ⟨w.heap.size+1+1,0,none⟩ (.string nt)).setCell ⟨w.heap.size+1+1,1,none⟩ (.string nl)).setCell ⟨w.heap.size+1+1,2,none⟩ (.int .u8 nr)).setCell ⟨w.heap.size+1+1,3,none⟩ (.bool nd)).setCell ⟨w.heap.size+1+1,4,none⟩ (.int .i64 nla)).setCell ⟨w.heap.size+1+1,5,none⟩ (.slice nra nregs.length nrc)).setCell ⟨w.heap.size+1+1,6,none⟩ (.slice nea nevs.length nec)).setCell ⟨w.heap.size+1+1,7,none⟩ (.slice nca ncms.length ncc)).heap[w.heap.size+1+1]? =some (.cells #[kX nt,.string nl,.int .u8 nr,.bool nd,.int .i64 nla,.slice nra nregs.length nrc,.slice nea nevs.length nec,.slice nca ncms.length ncc] 27 (0,0)):=zkq HV4.out.2.2.1
   have hz8:((((((((w4.setCell ⟨w.heap.size+1+1,0,none⟩ (.string nt)).setCell ⟨w.heap.size+1+1,1,none⟩ (.string nl)).setCell ⟨w.heap.size+1+1,2,none⟩ (.int .u8 nr)).setCell ⟨w.heap.size+1+1,3,none⟩ (.bool nd)).setCell ⟨w.heap.size+1+1,4,none⟩ (.int .i64 nla)).setCell ⟨w.heap.size+1+1,5,none⟩ (.slice nra nregs.length nrc)).setCell ⟨w.heap.size+1+1,6,none⟩ (.slice nea nevs.length nec)).setCell ⟨w.heap.size+1+1,7,none⟩ (.slice nca ncms.length ncc)).heap.size=w4.heap.size:=by simp
   have hb8:kW w.heap.size w ((((((((w4.setCell ⟨w.heap.size+1+1,0,none⟩ (.string nt)).setCell ⟨w.heap.size+1+1,1,none⟩ (.string nl)).setCell ⟨w.heap.size+1+1,2,none⟩ (.int .u8 nr)).setCell ⟨w.heap.size+1+1,3,none⟩ (.bool nd)).setCell ⟨w.heap.size+1+1,4,none⟩ (.int .i64 nla)).setCell ⟨w.heap.size+1+1,5,none⟩ (.slice nra nregs.length nrc)).setCell ⟨w.heap.size+1+1,6,none⟩ (.slice nea nevs.length nec)).setCell ⟨w.heap.size+1+1,7,none⟩ (.slice nca ncms.length ncc)):=by
    repeat refine k_ ?_ (by simp only;omega) _
    exact HB4.out
   have hbA:=heap_alloc_last ((((((((w4.setCell ⟨w.heap.size+1+1,0,none⟩ (.string nt)).setCell ⟨w.heap.size+1+1,1,none⟩ (.string nl)).setCell ⟨w.heap.size+1+1,2,none⟩ (.int .u8 nr)).setCell ⟨w.heap.size+1+1,3,none⟩ (.bool nd)).setCell ⟨w.heap.size+1+1,4,none⟩ (.int .i64 nla)).setCell ⟨w.heap.size+1+1,5,none⟩ (.slice nra nregs.length nrc)).setCell ⟨w.heap.size+1+1,6,none⟩ (.slice nea nevs.length nec)).setCell ⟨w.heap.size+1+1,7,none⟩ (.slice nca ncms.length ncc)) (.cells #[kX ⟨#[]⟩,.string ⟨#[]⟩,.int .u8 0,.bool false,.int .i64 (max yla zla),.slice none 0 0,.slice none 0 0,.slice none 0 0,.slice none 0 0] 142)
   have hsA:(((((((((w4.setCell ⟨w.heap.size+1+1,0,none⟩ (.string nt)).setCell ⟨w.heap.size+1+1,1,none⟩ (.string nl)).setCell ⟨w.heap.size+1+1,2,none⟩ (.int .u8 nr)).setCell ⟨w.heap.size+1+1,3,none⟩ (.bool nd)).setCell ⟨w.heap.size+1+1,4,none⟩ (.int .i64 nla)).setCell ⟨w.heap.size+1+1,5,none⟩ (.slice nra nregs.length nrc)).setCell ⟨w.heap.size+1+1,6,none⟩ (.slice nea nevs.length nec)).setCell ⟨w.heap.size+1+1,7,none⟩ (.slice nca ncms.length ncc)).alloc (.cells #[kX ⟨#[]⟩,.string ⟨#[]⟩,.int .u8 0,.bool false,.int .i64 (max yla zla),.slice none 0 0,.slice none 0 0,.slice none 0 0,.slice none 0 0] 142)).heap.size=w4.heap.size+1:=by rw [kU.size_alloc,hz8]
   have hkA:∀ b,b<w4.heap.size→(((((((((w4.setCell ⟨w.heap.size+1+1,0,none⟩ (.string nt)).setCell ⟨w.heap.size+1+1,1,none⟩ (.string nl)).setCell ⟨w.heap.size+1+1,2,none⟩ (.int .u8 nr)).setCell ⟨w.heap.size+1+1,3,none⟩ (.bool nd)).setCell ⟨w.heap.size+1+1,4,none⟩ (.int .i64 nla)).setCell ⟨w.heap.size+1+1,5,none⟩ (.slice nra nregs.length nrc)).setCell ⟨w.heap.size+1+1,6,none⟩ (.slice nea nevs.length nec)).setCell ⟨w.heap.size+1+1,7,none⟩ (.slice nca ncms.length ncc)).alloc (.cells #[kX ⟨#[]⟩,.string ⟨#[]⟩,.int .u8 0,.bool false,.int .i64 (max yla zla),.slice none 0 0,.slice none 0 0,.slice none 0 0,.slice none 0 0] 142)).heap[b]? =((((((((w4.setCell ⟨w.heap.size+1+1,0,none⟩ (.string nt)).setCell ⟨w.heap.size+1+1,1,none⟩ (.string nl)).setCell ⟨w.heap.size+1+1,2,none⟩ (.int .u8 nr)).setCell ⟨w.heap.size+1+1,3,none⟩ (.bool nd)).setCell ⟨w.heap.size+1+1,4,none⟩ (.int .i64 nla)).setCell ⟨w.heap.size+1+1,5,none⟩ (.slice nra nregs.length nrc)).setCell ⟨w.heap.size+1+1,6,none⟩ (.slice nea nevs.length nec)).setCell ⟨w.heap.size+1+1,7,none⟩ (.slice nca ncms.length ncc)).heap[b]?:=fun b h=>kW.heap_alloc _ _ _ (by rw [hz8];exact h)
   rw [hz8] at hbA
   have hb5:kW w.heap.size w (((((((((w4.setCell ⟨w.heap.size+1+1,0,none⟩ (.string nt)).setCell ⟨w.heap.size+1+1,1,none⟩ (.string nl)).setCell ⟨w.heap.size+1+1,2,none⟩ (.int .u8 nr)).setCell ⟨w.heap.size+1+1,3,none⟩ (.bool nd)).setCell ⟨w.heap.size+1+1,4,none⟩ (.int .i64 nla)).setCell ⟨w.heap.size+1+1,5,none⟩ (.slice nra nregs.length nrc)).setCell ⟨w.heap.size+1+1,6,none⟩ (.slice nea nevs.length nec)).setCell ⟨w.heap.size+1+1,7,none⟩ (.slice nca ncms.length ncc)).alloc (.cells #[kX ⟨#[]⟩,.string ⟨#[]⟩,.int .u8 0,.bool false,.int .i64 (max yla zla),.slice none 0 0,.slice none 0 0,.slice none 0 0,.slice none 0 0] 142)):=hb8.alloc (by rw [hz8];omega) _
   generalize ((((((((w4.setCell ⟨w.heap.size+1+1,0,none⟩ (.string nt)).setCell ⟨w.heap.size+1+1,1,none⟩ (.string nl)).setCell ⟨w.heap.size+1+1,2,none⟩ (.int .u8 nr)).setCell ⟨w.heap.size+1+1,3,none⟩ (.bool nd)).setCell ⟨w.heap.size+1+1,4,none⟩ (.int .i64 nla)).setCell ⟨w.heap.size+1+1,5,none⟩ (.slice nra nregs.length nrc)).setCell ⟨w.heap.size+1+1,6,none⟩ (.slice nea nevs.length nec)).setCell ⟨w.heap.size+1+1,7,none⟩ (.slice nca ncms.length ncc))=W8 at *
   generalize W8.alloc (.cells #[kX ⟨#[]⟩,.string ⟨#[]⟩,.int .u8 0,.bool false,.int .i64 (max yla zla),.slice none 0 0,.slice none 0 0,.slice none 0 0,.slice none 0 0] 142)=W5 at *
   generalize hg:w4.heap.size=g at *
   have HKD:=h_ (fun b (h:b<g) (hn:b≠w.heap.size+1+1)=>(show W5.heap[b]? =w4.heap[b]? from(hkA b h).trans (hk8 b hn)))
   have hrx:W5.heap[w.heap.size]? =_:=(HKD.out _ (by omega) (by omega)).trans HV4.out.1
   have hry:W5.heap[w.heap.size+1]? =_:=(HKD.out _ (by omega) (by omega)).trans HV4.out.2.1
   have hrn:W5.heap[w.heap.size+1+1]? =_:=(hkA _ (by omega)).trans hr8
   have hrr:W5.heap[w.heap.size+1+1+1]? =_:=(HKD.out _ (by omega) (by omega)).trans HV4.out.2.2.2
   have HRS:=h_ (lf hrx (lf hry (lf hrn hrr)))
   have HNL:=h_ (show(⟨nt,nl,nr,nd,nla,nra,nrc,nregs,nea,nec,nevs,nca,ncc,ncms⟩:Doc).lies W5∧(∀ b,(⟨nt,nl,nr,nd,nla,nra,nrc,nregs,nea,nec,nevs,nca,ncc,ncms⟩:Doc).uses b→b<g) from⟨Doc.frame HZL.out (by omega) (fun b hb=>HKD.out b (by have:=Doc.uses_lt HZL.out hb;omega) (by have:=HZU.out b hb;have:=HSZ.out;omega)),fun b hb=>by have:=Doc.uses_lt HZL.out hb;omega⟩)
   have HB5:=h_ hb5
   have HHD:=h_ (zdg (⟨xt,xl,xr,xd,xla,xra,xrc,xregs,xea,xec,xevs,xca,xcc,xcms⟩:Doc) (⟨yt,yl,yr,yd,yla,yra,yrc,yregs,yea,yec,yevs,yca,ycc,ycms⟩:Doc) (⟨nt,nl,nr,nd,nla,nra,nrc,nregs,nea,nec,nevs,nca,ncc,ncms⟩:Doc) g (max yla zla) W5 hbA)
   have hgw:w.heap.size+4≤g:=by omega
   have hgs:g<W5.heap.size:=by omega
   have HSZ5:=h_ hsA
   have b1:∀ j,W5.cell? ⟨w.heap.size,j,none⟩=_:=fun j=>kR _ _ j _ 27 (0,0) hrx
   have b2:∀ j,W5.cell? ⟨w.heap.size+1,j,none⟩=_:=fun j=>kR _ _ j _ 27 (0,0) hry
   have b3:∀ j,W5.cell? ⟨w.heap.size+1+1,j,none⟩=_:=fun j=>kR _ _ j _ 27 (0,0) hrn
   simp only [Doc.enc] at HHD
   clear hk8 hr8 hz8 hb8 hbA hsA hkA hb5 hrx hry hrn hrr a6 z6
   go_wp2_with fail
   refine HHD.out.mono ?_
   intro e w6 hpost
   obtain⟨rfl,kv6,hat6,hkp6,hkv6⟩:=zjF hpost hgs
   clear hpost HHD b1 b2 b3
   have HLEN:=HLN.out (by first|trivial|rfl)
   obtain⟨⟨lx1,lx2,lx3⟩,⟨ly1,ly2,ly3⟩,lz1,lz2,lz3⟩:=HLEN
   have HNF:=h_ (show(⟨nt,nl,nr,nd,nla,nra,nrc,nregs,nea,nec,nevs,nca,ncc,ncms⟩:Doc).fits from za3 (HZC.out.trans hC3) fz)
   have hnc:(⟨nt,nl,nr,nd,nla,nra,nrc,nregs,nea,nec,nevs,nca,ncc,ncms⟩:Doc).c=(⟨zt,zl,zr,zd,zla,zra,zrc,zregs,zea,zec,zevs,zca,zcc,zcms⟩:Doc).c:=HZC.out.trans hC3
   have hnr:nregs=zregs:=congrArg DocC.rG hnc
   have hnm:ncms=zcms:=congrArg DocC.cms hnc
   have hne:nevs.length=zevs.length:=by
    have:=congrArg List.length (congrArg DocC.evs hnc)
    simpa [Doc.c] using this
   subst hnr hnm
   have HNE:=h_ hne
   clear hne
   have hB6:kW g W5 w6:=hkp6.below (by omega) (fun k hk e=>by omega)
   have HW6:=h_ (HB5.out.trans (hB6.mono (by omega)))
   have hs6:=hkp6.size
   have HX6:=h_ (Doc.later hx HW6.out)
   have HY6:=h_ (Doc.later hy HW6.out)
   have HN6:=h_ (show(⟨nt,nl,nr,nd,nla,nra,nrc,nregs,nea,nec,nevs,nca,ncc,ncms⟩:Doc).lies w6 from Doc.frame HNL.out.1 hs6 (fun b hb=>hB6.block b (HNL.out.2 b hb)))
   have hxu:∀ b,(⟨xt,xl,xr,xd,xla,xra,xrc,xregs,xea,xec,xevs,xca,xcc,xcms⟩:Doc).uses b→b<g:=fun b hb=>by have:=Doc.uses_lt hx hb;omega
   have hyu:∀ b,(⟨yt,yl,yr,yd,yla,yra,yrc,yregs,yea,yec,yevs,yca,ycc,ycms⟩:Doc).uses b→b<g:=fun b hb=>by have:=Doc.uses_lt hy hb;omega
   have HXU:=h_ hxu;have HYU:=h_ hyu
   have hcl6:(zcy (⟨xt,xl,xr,xd,xla,xra,xrc,xregs,xea,xec,xevs,xca,xcc,xcms⟩:Doc).hd (⟨yt,yl,yr,yd,yla,yra,yrc,yregs,yea,yec,yevs,yca,ycc,ycms⟩:Doc).hd (⟨nt,nl,nr,nd,nla,nra,nrc,nregs,nea,nec,nevs,nca,ncc,ncms⟩:Doc).hd).length≤3:=by
    unfold zcy
    simp only [lp]
    have q1:=zad (zay (⟨xt,xl,xr,xd,xla,xra,xrc,xregs,xea,xec,xevs,xca,xcc,xcms⟩:Doc).hd (⟨yt,yl,yr,yd,yla,yra,yrc,yregs,yea,yec,yevs,yca,ycc,ycms⟩:Doc).hd (⟨nt,nl,nr,nd,nla,nra,nrc,nregs,nea,nec,nevs,nca,ncc,ncms⟩:Doc).hd).2 ⟨1,0,ak,eX⟩
    have q2:=zad (zcw (⟨xt,xl,xr,xd,xla,xra,xrc,xregs,xea,xec,xevs,xca,xcc,xcms⟩:Doc).hd (⟨yt,yl,yr,yd,yla,yra,yrc,yregs,yea,yec,yevs,yca,ycc,ycms⟩:Doc).hd (⟨nt,nl,nr,nd,nla,nra,nrc,nregs,nea,nec,nevs,nca,ncc,ncms⟩:Doc).hd).2 ⟨1,0,ak,zfw⟩
    have q3:=zad (zaP (⟨xt,xl,xr,xd,xla,xra,xrc,xregs,xea,xec,xevs,xca,xcc,xcms⟩:Doc).hd (⟨yt,yl,yr,yd,yla,yra,yrc,yregs,yea,yec,yevs,yca,ycc,ycms⟩:Doc).hd (⟨nt,nl,nr,nd,nla,nra,nrc,nregs,nea,nec,nevs,nca,ncc,ncms⟩:Doc).hd).2 ⟨1,0,ak,ziM⟩
    omega
   have HRG:=h_ (zei _ W5.heap.size g xra yra nra xrc yrc nrc xregs yregs nregs w6 hat6 hs6 rfl (by simp only;omega) HX6.out.1 HY6.out.1 HN6.out.1 (fun b hb=>HXU.out b (.inl hb)) (fun b hb=>HYU.out b (.inl hb)) (fun b hb=>HNL.out.2 b (.inl hb)) (by omega) (by omega) (by omega))
   have HRS6:=h_ (show w6.heap[w.heap.size]? =_∧w6.heap[w.heap.size+1]? =_∧w6.heap[w.heap.size+1+1]? =_∧w6.heap[w.heap.size+1+1+1]? =_ from⟨(hB6.block _ (by omega)).trans HRS.out.1,(hB6.block _ (by omega)).trans HRS.out.2.1,(hB6.block _ (by omega)).trans HRS.out.2.2.1,(hB6.block _ (by omega)).trans HRS.out.2.2.2⟩)
   have b1:∀ j,w6.cell? ⟨w.heap.size,j,none⟩=_:=fun j=>kR _ _ j _ 27 (0,0) HRS6.out.1
   have b2:∀ j,w6.cell? ⟨w.heap.size+1,j,none⟩=_:=fun j=>kR _ _ j _ 27 (0,0) HRS6.out.2.1
   have b3:∀ j,w6.cell? ⟨w.heap.size+1+1,j,none⟩=_:=fun j=>kR _ _ j _ 27 (0,0) HRS6.out.2.2.1
   have HKP6:=h_ hkp6
   have HAT6:=h_ hat6
   have HKV6:=h_ hkv6
   have HNC:=h_ hnc
   clear hat6 hkp6 hkv6 hB6 hxu hyu hnc
   go_wp2_with fail
   refine HRG.out.mono ?_
   rintro e w7 ⟨rfl,rv7,kv7,hat7,hst7⟩
   clear HRG b1 b2 b3
   have hB7:kW g w6 w7:=hst7.low HAT6.out
   have HW7:=h_ (HW6.out.trans (hB7.mono (by omega)))
   have HX7:=h_ (Doc.later hx HW7.out)
   have HY7:=h_ (Doc.later hy HW7.out)
   have HN7:=h_ (show(⟨nt,nl,nr,nd,nla,nra,nrc,nregs,nea,nec,nevs,nca,ncc,ncms⟩:Doc).lies w7 from Doc.frame HN6.out hst7.1.size (fun b hb=>hB7.block b (HNL.out.2 b hb)))
   have HRS7:=h_ (show w7.heap[w.heap.size]? =_∧w7.heap[w.heap.size+1]? =_∧w7.heap[w.heap.size+1+1]? =_∧w7.heap[w.heap.size+1+1+1]? =_ from⟨(hB7.block _ (by omega)).trans HRS6.out.1,(hB7.block _ (by omega)).trans HRS6.out.2.1,(hB7.block _ (by omega)).trans HRS6.out.2.2.1,(hB7.block _ (by omega)).trans HRS6.out.2.2.2⟩)
   have hs7:w.heap.size+4≤w7.heap.size:=by have:=hst7.1.size;omega
   have HF1:=h_ (fun w' (q:kW w7.heap.size w7 w')=>bn (⟨xt,xl,xr,xd,xla,xra,xrc,xregs,xea,xec,xevs,xca,xcc,xcms⟩:Doc) w' (Doc.later HX7.out q) fx)
   have HF2:=h_ (fun w' (q:kW w7.heap.size w7 w')=>bn (⟨yt,yl,yr,yd,yla,yra,yrc,yregs,yea,yec,yevs,yca,ycc,ycms⟩:Doc) w' (Doc.later HY7.out q) fy)
   have HF3:=h_ (fun w' (q:kW w7.heap.size w7 w')=>bn (⟨nt,nl,nr,nd,nla,nra,nrc,nregs,nea,nec,nevs,nca,ncc,ncms⟩:Doc) w' (Doc.later HN7.out q) HNF.out)
   have HAT7:=h_ hat7
   have HST7:=h_ hst7
   have hS67:=h_ hst7.1.size
   have HLM:=h_ hL
   clear hat7 hst7 hB7 hL hL2
   go_upto_region 14 with fail
   refine zjt (⟨xt,xl,xr,xd,xla,xra,xrc,xregs,xea,xec,xevs,xca,xcc,xcms⟩:Doc) (⟨yt,yl,yr,yd,yla,yra,yrc,yregs,yea,yec,yevs,yca,ycc,ycms⟩:Doc) (⟨nt,nl,nr,nd,nla,nra,nrc,nregs,nea,nec,nevs,nca,ncc,ncms⟩:Doc) w.heap.size (w.heap.size+1) (w.heap.size+1+1) w7 HRS7.out.1 HRS7.out.2.1 HRS7.out.2.2.1 HF1.out HF2.out HF3.out _ (fun _ _ _ _ hd h=>⟨hd.trans h.1,h.2⟩) _ _ _ _ _ _ _ _ _ _ _ _ _ _ _ _ _ _ _ _ _ _ _ _ _ _ _ _ _ _ _ _ _ _ _ _ _ _ _ _ _ _ _ _ _ _ _ _ _ _ _ _ _ _ _ _ _ _ _ _ _ _ _ _ _ _ _ _ _ _ _ _ _ _ _ _ _ _ _ _ _ _ _ _ _ _ _ _ _ _ _ _ _ _ _ _ _ _ ?_
   intro u65 u66 u67 u68 u69 u70 p6 p7 p8 e1 f1 e2 f2 e3 f3 w8 hp6 hp7 hp8 hpw hf1 hf2 hf3 hb8
   obtain⟨m7,hm7,hat8⟩:∃ m7,m7=_∧Mg.at_ m7 W5.heap.size g w8:=⟨_,rfl,HAT7.out.later hb8⟩
   have HM7:=h_ hm7
   have hat7':m7.at_ W5.heap.size g w7:=hm7▸HAT7.out
   have nm:∀ b,w7.heap.size≤b→¬ m7.mine g b:=fun b hb hm=>by have:=hat7'.mine_lt hm;omega
   have hB8:kW w.heap.size w w8:=HW7.out.trans (hb8.mono (by omega))
   have hcle:m7.cls.length≤60:=by
    rw [hm7]
    simp only [lp]
    have q1:=(zbn xregs yregs nregs (aR xregs yregs nregs)).2
    have q2:=dA (xregs++yregs++nregs) []
    simp only [lp,lq] at q2
    unfold aR at q1 ⊢
    omega
   have hregs:m7.rG=bY xregs yregs nregs (aR xregs yregs nregs):=by rw [hm7]
   have hrf:∀ r∈m7.rG,r.fits:=by
    rw [hregs]
    exact zfY fx.2.2.2.2.2.1 fy.2.2.2.2.2.1 HNF.out.2.2.2.2.2.1 _
   have hrl:m7.rG.length≤48:=by
    rw [hregs]
    have q1:=(zbn xregs yregs nregs (aR xregs yregs nregs)).1
    have q2:=dA (xregs++yregs++nregs) []
    simp only [lp,lq] at q2
    unfold aR at q1 ⊢
    omega
   have hN8:(⟨nt,nl,nr,nd,nla,nra,nrc,nregs,nea,nec,nevs,nca,ncc,ncms⟩:Doc).lies w8:=Doc.later HN7.out hb8
   have hX8:(⟨xt,xl,xr,xd,xla,xra,xrc,xregs,xea,xec,xevs,xca,xcc,xcms⟩:Doc).lies w8:=Doc.later HX7.out hb8
   have hY8:(⟨yt,yl,yr,yd,yla,yra,yrc,yregs,yea,yec,yevs,yca,ycc,ycms⟩:Doc).lies w8:=Doc.later HY7.out hb8
   have LX:=h_ (zbp hX8 fx HXU.out)
   have LY:=h_ (zbp hY8 fy HYU.out)
   have LZ:=h_ (zbp hN8 HNF.out HNL.out.2)
   have hnl:nevs.length≤400:=by rw [HNE.out];exact lz2
   have hF1:aV w8 e1 f1 1000 xevs xcms:=⟨hf1.1.mono (by show xevs.length≤1000;omega),hf1.2.1.mono (by show xcms.length≤1000;omega)⟩
   have hF2:aV w8 e2 f2 1000 yevs ycms:=⟨hf2.1.mono (by show yevs.length≤1000;omega),hf2.2.1.mono (by show ycms.length≤1000;omega)⟩
   have hF3:aV w8 e3 f3 1000 nevs ncms:=⟨hf3.1.mono (by show nevs.length≤1000;omega),hf3.2.1.mono (by show ncms.length≤1000;omega)⟩
   have hEg:∀ w',kW g w8 w'→Env w':=fun w' q=>hE.below (hB8.trans (q.mono (by omega))) (kY _)
   have hBsz:W5.heap.size≤w8.heap.size:=kZ (kZ hs6 hS67.out) hb8.size
   have HEV:=h_ (zdh m7 W5.heap.size g e1 f1 e2 f2 e3 f3 1000 xevs yevs nevs xcms ycms ncms w8 hat8 hBsz (by rw [hm7]) (by omega) hF1 hF2 hF3 (nm _ hf1.2.2.1) (nm _ hf2.2.2.1) (nm _ hf3.2.2.1) LX.out LY.out LZ.out (by omega) (by omega) (by omega) (by omega) hEg hrf (by omega))
   have c15:∀ j,w8.cell? ⟨p6,j,none⟩=_:=fun j=>kR _ _ j _ 148 (0,0) hp6
   have c16:∀ j,w8.cell? ⟨p7,j,none⟩=_:=fun j=>kR _ _ j _ 148 (0,0) hp7
   have c17:∀ j,w8.cell? ⟨p8,j,none⟩=_:=fun j=>kR _ _ j _ 148 (0,0) hp8
   have HP678:=h_ (lf hp6 (lf hp7 hp8))
   have HFF:=h_ (lf hF1 (lf hF2 hF3))
   have HAT8:=h_ hat8
   have HD8:=h_ (lf hX8 (lf hY8 hN8))
   have hpl:p6<w8.heap.size∧p7<w8.heap.size∧p8<w8.heap.size:=⟨(lv.1 hp6).1,(lv.1 hp7).1,(lv.1 hp8).1⟩
   have HNM:=h_ nm
   have HNE8:=h_ (lf hf1.2.2 (lf hf2.2.2 hf3.2.2))
   have HB8:=h_ hB8
   have HEG:=h_ hEg
   have hb78:=hb8.size
   clear hm7 hat7' hat8 hX8 hY8 hN8 hF1 hF2 hF3 hf1 hf2 hf3 hp6 hp7 hp8 nm hB8 hEg
   go_wp2_with fail
   refine HEV.out.mono ?_
   rintro e w9 ⟨rfl,ev9,evs9,kv9,hat9,hst9,hev9,hef9⟩
   obtain⟨m9,hm9,hat9',hst9'⟩:∃ m9,m9=_∧Mg.at_ m9 W5.heap.size g w9∧Mg.step g m7 m9 w8 w9:=⟨_,rfl,hat9,hst9⟩
   clear hat9 hst9 HEV c15 c16 c17
   have hs9:w8.heap.size≤w9.heap.size:=hst9'.1.size
   have keep:∀ b,b<w8.heap.size→w7.heap.size≤b→w9.heap[b]? =w8.heap[b]?:=fun b h1 h2=>hst9'.1.block b h1 (HNM.out b h2)
   have hB9:kW g w8 w9:=hst9'.low HAT8.out
   have c15:∀ j,w9.cell? ⟨p6,j,none⟩=_:=fun j=>kR _ _ j _ 148 (0,0) ((keep _ hpl.1 hpw.1).trans HP678.out.1)
   have c16:∀ j,w9.cell? ⟨p7,j,none⟩=_:=fun j=>kR _ _ j _ 148 (0,0) ((keep _ hpl.2.1 hpw.2.1).trans HP678.out.2.1)
   have c17:∀ j,w9.cell? ⟨p8,j,none⟩=_:=fun j=>kR _ _ j _ 148 (0,0) ((keep _ hpl.2.2 hpw.2.2).trans HP678.out.2.2)
   have hX9:(⟨xt,xl,xr,xd,xla,xra,xrc,xregs,xea,xec,xevs,xca,xcc,xcms⟩:Doc).lies w9:=Doc.frame HD8.out.1 hs9 fun b hb=>hB9.block b (HXU.out b hb)
   have hY9:(⟨yt,yl,yr,yd,yla,yra,yrc,yregs,yea,yec,yevs,yca,ycc,ycms⟩:Doc).lies w9:=Doc.frame HD8.out.2.1 hs9 fun b hb=>hB9.block b (HYU.out b hb)
   have hN9:(⟨nt,nl,nr,nd,nla,nra,nrc,nregs,nea,nec,nevs,nca,ncc,ncms⟩:Doc).lies w9:=Doc.frame HD8.out.2.2 hs9 fun b hb=>hB9.block b (HNL.out.2 b hb)
   obtain⟨r1,r2,r3,_⟩:=eb hR
   have hnc3:(⟨nt,nl,nr,nd,nla,nra,nrc,nregs,nea,nec,nevs,nca,ncc,ncms⟩:Doc).c=C3:=HZC.out
   have d1:aG (⟨xt,xl,xr,xd,xla,xra,xrc,xregs,xea,xec,xevs,xca,xcc,xcms⟩:Doc)=0:=by rw [bw,←hC1];exact r1
   have d2:aG (⟨yt,yl,yr,yd,yla,yra,yrc,yregs,yea,yec,yevs,yca,ycc,ycms⟩:Doc)=0:=by rw [bw,←hC2];exact r2
   have d3:aG (⟨nt,nl,nr,nd,nla,nra,nrc,nregs,nea,nec,nevs,nca,ncc,ncms⟩:Doc)=0:=by rw [bw,hnc3];exact r3
   have tx:=zeD d1 fx
   have ty:=zeD d2 fy
   have tz:=zeD d3 HNF.out
   have nm9:∀ b,b<w8.heap.size→w7.heap.size≤b→¬ m9.mine g b:=fun b h1 h2 hm=>by
    rcases hst9'.2 b hm with h|h
    · exact HNM.out b h2 h
    · omega
   have hel:=zb2 hev9
   simp only [lr] at hel
   have hF1:aV w9 e1 f1 2000 xevs xcms:=(HFF.out.1.kept (keep _ HFF.out.1.ev.lt HNE8.out.1.1) (keep _ HFF.out.1.cm.lt HNE8.out.1.2)).mono (by omega)
   have hF2:aV w9 e2 f2 2000 yevs ycms:=(HFF.out.2.1.kept (keep _ HFF.out.2.1.ev.lt HNE8.out.2.1.1) (keep _ HFF.out.2.1.cm.lt HNE8.out.2.1.2)).mono (by omega)
   have hF3:aV w9 e3 f3 2000 nevs ncms:=(HFF.out.2.2.kept (keep _ HFF.out.2.2.ev.lt HNE8.out.2.2.1) (keep _ HFF.out.2.2.cm.lt HNE8.out.2.2.2)).mono (by omega)
   have hcl9:m9.cls.length≤40000:=by
    rw [hm9]
    simp only [lp]
    have q1:=(eT m7.rG (xevs.map Ev.c) (yevs.map Ev.c) (nevs.map Ev.c) (bE (xevs.map Ev.c) (yevs.map Ev.c) (nevs.map Ev.c))).2
    have q2:=zcN (xevs.map Ev.c) (yevs.map Ev.c) (nevs.map Ev.c)
    simp only [lr] at q2
    omega
   have hhd9:m9.hd=mgHd (⟨xt,xl,xr,xd,xla,xra,xrc,xregs,xea,xec,xevs,xca,xcc,xcms⟩:Doc).hd (⟨yt,yl,yr,yd,yla,yra,yrc,yregs,yea,yec,yevs,yca,ycc,ycms⟩:Doc).hd (⟨nt,nl,nr,nd,nla,nra,nrc,nregs,nea,nec,nevs,nca,ncc,ncms⟩:Doc).hd (max yla zla):=by rw [hm9,HM7.out]
   have hhf9:m9.hd.fits:=by
    rw [hhd9]
    have il:i64 (max yla zla):=by
     have q1:=fy.2.2.2.2.1
     have q2:=fz.2.2.2.2.1
     unfold i64 at *
     simp only at q1 q2
     omega
    exact ziv ⟨fx.1,fx.2.1,fx.2.2.1,fx.2.2.2.1,fx.2.2.2.2.1⟩ ⟨fy.1,fy.2.1,fy.2.2.1,fy.2.2.2.1,fy.2.2.2.2.1⟩ ⟨HNF.out.1,HNF.out.2.1,HNF.out.2.2.1,HNF.out.2.2.2.1,HNF.out.2.2.2.2.1⟩ il
   have HCM:=h_ (zb3 m9 W5.heap.size g e1 f1 e2 f2 e3 f3 2000 (⟨xt,xl,xr,xd,xla,xra,xrc,xregs,xea,xec,xevs,xca,xcc,xcms⟩:Doc) (⟨yt,yl,yr,yd,yla,yra,yrc,yregs,yea,yec,yevs,yca,ycc,ycms⟩:Doc) (⟨nt,nl,nr,nd,nla,nra,nrc,nregs,nea,nec,nevs,nca,ncc,ncms⟩:Doc) w9 hat9' (by omega) (by rw [hm9,HM7.out]) hcl9 ⟨hF1,zbp hX9 fx HXU.out,tx,by show xevs.length≤1000∧xcms.length≤1000;omega⟩ ⟨hF2,zbp hY9 fy HYU.out,ty,by show yevs.length≤1000∧ycms.length≤1000;omega⟩ ⟨hF3,zbp hN9 HNF.out HNL.out.2,tz,by show nevs.length≤1000∧ncms.length≤1000;omega⟩
    ⟨nm9 _ HFF.out.1.ev.lt HNE8.out.1.1,nm9 _ HFF.out.1.cm.lt HNE8.out.1.2⟩ ⟨nm9 _ HFF.out.2.1.ev.lt HNE8.out.2.1.1,nm9 _ HFF.out.2.1.cm.lt HNE8.out.2.1.2⟩ ⟨nm9 _ HFF.out.2.2.ev.lt HNE8.out.2.2.1,nm9 _ HFF.out.2.2.cm.lt HNE8.out.2.2.2⟩
    (by omega) hhf9 (by rw [hm9];exact hrf) (by rw [hm9];show m7.rG.length≤4000;omega) (by rw [hm9];exact hef9) (by rw [hm9];show evs9.length≤2000;omega))
   have HAT9:=h_ hat9'
   have HTM:=h_ (lf tx (lf ty tz))
   have HFN:=h_ (lf r2 (lf r3 hnc3))
   have HM9:=h_ hm9
   have HRF:=h_ hrf
   have HHF:=h_ hhf9
   have HHD9:=h_ hhd9
   have HEV9:=h_ (lf hev9 hef9)
   have HREG:=h_ hregs
   clear hX9 hY9 hN9 d1 d2 d3 tx ty tz r1 r2 r3 nm9 hF1 hF2 hF3 keep hat9' hst9' hm9 hrf hregs hev9 hef9 hnc3 HFF hhf9 hhd9
   go_wp2_with fail
   refine HCM.out.mono ?_
   rintro e w10 ⟨rfl,cv10,kv10,hat10,hst10⟩
   obtain⟨m10,hm10,hat10',hst10'⟩:∃ m10,m10=_∧Mg.at_ m10 W5.heap.size g w10∧Mg.step g m9 m10 w9 w10:=⟨_,rfl,hat10,hst10⟩
   clear hat10 hst10 HCM c15 c16 c17
   have hB10:kW g w9 w10:=hst10'.low HAT9.out
   have hs10:w9.heap.size≤w10.heap.size:=hst10'.1.size
   have hBg:kW g w7 w10:=((hb8.mono (by have:=hS67.out;omega)).trans hB9).trans hB10
   have hB10w:kW w.heap.size w w10:=HW7.out.trans (hBg.mono (by omega))
   obtain⟨d,hdl,hdh,hdr,hde,hdc,hda,hdu⟩:=hat10'.doc_low
   have hcs:m10.cms.length≤1200:=by
    rw [hm10]
    have q1:=(zcB (m9.evs.map Ev.c) (⟨xt,xl,xr,xd,xla,xra,xrc,xregs,xea,xec,xevs,xca,xcc,xcms⟩:Doc).c (⟨yt,yl,yr,yd,yla,yra,yrc,yregs,yea,yec,yevs,yca,ycc,ycms⟩:Doc).c (⟨nt,nl,nr,nd,nla,nra,nrc,nregs,nea,nec,nevs,nca,ncc,ncms⟩:Doc).c (ck (⟨xt,xl,xr,xd,xla,xra,xrc,xregs,xea,xec,xevs,xca,xcc,xcms⟩:Doc).c.cms (⟨yt,yl,yr,yd,yla,yra,yrc,yregs,yea,yec,yevs,yca,ycc,ycms⟩:Doc).c.cms (⟨nt,nl,nr,nd,nla,nra,nrc,nregs,nea,nec,nevs,nca,ncc,ncms⟩:Doc).c.cms)).1
    have q2:=zfD (⟨xt,xl,xr,xd,xla,xra,xrc,xregs,xea,xec,xevs,xca,xcc,xcms⟩:Doc).c.cms (⟨yt,yl,yr,yd,yla,yra,yrc,yregs,yea,yec,yevs,yca,ycc,ycms⟩:Doc).c.cms (⟨nt,nl,nr,nd,nla,nra,nrc,nregs,nea,nec,nevs,nca,ncc,ncms⟩:Doc).c.cms
    have e1:(⟨xt,xl,xr,xd,xla,xra,xrc,xregs,xea,xec,xevs,xca,xcc,xcms⟩:Doc).c.cms.length=xcms.length:=rfl
    have e2:(⟨yt,yl,yr,yd,yla,yra,yrc,yregs,yea,yec,yevs,yca,ycc,ycms⟩:Doc).c.cms.length=ycms.length:=rfl
    have e3:(⟨nt,nl,nr,nd,nla,nra,nrc,nregs,nea,nec,nevs,nca,ncc,ncms⟩:Doc).c.cms.length=ncms.length:=rfl
    rw [e1,e2,e3] at q2
    show(eU (m9.evs.map Ev.c) (⟨xt,xl,xr,xd,xla,xra,xrc,xregs,xea,xec,xevs,xca,xcc,xcms⟩:Doc).c (⟨yt,yl,yr,yd,yla,yra,yrc,yregs,yea,yec,yevs,yca,ycc,ycms⟩:Doc).c (⟨nt,nl,nr,nd,nla,nra,nrc,nregs,nea,nec,nevs,nca,ncc,ncms⟩:Doc).c (ck (⟨xt,xl,xr,xd,xla,xra,xrc,xregs,xea,xec,xevs,xca,xcc,xcms⟩:Doc).c.cms (⟨yt,yl,yr,yd,yla,yra,yrc,yregs,yea,yec,yevs,yca,ycc,ycms⟩:Doc).c.cms (⟨nt,nl,nr,nd,nla,nra,nrc,nregs,nea,nec,nevs,nca,ncc,ncms⟩:Doc).c.cms)).length≤1200
    omega
   have hcf:∀ q∈m10.cms,q.fits:=by
    rw [hm10]
    exact zhu (a:=(⟨xt,xl,xr,xd,xla,xra,xrc,xregs,xea,xec,xevs,xca,xcc,xcms⟩:Doc).c) (b:=(⟨yt,yl,yr,yd,yla,yra,yrc,yregs,yea,yec,yevs,yca,ycc,ycms⟩:Doc).c) (c:=(⟨nt,nl,nr,nd,nla,nra,nrc,nregs,nea,nec,nevs,nca,ncc,ncms⟩:Doc).c) (by rw [HM9.out];exact zaa HEV9.out.2) ⟨zaa fx.2.2.2.2.2.2.2.1,HTM.out.1⟩ ⟨zaa fy.2.2.2.2.2.2.2.1,HTM.out.2.1⟩ ⟨zaa HNF.out.2.2.2.2.2.2.2.1,HTM.out.2.2⟩ _
   have hdf:d.fits:=by
    have h1:d.hd.fits:=by rw [hdh,hm10];exact HHF.out
    refine⟨h1.1,h1.2.1,h1.2.2.1,h1.2.2.2.1,h1.2.2.2.2,?_,?_,?_,?_,?_,?_⟩
    · rw [hdr,hm10,HM9.out];exact HRF.out
    · rw [hdr,hm10,HM9.out];show m7.rG.length≤4000000;omega
    · rw [hde,hm10,HM9.out];exact HEV9.out.2
    · rw [hde,hm10,HM9.out];show evs9.length≤4000000;omega
    · rw [hdc];exact hcf
    · rw [hdc];omega
   have hmx:max yla zla=cO C2 C3:=by rw [hC2,hC3];rfl
   have hdC:d.c=(zht C1 C2 C3 (cO C2 C3)).1:=by
    have e0:d.c=⟨d.hd,d.rG,d.evs.map Ev.c,d.cms⟩:=rfl
    rw [e0,hdh,hdr,hde,hdc,hm10,HM9.out]
    rw [←hmx,hC1,hC2,←HFN.out.2.2]
    show(⟨m7.hd,m7.rG,evs9.map Ev.c,_⟩:DocC)=_
    rw [HM7.out,HEV9.out.1,HREG.out]
    rfl
   have hcl10:m10.cls=(zht C1 C2 C3 (cO C2 C3)).2:=by
    rw [hm10,HM9.out,←hmx,hC1,hC2,←HFN.out.2.2]
    show(m7.cls++_)++_=_
    rw [HEV9.out.1,HREG.out,HM7.out]
    rfl
   have hl2:=za8 HFN.out.1
   have hl3:=za8 HFN.out.2.1
   have hL40:max yla zla≤1099511627776:=by
    rw [hmx];unfold cO;omega
   have hL41:decide ((1099511627776:Int)<max yla zla)=false:=decide_eq_false (by omega)
   have herr:zah C1 C2 C3=aG d:=by
    obtain⟨e1,e2⟩:=fh hold
    unfold zah
    rw [if_neg (by rw [hR];simp),e1,e2,if_neg (by unfold cO;omega),bw,hdC]
   have HDK:=h_ (cK d w10 (HEG.out w10 (hB9.trans hB10)) hdl hdf)
   have HEND:=h_ (fun(w':kU) (hw:kW w.heap.size w w') (h2:d.lies w') (h3:w'.ownsRow W5.heap.size 135 4 m10.kv m10.cls.length (m10.cls.flatMap Cl.enc)) (he:aG d=0)=>(show Q (.returned (.tuple #[.agg d.enc.toArray,m10.kv,.int .i64 0])) w' from by
    have h0:zah C1 C2 C3=0:=herr.trans he
    have e1:=(fh hold).1
    have e2:zcA C1 C2 C3=d.c:=by unfold zcA;rw [if_pos h0,e1,hdC]
    have e3:mgCl C1 C2 C3=m10.cls:=by unfold mgCl;rw [if_pos h0,e1,hcl10]
    rw [←hQ]
    exact⟨d,m10.kv,by rw [h0],e2.symm,h2,hdf,(fun b hb=>by have:=hdu b hb;omega),by rw [e3];exact eR h3 (by omega),hw⟩))
   have HERR:=h_ (fun(w':kU) (hw:kW w.heap.size w w') (he:aG d≠0)=>(show Q (.returned (.tuple #[.agg #[kX ⟨#[]⟩,.string ⟨#[]⟩,.int .u8 0,.bool false,.int .i64 0,.slice none 0 0,.slice none 0 0,.slice none 0 0],.slice none 0 0,.int .i64 (aG d)])) w' from by
    have h0:zah C1 C2 C3≠0:=by rw [herr];exact he
    have e2:zcA C1 C2 C3=zj2:=by unfold zcA;rw [if_neg h0]
    have e3:mgCl C1 C2 C3=[]:=by unfold mgCl;rw [if_neg h0]
    rw [←hQ]
    exact⟨zDoc,.slice none 0 0,by rw [herr];rfl,by rw [e2];rfl,zeS w',(zeT 0).doc (by decide),fun b=>zDoc_uses b _,by rw [e3];exact k7 _ _ _ _,hw⟩))
   have hcells:=hat10'.cells
   rw [hda] at hcells
   have HKV:=h_ hat10'.cls
   have HDL:=h_ hdl
   have HDU:=h_ hdu
   have hrb:w10.heap[w.heap.size+1+1+1]? =_:=(hBg.block _ (by omega)).trans HRS7.out.2.2.2
   have hg10:=hat10'.glt
   have HB10:=h_ hB10w
   generalize hkv:m10.kv=kvv at *
   generalize aG d=EE at *
   obtain⟨dt,dl,dr,dd,dla,dra,drc,dregs,dea,dec,devs,dca,dcc,dcms⟩:=d
   simp only [Doc.enc,List.cons_append,List.nil_append] at HDK HEND HERR hcells
   have g0:∀ j,w10.cell? ⟨g,j,none⟩=_:=fun j=>kR _ _ j _ 142 (0,0) hcells
   clear hcells hda hdC hcl10 herr hmx hl2 hl3 hdh hdr hde hdc hm10 hst10' hat10' hdf hcs hcf hdu
   go_wp2_with fail
   refine HDK.out.mono ?_
   rintro e w11 ⟨rfl,hb11⟩
   have HB11:=h_ (HB10.out.trans (hb11.mono HB10.out.size))
   have hrb11:w11.heap[w.heap.size+1+1+1]? =_:=(hb11.block _ (lv.1 hrb).1).trans hrb
   have hg11:g<w11.heap.size:=Nat.lt_of_lt_of_le hg10 hb11.size
   have HDL11:=h_ (Doc.later HDL.out hb11)
   have HKV11:=h_ (ah HKV.out fun b q=>hb11.block b (HKV.out.lt b q).2)
   have gk0:∀ j,w11.cell? ⟨g,j,none⟩=_:=fun j=>(hb11.cell (p:=⟨g,j,none⟩) hg10).trans (g0 j)
   have hgr:w.heap.size+1+1+1<g:=by omega
   clear hb11 hrb HDK g0 HDL HKV hBg
   by_cases hE0:EE=0
   · subst hE0
     go_upto_region 22 with fail
     have hk0:Kept (fun b=>b=w.heap.size+1+1+1) w11 w11.drew:=(Kept.refl _ _).drew
     have gk:∀ w',Kept (fun b=>b=w.heap.size+1+1+1) w11 w'→∀ j,w'.cell? ⟨g,j,none⟩=_:=fun w' q j=>(q.cell (b:=g) hg11 (by omega)).trans (gk0 j)
     have HF:=h_ (HEND.out (w11.drew.setRow (w.heap.size+1+1+1) (#[kX dt,.string dl,.int .u8 dr,.bool dd,.int .i64 dla,.slice dra dregs.length drc,.slice dea devs.length dec,.slice dca dcms.length dcc])) (HB11.out.trans ((zgG w11 (w.heap.size+1+1+1) (#[kX dt,.string dl,.int .u8 dr,.bool dd,.int .i64 dla,.slice dra dregs.length drc,.slice dea devs.length dec,.slice dca dcms.length dcc])).below (B:=w.heap.size) HB11.out.size (fun k hk e=>by omega))) (Doc.frame HDL11.out (by rw [size_setRow];exact kY _) (fun b hb=>dZ _ _ _ _ (by have:=HDU.out b hb;omega))) (ah HKV11.out (fun b q=>dZ _ _ _ _ (by have:=(HKV11.out.lt b q).1;omega))) (by first|rfl|trivial))
     have fin4:∀ j,(w11.drew.setRow (w.heap.size+1+1+1) (#[kX dt,.string dl,.int .u8 dr,.bool dd,.int .i64 dla,.slice dra dregs.length drc,.slice dea devs.length dec,.slice dca dcms.length dcc])).cell? ⟨w.heap.size+1+1+1,j,none⟩=_:=fun j=>kR _ _ j _ 27 (0,0) (setRow_heap _ _ _ _ _ _ hrb11)
     clear HEND HERR HB11 HDL11 HKV11
     refine wp_region_held_drew (S:=fun w'=>Kept (fun b=>b=w.heap.size+1+1+1) w11 w') (by kernel_rfl) hk0 (fun _=>?_)
     try simp only [lC,lk,lh,lj,lg,ll,ln,lu]
     refine kT (i:=0) (v:=.pointer (some ⟨g,0,none⟩)) rfl (by kernel_rfl) (by kernel_rfl) (by kernel_rfl) (fun _ _ _ h=>h) (.inl ⟨by rfl,fun w_ hS_=>by go_simp⟩) hk0 ?_
     try simp only [lC,lk,lh,lj,lg,ll,ln,lu]
     refine kT (i:=1) (v:=.pointer (some ⟨g,0,none⟩)) rfl (by kernel_rfl) (by kernel_rfl) (by kernel_rfl) (fun _ _ _ h=>h) (.inl ⟨by rfl,fun w_ hS_=>by go_simp⟩) hk0 ?_
     try simp only [lC,lk,lh,lj,lg,ll,ln,lu]
     refine kT (i:=2) (v:=.pointer (some ⟨g,0,none⟩)) rfl (by kernel_rfl) (by kernel_rfl) (by kernel_rfl) (fun _ _ _ h=>h) (.inl ⟨by rfl,fun w_ hS_=>by go_simp⟩) hk0 ?_
     try simp only [lC,lk,lh,lj,lg,ll,ln,lu]
     refine kT (i:=3) (v:=.agg (#[kX dt,.string dl,.int .u8 dr,.bool dd,.int .i64 dla,.slice dra dregs.length drc,.slice dea devs.length dec,.slice dca dcms.length dcc])) rfl (by kernel_rfl) (by kernel_rfl) (by kernel_rfl) (fun _ _ _ h=>h) (.inl ⟨by rfl,fun w_ hS_=>by have q_:=gk _ hS_;go_simp⟩) hk0 ?_
     try simp only [lC,lk,lh,lj,lg,ll,ln,lu]
     refine kT (i:=4) (v:=.pointer (some ⟨g,0,none⟩)) rfl (by kernel_rfl) (by kernel_rfl) (by kernel_rfl) (fun _ _ _ h=>h) (.inl ⟨by rfl,fun w_ hS_=>by go_simp⟩) hk0 ?_
     try simp only [lC,lk,lh,lj,lg,ll,ln,lu]
     refine kT (i:=5) (v:=.pointer (some ⟨g,0,none⟩)) rfl (by kernel_rfl) (by kernel_rfl) (by kernel_rfl) (fun _ _ _ h=>h) (.inl ⟨by rfl,fun w_ hS_=>by go_simp⟩) hk0 ?_
     try simp only [lC,lk,lh,lj,lg,ll,ln,lu]
     refine kT (i:=6) (v:=.pointer (some ⟨g,8,none⟩)) rfl (by kernel_rfl) (by kernel_rfl) (by kernel_rfl) (fun _ _ _ h=>h) (.inl ⟨by rfl,fun w_ hS_=>by go_simp⟩) hk0 ?_
     try simp only [lC,lk,lh,lj,lg,ll,ln,lu]
     refine kT (i:=7) (v:=kvv) rfl (by kernel_rfl) (by kernel_rfl) (by kernel_rfl) (fun _ _ _ h=>h) (.inl ⟨by rfl,fun w_ hS_=>by have q_:=gk _ hS_;go_simp⟩) hk0 ?_
     try simp only [lC,lk,lh,lj,lg,ll,ln,lu]
     refine wpAnyH_ready (rs:=[8]) (by kernel_rfl) (by simp) ?_
     refine AllReadyH.cons rfl (fun K hK=>?_) AllReadyH.nil
     rw [if_pos (by rfl)]
     refine wp_store_row 27 (.tmp 6) (.tmp 96) rfl (w.heap.size+1+1+1) (#[kX dt,.string dl,.int .u8 dr,.bool dd,.int .i64 dla,.slice dra dregs.length drc,.slice dea devs.length dec,.slice dca dcms.length dcc]) rfl rfl 27 _ hrb11 zj8 rfl (zk2 _ _ _ _ _ _ _ _ _ _ _ _ _ _) ?_
     have hk9:Kept (fun b=>b=w.heap.size+1+1+1) w11 (w11.drew.setRow (w.heap.size+1+1+1) (#[kX dt,.string dl,.int .u8 dr,.bool dd,.int .i64 dla,.slice dra dregs.length drc,.slice dea devs.length dec,.slice dca dcms.length dcc])):=zgG _ _ _
     refine hK.out _ _ hk9 (fun _=>?_)
     clear hK
     try simp only [lC,lk,lh,lj,lg,ll,ln,lu]
     refine kT (i:=9) (v:=kvv) rfl (by kernel_rfl) (by kernel_rfl) (by kernel_rfl) (fun _ _ _ h=>h) (.inl ⟨by rfl,fun w_ hS_=>by go_simp⟩) hk9 ?_
     try simp only [lC,lk,lh,lj,lg,ll,ln,lu]
     refine kT (i:=10) (v:=.int .i64 0) rfl (by kernel_rfl) (by kernel_rfl) (by kernel_rfl) (fun _ _ _ h=>h) (.inl ⟨by rfl,fun w_ hS_=>by go_simp⟩) hk9 ?_
     try simp only [lC,lk,lh,lj,lg,ll,ln,lu]
     refine wpAnyH_done (by kernel_rfl) ?_ _
     go_wp2_with fail
     refine kV (v:=.tuple #[.agg (#[kX dt,.string dl,.int .u8 dr,.bool dd,.int .i64 dla,.slice dra dregs.length drc,.slice dea devs.length dec,.slice dca dcms.length dcc]),kvv,.int .i64 0]) (by simp [results,Tryz.results26,go_sem,fin4]) rfl ?_
     exact HF.out
   · have hn:(EE != 0)=true:=by simpa using hE0
     have HE:=h_ (fun w' hw=>HERR.out w' hw hE0)
     have a4:∀ j,w11.cell? ⟨w.heap.size+1+1+1,j,none⟩=_:=fun j=>kR _ _ j _ 27 (0,0) hrb11
     have z4:∀ j,w11.frozen? ⟨w.heap.size+1+1+1,j,none⟩=false:=fun j=>by simp [k0,hrb11]
     clear HEND HERR gk0 HDL11 HKV11 hrb11
     go_wp2_with fail
     refine kV (v:=.tuple #[.agg #[kX ⟨#[]⟩,.string ⟨#[]⟩,.int .u8 0,.bool false,.int .i64 0,.slice none 0 0,.slice none 0 0,.slice none 0 0],.slice none 0 0,.int .i64 EE]) (by simp [results,Tryz.results26,go_sem,a4]) rfl ?_
     refine HE.out _ ?_
     repeat refine k_ ?_ (by simp only;omega) _
     exact HB11.out
 · have hn:(R != 0)=true:=by simpa using h0
   have HE:=h_ (HQ0.out h0)
   have a4:=fr0 w1 hc1
   have z4:∀ j,w1.frozen? ⟨w.heap.size+1+1+1,j,none⟩=false:=fun j=>by simp [k0,(HV.out w1 hc1).2.2.2]
   have HB1:=h_ (HB.out _ hc1)
   clear HQ0 HREN HREF
   go_wp2_with fail
   refine kV (v:=.tuple #[.agg #[kX ⟨#[]⟩,.string ⟨#[]⟩,.int .u8 0,.bool false,.int .i64 0,.slice none 0 0,.slice none 0 0,.slice none 0 0],.slice none 0 0,.int .i64 R]) (by simp [results,Tryz.results26,go_sem,a4]) rfl ?_
   refine HE.out _ ?_
   repeat refine k_ ?_ (by simp only;omega) _
   exact HB1.out
end Go.Proofs.YtnlnmbcaongehaaGreatDoor
