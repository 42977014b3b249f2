/- merge.Merge. Law 18's clashed: is there a clash for an event? -/
import Derived.Test.YtnlnmbcaongehaaGreatDoorN23
set_option linter.unusedVariables false
set_option linter.unusedSimpArgs false
set_option maxRecDepth 100000
set_option maxHeartbeats 12800000
open Go.Lib renaming hid→h_
open List renaming setIfInBounds_toArray→SG,getElem_cons_zero→SH,getElem_cons_succ→SI,getElem_toArray→SJ,set_cons_zero→SK,set_cons_succ→SL
open Array renaming toArray_toList→SQ
open Nat renaming le_trans→Su,le_refl→Sv
open List renaming length_append→Sw,length_map→Sx,mem_map→Sy,length_filter_le→Sz,length_nil→SA
open Go renaming cell_of_row→SB,World→SC,bodyPost_ret→SD
open Go.Proofs.Tryz renaming results26→SE,prog→SF
open Go.RowKit renaming Below→SM
open Go.Value renaming string→SN,int→SO
open Go.World renaming frozen?→SR,ownsRow_nil→SS
open Go.RowKit.Below renaming heap_setCell→SU,setCell→SV,refl→SW
open And renaming intro→SX
open Array renaming getElem?_eq_some_iff→SY
namespace Go.Proofs.YtnlnmbcaongehaaGreatDoor
open Go.RowKit
theorem LB (a b c:DocC):(k_ a b c).length≤c.eV.length+c.cM.length:=by
 refine Su (Lib.compact_length_le _) ?_
 unfold aR
 rw [List.length_mergeSort,Sw,Sx,Sx]
 have h1:=Sz (lK a b) c.eV
 have h2:=Sz (mR a b) c.cM
 omega
theorem CJ (ids:List Int)(L:Int):∀ (k:Nat)(z v:Int),mC ids L k z=some v→L<v∧v≤L+k
 | 0,z,v,h=>by simp [mC] at h
 | k+1,z,v,h=>by
   unfold mC at h
   split at h
   · cases h;omega
   · have:=CJ ids L k z v h;omega
theorem Fs (ids:List Int)(L:Int)(h:ids≠[]):∃ z,mC ids L ids.length z=some (L+ids.length):=by
 obtain⟨k,hk⟩:∃ k,ids.length=k+1:=⟨ids.length-1,by have:=List.length_pos_iff.2 h;omega⟩
 obtain⟨z,hz⟩:∃ z,ids[k]? =some z:=⟨_,List.getElem?_eq_getElem (by omega)⟩
 refine⟨z,?_⟩
 rw [hk]
 unfold mC
 rw [if_pos hz]
 congr 1
 omega
theorem Bp {r:Int→Int} {d d':Doc} (h:d'.c=eP r d.c)(hf:d.fits)(hr:∀ z,i64 z→i64 (r z)):d'.fits:=by
 have:=Doc.fits.c (n:=4000000) hf hf.2.2.2.2.2.2.1 hf.2.2.2.2.2.2.2.2.1 hf.2.2.2.2.2.2.2.2.2.2
 obtain⟨h1,h2,h3,h4,h5,h6,h7⟩:=this
 have:(eP r d.c).fits 4000000:=by
  refine⟨h1,h2,h3,fun x hx=>?_,by show(d.c.eV.map _).length≤_;rw [Sx];exact h5,fun x hx=>?_,by show(d.c.cM.map _).length≤_;rw [Sx];exact h7⟩
  · obtain⟨y,hy,rfl⟩:=Sy.1 hx
    obtain⟨q1,q2⟩:=h4 y hy
    exact⟨hr _ q1,q2⟩
  · obtain⟨y,hy,rfl⟩:=Sy.1 hx
    obtain⟨q1,q2,q3⟩:=h6 y hy
    exact⟨hr _ q1,hr _ q2,q3⟩
 rw [←h] at this
 exact this.doc (Sv _)
theorem IC {r:Int→Int} {d d':Doc} (h:d'.c=eP r d.c)(ht:∀ c∈d.cM,c.tame)(hf:d'.fits):∀ c∈d'.cM,c.tame:=by
 intro c hc
 have h1:d'.cM=d.cM.map fun x=>{ x with id:=r x.id,ev:=r x.ev }:=congrArg DocC.cM h
 refine⟨hf.2.2.2.2.2.2.2.2.2.1 c hc,?_⟩
 rw [h1] at hc
 obtain⟨y,hy,rfl⟩:=Sy.1 hc
 exact(ht y hy).2
theorem lf (x y z:Doc)(w:SC)(hE:Env w)(hx:x.lies w)(hy:y.lies w)(hz:z.lies w)(fx:x.fits)(fy:y.fits)(fz:z.fits) :
 Calls SF 26 #[.agg x.enc.toArray,.agg y.enc.toArray,.agg z.enc.toArray] w (tp x.c y.c z.c w):=by
 have Rf:=h_ (fun w1 (h:SM w.heap.size w w1)=>wC x y z w1 (hE.below h (Sv _)) (Doc.later hx h) (Doc.later hy h) (Doc.later hz h) fx fy fz)
 have HQ0:=h_ (fun(h0:a_ x.c y.c z.c≠0) (w':SC) (hb:SM w.heap.size w w')=>(show tp x.c y.c z.c w (.returned (.tuple #[.agg #[SN ⟨#[]⟩,.string ⟨#[]⟩,.int .u8 0,.bool false,.int .i64 0,.slice none 0 0,.slice none 0 0,.slice none 0 0],.slice none 0 0,.int .i64 (a_ x.c y.c z.c)])) w' from by
  obtain⟨h1,h2,h3⟩:=wJ h0
  refine⟨zDoc,.slice none 0 0,by rw [h1];rfl,by rw [h2];rfl,rS w',(rU 0).doc (by decide),fun b=>rR b _,by rw [h3];exact SS _ _ _ _,hb⟩))
 have JZ:=h_ (fun(h0:a_ x.c y.c z.c=0) (w1:SC) (h:SM w.heap.size w w1)=>(show Calls SF 75 #[.agg x.enc.toArray,.agg y.enc.toArray,.agg z.enc.toArray] w1 (Ci (k_ x.c y.c z.c) (max y.last z.last) w1) from by
  obtain⟨h1,h2,h3,_⟩:=gW h0
  have l1:=nG (d:=x) (by rw [eN];exact h1)
  have l2:=nG (d:=y) (by rw [eN];exact h2)
  have l3:=nG (d:=z) (by rw [eN];exact h3)
  have:=wo x y z w1 (Doc.later hx h) (Doc.later hy h) (Doc.later hz h) fx fy fz 1000 (by decide) (by omega) (by omega) (by omega) ⟨nK h2,pA h2⟩ ⟨nK h3,pA h3⟩
  rwa [Sk] at this))
 have R_:=h_ (fun(h0:a_ x.c y.c z.c=0)=>(show(x.rG.length≤16∧x.eV.length≤400∧x.cM.length≤64)∧(y.rG.length≤16∧y.eV.length≤400∧y.cM.length≤64)∧(z.rG.length≤16∧z.eV.length≤400∧z.cM.length≤64) from by
  obtain⟨h1,h2,h3,_⟩:=gW h0
  exact⟨nG (d:=x) (by rw [eN];exact h1),nG (d:=y) (by rw [eN];exact h2),nG (d:=z) (by rw [eN];exact h3)⟩))
 have HRN:=h_ (fun(mb n:Nat) (F:Int→Option Int) (w1:SC) (h:SM w.heap.size w w1) (hM:VMap w1 mb n (fun z=>(F z).map (SO .i64)))=>wu z mb n F w1 (Doc.later hz h) fz hM)
 generalize hR:a_ x.c y.c z.c=R at *
 obtain⟨C1,hC1⟩:∃ C1,C1=x.c:=⟨_,rfl⟩
 obtain⟨C2,hC2⟩:∃ C2,C2=y.c:=⟨_,rfl⟩
 obtain⟨C3,NQ⟩:∃ C3,C3=z.c:=⟨_,rfl⟩
 rw [←hC1,←hC2,←NQ] at HQ0 hR JZ ⊢
 rw [←NQ] at HRN
 obtain⟨ids,Qs⟩:∃ ids,ids=k_ C1 C2 C3:=⟨_,rfl⟩
 rw [←Qs] at JZ
 have EL:=h_ Qs
 clear Qs
 generalize hQ:tp C1 C2 C3 w=Q at *
 obtain⟨xt,xl,xr,xd,xla,xra,xrc,xregs,xea,xec,xevs,xca,xcc,xcms⟩:=x
 obtain⟨yt,yl,yr,yd,yla,yra,yrc,yregs,yea,yec,yevs,yca,ycc,ycms⟩:=y
 obtain⟨zt,zl,zr,zd,zla,zra,zrc,zregs,zea,zec,zevs,zca,zcc,zcms⟩:=z
 simp only [Doc.enc] at Rf JZ HRN ⊢
 have HV:=h_ (fun wx (h:SM (w.heap.size+4) ((((w.alloc (.cells #[SN xt,.string xl,.int .u8 xr,.bool xd,.int .i64 xla,.slice xra xregs.length xrc,.slice xea xevs.length xec,.slice xca xcms.length xcc] 27)).alloc (.cells #[SN yt,.string yl,.int .u8 yr,.bool yd,.int .i64 yla,.slice yra yregs.length yrc,.slice yea yevs.length yec,.slice yca ycms.length ycc] 27)).alloc (.cells #[SN zt,.string zl,.int .u8 zr,.bool zd,.int .i64 zla,.slice zra zregs.length zrc,.slice zea zevs.length zec,.slice zca zcms.length zcc] 27)).alloc (.cells #[SN ⟨#[]⟩,.string ⟨#[]⟩,.int .u8 0,.bool false,.int .i64 0,.slice none 0 0,.slice none 0 0,.slice none 0 0] 27)) wx)=>lp w #[SN xt,.string xl,.int .u8 xr,.bool xd,.int .i64 xla,.slice xra xregs.length xrc,.slice xea xevs.length xec,.slice xca xcms.length xcc] #[SN yt,.string yl,.int .u8 yr,.bool yd,.int .i64 yla,.slice yra yregs.length yrc,.slice yea yevs.length yec,.slice yca ycms.length ycc] #[SN zt,.string zl,.int .u8 zr,.bool zd,.int .i64 zla,.slice zra zregs.length zrc,.slice zea zevs.length zec,.slice zca zcms.length zcc] #[SN ⟨#[]⟩,.string ⟨#[]⟩,.int .u8 0,.bool false,.int .i64 0,.slice none 0 0,.slice none 0 0,.slice none 0 0] 27 wx h)
 have HB:=h_ (fun wx (h:SM (w.heap.size+4) ((((w.alloc (.cells #[SN xt,.string xl,.int .u8 xr,.bool xd,.int .i64 xla,.slice xra xregs.length xrc,.slice xea xevs.length xec,.slice xca xcms.length xcc] 27)).alloc (.cells #[SN yt,.string yl,.int .u8 yr,.bool yd,.int .i64 yla,.slice yra yregs.length yrc,.slice yea yevs.length yec,.slice yca ycms.length ycc] 27)).alloc (.cells #[SN zt,.string zl,.int .u8 zr,.bool zd,.int .i64 zla,.slice zra zregs.length zrc,.slice zea zevs.length zec,.slice zca zcms.length zcc] 27)).alloc (.cells #[SN ⟨#[]⟩,.string ⟨#[]⟩,.int .u8 0,.bool false,.int .i64 0,.slice none 0 0,.slice none 0 0,.slice none 0 0] 27)) wx)=>(show SM w.heap.size w wx from(bJ w _ _ _ _).trans (h.mono (by omega))))
 have hsz:((((w.alloc (.cells #[SN xt,.string xl,.int .u8 xr,.bool xd,.int .i64 xla,.slice xra xregs.length xrc,.slice xea xevs.length xec,.slice xca xcms.length xcc] 27)).alloc (.cells #[SN yt,.string yl,.int .u8 yr,.bool yd,.int .i64 yla,.slice yra yregs.length yrc,.slice yea yevs.length yec,.slice yca ycms.length ycc] 27)).alloc (.cells #[SN zt,.string zl,.int .u8 zr,.bool zd,.int .i64 zla,.slice zra zregs.length zrc,.slice zea zevs.length zec,.slice zca zcms.length zcc] 27)).alloc (.cells #[SN ⟨#[]⟩,.string ⟨#[]⟩,.int .u8 0,.bool false,.int .i64 0,.slice none 0 0,.slice none 0 0,.slice none 0 0] 27)).heap.size=w.heap.size+4:=by simp
 generalize hW0:((((w.alloc (.cells #[SN xt,.string xl,.int .u8 xr,.bool xd,.int .i64 xla,.slice xra xregs.length xrc,.slice xea xevs.length xec,.slice xca xcms.length xcc] 27)).alloc (.cells #[SN yt,.string yl,.int .u8 yr,.bool yd,.int .i64 yla,.slice yra yregs.length yrc,.slice yea yevs.length yec,.slice yca ycms.length ycc] 27)).alloc (.cells #[SN zt,.string zl,.int .u8 zr,.bool zd,.int .i64 zla,.slice zra zregs.length zrc,.slice zea zevs.length zec,.slice zca zcms.length zcc] 27)).alloc (.cells #[SN ⟨#[]⟩,.string ⟨#[]⟩,.int .u8 0,.bool false,.int .i64 0,.slice none 0 0,.slice none 0 0,.slice none 0 0] 27))=W0 at *
 have HW0:=h_ hW0
 have bu:=h_ hsz
 have hb0:SM (w.heap.size+4) W0 W0:=SW _ _
 have HT:=h_ (fun(w2 w3:SC) (h:SM (w.heap.size+4) W0 w2) (h3:SM w2.heap.size w2 w3)=>(h.trans (h3.mono (by have:=h.size;rw [bu.out] at this;exact this)):SM (w.heap.size+4) W0 w3))
 clear hW0 hsz
 have fx0:=fun(wx:SC) (h:SM (w.heap.size+4) W0 wx) j=>SB _ _ j _ 27 (0,0) (HV.out wx h).1
 have fy0:=fun(wx:SC) (h:SM (w.heap.size+4) W0 wx) j=>SB _ _ j _ 27 (0,0) (HV.out wx h).2.1
 have fz0:=fun(wx:SC) (h:SM (w.heap.size+4) W0 wx) j=>SB _ _ j _ 27 (0,0) (HV.out wx h).2.2.1
 have fr0:=fun(wx:SC) (h:SM (w.heap.size+4) W0 wx) j=>SB _ _ j _ 27 (0,0) (HV.out wx h).2.2.2
 go_enter Tryz.func26,Tryz.ntmps26
 go_upto_region 1 with fail
 rw [HW0.out]
 have a1:=fx0 W0 hb0
 have a2:=fy0 W0 hb0
 have a3:=fz0 W0 hb0
 go_wp2_with fail
 refine(Rf.out W0 (HB.out _ hb0)).mono ?_
 rintro e w1 ⟨rfl,hb1⟩
 have hc1:=HT.out _ _ hb0 hb1
 clear hb1 a1 a2 a3
 by_cases h0:R=0
 · subst h0
   have a1:=fx0 w1 hc1
   have a2:=fy0 w1 hc1
   have a3:=fz0 w1 hc1
   go_wp2_with fail
   refine(JZ.out (by first|trivial|rfl) w1 (HB.out _ hc1)).mono ?_
   rintro e w2 ⟨mb,rfl,hmap,hmbl,hb2⟩
   have hc2:=HT.out _ _ hc1 hb2
   clear hb2 a1 a2 a3
   obtain⟨r1,r2,r3,_⟩:=gW hR
   have hla2:0≤yla∧yla≤1099511627776:=by
    have q1:=nK r2;have q2:=pA r2
    rw [hC2] at q1 q2;exact⟨q1,q2⟩
   have hla3:0≤zla∧zla≤1099511627776:=by
    have q1:=nK r3;have q2:=pA r3
    rw [NQ] at q1 q2;exact⟨q1,q2⟩
   clear r1 r2 r3
   obtain⟨F,hF⟩:∃ F,F=mC ids (max yla zla) ids.length:=⟨_,rfl⟩
   have hidl:ids.length≤1000000:=by
    have q:=LB C1 C2 C3
    rw [←EL.out,NQ] at q
    obtain⟨_,_,q1,q2,q3⟩:=R_.out (by first|trivial|rfl)
    simp only [Doc.c,Sx] at q
    omega
   have R6:=h_ (fun(z v:Int) (h:F z=some v)=>(show max yla zla<v∧v≤max yla zla+ids.length from by rw [hF] at h;exact CJ ids _ _ z v h))
   have HTOP:=h_ (fun(h:ids≠[])=>(show ∃ z,F z=some (max yla zla+ids.length) from by rw [hF];exact Fs ids _ h))
   have O1:VMap w2 mb ids.length (fun z=>(F z).map (SO .i64)):=by rw [hF];exact hmap
   have MJ:=h_ hF
   have Gj:=h_ O1
   have AU:=h_ hc2
   have a2:=fy0 w2 hc2
   have a3:=fz0 w2 hc2
   have hs2:w.heap.size+4≤w2.heap.size:=by have:=hc2.size;rw [bu.out] at this;exact this
   clear hmap O1 hc1 hc2 hF
   go_wp2_with (at_range;refine fO _ rfl _ 137 2 rfl Tryz.underlying137 mb ids.length _ rfl Gj.out ?_;intro w3 cnt0 hr0 hcn hg0 hs0)
   go_frame
   have HB3:=h_ (show SM (w.heap.size+4) W0 w3 from AU.out.grown hg0 hs2 (fun k h=>by cases h))
   have Rs:=h_ (show VMap w3 mb ids.length (fun z=>(F z).map (SO .i64)) from Gj.out.kept (hg0.block mb Gj.out.lt (by simp)))
   have xU:=h_ hr0
   have hmbr:mb≠w2.heap.size:=Nat.ne_of_lt Gj.out.lt
   have HM0:=h_ (show(if yla≤zla then zla else yla)=max yla zla by omega)
   clear hr0 hg0 a2 a3
   generalize w2.heap.size=r0 at *
   go_loopw [11] (fun v wr=>∃ (left:Int→Bool) (cnt:Nat) (m:Int),v=.int .i64 m∧VRange wr mb r0 ids.length (fun z=>(F z).map (SO .i64)) left cnt∧VMap wr mb ids.length (fun z=>(F z).map (SO .i64))∧max yla zla≤m∧(m=max yla zla∨∃ z,F z=some m)∧(∀ z v,F z=some v→left z=false→v≤m)∧SM (w.heap.size+4) W0 wr) (fun _ wr=>wr.rangeLeft mb r0)
   case atStart=>exact⟨_,cnt0,max yla zla,rfl,xU.out,Rs.out,by omega,.inl rfl,fun z v h hl=>by simp [h] at hl,HB3.out⟩
   case round =>
    clear xU Rs HB3 Gj AU
    obtain⟨left,cnt,m,rfl,Mo,hM1,hm1,hm2,hm3,hB1⟩:=hrel
    have HR1:=h_ Mo
    have Nb:=h_ hM1
    have HB1:=h_ hB1
    have H2:=h_ hm2
    have H3:=h_ hm3
    have AV:=hB1.size
    rw [bu.out] at AV
    clear Mo hM1 hB1 hm2 hm3
    go_wp2_with (at_next;refine gQ _ rfl _ rfl mb r0 ids.length _ left cnt rfl HR1.out ?done ?more)
    case more =>
     intro x v w5 cnt1 hx hlx y hy hvy hR2 hlt1 hg1 hs1 hen
     subst hvy
     have hyb:=R6.out x y hy
     have HNX:=h_ (show ∃ (left:Int→Bool) (cnt:Nat) (m':Int),(SO .i64 (if m≤y then y else m))=.int .i64 m'∧VRange w5 mb r0 ids.length (fun z=>(F z).map (SO .i64)) left cnt∧VMap w5 mb ids.length (fun z=>(F z).map (SO .i64))∧max yla zla≤m'∧(m'=max yla zla∨∃ z,F z=some m')∧(∀ z v,F z=some v→left z=false→v≤m')∧SM (w.heap.size+4) W0 w5 from by
      refine⟨_,cnt1,_,rfl,hR2,Nb.out.kept (hg1.block mb Nb.out.lt (fun e=>hmbr (by first|simpa using e|simpa using e.symm))),by split<;>omega,?_,fun z v hz hl=>?_,HB1.out.grown hg1 AV (fun j h=>by cases h;omega)⟩
      · split
        · exact .inr ⟨x,hy⟩
        · exact H2.out
      · by_cases hzx:z=x
        · subst hzx
          rw [hy] at hz
          cases hz
          split<;>omega
        · have hl':left z=false:=by simpa [hzx] using hl
          have:=H3.out z v hz hl'
          split<;>omega)
     have tK:=h_ (show w5.rangeLeft mb r0<wr.rangeLeft mb r0 from by rw [hR2.left_eq,HR1.out.left_eq];exact hlt1)
     clear hR2 hlt1 hg1 hlx hx hy
     go_wp2_with fail
     go_roundw
     case rel=>exact HNX.out
     case measure=>exact tK.out
    case done =>
     intro hc0 hl0
     obtain⟨LL,hLL⟩:∃ LL,LL=m:=⟨_,rfl⟩
     have hLm:LL=max yla zla+ids.length:=by
      by_cases he:ids=[]
      · rcases H2.out with h|⟨z,h⟩
        · rw [hLL,h,he];simp
        · have:=R6.out z m h;rw [he] at this;simp at this;omega
      · obtain⟨z,hz⟩:=HTOP.out he
        have h1:=H3.out z _ hz (hl0 z)
        rcases H2.out with h|⟨z',h⟩
        · have:=(R6.out z _ hz).1;omega
        · have:=(R6.out z' m h).2;omega
     have HLL:=h_ hLm
     have hLb:0≤LL∧LL≤1100000000000:=by omega
     rw [←hLL]
     have HB3:=h_ HB1.out
     have Rs:=h_ Nb.out
     clear hLL hLm H2 H3 HR1 Nb HB1 hm1 hl0
     generalize wr=w3 at *
     have a5:=fz0 w3 HB3.out
     have HFI:=h_ (fun z (hz:i64 z)=>(show i64 ((F z).getD z) from by
      cases hF:F z with
      | none=>exact hz
      | some v=>have:=R6.out z v hF;exact⟨by show _≤v;omega,by show v≤_;omega⟩))
     go_wp2_with fail
     refine(HRN.out mb ids.length F w3 (HB.out _ HB3.out) Rs.out).mono ?_
     rintro e w4 ⟨z',rfl,hzc,hzl,hzu,hb4⟩
     have hc4:=HT.out _ _ HB3.out hb4
     have KX:=h_ (HV.out _ hc4)
     have Gl:=h_ (HB.out _ hc4)
     have HZC:=h_ hzc
     have HZL:=h_ hzl
     have HZU:=h_ (fun b hb=>Su HB3.out.size (hzu b hb))
     have hs4:w.heap.size+4≤w4.heap.size:=by have:=hc4.size;rw [bu.out] at this;exact this
     have a6:=fz0 w4 hc4
     have z6:∀ j,w4.frozen? ⟨w.heap.size+1+1,j,none⟩=false:=fun j=>by simp [SR,KX.out.2.2.1]
     clear hb4 hzc hzl hzu a5 fx0 fy0 fz0 fr0 hc4 Rs R6 HTOP
     obtain⟨nt,nl,nr,nd,nla,nra,nrc,nregs,nea,nec,nevs,nca,ncc,ncms⟩:=z'
     simp only [Doc.enc]
     go_upto_region 12 with fail
     have hk8:∀ b,b≠w.heap.size+1+1→((((((((w4.setCell ⟨w.heap.size+1+1,0,none⟩ (.string nt)).setCell ⟨w.heap.size+1+1,1,none⟩ (.string nl)).setCell ⟨w.heap.size+1+1,2,none⟩ (.int .u8 nr)).setCell ⟨w.heap.size+1+1,3,none⟩ (.bool nd)).setCell ⟨w.heap.size+1+1,4,none⟩ (.int .i64 nla)).setCell ⟨w.heap.size+1+1,5,none⟩ (.slice nra nregs.length nrc)).setCell ⟨w.heap.size+1+1,6,none⟩ (.slice nea nevs.length nec)).setCell ⟨w.heap.size+1+1,7,none⟩ (.slice nca ncms.length ncc)).heap[b]? =w4.heap[b]?:=fun b h=>by
      rw [SU _ _ _ _ h,SU _ _ _ _ h,SU _ _ _ _ h,SU _ _ _ _ h,SU _ _ _ _ h,SU _ _ _ _ h,SU _ _ _ _ h,SU _ _ _ _ h]
     have hr8:((((((((w4.setCell ⟨w.heap.size+1+1,0,none⟩ (.string nt)).setCell ⟨w.heap.size+1+1,1,none⟩ (.string nl)).setCell ⟨w.heap.size+1+1,2,none⟩ (.int .u8 nr)).setCell ⟨w.heap.size+1+1,3,none⟩ (.bool nd)).setCell ⟨w.heap.size+1+1,4,none⟩ (.int .i64 nla)).setCell ⟨w.heap.size+1+1,5,none⟩ (.slice nra nregs.length nrc)).setCell ⟨w.heap.size+1+1,6,none⟩ (.slice nea nevs.length nec)).setCell ⟨w.heap.size+1+1,7,none⟩ (.slice nca ncms.length ncc)).heap[w.heap.size+1+1]? =some (.cells #[SN nt,.string nl,.int .u8 nr,.bool nd,.int .i64 nla,.slice nra nregs.length nrc,.slice nea nevs.length nec,.slice nca ncms.length ncc] 27 (0,0)):=MS KX.out.2.2.1
     have hz8:((((((((w4.setCell ⟨w.heap.size+1+1,0,none⟩ (.string nt)).setCell ⟨w.heap.size+1+1,1,none⟩ (.string nl)).setCell ⟨w.heap.size+1+1,2,none⟩ (.int .u8 nr)).setCell ⟨w.heap.size+1+1,3,none⟩ (.bool nd)).setCell ⟨w.heap.size+1+1,4,none⟩ (.int .i64 nla)).setCell ⟨w.heap.size+1+1,5,none⟩ (.slice nra nregs.length nrc)).setCell ⟨w.heap.size+1+1,6,none⟩ (.slice nea nevs.length nec)).setCell ⟨w.heap.size+1+1,7,none⟩ (.slice nca ncms.length ncc)).heap.size=w4.heap.size:=by simp
     have A_:SM w.heap.size w ((((((((w4.setCell ⟨w.heap.size+1+1,0,none⟩ (.string nt)).setCell ⟨w.heap.size+1+1,1,none⟩ (.string nl)).setCell ⟨w.heap.size+1+1,2,none⟩ (.int .u8 nr)).setCell ⟨w.heap.size+1+1,3,none⟩ (.bool nd)).setCell ⟨w.heap.size+1+1,4,none⟩ (.int .i64 nla)).setCell ⟨w.heap.size+1+1,5,none⟩ (.slice nra nregs.length nrc)).setCell ⟨w.heap.size+1+1,6,none⟩ (.slice nea nevs.length nec)).setCell ⟨w.heap.size+1+1,7,none⟩ (.slice nca ncms.length ncc)):=by
      repeat refine SV ?_ (by simp only;omega) _
      exact Gl.out
     have JV:=heap_alloc_last ((((((((w4.setCell ⟨w.heap.size+1+1,0,none⟩ (.string nt)).setCell ⟨w.heap.size+1+1,1,none⟩ (.string nl)).setCell ⟨w.heap.size+1+1,2,none⟩ (.int .u8 nr)).setCell ⟨w.heap.size+1+1,3,none⟩ (.bool nd)).setCell ⟨w.heap.size+1+1,4,none⟩ (.int .i64 nla)).setCell ⟨w.heap.size+1+1,5,none⟩ (.slice nra nregs.length nrc)).setCell ⟨w.heap.size+1+1,6,none⟩ (.slice nea nevs.length nec)).setCell ⟨w.heap.size+1+1,7,none⟩ (.slice nca ncms.length ncc)) (.cells #[SN ⟨#[]⟩,.string ⟨#[]⟩,.int .u8 0,.bool false,.int .i64 (LL),.slice none 0 0,.slice none 0 0,.slice none 0 0,.slice none 0 0] 142)
     have hsA:(((((((((w4.setCell ⟨w.heap.size+1+1,0,none⟩ (.string nt)).setCell ⟨w.heap.size+1+1,1,none⟩ (.string nl)).setCell ⟨w.heap.size+1+1,2,none⟩ (.int .u8 nr)).setCell ⟨w.heap.size+1+1,3,none⟩ (.bool nd)).setCell ⟨w.heap.size+1+1,4,none⟩ (.int .i64 nla)).setCell ⟨w.heap.size+1+1,5,none⟩ (.slice nra nregs.length nrc)).setCell ⟨w.heap.size+1+1,6,none⟩ (.slice nea nevs.length nec)).setCell ⟨w.heap.size+1+1,7,none⟩ (.slice nca ncms.length ncc)).alloc (.cells #[SN ⟨#[]⟩,.string ⟨#[]⟩,.int .u8 0,.bool false,.int .i64 (LL),.slice none 0 0,.slice none 0 0,.slice none 0 0,.slice none 0 0] 142)).heap.size=w4.heap.size+1:=by rw [SC.size_alloc,hz8]
     have hkA:∀ b,b<w4.heap.size→(((((((((w4.setCell ⟨w.heap.size+1+1,0,none⟩ (.string nt)).setCell ⟨w.heap.size+1+1,1,none⟩ (.string nl)).setCell ⟨w.heap.size+1+1,2,none⟩ (.int .u8 nr)).setCell ⟨w.heap.size+1+1,3,none⟩ (.bool nd)).setCell ⟨w.heap.size+1+1,4,none⟩ (.int .i64 nla)).setCell ⟨w.heap.size+1+1,5,none⟩ (.slice nra nregs.length nrc)).setCell ⟨w.heap.size+1+1,6,none⟩ (.slice nea nevs.length nec)).setCell ⟨w.heap.size+1+1,7,none⟩ (.slice nca ncms.length ncc)).alloc (.cells #[SN ⟨#[]⟩,.string ⟨#[]⟩,.int .u8 0,.bool false,.int .i64 (LL),.slice none 0 0,.slice none 0 0,.slice none 0 0,.slice none 0 0] 142)).heap[b]? =((((((((w4.setCell ⟨w.heap.size+1+1,0,none⟩ (.string nt)).setCell ⟨w.heap.size+1+1,1,none⟩ (.string nl)).setCell ⟨w.heap.size+1+1,2,none⟩ (.int .u8 nr)).setCell ⟨w.heap.size+1+1,3,none⟩ (.bool nd)).setCell ⟨w.heap.size+1+1,4,none⟩ (.int .i64 nla)).setCell ⟨w.heap.size+1+1,5,none⟩ (.slice nra nregs.length nrc)).setCell ⟨w.heap.size+1+1,6,none⟩ (.slice nea nevs.length nec)).setCell ⟨w.heap.size+1+1,7,none⟩ (.slice nca ncms.length ncc)).heap[b]?:=fun b h=>SM.heap_alloc _ _ _ (by rw [hz8];exact h)
     rw [hz8] at JV
     have hb5:SM w.heap.size w (((((((((w4.setCell ⟨w.heap.size+1+1,0,none⟩ (.string nt)).setCell ⟨w.heap.size+1+1,1,none⟩ (.string nl)).setCell ⟨w.heap.size+1+1,2,none⟩ (.int .u8 nr)).setCell ⟨w.heap.size+1+1,3,none⟩ (.bool nd)).setCell ⟨w.heap.size+1+1,4,none⟩ (.int .i64 nla)).setCell ⟨w.heap.size+1+1,5,none⟩ (.slice nra nregs.length nrc)).setCell ⟨w.heap.size+1+1,6,none⟩ (.slice nea nevs.length nec)).setCell ⟨w.heap.size+1+1,7,none⟩ (.slice nca ncms.length ncc)).alloc (.cells #[SN ⟨#[]⟩,.string ⟨#[]⟩,.int .u8 0,.bool false,.int .i64 (LL),.slice none 0 0,.slice none 0 0,.slice none 0 0,.slice none 0 0] 142)):=A_.alloc (by rw [hz8];omega) _
     generalize ((((((((w4.setCell ⟨w.heap.size+1+1,0,none⟩ (.string nt)).setCell ⟨w.heap.size+1+1,1,none⟩ (.string nl)).setCell ⟨w.heap.size+1+1,2,none⟩ (.int .u8 nr)).setCell ⟨w.heap.size+1+1,3,none⟩ (.bool nd)).setCell ⟨w.heap.size+1+1,4,none⟩ (.int .i64 nla)).setCell ⟨w.heap.size+1+1,5,none⟩ (.slice nra nregs.length nrc)).setCell ⟨w.heap.size+1+1,6,none⟩ (.slice nea nevs.length nec)).setCell ⟨w.heap.size+1+1,7,none⟩ (.slice nca ncms.length ncc))=W8 at *
     generalize W8.alloc (.cells #[SN ⟨#[]⟩,.string ⟨#[]⟩,.int .u8 0,.bool false,.int .i64 (LL),.slice none 0 0,.slice none 0 0,.slice none 0 0,.slice none 0 0] 142)=W5 at *
     generalize hg:w4.heap.size=g at *
     have HKD:=h_ (fun b (h:b<g) (hn:b≠w.heap.size+1+1)=>(show W5.heap[b]? =w4.heap[b]? from(hkA b h).trans (hk8 b hn)))
     have hrx:W5.heap[w.heap.size]? =_:=(HKD.out _ (by omega) (by omega)).trans KX.out.1
     have hry:W5.heap[w.heap.size+1]? =_:=(HKD.out _ (by omega) (by omega)).trans KX.out.2.1
     have hrn:W5.heap[w.heap.size+1+1]? =_:=(hkA _ (by omega)).trans hr8
     have hrr:W5.heap[w.heap.size+1+1+1]? =_:=(HKD.out _ (by omega) (by omega)).trans KX.out.2.2.2
     have Gg:=h_ (SX hrx (SX hry (SX hrn hrr)))
     have Rq:=h_ (show(⟨nt,nl,nr,nd,nla,nra,nrc,nregs,nea,nec,nevs,nca,ncc,ncms⟩:Doc).lies W5∧(∀ b,(⟨nt,nl,nr,nd,nla,nra,nrc,nregs,nea,nec,nevs,nca,ncc,ncms⟩:Doc).uses b→b<g) from⟨Doc.frame HZL.out (by omega) (fun b hb=>HKD.out b (by have:=Doc.uses_lt HZL.out hb;omega) (by have:=HZU.out b hb;have:=bu.out;omega)),fun b hb=>by have:=Doc.uses_lt HZL.out hb;omega⟩)
     have Cr:=h_ hb5
     have Ni:=h_ (tT (⟨xt,xl,xr,xd,xla,xra,xrc,xregs,xea,xec,xevs,xca,xcc,xcms⟩:Doc) (⟨yt,yl,yr,yd,yla,yra,yrc,yregs,yea,yec,yevs,yca,ycc,ycms⟩:Doc) (⟨nt,nl,nr,nd,nla,nra,nrc,nregs,nea,nec,nevs,nca,ncc,ncms⟩:Doc) g (LL) W5 JV)
     have hgw:w.heap.size+4≤g:=by omega
     have hgs:g<W5.heap.size:=by omega
     have HSZ5:=h_ hsA
     have b1:∀ j,W5.cell? ⟨w.heap.size,j,none⟩=_:=fun j=>SB _ _ j _ 27 (0,0) hrx
     have b2:∀ j,W5.cell? ⟨w.heap.size+1,j,none⟩=_:=fun j=>SB _ _ j _ 27 (0,0) hry
     have b3:∀ j,W5.cell? ⟨w.heap.size+1+1,j,none⟩=_:=fun j=>SB _ _ j _ 27 (0,0) hrn
     simp only [Doc.enc] at Ni
     clear hk8 hr8 hz8 A_ JV hsA hkA hb5 hrx hry hrn hrr a6 z6
     go_wp2_with fail
     refine Ni.out.mono ?_
     intro e w6 hpost
     obtain⟨rfl,kv6,QG,Nz,hkv6⟩:=Jl hpost hgs
     clear hpost Ni b1 b2 b3
     have HLEN:=R_.out (by first|trivial|rfl)
     obtain⟨⟨lx1,lx2,lx3⟩,⟨ly1,ly2,ly3⟩,lz1,lz2,lz3⟩:=HLEN
     have MB:=h_ (show(⟨nt,nl,nr,nd,nla,nra,nrc,nregs,nea,nec,nevs,nca,ncc,ncms⟩:Doc).fits from Bp (HZC.out.trans (by rw [NQ])) fz HFI.out)
     have hnc:(⟨nt,nl,nr,nd,nla,nra,nrc,nregs,nea,nec,nevs,nca,ncc,ncms⟩:Doc).c=eP (fun z=>(F z).getD z) (⟨zt,zl,zr,zd,zla,zra,zrc,zregs,zea,zec,zevs,zca,zcc,zcms⟩:Doc).c:=HZC.out.trans (by rw [NQ])
     have hnr:nregs=zregs:=congrArg DocC.rG hnc
     have hnm:ncms.length=zcms.length:=by
      have:=congrArg (fun d:DocC=>d.cM.length) hnc
      simpa [eP,Doc.c] using this
     have hne:nevs.length=zevs.length:=by
      have:=congrArg (fun d:DocC=>d.eV.length) hnc
      simpa [eP,Doc.c] using this
     subst hnr
     have lz3':ncms.length≤64:=by rw [hnm];exact lz3
     have E_:=h_ hne
     clear hne hnm
     have QO:SM g W5 w6:=Nz.below (by omega) (fun k hk e=>by omega)
     have HW6:=h_ (Cr.out.trans (QO.mono (by omega)))
     have hs6:=Nz.size
     have HX6:=h_ (Doc.later hx HW6.out)
     have HY6:=h_ (Doc.later hy HW6.out)
     have HN6:=h_ (show(⟨nt,nl,nr,nd,nla,nra,nrc,nregs,nea,nec,nevs,nca,ncc,ncms⟩:Doc).lies w6 from Doc.frame Rq.out.1 hs6 (fun b hb=>QO.block b (Rq.out.2 b hb)))
     have hxu:∀ b,(⟨xt,xl,xr,xd,xla,xra,xrc,xregs,xea,xec,xevs,xca,xcc,xcms⟩:Doc).uses b→b<g:=fun b hb=>by have:=Doc.uses_lt hx hb;omega
     have hyu:∀ b,(⟨yt,yl,yr,yd,yla,yra,yrc,yregs,yea,yec,yevs,yca,ycc,ycms⟩:Doc).uses b→b<g:=fun b hb=>by have:=Doc.uses_lt hy hb;omega
     have HXU:=h_ hxu;have Pj:=h_ hyu
     have hcl6:(sr (⟨xt,xl,xr,xd,xla,xra,xrc,xregs,xea,xec,xevs,xca,xcc,xcms⟩:Doc).hd (⟨yt,yl,yr,yd,yla,yra,yrc,yregs,yea,yec,yevs,yca,ycc,ycms⟩:Doc).hd (⟨nt,nl,nr,nd,nla,nra,nrc,nregs,nea,nec,nevs,nca,ncc,ncms⟩:Doc).hd).length≤3:=by
      unfold sr
      simp only [Sw]
      have q1:=nI (oG (⟨xt,xl,xr,xd,xla,xra,xrc,xregs,xea,xec,xevs,xca,xcc,xcms⟩:Doc).hd (⟨yt,yl,yr,yd,yla,yra,yrc,yregs,yea,yec,yevs,yca,ycc,ycms⟩:Doc).hd (⟨nt,nl,nr,nd,nla,nra,nrc,nregs,nea,nec,nevs,nca,ncc,ncms⟩:Doc).hd).2 ⟨1,0,aG,mZ⟩
      have q2:=nI (sq (⟨xt,xl,xr,xd,xla,xra,xrc,xregs,xea,xec,xevs,xca,xcc,xcms⟩:Doc).hd (⟨yt,yl,yr,yd,yla,yra,yrc,yregs,yea,yec,yevs,yca,ycc,ycms⟩:Doc).hd (⟨nt,nl,nr,nd,nla,nra,nrc,nregs,nea,nec,nevs,nca,ncc,ncms⟩:Doc).hd).2 ⟨1,0,aG,zA⟩
      have q3:=nI (oZ (⟨xt,xl,xr,xd,xla,xra,xrc,xregs,xea,xec,xevs,xca,xcc,xcms⟩:Doc).hd (⟨yt,yl,yr,yd,yla,yra,yrc,yregs,yea,yec,yevs,yca,ycc,ycms⟩:Doc).hd (⟨nt,nl,nr,nd,nla,nra,nrc,nregs,nea,nec,nevs,nca,ncc,ncms⟩:Doc).hd).2 ⟨1,0,aG,Gz⟩
      omega
     have HRG:=h_ (wv _ W5.heap.size g xra yra nra xrc yrc nrc xregs yregs nregs w6 QG hs6 rfl (by simp only;omega) HX6.out.1 HY6.out.1 HN6.out.1 (fun b hb=>HXU.out b (.inl hb)) (fun b hb=>Pj.out b (.inl hb)) (fun b hb=>Rq.out.2 b (.inl hb)) (by omega) (by omega) (by omega))
     have JY:=h_ (show w6.heap[w.heap.size]? =_∧w6.heap[w.heap.size+1]? =_∧w6.heap[w.heap.size+1+1]? =_∧w6.heap[w.heap.size+1+1+1]? =_ from⟨(QO.block _ (by omega)).trans Gg.out.1,(QO.block _ (by omega)).trans Gg.out.2.1,(QO.block _ (by omega)).trans Gg.out.2.2.1,(QO.block _ (by omega)).trans Gg.out.2.2.2⟩)
     have b1:∀ j,w6.cell? ⟨w.heap.size,j,none⟩=_:=fun j=>SB _ _ j _ 27 (0,0) JY.out.1
     have b2:∀ j,w6.cell? ⟨w.heap.size+1,j,none⟩=_:=fun j=>SB _ _ j _ 27 (0,0) JY.out.2.1
     have b3:∀ j,w6.cell? ⟨w.heap.size+1+1,j,none⟩=_:=fun j=>SB _ _ j _ 27 (0,0) JY.out.2.2.1
     have HKP6:=h_ Nz
     have HAT6:=h_ QG
     have HKV6:=h_ hkv6
     have HNC:=h_ hnc
     clear QG Nz hkv6 QO hxu hyu hnc
     go_wp2_with fail
     refine HRG.out.mono ?_
     rintro e w7 ⟨rfl,rv7,kv7,hat7,KF⟩
     clear HRG b1 b2 b3
     have QN:SM g w6 w7:=KF.low HAT6.out
     have HW7:=h_ (HW6.out.trans (QN.mono (by omega)))
     have HX7:=h_ (Doc.later hx HW7.out)
     have HY7:=h_ (Doc.later hy HW7.out)
     have HN7:=h_ (show(⟨nt,nl,nr,nd,nla,nra,nrc,nregs,nea,nec,nevs,nca,ncc,ncms⟩:Doc).lies w7 from Doc.frame HN6.out KF.1.size (fun b hb=>QN.block b (Rq.out.2 b hb)))
     have Mt:=h_ (show w7.heap[w.heap.size]? =_∧w7.heap[w.heap.size+1]? =_∧w7.heap[w.heap.size+1+1]? =_∧w7.heap[w.heap.size+1+1+1]? =_ from⟨(QN.block _ (by omega)).trans JY.out.1,(QN.block _ (by omega)).trans JY.out.2.1,(QN.block _ (by omega)).trans JY.out.2.2.1,(QN.block _ (by omega)).trans JY.out.2.2.2⟩)
     have hs7:w.heap.size+4≤w7.heap.size:=by have:=KF.1.size;omega
     have kH:=h_ (fun w' (q:SM w7.heap.size w7 w')=>fj (⟨xt,xl,xr,xd,xla,xra,xrc,xregs,xea,xec,xevs,xca,xcc,xcms⟩:Doc) w' (Doc.later HX7.out q) fx)
     have t_:=h_ (fun w' (q:SM w7.heap.size w7 w')=>fj (⟨yt,yl,yr,yd,yla,yra,yrc,yregs,yea,yec,yevs,yca,ycc,ycms⟩:Doc) w' (Doc.later HY7.out q) fy)
     have Aw:=h_ (fun w' (q:SM w7.heap.size w7 w')=>fj (⟨nt,nl,nr,nd,nla,nra,nrc,nregs,nea,nec,nevs,nca,ncc,ncms⟩:Doc) w' (Doc.later HN7.out q) MB.out)
     have HAT7:=h_ hat7
     have HST7:=h_ KF
     have hS67:=h_ KF.1.size
     clear hat7 KF QN
     go_upto_region 14 with fail
     refine IQ (⟨xt,xl,xr,xd,xla,xra,xrc,xregs,xea,xec,xevs,xca,xcc,xcms⟩:Doc) (⟨yt,yl,yr,yd,yla,yra,yrc,yregs,yea,yec,yevs,yca,ycc,ycms⟩:Doc) (⟨nt,nl,nr,nd,nla,nra,nrc,nregs,nea,nec,nevs,nca,ncc,ncms⟩:Doc) w.heap.size (w.heap.size+1) (w.heap.size+1+1) w7 Mt.out.1 Mt.out.2.1 Mt.out.2.2.1 kH.out t_.out Aw.out _ (fun _ _ _ _ hd h=>⟨hd.trans h.1,h.2⟩) _ _ _ _ _ _ _ _ _ _ _ _ _ _ _ _ _ _ _ _ _ _ _ _ _ _ _ _ _ _ _ _ _ _ _ _ _ _ _ _ _ _ _ _ _ _ _ _ _ _ _ _ _ _ _ _ _ _ _ _ _ _ _ _ _ _ _ _ _ _ _ _ _ _ _ _ _ _ _ _ _ _ _ _ _ _ _ _ _ _ _ _ _ _ _ _ _ _ ?_
     intro RJ u66 RI u68 u69 u70 p6 p7 p8 e1 f1 e2 f2 e3 f3 w8 hp6 hp7 hp8 hpw hf1 hf2 hf3 A_
     obtain⟨m7,RU,QF⟩:∃ m7,m7=_∧Mg.at_ m7 W5.heap.size g w8:=⟨_,rfl,HAT7.out.later A_⟩
     have HM7:=h_ RU
     have O6:m7.at_ W5.heap.size g w7:=RU▸HAT7.out
     have nm:∀ b,w7.heap.size≤b→¬ m7.mine g b:=fun b hb hm=>by have:=O6.mine_lt hm;omega
     have hB8:SM w.heap.size w w8:=HW7.out.trans (A_.mono (by omega))
     have hcle:m7.cls.length≤60:=by
      rw [RU]
      simp only [Sw]
      have q1:=(pS xregs yregs nregs (bG xregs yregs nregs)).2
      have q2:=kO (xregs++yregs++nregs) []
      simp only [Sw,SA] at q2
      unfold bG at q1 ⊢
      omega
     have Ay:m7.rG=fW xregs yregs nregs (bG xregs yregs nregs):=by rw [RU]
     have hrf:∀ r∈m7.rG,r.fits:=by
      rw [Ay]
      exact BB fx.2.2.2.2.2.1 fy.2.2.2.2.2.1 MB.out.2.2.2.2.2.1 _
     have hrl:m7.rG.length≤48:=by
      rw [Ay]
      have q1:=(pS xregs yregs nregs (bG xregs yregs nregs)).1
      have q2:=kO (xregs++yregs++nregs) []
      simp only [Sw,SA] at q2
      unfold bG at q1 ⊢
      omega
     have hN8:(⟨nt,nl,nr,nd,nla,nra,nrc,nregs,nea,nec,nevs,nca,ncc,ncms⟩:Doc).lies w8:=Doc.later HN7.out A_
     have hX8:(⟨xt,xl,xr,xd,xla,xra,xrc,xregs,xea,xec,xevs,xca,xcc,xcms⟩:Doc).lies w8:=Doc.later HX7.out A_
     have hY8:(⟨yt,yl,yr,yd,yla,yra,yrc,yregs,yea,yec,yevs,yca,ycc,ycms⟩:Doc).lies w8:=Doc.later HY7.out A_
     have LX:=h_ (pU hX8 fx HXU.out)
     have LY:=h_ (pU hY8 fy Pj.out)
     have LZ:=h_ (pU hN8 MB.out Rq.out.2)
     have hnl:nevs.length≤400:=by rw [E_.out];exact lz2
     have hF1:bZ w8 e1 f1 1000 xevs xcms:=⟨hf1.1.mono (by show xevs.length≤1000;omega),hf1.2.1.mono (by show xcms.length≤1000;omega)⟩
     have hF2:bZ w8 e2 f2 1000 yevs ycms:=⟨hf2.1.mono (by show yevs.length≤1000;omega),hf2.2.1.mono (by show ycms.length≤1000;omega)⟩
     have R3:bZ w8 e3 f3 1000 nevs ncms:=⟨hf3.1.mono (by show nevs.length≤1000;omega),hf3.2.1.mono (by show ncms.length≤1000;omega)⟩
     have hEg:∀ w',SM g w8 w'→Env w':=fun w' q=>hE.below (hB8.trans (q.mono (by omega))) (Sv _)
     have hBsz:W5.heap.size≤w8.heap.size:=Su (Su hs6 hS67.out) A_.size
     have Sb:=h_ (tU m7 W5.heap.size g e1 f1 e2 f2 e3 f3 1000 xevs yevs nevs xcms ycms ncms w8 QF hBsz (by rw [RU]) (by omega) hF1 hF2 R3 (nm _ hf1.2.2.1) (nm _ hf2.2.2.1) (nm _ hf3.2.2.1) LX.out LY.out LZ.out (by omega) (by omega) (by omega) (by omega) hEg hrf (by omega))
     have c15:∀ j,w8.cell? ⟨p6,j,none⟩=_:=fun j=>SB _ _ j _ 148 (0,0) hp6
     have c16:∀ j,w8.cell? ⟨p7,j,none⟩=_:=fun j=>SB _ _ j _ 148 (0,0) hp7
     have c17:∀ j,w8.cell? ⟨p8,j,none⟩=_:=fun j=>SB _ _ j _ 148 (0,0) hp8
     have Mx:=h_ (SX hp6 (SX hp7 hp8))
     have Gq:=h_ (SX hF1 (SX hF2 R3))
     have HAT8:=h_ QF
     have HD8:=h_ (SX hX8 (SX hY8 hN8))
     have hpl:p6<w8.heap.size∧p7<w8.heap.size∧p8<w8.heap.size:=⟨(SY.1 hp6).1,(SY.1 hp7).1,(SY.1 hp8).1⟩
     have Kv:=h_ nm
     have AO:=h_ (SX hf1.2.2 (SX hf2.2.2 hf3.2.2))
     have Nl:=h_ hB8
     have HEG:=h_ hEg
     have hb78:=A_.size
     clear RU O6 QF hX8 hY8 hN8 hF1 hF2 R3 hf1 hf2 hf3 hp6 hp7 hp8 nm hB8 hEg
     go_wp2_with fail
     refine Sb.out.mono ?_
     rintro e w9 ⟨rfl,ev9,evs9,kv9,hat9,hst9,Qv,Qw⟩
     obtain⟨m9,Nu,Ml,F8⟩:∃ m9,m9=_∧Mg.at_ m9 W5.heap.size g w9∧Mg.step g m7 m9 w8 w9:=⟨_,rfl,hat9,hst9⟩
     clear hat9 hst9 Sb c15 c16 c17
     have lg:w8.heap.size≤w9.heap.size:=F8.1.size
     have keep:∀ b,b<w8.heap.size→w7.heap.size≤b→w9.heap[b]? =w8.heap[b]?:=fun b h1 h2=>F8.1.block b h1 (Kv.out b h2)
     have hB9:SM g w8 w9:=F8.low HAT8.out
     have c15:∀ j,w9.cell? ⟨p6,j,none⟩=_:=fun j=>SB _ _ j _ 148 (0,0) ((keep _ hpl.1 hpw.1).trans Mx.out.1)
     have c16:∀ j,w9.cell? ⟨p7,j,none⟩=_:=fun j=>SB _ _ j _ 148 (0,0) ((keep _ hpl.2.1 hpw.2.1).trans Mx.out.2.1)
     have c17:∀ j,w9.cell? ⟨p8,j,none⟩=_:=fun j=>SB _ _ j _ 148 (0,0) ((keep _ hpl.2.2 hpw.2.2).trans Mx.out.2.2)
     have hX9:(⟨xt,xl,xr,xd,xla,xra,xrc,xregs,xea,xec,xevs,xca,xcc,xcms⟩:Doc).lies w9:=Doc.frame HD8.out.1 lg fun b hb=>hB9.block b (HXU.out b hb)
     have hY9:(⟨yt,yl,yr,yd,yla,yra,yrc,yregs,yea,yec,yevs,yca,ycc,ycms⟩:Doc).lies w9:=Doc.frame HD8.out.2.1 lg fun b hb=>hB9.block b (Pj.out b hb)
     have hN9:(⟨nt,nl,nr,nd,nla,nra,nrc,nregs,nea,nec,nevs,nca,ncc,ncms⟩:Doc).lies w9:=Doc.frame HD8.out.2.2 lg fun b hb=>hB9.block b (Rq.out.2 b hb)
     obtain⟨r1,r2,r3,_⟩:=gW hR
     have hrr:(fun z=>(F z).getD z)=iD C1 C2 C3:=by
      funext z
      unfold iD
      rw [MJ.out,EL.out,hC2,NQ]
      rfl
     have hnc3:(⟨nt,nl,nr,nd,nla,nra,nrc,nregs,nea,nec,nevs,nca,ncc,ncms⟩:Doc).c=eP (iD C1 C2 C3) C3:=by rw [←hrr];exact HZC.out
     have d1:aL (⟨xt,xl,xr,xd,xla,xra,xrc,xregs,xea,xec,xevs,xca,xcc,xcms⟩:Doc)=0:=by rw [eN,←hC1];exact r1
     have d2:aL (⟨yt,yl,yr,yd,yla,yra,yrc,yregs,yea,yec,yevs,yca,ycc,ycms⟩:Doc)=0:=by rw [eN,←hC2];exact r2
     have d3:aL (⟨zt,zl,zr,zd,zla,zra,zrc,nregs,zea,zec,zevs,zca,zcc,zcms⟩:Doc)=0:=by rw [eN,←NQ];exact r3
     have tx:=xi d1 fx
     have ty:=xi d2 fy
     have tz:=IC HNC.out (xi d3 fz) MB.out
     have nm9:∀ b,b<w8.heap.size→w7.heap.size≤b→¬ m9.mine g b:=fun b h1 h2 hm=>by
      rcases F8.2 b hm with h|h
      · exact Kv.out b h2 h
      · omega
     have hel:=rm Qv
     simp only [Sx] at hel
     have hF1:bZ w9 e1 f1 2000 xevs xcms:=(Gq.out.1.kept (keep _ Gq.out.1.ev.lt AO.out.1.1) (keep _ Gq.out.1.cm.lt AO.out.1.2)).mono (by omega)
     have hF2:bZ w9 e2 f2 2000 yevs ycms:=(Gq.out.2.1.kept (keep _ Gq.out.2.1.ev.lt AO.out.2.1.1) (keep _ Gq.out.2.1.cm.lt AO.out.2.1.2)).mono (by omega)
     have R3:bZ w9 e3 f3 2000 nevs ncms:=(Gq.out.2.2.kept (keep _ Gq.out.2.2.ev.lt AO.out.2.2.1) (keep _ Gq.out.2.2.cm.lt AO.out.2.2.2)).mono (by omega)
     have hcl9:m9.cls.length≤40000:=by
      rw [Nu]
      simp only [Sw]
      have q1:=(mT m7.rG (xevs.map Ev.c) (yevs.map Ev.c) (nevs.map Ev.c) (aY (xevs.map Ev.c) (yevs.map Ev.c) (nevs.map Ev.c))).2
      have q2:=sW (xevs.map Ev.c) (yevs.map Ev.c) (nevs.map Ev.c)
      simp only [Sx] at q2
      omega
     have Qu:m9.hd=mgHd (⟨xt,xl,xr,xd,xla,xra,xrc,xregs,xea,xec,xevs,xca,xcc,xcms⟩:Doc).hd (⟨yt,yl,yr,yd,yla,yra,yrc,yregs,yea,yec,yevs,yca,ycc,ycms⟩:Doc).hd (⟨nt,nl,nr,nd,nla,nra,nrc,nregs,nea,nec,nevs,nca,ncc,ncms⟩:Doc).hd (LL):=by rw [Nu,HM7.out]
     have Qt:m9.hd.fits:=by
      rw [Qu]
      have il:i64 (LL):=by
       have q1:=fy.2.2.2.2.1
       have q2:=fz.2.2.2.2.1
       unfold i64 at *
       simp only at q1 q2
       omega
      exact FM ⟨fx.1,fx.2.1,fx.2.2.1,fx.2.2.2.1,fx.2.2.2.2.1⟩ ⟨fy.1,fy.2.1,fy.2.2.1,fy.2.2.2.1,fy.2.2.2.2.1⟩ ⟨MB.out.1,MB.out.2.1,MB.out.2.2.1,MB.out.2.2.2.1,MB.out.2.2.2.2.1⟩ il
     have HCM:=h_ (rq m9 W5.heap.size g e1 f1 e2 f2 e3 f3 2000 (⟨xt,xl,xr,xd,xla,xra,xrc,xregs,xea,xec,xevs,xca,xcc,xcms⟩:Doc) (⟨yt,yl,yr,yd,yla,yra,yrc,yregs,yea,yec,yevs,yca,ycc,ycms⟩:Doc) (⟨nt,nl,nr,nd,nla,nra,nrc,nregs,nea,nec,nevs,nca,ncc,ncms⟩:Doc) w9 Ml (by omega) (by rw [Nu,HM7.out]) hcl9 ⟨hF1,pU hX9 fx HXU.out,tx,by show xevs.length≤1000∧xcms.length≤1000;omega⟩ ⟨hF2,pU hY9 fy Pj.out,ty,by show yevs.length≤1000∧ycms.length≤1000;omega⟩ ⟨R3,pU hN9 MB.out Rq.out.2,tz,by show nevs.length≤1000∧ncms.length≤1000;omega⟩
      ⟨nm9 _ Gq.out.1.ev.lt AO.out.1.1,nm9 _ Gq.out.1.cm.lt AO.out.1.2⟩ ⟨nm9 _ Gq.out.2.1.ev.lt AO.out.2.1.1,nm9 _ Gq.out.2.1.cm.lt AO.out.2.1.2⟩ ⟨nm9 _ Gq.out.2.2.ev.lt AO.out.2.2.1,nm9 _ Gq.out.2.2.cm.lt AO.out.2.2.2⟩
      (by omega) Qt (by rw [Nu];exact hrf) (by rw [Nu];show m7.rG.length≤4000;omega) (by rw [Nu];exact Qw) (by rw [Nu];show evs9.length≤2000;omega))
     have HAT9:=h_ Ml
     have QZ:=h_ (SX tx (SX ty tz))
     have HFN:=h_ (SX r2 (SX r3 hnc3))
     have Oy:=h_ Nu
     have R7:=h_ hrf
     have HHF:=h_ Qt
     have HHD9:=h_ Qu
     have OC:=h_ (SX Qv Qw)
     have HREG:=h_ Ay
     clear hX9 hY9 hN9 d1 d2 d3 tx ty tz r1 r2 r3 nm9 hF1 hF2 R3 keep Ml F8 Nu hrf Ay Qv Qw hnc3 Gq Qt Qu
     go_wp2_with fail
     refine HCM.out.mono ?_
     rintro e w10 ⟨rfl,cv10,kv10,O8,OY⟩
     obtain⟨m10,AX,Ar,Ec⟩:∃ m10,m10=_∧Mg.at_ m10 W5.heap.size g w10∧Mg.step g m9 m10 w9 w10:=⟨_,rfl,O8,OY⟩
     clear O8 OY HCM c15 c16 c17
     have hB10:SM g w9 w10:=Ec.low HAT9.out
     have KG:w9.heap.size≤w10.heap.size:=Ec.1.size
     have hBg:SM g w7 w10:=((A_.mono (by have:=hS67.out;omega)).trans hB9).trans hB10
     have Ph:SM w.heap.size w w10:=HW7.out.trans (hBg.mono (by omega))
     obtain⟨d,hdl,Qy,hdr,hde,EJ,RY,hdu⟩:=Ar.doc_low
     have hcs:m10.cM.length≤1200:=by
      rw [AX]
      have q1:=(sv (m9.eV.map Ev.c) (⟨xt,xl,xr,xd,xla,xra,xrc,xregs,xea,xec,xevs,xca,xcc,xcms⟩:Doc).c (⟨yt,yl,yr,yd,yla,yra,yrc,yregs,yea,yec,yevs,yca,ycc,ycms⟩:Doc).c (⟨nt,nl,nr,nd,nla,nra,nrc,nregs,nea,nec,nevs,nca,ncc,ncms⟩:Doc).c (iF (⟨xt,xl,xr,xd,xla,xra,xrc,xregs,xea,xec,xevs,xca,xcc,xcms⟩:Doc).c.cM (⟨yt,yl,yr,yd,yla,yra,yrc,yregs,yea,yec,yevs,yca,ycc,ycms⟩:Doc).c.cM (⟨nt,nl,nr,nd,nla,nra,nrc,nregs,nea,nec,nevs,nca,ncc,ncms⟩:Doc).c.cM)).1
      have q2:=zJ (⟨xt,xl,xr,xd,xla,xra,xrc,xregs,xea,xec,xevs,xca,xcc,xcms⟩:Doc).c.cM (⟨yt,yl,yr,yd,yla,yra,yrc,yregs,yea,yec,yevs,yca,ycc,ycms⟩:Doc).c.cM (⟨nt,nl,nr,nd,nla,nra,nrc,nregs,nea,nec,nevs,nca,ncc,ncms⟩:Doc).c.cM
      have e1:(⟨xt,xl,xr,xd,xla,xra,xrc,xregs,xea,xec,xevs,xca,xcc,xcms⟩:Doc).c.cM.length=xcms.length:=rfl
      have e2:(⟨yt,yl,yr,yd,yla,yra,yrc,yregs,yea,yec,yevs,yca,ycc,ycms⟩:Doc).c.cM.length=ycms.length:=rfl
      have e3:(⟨nt,nl,nr,nd,nla,nra,nrc,nregs,nea,nec,nevs,nca,ncc,ncms⟩:Doc).c.cM.length=ncms.length:=rfl
      rw [e1,e2,e3] at q2
      show(mU (m9.eV.map Ev.c) (⟨xt,xl,xr,xd,xla,xra,xrc,xregs,xea,xec,xevs,xca,xcc,xcms⟩:Doc).c (⟨yt,yl,yr,yd,yla,yra,yrc,yregs,yea,yec,yevs,yca,ycc,ycms⟩:Doc).c (⟨nt,nl,nr,nd,nla,nra,nrc,nregs,nea,nec,nevs,nca,ncc,ncms⟩:Doc).c (iF (⟨xt,xl,xr,xd,xla,xra,xrc,xregs,xea,xec,xevs,xca,xcc,xcms⟩:Doc).c.cM (⟨yt,yl,yr,yd,yla,yra,yrc,yregs,yea,yec,yevs,yca,ycc,ycms⟩:Doc).c.cM (⟨nt,nl,nr,nd,nla,nra,nrc,nregs,nea,nec,nevs,nca,ncc,ncms⟩:Doc).c.cM)).length≤1200
      omega
     have hcf:∀ q∈m10.cM,q.fits:=by
      rw [AX]
      exact D0 (a:=(⟨xt,xl,xr,xd,xla,xra,xrc,xregs,xea,xec,xevs,xca,xcc,xcms⟩:Doc).c) (b:=(⟨yt,yl,yr,yd,yla,yra,yrc,yregs,yea,yec,yevs,yca,ycc,ycms⟩:Doc).c) (c:=(⟨nt,nl,nr,nd,nla,nra,nrc,nregs,nea,nec,nevs,nca,ncc,ncms⟩:Doc).c) (by rw [Oy.out];exact nE OC.out.2) ⟨nE fx.2.2.2.2.2.2.2.1,QZ.out.1⟩ ⟨nE fy.2.2.2.2.2.2.2.1,QZ.out.2.1⟩ ⟨nE MB.out.2.2.2.2.2.2.2.1,QZ.out.2.2⟩ _
     have hdf:d.fits:=by
      have h1:d.hd.fits:=by rw [Qy,AX];exact HHF.out
      refine⟨h1.1,h1.2.1,h1.2.2.1,h1.2.2.2.1,h1.2.2.2.2,?_,?_,?_,?_,?_,?_⟩
      · rw [hdr,AX,Oy.out];exact R7.out
      · rw [hdr,AX,Oy.out];show m7.rG.length≤4000000;omega
      · rw [hde,AX,Oy.out];exact OC.out.2
      · rw [hde,AX,Oy.out];show evs9.length≤4000000;omega
      · rw [EJ];exact hcf
      · rw [EJ];omega
     have hlast:LL=sn C1 C2 C3:=by
      unfold sn
      rw [HLL.out,EL.out,hC2,NQ]
      rfl
     have hall:oH C1 C2 C3=FL (⟨xt,xl,xr,xd,xla,xra,xrc,xregs,xea,xec,xevs,xca,xcc,xcms⟩:Doc).c (⟨yt,yl,yr,yd,yla,yra,yrc,yregs,yea,yec,yevs,yca,ycc,ycms⟩:Doc).c (⟨nt,nl,nr,nd,nla,nra,nrc,nregs,nea,nec,nevs,nca,ncc,ncms⟩:Doc).c LL:=by
      unfold oH
      rw [←HFN.out.2.2,←hlast,hC1,hC2]
     have hdC:d.c=(oH C1 C2 C3).1:=by
      have e0:d.c=⟨d.hd,d.rG,d.eV.map Ev.c,d.cM⟩:=rfl
      rw [e0,Qy,hdr,hde,EJ,AX,Oy.out,hall]
      show(⟨m7.hd,m7.rG,evs9.map Ev.c,_⟩:DocC)=_
      rw [HM7.out,OC.out.1,HREG.out]
      rfl
     have Li:m10.cls=(oH C1 C2 C3).2:=by
      rw [AX,Oy.out,hall]
      show(m7.cls++_)++_=_
      rw [OC.out.1,HREG.out,HM7.out]
      rfl
     have Nt:fL C1 C2 C3=if (1099511627776:Int)<LL then 9 else aL d:=by
      unfold fL
      rw [if_neg (by rw [hR];simp),←hlast,eN,hdC]
     by_cases hlim:LL≤1099511627776
     case neg =>
      have O3:(1099511627776:Int)<LL:=by omega
      have h9:fL C1 C2 C3=9:=by rw [Nt,if_pos O3]
      have hrb:w10.heap[w.heap.size+1+1+1]? =_:=(hBg.block _ (by omega)).trans Mt.out.2.2.2
      have HE:=h_ (fun(w':SC) (hw:SM w.heap.size w w')=>(show Q (.returned (.tuple #[.agg #[SN ⟨#[]⟩,.string ⟨#[]⟩,.int .u8 0,.bool false,.int .i64 0,.slice none 0 0,.slice none 0 0,.slice none 0 0],.slice none 0 0,.int .i64 9])) w' from by
       have e2:jm C1 C2 C3=EY:=by unfold jm;rw [if_neg (by rw [h9];decide)]
       have e3:mgCl C1 C2 C3=[]:=by unfold mgCl;rw [if_neg (by rw [h9];decide)]
       rw [←hQ]
       exact⟨zDoc,.slice none 0 0,by rw [h9];rfl,by rw [e2];rfl,rS w',(rU 0).doc (by decide),fun b=>rR b _,by rw [e3];exact SS _ _ _ _,hw⟩))
      have a4:∀ j,w10.cell? ⟨w.heap.size+1+1+1,j,none⟩=_:=fun j=>SB _ _ j _ 27 (0,0) hrb
      have z4:∀ j,w10.frozen? ⟨w.heap.size+1+1+1,j,none⟩=false:=fun j=>by simp [SR,hrb]
      have hl41:decide ((1099511627776:Int)<LL)=true:=decide_eq_true O3
      have Gm:=h_ Ph
      clear hrb hdl Qy hdr hde EJ RY hdu hcs hcf hdf hdC Li hall Nt h9 Ec Ar AX hlim hlast
      go_wp2_with fail
      refine SD (v:=.tuple #[.agg #[SN ⟨#[]⟩,.string ⟨#[]⟩,.int .u8 0,.bool false,.int .i64 0,.slice none 0 0,.slice none 0 0,.slice none 0 0],.slice none 0 0,.int .i64 9]) (by simp [results,SE,go_sem,a4]) rfl ?_
      refine HE.out _ ?_
      repeat refine SV ?_ (by simp only;omega) _
      exact Gm.out
     have hL40:LL≤1099511627776:=hlim
     have hL41:decide ((1099511627776:Int)<LL)=false:=decide_eq_false (by omega)
     have NK:fL C1 C2 C3=aL d:=by rw [Nt,if_neg (by omega)]
     have HDK:=h_ (eM d w10 (HEG.out w10 (hB9.trans hB10)) hdl hdf)
     have Ac:=h_ (fun(w':SC) (hw:SM w.heap.size w w') (h2:d.lies w') (h3:w'.ownsRow W5.heap.size 135 4 m10.kv m10.cls.length (m10.cls.flatMap Cl.enc)) (he:aL d=0)=>(show Q (.returned (.tuple #[.agg d.enc.toArray,m10.kv,.int .i64 0])) w' from by
      have h0:fL C1 C2 C3=0:=NK.trans he
      have e2:jm C1 C2 C3=d.c:=by unfold jm;rw [if_pos h0,hdC]
      have e3:mgCl C1 C2 C3=m10.cls:=by unfold mgCl;rw [if_pos h0,Li]
      rw [←hQ]
      exact⟨d,m10.kv,by rw [h0],e2.symm,h2,hdf,(fun b hb=>by have:=hdu b hb;omega),by rw [e3];exact eQ h3 (by omega),hw⟩))
     have OE:=h_ (fun(w':SC) (hw:SM w.heap.size w w') (he:aL d≠0)=>(show Q (.returned (.tuple #[.agg #[SN ⟨#[]⟩,.string ⟨#[]⟩,.int .u8 0,.bool false,.int .i64 0,.slice none 0 0,.slice none 0 0,.slice none 0 0],.slice none 0 0,.int .i64 (aL d)])) w' from by
      have h0:fL C1 C2 C3≠0:=by rw [NK];exact he
      have e2:jm C1 C2 C3=EY:=by unfold jm;rw [if_neg h0]
      have e3:mgCl C1 C2 C3=[]:=by unfold mgCl;rw [if_neg h0]
      rw [←hQ]
      exact⟨zDoc,.slice none 0 0,by rw [NK];rfl,by rw [e2];rfl,rS w',(rU 0).doc (by decide),fun b=>rR b _,by rw [e3];exact SS _ _ _ _,hw⟩))
     have hcells:=Ar.cells
     rw [RY] at hcells
     have HKV:=h_ Ar.cls
     have Nj:=h_ hdl
     have HDU:=h_ hdu
     have hrb:w10.heap[w.heap.size+1+1+1]? =_:=(hBg.block _ (by omega)).trans Mt.out.2.2.2
     have NI:=Ar.glt
     have Gm:=h_ Ph
     generalize hkv:m10.kv=kvv at *
     generalize aL d=EE at *
     obtain⟨dt,dl,dr,dd,dla,dra,drc,dregs,dea,dec,devs,dca,dcc,dcms⟩:=d
     simp only [Doc.enc,List.cons_append,List.nil_append] at HDK Ac OE hcells
     have g0:∀ j,w10.cell? ⟨g,j,none⟩=_:=fun j=>SB _ _ j _ 142 (0,0) hcells
     clear hcells RY hdC Li NK hall Nt hlast hlim Qy hdr hde EJ AX Ec Ar hdf hcs hcf hdu
     go_wp2_with fail
     refine HDK.out.mono ?_
     rintro e w11 ⟨rfl,BO⟩
     have OI:=h_ (Gm.out.trans (BO.mono Gm.out.size))
     have F_:w11.heap[w.heap.size+1+1+1]? =_:=(BO.block _ (SY.1 hrb).1).trans hrb
     have hg11:g<w11.heap.size:=Nat.lt_of_lt_of_le NI BO.size
     have MK:=h_ (Doc.later Nj.out BO)
     have Ky:=h_ (ah HKV.out fun b q=>BO.block b (HKV.out.lt b q).2)
     have gk0:∀ j,w11.cell? ⟨g,j,none⟩=_:=fun j=>(BO.cell (p:=⟨g,j,none⟩) NI).trans (g0 j)
     have hgr:w.heap.size+1+1+1<g:=by omega
     clear BO hrb HDK g0 Nj HKV hBg
     by_cases hE0:EE=0
     · subst hE0
       go_upto_region 22 with fail
       have hk0:Kept (fun b=>b=w.heap.size+1+1+1) w11 w11.drew:=(Kept.refl _ _).drew
       have gk:∀ w',Kept (fun b=>b=w.heap.size+1+1+1) w11 w'→∀ j,w'.cell? ⟨g,j,none⟩=_:=fun w' q j=>(q.cell (b:=g) hg11 (by omega)).trans (gk0 j)
       have HF:=h_ (Ac.out (w11.drew.setRow (w.heap.size+1+1+1) (#[SN dt,.string dl,.int .u8 dr,.bool dd,.int .i64 dla,.slice dra dregs.length drc,.slice dea devs.length dec,.slice dca dcms.length dcc])) (OI.out.trans ((CU w11 (w.heap.size+1+1+1) (#[SN dt,.string dl,.int .u8 dr,.bool dd,.int .i64 dla,.slice dra dregs.length drc,.slice dea devs.length dec,.slice dca dcms.length dcc])).below (B:=w.heap.size) OI.out.size (fun k hk e=>by omega))) (Doc.frame MK.out (by rw [size_setRow];exact Sv _) (fun b hb=>bD _ _ _ _ (by have:=HDU.out b hb;omega))) (ah Ky.out (fun b q=>bD _ _ _ _ (by have:=(Ky.out.lt b q).1;omega))) (by first|rfl|trivial))
       have fin4:∀ j,(w11.drew.setRow (w.heap.size+1+1+1) (#[SN dt,.string dl,.int .u8 dr,.bool dd,.int .i64 dla,.slice dra dregs.length drc,.slice dea devs.length dec,.slice dca dcms.length dcc])).cell? ⟨w.heap.size+1+1+1,j,none⟩=_:=fun j=>SB _ _ j _ 27 (0,0) (setRow_heap _ _ _ _ _ _ F_)
       clear Ac OE OI MK Ky
       refine wp_region_held_drew (S:=fun w'=>Kept (fun b=>b=w.heap.size+1+1+1) w11 w') (by kernel_rfl) hk0 (fun _=>?_)
       try simp only [Act.put,SJ,SH,SI,SG,SK,SL,SQ]
       refine nN 0 (.pointer (some ⟨g,0,none⟩)) hk0 ?_
       refine nN 1 (.pointer (some ⟨g,0,none⟩)) hk0 ?_
       refine nN 2 (.pointer (some ⟨g,0,none⟩)) hk0 ?_
       refine nN 3 (.agg (#[SN dt,.string dl,.int .u8 dr,.bool dd,.int .i64 dla,.slice dra dregs.length drc,.slice dea devs.length dec,.slice dca dcms.length dcc])) hk0 ?_ (hy:=.inl ⟨by rfl,fun w_ AJ=>by have q_:=gk _ AJ;go_simp⟩)
       refine nN 4 (.pointer (some ⟨g,0,none⟩)) hk0 ?_
       refine nN 5 (.pointer (some ⟨g,0,none⟩)) hk0 ?_
       refine nN 6 (.pointer (some ⟨g,8,none⟩)) hk0 ?_
       refine nN 7 kvv hk0 ?_ (hy:=.inl ⟨by rfl,fun w_ AJ=>by have q_:=gk _ AJ;go_simp⟩)
       refine aq 8 (fun K hK=>?_)
       rw [if_pos (by rfl)]
       refine wp_store_row 27 (.tmp 6) (.tmp 96) rfl (w.heap.size+1+1+1) (#[SN dt,.string dl,.int .u8 dr,.bool dd,.int .i64 dla,.slice dra dregs.length drc,.slice dea devs.length dec,.slice dca dcms.length dcc]) rfl rfl 27 _ F_ aQ rfl (pR _ _ _ _ _ _ _ _ _ _ _ _ _ _) ?_
       have Az:Kept (fun b=>b=w.heap.size+1+1+1) w11 (w11.drew.setRow (w.heap.size+1+1+1) (#[SN dt,.string dl,.int .u8 dr,.bool dd,.int .i64 dla,.slice dra dregs.length drc,.slice dea devs.length dec,.slice dca dcms.length dcc])):=CU _ _ _
       refine goOn hK Az ?_
       clear hK
       refine nN 9 kvv Az ?_
       refine nN 10 (.int .i64 0) Az ?_
       refine wpAnyH_done (by kernel_rfl) ?_ _
       go_wp2_with fail
       refine SD (v:=.tuple #[.agg (#[SN dt,.string dl,.int .u8 dr,.bool dd,.int .i64 dla,.slice dra dregs.length drc,.slice dea devs.length dec,.slice dca dcms.length dcc]),kvv,.int .i64 0]) (by simp [results,SE,go_sem,fin4]) rfl ?_
       exact HF.out
     · have hn:(EE != 0)=true:=by simpa using hE0
       have HE:=h_ (fun w' hw=>OE.out w' hw hE0)
       have a4:∀ j,w11.cell? ⟨w.heap.size+1+1+1,j,none⟩=_:=fun j=>SB _ _ j _ 27 (0,0) F_
       have z4:∀ j,w11.frozen? ⟨w.heap.size+1+1+1,j,none⟩=false:=fun j=>by simp [SR,F_]
       clear Ac OE gk0 MK Ky F_
       go_wp2_with fail
       refine SD (v:=.tuple #[.agg #[SN ⟨#[]⟩,.string ⟨#[]⟩,.int .u8 0,.bool false,.int .i64 0,.slice none 0 0,.slice none 0 0,.slice none 0 0],.slice none 0 0,.int .i64 EE]) (by simp [results,SE,go_sem,a4]) rfl ?_
       refine HE.out _ ?_
       repeat refine SV ?_ (by simp only;omega) _
       exact OI.out
 · have hn:(R != 0)=true:=by simpa using h0
   have HE:=h_ (HQ0.out h0)
   have a4:=fr0 w1 hc1
   have z4:∀ j,w1.frozen? ⟨w.heap.size+1+1+1,j,none⟩=false:=fun j=>by simp [SR,(HV.out w1 hc1).2.2.2]
   have HB1:=h_ (HB.out _ hc1)
   clear HQ0 JZ Rf
   go_wp2_with fail
   refine SD (v:=.tuple #[.agg #[SN ⟨#[]⟩,.string ⟨#[]⟩,.int .u8 0,.bool false,.int .i64 0,.slice none 0 0,.slice none 0 0,.slice none 0 0],.slice none 0 0,.int .i64 R]) (by simp [results,SE,go_sem,a4]) rfl ?_
   refine HE.out _ ?_
   repeat refine SV ?_ (by simp only;omega) _
   exact HB1.out
end Go.Proofs.YtnlnmbcaongehaaGreatDoor
namespace Go.Proofs.YtnlnmbcaongehaaGreatDoor
open Go.RowKit
attribute [local go_sem ↓] Go.wp_at_zero Go.wp_at_succ
theorem pz (a:Option Addr)(cap:Nat)(xs:List Cl)(id:Int)(w:SC)(hx:af 4 Cl.enc Flat w a xs)(hl:xs.length≤9223372036854775807)(hc:xs.length≤cap∨xs=[]) :
 Calls SF 29 #[.slice a xs.length cap,.int .i64 id] w fun e w'=>e=.returned (.bool (aO xs id))∧SM w.heap.size w w':=by
 generalize hQ:(fun(e:Ending) (w':SC)=>e=.returned (.bool (aO xs id))∧SM w.heap.size w w')=Q
 have HQ:=h_ (fun(b:Bool) (w':SC) (hb:aO xs id=b) (h:SM w.heap.size w w')=>show Q (.returned (.bool b)) w' from hQ▸⟨by rw [hb],h⟩)
 have HX:=h_ hx
 clear hQ hx hc
 go_enter Tryz.func29,Tryz.ntmps29
 go_wp2_with fail
 go_loopw [9] (fun i wr=>∃ k:Nat,k≤xs.length∧i=.int .i64 k∧aO (xs.take k) id=false∧SM w.heap.size w wr) (fun i _=>xs.length-(intOf i).toNat)
 case atStart=>exact⟨0,by omega,rfl,rfl,SW _ _⟩
 case round =>
  obtain⟨k,hk,rfl,hno,hb⟩:=hrel
  have HB:=h_ hb
  have HNO:=h_ hno
  by_cases hlt:k<xs.length
  · obtain⟨bk,off,x,rfl,hbl,hxk,hcell,_⟩:=(af.keeps Flat.keeps _ _ _ _ hb HX.out).at_ hlt
    have HS:=h_ (show aO (xs.take (k+1)) id=(x.sec==3&&x.id==id) from by
     unfold aO at *
     rw [List.take_add_one,hxk,List.any_append,hno]
     simp)
    have HT:=h_ (fun(h:(x.sec==3&&x.id==id)=true)=>(show aO xs id=true from by
     unfold aO
     rw [List.any_eq_true]
     exact⟨x,List.mem_of_getElem? hxk,h⟩))
    have d0:=hcell 0 _ rfl;have d1:=hcell 1 _ rfl;have d2:=hcell 2 _ rfl;have d3:=hcell 3 _ rfl
    simp only [Nat.add_zero] at d0
    clear hcell hno hxk hb
    obtain⟨sec,xid,nm,fd⟩:=x
    simp only [Cl.enc] at *
    have zu:=h_ (fun(o:Obj)=>HB.out.alloc HB.out.size o)
    have HN:=h_ (fun(h:(sec==3&&xid==id)=false) (w':SC) (hw:SM w.heap.size w w')=>(show(∃ k':Nat,k'≤xs.length∧SO IntKind.i64 ((k:Int)+1)=.int .i64 k'∧aO (xs.take k') id=false∧SM w.heap.size w w') from⟨k+1,by omega,by simp,by rw [HS.out];exact h,hw⟩))
    clear HS HB HNO HX
    by_cases hA:sec=3
    · subst hA
      by_cases hC:xid=id
      · subst hC
        have HE:=h_ (fun w'=>HQ.out true w' (HT.out (by simp)))
        clear HT HN HQ
        go_wp2_with fail
        exact HE.out _ (zu.out _)
      · have HE:=h_ (HN.out (by simp [hC]))
        clear HT HN HQ
        go_wp2_with fail
        go_roundw
        case rel=>exact HE.out _ (zu.out _)
        case measure=>simp [intOf];omega
    · have HE:=h_ (HN.out (by simp [hA]))
      clear HT HN HQ
      go_wp2_with fail
      go_roundw
      case rel=>exact HE.out _ (zu.out _)
      case measure=>simp [intOf];omega
  · obtain rfl:k=xs.length:=by omega
    have HE:=h_ (HQ.out false wr (by have:=HNO.out;rwa [List.take_length] at this) HB.out)
    clear hb hno
    go_wp2_with fail
    exact HE.out
end Go.Proofs.YtnlnmbcaongehaaGreatDoor
