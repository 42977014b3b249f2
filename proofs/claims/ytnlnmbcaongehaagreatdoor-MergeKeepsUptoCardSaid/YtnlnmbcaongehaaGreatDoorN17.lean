/- merge.renamed where nothing is to be renamed: a copy of the document. The contract of document.Clone: the copy's lists lie apart from one another. -/
import Derived.Test.YtnlnmbcaongehaaGreatDoorN11
set_option linter.unusedVariables false
set_option linter.unusedSimpArgs false
set_option maxRecDepth 100000
set_option maxHeartbeats 12800000
open Go.Lib renaming hid→h_
open Go renaming World→Su,heap_alloc_last→Sv,cell_of_row→Sw,heap_setCell_same→Sx,Value→Sy
open Nat renaming le_refl→Sz
open Go.RowKit.Below renaming heap_setCell→SA,setCell→SB,heap_alloc→SC,refl→SD
open Go.World renaming size_alloc→SE,frozen?→SF
open Go.RowKit renaming Below→SG
open Option.some renaming inj→SH
open List renaming getElem?_eq_getElem→SI,getElem_of_mem→SJ,mem_of_getElem?→SK,getElem?_map→SL,mem_map→SM
namespace Go.Proofs.YtnlnmbcaongehaaGreatDoor
open Go.RowKit
theorem RW (w:Su):(zeroValue 2).run Tryz.prog w=.ok (.int .i64 0) w:=by kernel_rfl
theorem VMap.drewN {w:Su} {b n:Nat} {f:Int→Option Sy} (h:VMap w b n f)(q:Nat):VMap (w.drewN q) b n f:=h.kept rfl
theorem xj {d d':Doc} (h:d'.c=d.c)(hf:d.fits):d'.fits:=by
 have:=Doc.fits.c (n:=4000000) hf hf.2.2.2.2.2.2.1 hf.2.2.2.2.2.2.2.2.1 hf.2.2.2.2.2.2.2.2.2.2
 rw [←h] at this
 exact this.doc (Sz _)
theorem N7 (w:Su)(ds ms zd:Array Sy):(((w.alloc (.cells ds 27)).alloc (.cells ms 137)).alloc (.cells zd 27)).heap[w.heap.size]? =some (.cells ds 27 (0,0))∧(((w.alloc (.cells ds 27)).alloc (.cells ms 137)).alloc (.cells zd 27)).heap[w.heap.size+1]? =some (.cells ms 137 (0,0))∧(((w.alloc (.cells ds 27)).alloc (.cells ms 137)).alloc (.cells zd 27)).heap[w.heap.size+1+1]? =some (.cells zd 27 (0,0)):=by
 refine⟨?_,?_,?_⟩
 · rw [SC _ _ _ (by simp;try omega),SC _ _ _ (by simp)]
   exact Sv w _
 · rw [SC _ _ _ (by simp)]
   have:=Sv (w.alloc (.cells ds 27)) (.cells ms 137)
   rwa [SE] at this
 · have:=Sv ((w.alloc (.cells ds 27)).alloc (.cells ms 137)) (.cells zd 27)
   rwa [SE,SE] at this
end Go.Proofs.YtnlnmbcaongehaaGreatDoor
namespace Go.Proofs.YtnlnmbcaongehaaGreatDoor
open Go.RowKit
attribute [local go_sem ↓] Go.wp_at_zero Go.wp_at_succ
def Doc.apart (d:Doc):Prop:=∃ t:Nat→Nat,(∀ b,d_ d.ra d.rG b→t b=1)∧(∀ b,d_ d.ea d.eV b→t b=2)∧(∀ x∈d.eV,∀ b,x.uses b→t b=3)∧∀ b,d_ d.ca d.cM b→t b=4
def pH (c:DocC)(w:Su)(e:Ending)(w':Su):Prop:=∃ d:Doc,e=.returned (.agg d.enc.toArray)∧d.c=c∧d.lies w'∧(∀ b,d.uses b→w.heap.size≤b)∧SG w.heap.size w w'∧d.apart∧w'.ownsRow w.heap.size 50 7 (.slice d.ea d.eV.length d.ec) d.eV.length (d.eV.flatMap Ev.enc)∧w'.ownsRow w.heap.size 52 8 (.slice d.ca d.cM.length d.cc) d.cM.length (d.cM.flatMap Cm.enc)
theorem oV {w:Su} {B B' e k n:Nat} {v:Sy} {xs:List Sy} (h:w.ownsRow B e k v n xs)(hB:B'≤B):w.ownsRow B' e k v n xs:=⟨h.1,h.2.imp id fun⟨g,cap,cur,q1,q2,q3⟩=>⟨g,cap,cur,q1,by omega,q3⟩⟩
open Classical in
theorem Di {d:Doc} {n g:Nat} (h1:∀ b,d_ d.ra d.rG b→b<n)(h2:∀ b,d_ d.ea d.eV b→b=g)(hg:n≤g)(h3:∀ x∈d.eV,∀ b,x.uses b→n≤b∧b≠g)(h4:∀ b,d_ d.ca d.cM b→b<n∧¬ d_ d.ra d.rG b):d.apart:=by
 refine⟨fun b=>if b=g then 2 else if n≤b then 3 else if d_ d.ra d.rG b then 1 else 4,fun b hb=>?_,fun b hb=>?_,fun x hx b hb=>?_,fun b hb=>?_⟩
 · have:=h1 b hb
   show(if b=g then 2 else if n≤b then 3 else if d_ d.ra d.rG b then 1 else 4)=1
   rw [if_neg (by omega),if_neg (by omega),if_pos hb]
 · show(if b=g then 2 else if n≤b then 3 else if d_ d.ra d.rG b then 1 else 4)=2
   rw [if_pos (h2 b hb)]
 · obtain⟨q1,q2⟩:=h3 x hx b hb
   show(if b=g then 2 else if n≤b then 3 else if d_ d.ra d.rG b then 1 else 4)=3
   rw [if_neg q2,if_pos q1]
 · obtain⟨q1,q2⟩:=h4 b hb
   show(if b=g then 2 else if n≤b then 3 else if d_ d.ra d.rG b then 1 else 4)=4
   rw [if_neg (by omega),if_neg (by omega),if_neg q2]
theorem CG {α β:Type} {a1 a3:Option Addr} {xs:List α} {ys:List β} (hne:∀ x y,a1=some x→a3=some y→x.block≠y.block) {b:Nat} (h:d_ a3 ys b):¬ d_ a1 xs b:=by
 rintro ⟨_,ad,h2,e⟩
 obtain⟨_,ad',h2',e'⟩:=h
 exact hne ad ad' h2 h2' (e.trans e'.symm)
theorem Ey {d:Doc} {w wc w5 wr w':Su} {a1 a3:Option Addr} {c1 c3 g cap:Nat} (hS1:af 7 Reg.enc Flat wc a1 d.rG)(wW:af 8 Cm.enc Flat wc a3 d.cM)(hf1:∀ ad,a1=some ad→w.heap.size+2≤ad.block)(hf3:∀ ad,a3=some ad→w.heap.size+2≤ad.block)(hne:∀ x y,a1=some x→a3=some y→x.block≠y.block)(hws:w.heap.size+2≤wc.heap.size)(hoc:wc.ownsRow (w.heap.size+2) 52 8 (.slice a3 d.cM.length c3) d.cM.length (d.cM.flatMap Cm.enc))
 (h45:wc.heap.size≤w5.heap.size∧∀ b,b<wc.heap.size→b≠w.heap.size→w5.heap[b]? =wc.heap[b]?) (hg:wc.heap.size≤g) (hR:vJ wc.heap.size d.eV g cap d.eV.length w5 wr) (hw':wr.heap.size≤w'.heap.size∧∀ b,b≠w.heap.size+1→w'.heap[b]? =wr.heap[b]?) (hb:SG w.heap.size w w') :
 pH d.c w (.returned (.agg #[.string d.title,.string d.lang,.int .u8 d.rate,.bool d.drop,.int .i64 d.last,.slice a1 d.rG.length c1,.slice (some ⟨g,0,none⟩) d.eV.length cap,.slice a3 d.cM.length c3])) w':=by
 obtain⟨zs,z1,z2,z3,z4,z5,z6⟩:=hR
 have hgl:=z3.lt g rfl
 have hF:∀ b,b<wc.heap.size→w.heap.size+2≤b→w'.heap[b]? =wc.heap[b]?:=fun b h1 h2=>by
  rw [hw'.2 b (by omega),z6 b (by omega) (by omega),h45.2 b h1 (by omega)]
 refine⟨⟨d.title,d.lang,d.rate,d.drop,d.last,a1,c1,d.rG,some ⟨g,0,none⟩,cap,zs,a3,c3,d.cM⟩,by simp only [Doc.enc,z1],by simp only [Doc.c,Doc.hd,z2],⟨af.frame hS1 (by omega) (fun b hu=>?_) (fun _ _ _=>trivial),?_,af.frame wW (by omega) (fun b hu=>?_) (fun _ _ _=>trivial)⟩,fun b hu=>?_,hb,Di (n:=wc.heap.size) (g:=g) (fun b hu=>bL hS1 hu) (fun b hu=>by obtain⟨_,ad,e,rfl⟩:=hu;obtain rfl:=SH e;rfl) hg (fun z hz b hu=>?_) (fun b hu=>⟨bL wW hu,CG hne hu⟩),?_,oV (ah hoc fun b q=>hF b (hoc.lt b q).2 (hoc.lt b q).1) (by omega)⟩
 · have h1:=bL hS1 hu
   obtain⟨_,ad,h2,rfl⟩:=hu
   exact hF _ h1 (hf1 ad h2)
 · rw [←z1] at z3
   obtain⟨a',c',he,hS⟩:=ay (k:=7) (enc:=Ev.enc) (Ok:=Ev.lies) (fun _=>rfl) z3 (fun z hz=>by
    obtain⟨j,hj,rfl⟩:=SJ hz
    exact(z4 j _ (SI hj)).1)
   simp only [Sy.slice.injEq] at he
   obtain⟨rfl,_,rfl⟩:=he
   refine kJ.frame hS hw'.1 fun b hu=>hw'.2 b ?_
   rcases hu with⟨_,ad,e,rfl⟩|⟨z,hz,hu⟩
   · obtain rfl:=SH e
     simp only
     omega
   · obtain⟨j,hj,rfl⟩:=SJ hz
     have:=((z4 j _ (SI hj)).2 b hu).2 (by rw [←z1];exact hj)
     omega
 · have h1:=bL wW hu
   obtain⟨_,ad,h2,rfl⟩:=hu
   exact hF _ h1 (hf3 ad h2)
 · rcases hu with⟨_,ad,h2,rfl⟩|(⟨_,ad,e,rfl⟩|⟨z,hz,hu⟩)|⟨_,ad,h2,rfl⟩
   · have:=hf1 ad h2
     omega
   · obtain rfl:=SH e
     simp only
     omega
   · obtain⟨j,hj,rfl⟩:=SJ hz
     have:=((z4 j _ (SI hj)).2 b hu).2 (by rw [←z1];exact hj)
     omega
   · have:=hf3 ad h2
     omega
 · obtain⟨j,hj,rfl⟩:=SJ hz
   have q:=(z4 j _ (SI hj)).2 b hu
   exact⟨q.2 (by rw [←z1];exact hj),q.1⟩
 · show w'.ownsRow w.heap.size 50 7 (.slice (some ⟨g,0,none⟩) zs.length cap) zs.length (zs.flatMap Ev.enc)
   rw [z1]
   exact oV (ah z3 fun b q=>hw'.2 b (by have:=(z3.lt b q).1;omega)) (by omega)
theorem B9 {d:Doc} {w wc w':Su} {a1 a2 a3:Option Addr} {c1 c2 c3:Nat} (hS1:af 7 Reg.enc Flat wc a1 d.rG)(wW:af 8 Cm.enc Flat wc a3 d.cM)(hf1:∀ ad,a1=some ad→w.heap.size+2≤ad.block)(hf3:∀ ad,a3=some ad→w.heap.size+2≤ad.block)(hne:∀ x y,a1=some x→a3=some y→x.block≠y.block)(hoc:wc.ownsRow (w.heap.size+2) 52 8 (.slice a3 d.cM.length c3) d.cM.length (d.cM.flatMap Cm.enc)) {w5:Su} (hws:w.heap.size+2≤wc.heap.size)(hoe:w5.ownsRow wc.heap.size 50 7 (.slice a2 0 c2) 0 [])(EU:∀ b,wc.heap.size≤b→b<w5.heap.size→w'.heap[b]? =w5.heap[b]?)
 (h0:d.eV=[]) (hw':wc.heap.size≤w'.heap.size∧∀ b,b<wc.heap.size→w.heap.size+2≤b→w'.heap[b]? =wc.heap[b]?) (hb:SG w.heap.size w w') :
 pH d.c w (.returned (.agg #[.string d.title,.string d.lang,.int .u8 d.rate,.bool d.drop,.int .i64 d.last,.slice a1 d.rG.length c1,.slice a2 0 c2,.slice a3 d.cM.length c3])) w':=by
 refine⟨⟨d.title,d.lang,d.rate,d.drop,d.last,a1,c1,d.rG,a2,c2,[],a3,c3,d.cM⟩,rfl,by simp only [Doc.c,Doc.hd,h0],⟨af.frame hS1 hw'.1 (fun b hu=>?_) (fun _ _ _=>trivial),.inl rfl,af.frame wW hw'.1 (fun b hu=>?_) (fun _ _ _=>trivial)⟩,fun b hu=>?_,hb,Di (n:=wc.heap.size) (g:=wc.heap.size) (fun b hu=>bL hS1 hu) (fun b hu=>absurd rfl hu.1) (Sz _) (fun z hz=>by cases hz) (fun b hu=>⟨bL wW hu,CG hne hu⟩),oV (ah hoe fun b q=>EU b (hoe.lt b q).1 (hoe.lt b q).2) (by omega),oV (ah hoc fun b q=>hw'.2 b (hoc.lt b q).2 (hoc.lt b q).1) (by omega)⟩
 · have h1:=bL hS1 hu
   obtain⟨_,ad,h2,rfl⟩:=hu
   exact hw'.2 _ h1 (hf1 ad h2)
 · have h1:=bL wW hu
   obtain⟨_,ad,h2,rfl⟩:=hu
   exact hw'.2 _ h1 (hf3 ad h2)
 · rcases hu with⟨_,ad,h2,rfl⟩|(⟨h,_⟩|⟨z,hz,hu⟩)|⟨_,ad,h2,rfl⟩
   · have:=hf1 ad h2
     omega
   · exact absurd rfl h
   · simp at hz
   · have:=hf3 ad h2
     omega
theorem td (d:Doc)(w:Su)(hd:d.lies w)(hf:d.fits):Calls Tryz.prog 54 #[.agg d.enc.toArray] w (pH d.c w):=by
 have Hn:=h_ (fun(zs:List Ev) (z:Ev) (j:Nat) (h:zs[j]? =some z) (e:zs.map Ev.c=d.eV.map Ev.c)=>(show z.rows.length≤4000000∧∀ r∈z.rows,r.runs.length≤4000000 from by
  have h1:(d.eV.map Ev.c)[j]? =some z.c:=by rw [←e,SL,h];rfl
  rw [SL] at h1
  obtain⟨x,hx,Q_⟩:=Option.map_eq_some_iff.1 h1
  have hfx:=hf.2.2.2.2.2.2.2.1 x (SK hx)
  have hr:x.rows.map Row.runs=z.rows.map Row.runs:=congrArg EvC.rows Q_
  have hl:=congrArg List.length hr
  simp only [List.length_map] at hl
  refine⟨by have:=hfx.2.2.2.2.2.2.2.2;omega,fun r hr'=>?_⟩
  have:r.runs∈x.rows.map Row.runs:=by rw [hr];exact SM.2 ⟨r,hr',rfl⟩
  obtain⟨r0,h0,he⟩:=SM.1 this
  rw [←he]
  exact(hfx.2.2.2.2.2.2.2.1 r0 h0).2.1))
 have HCR:=h_ (fun(w1:Su) (h:SG w.heap.size w w1)=>uL d.ra d.rc d.rG w1 (hd.1.later h) hf.2.2.2.2.2.2.1)
 have mH:=h_ (fun(w1:Su) (h:SG w.heap.size w w1)=>uJ d.ca d.cc d.cM w1 (hd.2.2.later h) hf.2.2.2.2.2.2.2.2.2.2)
 have HCE:=h_ (fun(w1:Su) (h:SG w.heap.size w w1)=>uH d.ea d.ec d.eV w1 (hd.2.1.later h) hf.2.2.2.2.2.2.2.2.1)
 have N1:=h_ (fun(w1:Su) (h:SG w.heap.size w w1)=>hd.2.1.later h)
 have HQ:=h_ (fun(d':Doc) (w':Su) (h1:d'.c=d.c) (h2:d'.lies w') (h3:∀ b,d'.uses b→w.heap.size≤b) (h4:SG w.heap.size w w') (h5:Doc.apart d') h6 h7=>(show pH d.c w (.returned (.agg d'.enc.toArray)) w' from⟨d',rfl,h1,h2,h3,h4,h5,h6,h7⟩))
 have hel:=hf.2.2.2.2.2.2.2.2.1
 have RF:=h_ (fun(wc w5 wr w':Su) (a1 a3:Option Addr) (c1 c3 g cap:Nat) hS1 wW hf1 hf3 hne hws hoc h45 hg hR hw' hb=>Ey (d:=d) (w:=w) (wc:=wc) (w5:=w5) (wr:=wr) (w':=w') (a1:=a1) (a3:=a3) (c1:=c1) (c3:=c3) (g:=g) (cap:=cap) hS1 wW hf1 hf3 hne hws hoc h45 hg hR hw' hb)
 have P6:=h_ (fun(wc w' w5:Su) (a1 a2 a3:Option Addr) (c1 c2 c3:Nat) hS1 wW hf1 hf3 hne hoc hws hoe EU h0 hw' hb=>B9 (w5:=w5) (d:=d) (w:=w) (wc:=wc) (w':=w') (a1:=a1) (a2:=a2) (a3:=a3) (c1:=c1) (c2:=c2) (c3:=c3) hS1 wW hf1 hf3 hne hoc hws hoe EU h0 hw' hb)
 generalize pH d.c w=Q at *
 obtain⟨title,lang,rate,drop,last,ra,rc,rG,ea,ec,eV,ca,cc,cM⟩:=d
 simp only [Doc.enc] at *
 clear hd hf
 generalize hds:#[Sy.string title,.string lang,.int .u8 rate,.bool drop,.int .i64 last,.slice ra rG.length rc,.slice ea eV.length ec,.slice ca cM.length cc]=ds
 obtain⟨zd,hzd⟩:∃ zd:Array Sy,zd=#[.string ⟨#[]⟩,.string ⟨#[]⟩,.int .u8 0,.bool false,.int .i64 0,.slice none 0 0,.slice none 0 0,.slice none 0 0]:=⟨_,rfl⟩
 have f5:=aT w ds zd 27 27 5 (.slice ra rG.length rc) (by rw [←hds];rfl)
 have f6:=aT w ds zd 27 27 6 (.slice ea eV.length ec) (by rw [←hds];rfl)
 have f7:=aT w ds zd 27 27 7 (.slice ca cM.length cc) (by rw [←hds];rfl)
 have HB:=h_ (fun(w1:Su) (h:SG (w.heap.size+2) ((w.alloc (.cells ds 27)).alloc (.cells zd 27)) w1)=>j4 h)
 have hb0:SG (w.heap.size+2) ((w.alloc (.cells ds 27)).alloc (.cells zd 27)) ((w.alloc (.cells ds 27)).alloc (.cells zd 27)):=SD _ _
 have hsz:((w.alloc (.cells ds 27)).alloc (.cells zd 27)).heap.size=w.heap.size+2:=by simp
 have hk1:((w.alloc (.cells ds 27)).alloc (.cells zd 27)).heap[w.heap.size]? =some (.cells ds 27 (0,0)):=by
  rw [SC _ _ _ (by simp)]
  exact Sv w _
 have hk2:((w.alloc (.cells ds 27)).alloc (.cells zd 27)).heap[w.heap.size+1]? =some (.cells zd 27 (0,0)):=by
  have:=Sv (w.alloc (.cells ds 27)) (.cells zd 27)
  rwa [SE] at this
 rw [hzd] at f5 f6 f7 HB hb0 hsz hk1 hk2
 clear hzd zd
 generalize hW0:(w.alloc (.cells ds 27)).alloc (.cells #[.string ⟨#[]⟩,.string ⟨#[]⟩,.int .u8 0,.bool false,.int .i64 0,.slice none 0 0,.slice none 0 0,.slice none 0 0] 27)=W0 at *
 have HW0:=h_ hW0
 have bu:=h_ hsz
 have Qm:=h_ hk1
 have RN:=h_ hk2
 have HDS:=h_ hds
 have HT0:=h_ (fun(w2 w3:Su) (h:SG (w.heap.size+2) W0 w2) (h3:SG w2.heap.size w2 w3)=>(h.trans (h3.mono (by have:=h.size;rw [bu.out] at this;exact this)):SG (w.heap.size+2) W0 w3))
 have iY:=h_ (fun(w2:Su) (h:SG (w.heap.size+2) W0 w2)=>(show w.heap.size+2≤w2.heap.size by have:=h.size;rw [bu.out] at this;exact this))
 have hbd:SG (w.heap.size+2) W0 W0.drew:=hb0.drew
 have zf:∀ (w':Su),SG (w.heap.size+2) W0 w'→∀ (j:Nat),w'.frozen? ⟨w.heap.size,j,none⟩=false:=fun w' h j=>by simp [SF,(h.block w.heap.size (by omega)).trans Qm.out]
 clear hW0 hsz hk1 hk2
 go_enter Tryz.func54,Tryz.ntmps54
 subst hds
 go_upto_region 1 with fail
 rw [HW0.out]
 go_cut [] (fun wx=>∃ a1 c1 a3 c3,wx.heap[w.heap.size]? =some (.cells #[Sy.string title,.string lang,.int .u8 rate,.bool drop,.int .i64 last,.slice a1 rG.length c1,.slice ea eV.length ec,.slice a3 cM.length c3] 27 (0,0))∧wx.heap[w.heap.size+1]? =some (.cells #[.string ⟨#[]⟩,.string ⟨#[]⟩,.int .u8 0,.bool false,.int .i64 0,.slice none 0 0,.slice none 0 0,.slice none 0 0] 27 (0,0))∧af 7 Reg.enc Flat wx a1 rG∧af 8 Cm.enc Flat wx a3 cM∧(∀ ad,a1=some ad→w.heap.size+2≤ad.block)∧(∀ ad,a3=some ad→w.heap.size+2≤ad.block)∧(∀ x y,a1=some x→a3=some y→x.block≠y.block)∧wx.ownsRow (w.heap.size+2) 52 8 (.slice a3 cM.length c3) cM.length (cM.flatMap Cm.enc)∧SG w.heap.size w wx∧w.heap.size+2≤wx.heap.size)
 case first =>
  go_region_with (first
   | (go_at_call 106;refine(HCR.out _ (HB.out _ hbd)).mono ?_;rintro e w1 ⟨v1,rfl,ho1,hb1⟩;have hc1:=HT0.out _ _ hbd hb1;obtain⟨a1,c1,rfl,hS1⟩:=ay (k:=7) (enc:=Reg.enc) (Ok:=Flat) (fun _=>rfl) ho1 (fun _ _=>trivial);have fD:=h_ (fun ad (e:a1=some ad)=>(ho1.lt ad.block (by rw [e];rfl)));have lF:=h_ hS1;clear ho1 hb1 hS1)
   | (go_at_call 107;refine(mH.out _ (HB.out _ hc1)).mono ?_;rintro e w3 ⟨v3,rfl,ho3,hb3⟩;have hc3:=HT0.out _ _ hc1 hb3;obtain⟨a3,c3,rfl,wW⟩:=ay (k:=8) (enc:=Cm.enc) (Ok:=Flat) (fun _=>rfl) ho3 (fun _ _=>trivial);have qk:=h_ (fun ad (e:a3=some ad)=>(ho3.lt ad.block (by rw [e];rfl)).1);have xR:=h_ wW;have HB3:=h_ hb3;have qW:=h_ ho3;clear ho3 hb3 wW))
  all_goals
   have hk3:=(hc3.block w.heap.size (by omega)).trans Qm.out
   have hz3:=(hc3.block (w.heap.size+1) (by omega)).trans RN.out
   have hs0:=bu.out
   have Qr:=h_ (fun(ad:Addr) (e:a1=some ad)=>(show w.heap.size+2≤ad.block from by rw [←hs0];exact(fD.out ad e).1))
   have Qq:=h_ (fun(ad:Addr) (e:a3=some ad)=>(show w.heap.size+2≤ad.block from by have:=qk.out ad e;have:=iY.out _ hc1;omega))
   clear f5 f6 f7 zf
   go_wp2_with fail
   go_meet
   refine⟨a1,c1,a3,c3,?_,?_,uZ (af.keeps Flat.keeps _ _ _ _ HB3.out lF.out) (fun ad e=>by have:=Qr.out ad e;omega),uZ xR.out (fun ad e=>by have:=Qq.out ad e;omega),Qr.out,Qq.out,(fun x y hx hy e=>by have h1:=(fD.out x hx).2;have h2:=qk.out y hy;omega),oV (ah qW.out fun b q=>(by have:=(qW.out.lt b q).1;have:=iY.out _ hc1;rw [SA _ _ _ _ (by simp only;omega),SA _ _ _ _ (by simp only;omega)])) (iY.out _ hc1),SB (SB (HB.out _ hc3) (by dsimp only;omega) _) (by dsimp only;omega) _,by have:=iY.out _ hc3;simpa using this⟩
   · exact Sx _ _ _ _ _ _ (Sx _ _ _ _ _ _ hk3)
   · rw [SA _ _ _ _ (by simp),SA _ _ _ _ (by simp)]
     exact hz3
 case rest =>
  obtain⟨a1,c1,a3,c3,hk1,hk2,hS1,wW,hf1,hf3,hne,hoc,hbw,hws⟩:=hcut
  clear hb0 hbd f5 f6 f7 zf Qm RN HT0 iY
  have c0:∀ (j:Nat),wc.cell? ⟨w.heap.size,j,none⟩=_:=fun j=>Sw _ _ j _ 27 (0,0) hk1
  have QF:=h_ (HCE.out _ hbw)
  have Qm:=h_ hk1
  have RN:=h_ hk2
  have lF:=h_ hS1
  have xR:=h_ wW
  have fD:=h_ hf1
  have qk:=h_ hf3
  have xT:=h_ hne
  have NX:=h_ hoc
  have iz:=h_ hbw
  clear hk1 hk2 hS1 wW hf1 hf3 hne hoc hbw HCE HCR mH
  go_wp2_with fail
  refine QF.out.mono ?_
  rintro e w4 ⟨v4,rfl,Mn,hb4⟩
  obtain⟨ae,ce,rfl⟩:∃ av cv,v4=.slice av eV.length cv:=by
   rcases Mn.2 with⟨rfl,h0⟩|⟨g,cap,_,rfl,_⟩
   · exact⟨none,0,by rw [h0]⟩
   · exact⟨_,_,rfl⟩
  have hk4:=(hb4.block w.heap.size (by omega)).trans Qm.out
  have c4:∀ (j:Nat),w4.cell? ⟨w.heap.size,j,none⟩=_:=fun j=>Sw _ _ j _ 27 (0,0) hk4
  have z4:∀ (j:Nat),w4.frozen? ⟨w.heap.size,j,none⟩=false:=fun j=>by simp [SF,hk4]
  obtain⟨w5,EU⟩:∃ w5,w5=w4.setCell ⟨w.heap.size,6,none⟩ (.slice ae eV.length ce):=⟨_,rfl⟩
  have KO:=h_ EU
  have hk5:w5.heap[w.heap.size]? =some (.cells #[Sy.string title,.string lang,.int .u8 rate,.bool drop,.int .i64 last,.slice a1 rG.length c1,.slice ae eV.length ce,.slice a3 cM.length c3] 27 (0,0)):=EU▸Sx _ _ _ _ _ _ hk4
  have Oz:w5.heap[w.heap.size+1]? =some (.cells #[.string ⟨#[]⟩,.string ⟨#[]⟩,.int .u8 0,.bool false,.int .i64 0,.slice none 0 0,.slice none 0 0,.slice none 0 0] 27 (0,0)):=by
   rw [EU,SA _ _ _ _ (by simp),hb4.block _ (by omega)]
   exact RN.out
  have h45:wc.heap.size≤w5.heap.size∧∀ b,b<wc.heap.size→b≠w.heap.size→w5.heap[b]? =wc.heap[b]?:=by
   refine⟨by rw [EU];simpa using hb4.size,fun b h1 h2=>?_⟩
   rw [EU,SA _ _ _ _ (by simpa using h2),hb4.block b h1]
  have hb5:SG w.heap.size w w5:=by
   rw [EU]
   exact(iz.out.trans (hb4.mono iz.out.size)).setCell (by simp) _
  have c5:∀ (j:Nat),w5.cell? ⟨w.heap.size,j,none⟩=_:=fun j=>Sw _ _ j _ 27 (0,0) hk5
  have Mm:w5.ownsRow wc.heap.size 50 7 (.slice ae eV.length ce) eV.length (eV.flatMap Ev.enc):=by
   rw [EU]
   refine Su.ownsRow.kept Mn (row:=some w.heap.size) ⟨rfl,rfl,rfl,by simp,fun k _ hk=>SA _ _ _ _ (fun e=>hk (by simp [e]))⟩ (Classical.or_iff_not_imp_left.2 fun _ e=>?_)
   have:=(Mn.lt _ e).1
   omega
  have Nt:=h_ h45
  have uS:=h_ hb5
  have KU:=h_ hk5
  have HZ5:=h_ Oz
  have hs5:=h45.1
  clear EU hk4 hb4 Mn h45 hb5 hk5 Oz c0 QF
  go_wp2_with fail
  rw [←KO.out]
  have cz:∀ (w':Su),w'.heap[w.heap.size+1]? =w5.heap[w.heap.size+1]?→∀ (j:Nat),w'.cell? ⟨w.heap.size+1,j,none⟩=_:=fun w' h j=>Sw _ _ j _ 27 (0,0) (h.trans HZ5.out)
  have zz:∀ (w':Su),w'.heap[w.heap.size+1]? =w5.heap[w.heap.size+1]?→∀ (j:Nat),w'.frozen? ⟨w.heap.size+1,j,none⟩=false:=fun w' h j=>by simp [SF,h.trans HZ5.out]
  by_cases he:eV.length=0
  · obtain rfl:=List.eq_nil_of_length_eq_zero he
    have cz5:=cz w5 rfl
    have zz5:=zz w5 rfl
    have HO5:=h_ Mm
    clear cz zz Mm c4 z4
    simp only [List.length_nil] at *
    refine wp_loop_rounds 1 ?_
    rw [rounds_succ]
    go_wp2_with fail
    refine bodyPost_ret (v:=.agg #[.string title,.string lang,.int .u8 rate,.bool drop,.int .i64 last,.slice a1 rG.length c1,.slice ae 0 ce,.slice a3 cM.length c3]) (by simp [results,Tryz.results54,go_sem,cz5]) rfl ?_
    refine P6.out wc _ w5 a1 ae a3 c1 ce c3 lF.out xR.out fD.out qk.out xT.out NX.out hws HO5.out (fun b h1 h2=>by repeat rw [SA _ _ _ _ (by simp only;omega)]) (by first|rfl|trivial) ⟨?_,fun b h1 h2=>?_⟩ ?_
    · simpa using Nt.out.1
    · repeat rw [SA _ _ _ _ (by simp only;omega)]
      exact Nt.out.2 b h1 (by omega)
    · repeat refine SB ?_ (by simp only;omega) _
      exact uS.out
  · obtain⟨g,cp,hve⟩:=kZ Mm (by omega)
    simp only [Sy.slice.injEq,true_and] at hve
    obtain⟨rfl,rfl⟩:=hve
    have hgl:=Mm.lt g rfl
    have hgw:=hgl.1
    have hg5:=hgl.2
    have ll:=h_ (show vJ wc.heap.size eV g ce 0 w5 w5 from⟨eV,rfl,rfl,⟨Mm.1,Mm.2.imp id (fun⟨g,cap,cur,q1,q2,q3⟩=>⟨g,cap,cur,q1,by omega,q3⟩)⟩,fun j z hz=>⟨nD (N1.out w5 uS.out) (SK hz),fun b hu=>⟨by
     have:=Ev.uses_lt (nD (N1.out w (SD _ _)) (SK hz)) hu
     omega,fun h=>by omega⟩⟩,Sz _,fun _ _ _=>rfl⟩)
    have HCZ:=h_ cz
    have HZZ:=h_ zz
    clear Mm cz zz c4 z4 c5 hgl N1
    go_loopw [20] (fun i wr=>∃ k:Nat,k≤eV.length∧i=.int .i64 k∧vJ wc.heap.size eV g ce k w5 wr∧SG w.heap.size w wr) (fun i _=>eV.length-(intOf i).toNat)
    case atStart=>exact⟨0,by omega,rfl,ll.out,uS.out⟩
    case round =>
     clear ll
     obtain⟨k,hk,rfl,hR,hbr⟩:=hrel
     have HRR:=h_ hR
     obtain⟨zs,z1,z2,z3,z4,z5,z6⟩:=hR
     have kI:=h_ hbr
     have hkr:=(z6 w.heap.size (by omega) (by omega)).trans KU.out
     by_cases hlt:k<eV.length
     · have ET:zs[k]? =some zs[k]:=SI (by omega)
       generalize zs[k]=z at ET
       have hgr:g<wr.heap.size:=(z3.lt g rfl).2
       have dd:∀ (j:Nat) (v:Sy),z.enc[j]? =some v→wr.cell? ⟨g,k*7+j,none⟩=some v:=fun j v hv=>by
        have hj:j<7:=(List.getElem?_eq_some_iff.1 hv).1
        rw [z3.cellAt (k*7+j) (by omega)]
        exact lP Ev.enc 7 (fun _=>rfl) zs k z j v ET hv
       have hfz:=Hn.out zs z k ET z2
       have hzl:=(z4 k z ET).1
       obtain⟨xe,hxe⟩:∃ xe,xe=z.enc.toArray:=⟨_,rfl⟩
       have qX:=h_ (fun(w1:Su) (h:SG wr.heap.size wr w1)=>hJ z w1 (Ev.keeps _ _ _ h hzl) hfz.2 hfz.1)
       have HST:=h_ (fun(w1 w2:Su) (y:Ev) hb y_ hyl hyu hw=>vJ.step (w1:=w1) (w2:=w2) (y:=y) ET z1 z2 z3 z4 z5 z6 (by omega) hb y_ hyl hyu hw)
       have tK:=h_ (fun(w1:Su) (h:SG wr.heap.size wr w1) (j:Nat)=>(aH z3 h).frozenAt j)
       generalize z.c=zc at qX HST
       obtain⟨zid,zin,zout,zreg,zkind,zsp,za,zcp,zrows⟩:=z
       have d0:=dd 0 _ rfl;have d1:=dd 1 _ rfl;have d2:=dd 2 _ rfl;have d3:=dd 3 _ rfl;have d4:=dd 4 _ rfl;have d5:=dd 5 _ rfl;have d6:=dd 6 _ rfl
       simp only [Nat.add_zero] at d0
       simp only [Ev.enc] at qX
       clear dd ET hzl hfz z1 z2 z3 z4 z6 hxe xe hbr
       obtain⟨wa,NM⟩:∃ wa,wa=wr.alloc (.cells #[.int .i64 zid,.int .i64 zin,.int .i64 zout,.string zreg,.int .u8 zkind,.string zsp,.slice za zrows.length zcp] 50):=⟨_,rfl⟩
       have HWA:=h_ NM
       have hra:SG wr.heap.size wr wa:=NM▸(SD _ _).alloc (Sz _) _
       have hka:wa.heap[wr.heap.size]? =some (.cells #[.int .i64 zid,.int .i64 zin,.int .i64 zout,.string zreg,.int .u8 zkind,.string zsp,.slice za zrows.length zcp] 50 (0,0)):=NM▸Sv wr _
       have hla:wr.heap.size<wa.heap.size:=by rw [NM];simp
       have cr:=fun(j:Nat)=>Sw wr w.heap.size j _ 27 (0,0) hkr
       have ba:∀ (w':Su),SG wa.heap.size wa w'→∀ (j:Nat),w'.cell? ⟨wr.heap.size,j,none⟩=_:=fun w' h j=>Sw _ _ j _ 50 (0,0) ((h.block _ hla).trans hka)
       have bd:∀ (w':Su),SG wa.heap.size wa w'→∀ (j:Nat),w'.cell? ⟨w.heap.size,j,none⟩=_:=fun w' h j=>Sw _ _ j _ 27 (0,0) ((h.block w.heap.size (by omega)).trans ((hra.block w.heap.size (by omega)).trans hkr))
       have EK:=h_ hra
       have e0:=fun(w':Su) (h:SG wa.heap.size wa w')=>(h.cell (p:=⟨g,k*7,none⟩) (by simp only;omega)).trans ((hra.cell (p:=⟨g,k*7,none⟩) hgr).trans d0)
       have e1:=fun(w':Su) (h:SG wa.heap.size wa w')=>(h.cell (p:=⟨g,k*7+1,none⟩) (by simp only;omega)).trans ((hra.cell (p:=⟨g,k*7+1,none⟩) hgr).trans d1)
       have e2:=fun(w':Su) (h:SG wa.heap.size wa w')=>(h.cell (p:=⟨g,k*7+2,none⟩) (by simp only;omega)).trans ((hra.cell (p:=⟨g,k*7+2,none⟩) hgr).trans d2)
       have e3:=fun(w':Su) (h:SG wa.heap.size wa w')=>(h.cell (p:=⟨g,k*7+3,none⟩) (by simp only;omega)).trans ((hra.cell (p:=⟨g,k*7+3,none⟩) hgr).trans d3)
       have e4:=fun(w':Su) (h:SG wa.heap.size wa w')=>(h.cell (p:=⟨g,k*7+4,none⟩) (by simp only;omega)).trans ((hra.cell (p:=⟨g,k*7+4,none⟩) hgr).trans d4)
       have e5:=fun(w':Su) (h:SG wa.heap.size wa w')=>(h.cell (p:=⟨g,k*7+5,none⟩) (by simp only;omega)).trans ((hra.cell (p:=⟨g,k*7+5,none⟩) hgr).trans d5)
       have e6:=fun(w':Su) (h:SG wa.heap.size wa w')=>(h.cell (p:=⟨g,k*7+6,none⟩) (by simp only;omega)).trans ((hra.cell (p:=⟨g,k*7+6,none⟩) hgr).trans d6)
       have ez:=fun(w':Su) (h:SG wa.heap.size wa w') (j:Nat)=>tK.out w' (EK.out.trans (h.mono EK.out.size)) j
       have had:SG wa.heap.size wa wa.drew:=(SD _ _).drew
       clear NM hka hkr hra
       go_upto_region 6 with fail
       rw [←HWA.out]
       clear d0 d1 d2 d3 d4 d5 d6 cr
       go_region_with (go_at_call 40;refine(qX.out _ (EK.out.trans (had.mono EK.out.size))).mono ?_;rintro e w1 ⟨y,rfl,y_,hyl,hyu,hyb⟩;have hw1:SG wa.heap.size wa w1:=had.trans hyb;have HY:=h_ (And.intro y_ (And.intro hyl hyu));clear y_ hyl hyu hyb;obtain⟨yid,yin,yout,yreg,ykind,ysp,ya,ycp,yrows⟩:=y;simp only [Ev.enc])
       all_goals
        have hrw:=EK.out.trans (hw1.mono EK.out.size)
        have R:=h_ (HST.out w1 _ (⟨yid,yin,yout,yreg,ykind,ysp,ya,ycp,yrows⟩:Ev) hrw HY.out.1 HY.out.2.1 (fun b hu=>Nat.le_trans EK.out.size (HY.out.2.2 b hu)) rfl)
        have HRW:=h_ hrw
        clear HY HST qX tK hrw
        go_wp2_with fail
        go_roundw
        case rel =>
         refine⟨k+1,by omega,by go_num,R.out,?_⟩
         repeat refine SB ?_ (by simp only;omega) _
         exact kI.out.trans (HRW.out.mono kI.out.size)
        all_goals first|(simp [intOf];done)|(simp [intOf];omega)
     · obtain rfl:k=eV.length:=by omega
       have hzr:=z6 (w.heap.size+1) (by omega) (by omega)
       have czr:=HCZ.out wr hzr
       have zzr:=HZZ.out wr hzr
       have cr:=fun(j:Nat)=>Sw wr w.heap.size j _ 27 (0,0) hkr
       clear z1 z2 z3 z4 z6 hkr hzr hbr
       go_wp2_with fail
       refine bodyPost_ret (v:=.agg #[.string title,.string lang,.int .u8 rate,.bool drop,.int .i64 last,.slice a1 rG.length c1,.slice (some ⟨g,0,none⟩) eV.length ce,.slice a3 cM.length c3]) (by simp [results,Tryz.results54,go_sem,czr]) rfl ?_
       refine RF.out wc w5 wr _ a1 a3 c1 c3 g ce lF.out xR.out fD.out qk.out xT.out hws NX.out Nt.out hgw HRR.out ⟨?_,fun b hb=>?_⟩ ?_
       · simp
       · repeat rw [SA _ _ _ _ (by simpa using hb)]
       · repeat refine SB ?_ (by simp only;omega) _
         exact kI.out
end Go.Proofs.YtnlnmbcaongehaaGreatDoor
