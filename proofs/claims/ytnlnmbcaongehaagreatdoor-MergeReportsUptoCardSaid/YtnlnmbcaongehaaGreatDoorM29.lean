/- The chapter's example of a merge: two merges of documents with one event, and what they give. document.Same of any two documents: whether their contents are equal. (printed by gen_docsameall.py) -/
import Derived.Test.YtnlnmbcaongehaaGreatDoorM18
set_option linter.unusedVariables false
set_option linter.unusedSimpArgs false
set_option maxRecDepth 100000
set_option maxHeartbeats 12800000
open Go.Lib renaming hid→h_
open Go.Lib renaming allEq→fm
open Bool renaming and_eq_true→fp
open List renaming setIfInBounds_toArray→ft,getElem_cons_zero→fu,getElem_cons_succ→fw,getElem_toArray→fB,set_cons_zero→fC,set_cons_succ→fD,map_id→fE
open Go renaming wpAnyH_take→fF,wpAnyH_ready→fG,wp_region_held_drew→fH,World→fI,wpAnyH_done→fJ
open Go.RowKit renaming Below→fK
open Go.Act renaming put→fL
open Array renaming toArray_toList→fM
open Go.AllReadyH renaming cons→fN,nil→fO
namespace Go.Proofs.YtnlnmbcaongehaaGreatDoor
open Go.RowKit
theorem zkd {x y z:EvC} (h1:x.id=1)(h2:y.id=1)(h3:z.id=1):bE [x] [y] [z]=[1]:=by
 obtain⟨q1,q2⟩:=zaX [x] [y] [z]
 refine zcY (fun a b:Int=>a<b) (fun a h=>by omega) (fun a b h h'=>by omega) _ _ q1 (by simp) fun k=>?_
 rw [q2 k]
 simp [h1,h2,h3]
 exact eq_comm
theorem zkF:ck [] [] []=[]:=zbS
theorem zjq (x:EvC):dD [x]=[x]:=(zaU (List.Perm.refl _) (by simp) (by simp)).symm
theorem zik (hx hy hz:Hd) {x y z:EvC} (last:Int)(h1:x.id=1)(h2:y.id=1)(h3:z.id=1) :
 zht ⟨hx,[],[x],[]⟩ ⟨hy,[],[y],[]⟩ ⟨hz,[],[z],[]⟩ last=(⟨mgHd hx hy hz last,[],[(dv [] (eV x y z,bf x y z)).1],[]⟩,zcy hx hy hz++(dv [] (eV x y z,bf x y z)).2.map fun f=>⟨3,1,ak,f⟩):=by
 have f1:mgEv [] [x] [y] [z] 1=some (dv [] (eV x y z,bf x y z)):=by simp [mgEv,b8,evAt,h1,h2,h3,zag]
 have f2:aR [] [] []=[]:=rfl
 unfold zht
 simp only [zkd h1 h2 h3,zkF,f2]
 have g1:eH [] [x] [y] [z] [1]=[(dv [] (eV x y z,bf x y z)).1]:=by simp [eH,f1]
 have g2:cg [] [x] [y] [z] [1]=(dv [] (eV x y z,bf x y z)).2.map fun f=>⟨3,1,ak,f⟩:=by simp [cg,f1]
 have g3:bY [] [] [] []=[]:=rfl
 rw [g3,g1,g2,zjq]
 simp [eU,dz,bD]
def sB18:ByteArray:=⟨#[66]⟩
def sA18:ByteArray:=⟨#[65]⟩
def hd18:Hd:=⟨⟨#[]⟩,⟨#[]⟩,3,false,1⟩
def ev18 (inn out:Int)(t:ByteArray):EvC:=⟨1,inn,out,⟨#[]⟩,1,⟨#[]⟩,[[⟨t,0,false,false,⟨#[]⟩⟩]]⟩
def aw18 (inn out:Int)(t:ByteArray):DocC:=⟨hd18,[],[ev18 inn out t],[]⟩
theorem zgS (a b c a' b' c':Int)(t t' t'':ByteArray):zdf (aw18 a a' t) (aw18 b b' t') (aw18 c c' t'')=[] :=
 zjr (fun x hx=>by obtain rfl:=List.mem_singleton.1 hx;rfl) (fun x hx=>by cases hx)
theorem zlf:zah (aw18 0 50 sA18) (aw18 10 50 sA18) (aw18 0 50 sB18)=0∧zcA (aw18 0 50 sA18) (aw18 10 50 sA18) (aw18 0 50 sB18)=aw18 10 50 sB18∧mgCl (aw18 0 50 sA18) (aw18 10 50 sA18) (aw18 0 50 sB18)=[]:=by
 have h0:aO (aw18 0 50 sA18) (aw18 10 50 sA18) (aw18 0 50 sB18)=0:=by kernel_rfl
 obtain⟨h1,h2⟩:=fh (zgS 0 10 0 50 50 50 sA18 sA18 sB18)
 have h3:cO (aw18 10 50 sA18) (aw18 0 50 sB18)=1:=by kernel_rfl
 have h4:zf1 (aw18 0 50 sA18) (aw18 10 50 sA18) (aw18 0 50 sB18)=(aw18 10 50 sB18,[]):=by
  rw [h1,h3]
  refine(zik hd18 hd18 hd18 1 (x:=ev18 0 50 sA18) (y:=ev18 10 50 sA18) (z:=ev18 0 50 sB18) rfl rfl rfl).trans ?_
  kernel_rfl
 have he:zah (aw18 0 50 sA18) (aw18 10 50 sA18) (aw18 0 50 sB18)=0:=by
  unfold zah
  rw [h0,h2,h3,h4]
  kernel_rfl
 refine⟨he,?_,?_⟩
 · unfold zcA
   rw [if_pos he,h4]
 · unfold mgCl
   rw [if_pos he,h4]
theorem zle:zah (aw18 0 50 sA18) (aw18 10 50 sA18) (aw18 0 40 sA18)=0∧zcA (aw18 0 50 sA18) (aw18 10 50 sA18) (aw18 0 40 sA18)=aw18 0 50 sA18∧mgCl (aw18 0 50 sA18) (aw18 10 50 sA18) (aw18 0 40 sA18)=[⟨3,1,ak,dV⟩]:=by
 have h0:aO (aw18 0 50 sA18) (aw18 10 50 sA18) (aw18 0 40 sA18)=0:=by kernel_rfl
 obtain⟨h1,h2⟩:=fh (zgS 0 10 0 50 50 40 sA18 sA18 sA18)
 have h3:cO (aw18 10 50 sA18) (aw18 0 40 sA18)=1:=by kernel_rfl
 have h4:zf1 (aw18 0 50 sA18) (aw18 10 50 sA18) (aw18 0 40 sA18)=(aw18 0 50 sA18,[⟨3,1,ak,dV⟩]):=by
  rw [h1,h3]
  refine(zik hd18 hd18 hd18 1 (x:=ev18 0 50 sA18) (y:=ev18 10 50 sA18) (z:=ev18 0 40 sA18) rfl rfl rfl).trans ?_
  kernel_rfl
 have he:zah (aw18 0 50 sA18) (aw18 10 50 sA18) (aw18 0 40 sA18)=0:=by
  unfold zah
  rw [h0,h2,h3,h4]
  kernel_rfl
 refine⟨he,?_,?_⟩
 · unfold zcA
   rw [if_pos he,h4]
 · unfold mgCl
   rw [if_pos he,h4]
end Go.Proofs.YtnlnmbcaongehaaGreatDoor
namespace Go.Proofs.YtnlnmbcaongehaaGreatDoor
open Go.RowKit
attribute [local go_sem ↓] Go.wp_at_zero Go.wp_at_succ
def zjJ (d d':Doc):Bool:=hdEq d.hd d'.hd&&(fm d_ d.rG d'.rG&&(fm evEq d.evs d'.evs&&fm cmEq d.cms d'.cms))
theorem zba {α β:Type} {eq:α→α→Bool} {f:α→β} (h:∀ x y,eq x y=true↔f x=f y):∀ xs ys:List α,fm eq xs ys=true↔xs.map f=ys.map f
 | [],[]=>by simp [fm]
 | [],y::l=>by simp [fm]
 | x::l,[]=>by simp [fm]
 | x::l,y::m=>by
   simp only [fm,fp,List.map_cons,List.cons.injEq,h,zba h l m]
theorem zkP (d d':Doc):zjJ d d'=true↔d.c=d'.c:=by
 unfold zjJ
 rw [fp,fp,fp]
 rw [zba (f:=id) (eq:=d_) fun x y=>⟨zkD,fun e=>(show x=y from e)▸zdP _⟩,zba (f:=Ev.c) (eq:=evEq) fun x y=>⟨zk8,zkO x y⟩,zba (f:=id) (eq:=cmEq) fun x y=>⟨zk9,fun e=>(show x=y from e)▸zi3 _⟩,fE,fE,fE,fE]
 unfold Doc.c
 rw [DocC.mk.injEq]
 refine and_congr_left fun _=>⟨zk7,fun e=>e▸ziH _⟩
theorem zjI (d d':Doc)(w:fI)(hd:d.lies w)(hd':d'.lies w)(hf:∀ x∈d.evs,x.rows.length≤4000000∧∀ r∈x.rows,r.runs.length≤4000000)(hf':∀ x∈d'.evs,x.rows.length≤4000000∧∀ r∈x.rows,r.runs.length≤4000000)(hr:d.rG.length≤4000000)(hr':d'.rG.length≤4000000)(he:d.evs.length≤4000000)(he':d'.evs.length≤4000000)(hm:d.cms.length≤4000000)(hm':d'.cms.length≤4000000) :
 Calls Tryz.prog 18 #[.agg d.enc.toArray,.agg d'.enc.toArray] w fun e w'=>e=.returned (.bool (zjJ d d'))∧fK w.heap.size w w':=by
 unfold zjJ
 have r1:=fun wx=>zjm d.hd d'.hd wx
 have HE0:=fun(w1:fI) (h:fK w.heap.size w w1)=>zeB d.ea d'.ea d.ec d'.ec d.evs d'.evs w1 (hd.2.1.later h) (hd'.2.1.later h) hf hf' he he'
 have HR0:=fun(w1:fI) (h:fK w.heap.size w w1)=>zdo d.ra d'.ra d.rc d'.rc d.rG d'.rG w1 (hd.1.later h) (hd'.1.later h) hr hr'
 have HC0:=fun(w1:fI) (h:fK w.heap.size w w1)=>zeC d.ca d'.ca d.cc d'.cc d.cms d'.cms w1 (hd.2.2.later h) (hd'.2.2.later h) hm hm'
 generalize hdEq d.hd d'.hd=R0 at *
 generalize fm d_ d.rG d'.rG=RR at *
 generalize fm evEq d.evs d'.evs=RE at *
 generalize fm cmEq d.cms d'.cms=RC at *
 generalize hQ:(fun(e:Ending) (w':fI)=>e=.returned (.bool (R0&&(RR&&(RE&&RC))))∧fK w.heap.size w w')=Q
 have HQ:=h_ (fun w' (hb:fK w.heap.size w w')=>show Q (.returned (.bool (R0&&(RR&&(RE&&RC))))) w' from hQ▸⟨rfl,hb⟩)
 clear hQ
 have HH1:=h_ (fun w1=>zdU d w1)
 have HH2:=h_ (fun w1=>zdU d' w1)
 obtain⟨title,lang,rate,drop,last,ra,rc,rG,ea,ec,evs,ca,cc,cms⟩:=d
 obtain⟨title',lang',rate',drop',last',ra',rc',regs',ea',ec',evs',ca',cc',cms'⟩:=d'
 have HE:=h_ HE0
 have HR:=h_ HR0
 have HC:=h_ HC0
 clear HE0 HR0 HC0 hr hr' he he' hm hm'
 simp only [Doc.enc,Doc.hd,Hd.enc] at *
 generalize hds:#[Value.string title,.string lang,.int .u8 rate,.bool drop,.int .i64 last,.slice ra rG.length rc,.slice ea evs.length ec,.slice ca cms.length cc]=ds
 generalize hqs:#[Value.string title',.string lang',.int .u8 rate',.bool drop',.int .i64 last',.slice ra' regs'.length rc',.slice ea' evs'.length ec',.slice ca' cms'.length cc']=qs
 have f0:=bA w ds qs 27 27 0 (.string title) (by rw [←hds];rfl)
 have f1:=bA w ds qs 27 27 1 (.string lang) (by rw [←hds];rfl)
 have f2:=bA w ds qs 27 27 2 (.int .u8 rate) (by rw [←hds];rfl)
 have f3:=bA w ds qs 27 27 3 (.bool drop) (by rw [←hds];rfl)
 have f4:=bA w ds qs 27 27 4 (.int .i64 last) (by rw [←hds];rfl)
 have f5:=bA w ds qs 27 27 5 (.slice ra rG.length rc) (by rw [←hds];rfl)
 have f6:=bA w ds qs 27 27 6 (.slice ea evs.length ec) (by rw [←hds];rfl)
 have f7:=bA w ds qs 27 27 7 (.slice ca cms.length cc) (by rw [←hds];rfl)
 have g0:=bM w ds qs 27 27 0 (.string title') (by rw [←hqs];rfl)
 have g1:=bM w ds qs 27 27 1 (.string lang') (by rw [←hqs];rfl)
 have g2:=bM w ds qs 27 27 2 (.int .u8 rate') (by rw [←hqs];rfl)
 have g3:=bM w ds qs 27 27 3 (.bool drop') (by rw [←hqs];rfl)
 have g4:=bM w ds qs 27 27 4 (.int .i64 last') (by rw [←hqs];rfl)
 have g5:=bM w ds qs 27 27 5 (.slice ra' regs'.length rc') (by rw [←hqs];rfl)
 have g6:=bM w ds qs 27 27 6 (.slice ea' evs'.length ec') (by rw [←hqs];rfl)
 have g7:=bM w ds qs 27 27 7 (.slice ca' cms'.length cc') (by rw [←hqs];rfl)
 have HB:=h_ (fun(w1:fI) (h:fK (w.heap.size+2) ((w.alloc (.cells ds 27)).alloc (.cells qs 27)) w1)=>zbx h)
 have hb0:fK (w.heap.size+2) ((w.alloc (.cells ds 27)).alloc (.cells qs 27)) ((w.alloc (.cells ds 27)).alloc (.cells qs 27)):=fK.refl _ _
 have hsz:((w.alloc (.cells ds 27)).alloc (.cells qs 27)).heap.size=w.heap.size+2:=by simp
 generalize hW0:(w.alloc (.cells ds 27)).alloc (.cells qs 27)=W0 at *
 have HW0:=h_ hW0
 have HSZ:=h_ hsz
 have HT0:=h_ (fun(w2 w3:fI) (h:fK (w.heap.size+2) W0 w2) (h3:fK w2.heap.size w2 w3)=>(h.trans (h3.mono (by have:=h.size;rw [HSZ.out] at this;exact this)):fK (w.heap.size+2) W0 w3))
 have G1:=h_ (fun(w1:fI) (h:fK (w.heap.size+2) W0 w1)=>(HH1.out w1).mono (fun e w' p=>(show e=_∧fK (w.heap.size+2) W0 w' from⟨p.1,HT0.out _ _ h p.2⟩)))
 have G2:=h_ (fun(w1:fI) (h:fK (w.heap.size+2) W0 w1)=>(HH2.out w1).mono (fun e w' p=>(show e=_∧fK (w.heap.size+2) W0 w' from⟨p.1,HT0.out _ _ h p.2⟩)))
 have GR:=h_ (fun(w1:fI) (h:fK (w.heap.size+2) W0 w1)=>(HR.out w1 (HB.out _ h)).mono (fun e w' p=>(show e=_∧fK (w.heap.size+2) W0 w' from⟨p.1,HT0.out _ _ h p.2⟩)))
 have GE:=h_ (fun(w1:fI) (h:fK (w.heap.size+2) W0 w1)=>(HE.out w1 (HB.out _ h)).mono (fun e w' p=>(show e=_∧fK (w.heap.size+2) W0 w' from⟨p.1,HT0.out _ _ h p.2⟩)))
 have GC:=h_ (fun(w1:fI) (h:fK (w.heap.size+2) W0 w1)=>(HC.out w1 (HB.out _ h)).mono (fun e w' p=>(show e=_∧fK (w.heap.size+2) W0 w' from⟨p.1,HT0.out _ _ h p.2⟩)))
 have hbd:fK (w.heap.size+2) W0 W0.drew:=hb0.drew
 clear hW0 hsz hd hd' hf hf' HH1 HH2 HR HE HC
 go_enter Tryz.func18,Tryz.ntmps18
 subst hds
 subst hqs
 go_upto_region 1 with fail
 rw [HW0.out]
 cases R0 with
 | false =>
   refine fH (S:=fun w'=>fK (w.heap.size+2) W0 w') (by kernel_rfl) hbd (fun _=>?_)
   try simp only [fL,fB,fu,fw,ft,fC,fD,fM]
   refine fF (i:=0) (v:=.agg #[.string title,.string lang,.int .u8 rate,.bool drop,.int .i64 last,.slice ra rG.length rc,.slice ea evs.length ec,.slice ca cms.length cc]) rfl (by kernel_rfl) (by kernel_rfl) (by kernel_rfl) (fun _ _ _ h=>h) (.inl ⟨by rfl,fun w_ hS_=>by go_simp⟩) hbd ?_
   try simp only [fL,fB,fu,fw,ft,fC,fD,fM]
   refine fF (i:=2) (v:=.agg #[.string title',.string lang',.int .u8 rate',.bool drop',.int .i64 last',.slice ra' regs'.length rc',.slice ea' evs'.length ec',.slice ca' cms'.length cc']) rfl (by kernel_rfl) (by kernel_rfl) (by kernel_rfl) (fun _ _ _ h=>h) (.inl ⟨by rfl,fun w_ hS_=>by go_simp⟩) hbd ?_
   try simp only [fL,fB,fu,fw,ft,fC,fD,fM]
   refine fG (rs:=[1]) (by kernel_rfl) (by simp) ?_
   refine fN rfl (fun K hK=>?_) fO
   go_simp
   refine(G1.out _ hbd).mono ?_
   rintro e w1 ⟨rfl,h1⟩
   go_wp2_with fail
   refine hK.out _ _ h1 (fun _=>?_)
   clear hK
   try simp only [fL,fB,fu,fw,ft,fC,fD,fM]
   refine fG (rs:=[3]) (by kernel_rfl) (by simp) ?_
   refine fN rfl (fun K hK=>?_) fO
   go_simp
   refine(G2.out _ h1).mono ?_
   rintro e w2 ⟨rfl,h2⟩
   go_wp2_with fail
   refine hK.out _ _ h2 (fun _=>?_)
   clear hK
   try simp only [fL,fB,fu,fw,ft,fC,fD,fM]
   refine fF (i:=4) (v:=.bool false) rfl (by kernel_rfl) (by kernel_rfl) (by kernel_rfl) (fun _ _ _ h=>h) (.inl ⟨by rfl,fun w_ hS_=>by go_simp⟩) h2 ?_
   try simp only [fL,fB,fu,fw,ft,fC,fD,fM]
   refine fF (i:=5) (v:=.bool false) rfl (by kernel_rfl) (by kernel_rfl) (by kernel_rfl) (fun _ _ _ h=>h) (.inl ⟨by rfl,fun w_ hS_=>by go_simp⟩) h2 ?_
   try simp only [fL,fB,fu,fw,ft,fC,fD,fM]
   refine fF (i:=6) (v:=undef) rfl (by kernel_rfl) (by kernel_rfl) (by kernel_rfl) (fun _ _ _ h=>h) (.inr ⟨by rfl,rfl⟩) h2 ?_
   try simp only [fL,fB,fu,fw,ft,fC,fD,fM]
   refine fF (i:=7) (v:=undef) rfl (by kernel_rfl) (by kernel_rfl) (by kernel_rfl) (fun _ _ _ h=>h) (.inr ⟨by rfl,rfl⟩) h2 ?_
   try simp only [fL,fB,fu,fw,ft,fC,fD,fM]
   refine fF (i:=8) (v:=undef) rfl (by kernel_rfl) (by kernel_rfl) (by kernel_rfl) (fun _ _ _ h=>h) (.inr ⟨by rfl,rfl⟩) h2 ?_
   try simp only [fL,fB,fu,fw,ft,fC,fD,fM]
   refine fF (i:=9) (v:=undef) rfl (by kernel_rfl) (by kernel_rfl) (by kernel_rfl) (fun _ _ _ h=>h) (.inr ⟨by rfl,rfl⟩) h2 ?_
   try simp only [fL,fB,fu,fw,ft,fC,fD,fM]
   refine fF (i:=10) (v:=undef) rfl (by kernel_rfl) (by kernel_rfl) (by kernel_rfl) (fun _ _ _ h=>h) (.inr ⟨by rfl,rfl⟩) h2 ?_
   try simp only [fL,fB,fu,fw,ft,fC,fD,fM]
   refine fF (i:=11) (v:=.bool false) rfl (by kernel_rfl) (by kernel_rfl) (by kernel_rfl) (fun _ _ _ h=>h) (.inl ⟨by rfl,fun w_ hS_=>by go_simp⟩) h2 ?_
   try simp only [fL,fB,fu,fw,ft,fC,fD,fM]
   refine fF (i:=12) (v:=.bool false) rfl (by kernel_rfl) (by kernel_rfl) (by kernel_rfl) (fun _ _ _ h=>h) (.inl ⟨by rfl,fun w_ hS_=>by go_simp⟩) h2 ?_
   try simp only [fL,fB,fu,fw,ft,fC,fD,fM]
   refine fF (i:=13) (v:=undef) rfl (by kernel_rfl) (by kernel_rfl) (by kernel_rfl) (fun _ _ _ h=>h) (.inr ⟨by rfl,rfl⟩) h2 ?_
   try simp only [fL,fB,fu,fw,ft,fC,fD,fM]
   refine fF (i:=14) (v:=undef) rfl (by kernel_rfl) (by kernel_rfl) (by kernel_rfl) (fun _ _ _ h=>h) (.inr ⟨by rfl,rfl⟩) h2 ?_
   try simp only [fL,fB,fu,fw,ft,fC,fD,fM]
   refine fF (i:=15) (v:=undef) rfl (by kernel_rfl) (by kernel_rfl) (by kernel_rfl) (fun _ _ _ h=>h) (.inr ⟨by rfl,rfl⟩) h2 ?_
   try simp only [fL,fB,fu,fw,ft,fC,fD,fM]
   refine fF (i:=16) (v:=undef) rfl (by kernel_rfl) (by kernel_rfl) (by kernel_rfl) (fun _ _ _ h=>h) (.inr ⟨by rfl,rfl⟩) h2 ?_
   try simp only [fL,fB,fu,fw,ft,fC,fD,fM]
   refine fF (i:=17) (v:=undef) rfl (by kernel_rfl) (by kernel_rfl) (by kernel_rfl) (fun _ _ _ h=>h) (.inr ⟨by rfl,rfl⟩) h2 ?_
   try simp only [fL,fB,fu,fw,ft,fC,fD,fM]
   refine fF (i:=18) (v:=.bool false) rfl (by kernel_rfl) (by kernel_rfl) (by kernel_rfl) (fun _ _ _ h=>h) (.inl ⟨by rfl,fun w_ hS_=>by go_simp⟩) h2 ?_
   try simp only [fL,fB,fu,fw,ft,fC,fD,fM]
   refine fF (i:=19) (v:=.bool false) rfl (by kernel_rfl) (by kernel_rfl) (by kernel_rfl) (fun _ _ _ h=>h) (.inl ⟨by rfl,fun w_ hS_=>by go_simp⟩) h2 ?_
   try simp only [fL,fB,fu,fw,ft,fC,fD,fM]
   refine fF (i:=20) (v:=undef) rfl (by kernel_rfl) (by kernel_rfl) (by kernel_rfl) (fun _ _ _ h=>h) (.inr ⟨by rfl,rfl⟩) h2 ?_
   try simp only [fL,fB,fu,fw,ft,fC,fD,fM]
   refine fF (i:=21) (v:=undef) rfl (by kernel_rfl) (by kernel_rfl) (by kernel_rfl) (fun _ _ _ h=>h) (.inr ⟨by rfl,rfl⟩) h2 ?_
   try simp only [fL,fB,fu,fw,ft,fC,fD,fM]
   refine fF (i:=22) (v:=undef) rfl (by kernel_rfl) (by kernel_rfl) (by kernel_rfl) (fun _ _ _ h=>h) (.inr ⟨by rfl,rfl⟩) h2 ?_
   try simp only [fL,fB,fu,fw,ft,fC,fD,fM]
   refine fF (i:=23) (v:=undef) rfl (by kernel_rfl) (by kernel_rfl) (by kernel_rfl) (fun _ _ _ h=>h) (.inr ⟨by rfl,rfl⟩) h2 ?_
   try simp only [fL,fB,fu,fw,ft,fC,fD,fM]
   refine fF (i:=24) (v:=undef) rfl (by kernel_rfl) (by kernel_rfl) (by kernel_rfl) (fun _ _ _ h=>h) (.inr ⟨by rfl,rfl⟩) h2 ?_
   try simp only [fL,fB,fu,fw,ft,fC,fD,fM]
   refine fF (i:=25) (v:=.bool false) rfl (by kernel_rfl) (by kernel_rfl) (by kernel_rfl) (fun _ _ _ h=>h) (.inl ⟨by rfl,fun w_ hS_=>by go_simp⟩) h2 ?_
   try simp only [fL,fB,fu,fw,ft,fC,fD,fM]
   refine fF (i:=26) (v:=.bool false) rfl (by kernel_rfl) (by kernel_rfl) (by kernel_rfl) (fun _ _ _ h=>h) (.inl ⟨by rfl,fun w_ hS_=>by go_simp⟩) h2 ?_
   try simp only [fL,fB,fu,fw,ft,fC,fD,fM]
   refine fJ (by kernel_rfl) ?_ _
   go_wp2_with fail
   exact HQ.out _ (HB.out _ h2)
 | true =>
   cases RR with
   | false =>
     refine fH (S:=fun w'=>fK (w.heap.size+2) W0 w') (by kernel_rfl) hbd (fun _=>?_)
     try simp only [fL,fB,fu,fw,ft,fC,fD,fM]
     refine fF (i:=0) (v:=.agg #[.string title,.string lang,.int .u8 rate,.bool drop,.int .i64 last,.slice ra rG.length rc,.slice ea evs.length ec,.slice ca cms.length cc]) rfl (by kernel_rfl) (by kernel_rfl) (by kernel_rfl) (fun _ _ _ h=>h) (.inl ⟨by rfl,fun w_ hS_=>by go_simp⟩) hbd ?_
     try simp only [fL,fB,fu,fw,ft,fC,fD,fM]
     refine fF (i:=2) (v:=.agg #[.string title',.string lang',.int .u8 rate',.bool drop',.int .i64 last',.slice ra' regs'.length rc',.slice ea' evs'.length ec',.slice ca' cms'.length cc']) rfl (by kernel_rfl) (by kernel_rfl) (by kernel_rfl) (fun _ _ _ h=>h) (.inl ⟨by rfl,fun w_ hS_=>by go_simp⟩) hbd ?_
     try simp only [fL,fB,fu,fw,ft,fC,fD,fM]
     refine fG (rs:=[1]) (by kernel_rfl) (by simp) ?_
     refine fN rfl (fun K hK=>?_) fO
     go_simp
     refine(G1.out _ hbd).mono ?_
     rintro e w1 ⟨rfl,h1⟩
     go_wp2_with fail
     refine hK.out _ _ h1 (fun _=>?_)
     clear hK
     try simp only [fL,fB,fu,fw,ft,fC,fD,fM]
     refine fG (rs:=[3]) (by kernel_rfl) (by simp) ?_
     refine fN rfl (fun K hK=>?_) fO
     go_simp
     refine(G2.out _ h1).mono ?_
     rintro e w2 ⟨rfl,h2⟩
     go_wp2_with fail
     refine hK.out _ _ h2 (fun _=>?_)
     clear hK
     try simp only [fL,fB,fu,fw,ft,fC,fD,fM]
     refine fF (i:=4) (v:=.bool true) rfl (by kernel_rfl) (by kernel_rfl) (by kernel_rfl) (fun _ _ _ h=>h) (.inl ⟨by rfl,fun w_ hS_=>by go_simp⟩) h2 ?_
     try simp only [fL,fB,fu,fw,ft,fC,fD,fM]
     refine fF (i:=5) (v:=.bool true) rfl (by kernel_rfl) (by kernel_rfl) (by kernel_rfl) (fun _ _ _ h=>h) (.inl ⟨by rfl,fun w_ hS_=>by go_simp⟩) h2 ?_
     try simp only [fL,fB,fu,fw,ft,fC,fD,fM]
     refine fF (i:=6) (v:=.pointer (some ⟨w.heap.size,5,none⟩)) rfl (by kernel_rfl) (by kernel_rfl) (by kernel_rfl) (fun _ _ _ h=>h) (.inl ⟨by rfl,fun w_ hS_=>by go_simp⟩) h2 ?_
     try simp only [fL,fB,fu,fw,ft,fC,fD,fM]
     refine fF (i:=7) (v:=.slice ra rG.length rc) rfl (by kernel_rfl) (by kernel_rfl) (by kernel_rfl) (fun _ _ _ h=>h) (.inl ⟨by rfl,fun w_ hS_=>by go_simp⟩) h2 ?_
     try simp only [fL,fB,fu,fw,ft,fC,fD,fM]
     refine fF (i:=8) (v:=.pointer (some ⟨w.heap.size+1,5,none⟩)) rfl (by kernel_rfl) (by kernel_rfl) (by kernel_rfl) (fun _ _ _ h=>h) (.inl ⟨by rfl,fun w_ hS_=>by go_simp⟩) h2 ?_
     try simp only [fL,fB,fu,fw,ft,fC,fD,fM]
     refine fF (i:=9) (v:=.slice ra' regs'.length rc') rfl (by kernel_rfl) (by kernel_rfl) (by kernel_rfl) (fun _ _ _ h=>h) (.inl ⟨by rfl,fun w_ hS_=>by go_simp⟩) h2 ?_
     try simp only [fL,fB,fu,fw,ft,fC,fD,fM]
     refine fG (rs:=[10]) (by kernel_rfl) (by simp) ?_
     refine fN rfl (fun K hK=>?_) fO
     go_simp
     refine(GR.out _ h2).mono ?_
     rintro e wr59 ⟨rfl,hr59⟩
     go_wp2_with fail
     refine hK.out _ _ hr59 (fun _=>?_)
     clear hK
     try simp only [fL,fB,fu,fw,ft,fC,fD,fM]
     refine fF (i:=11) (v:=.bool false) rfl (by kernel_rfl) (by kernel_rfl) (by kernel_rfl) (fun _ _ _ h=>h) (.inl ⟨by rfl,fun w_ hS_=>by go_simp⟩) hr59 ?_
     try simp only [fL,fB,fu,fw,ft,fC,fD,fM]
     refine fF (i:=12) (v:=.bool false) rfl (by kernel_rfl) (by kernel_rfl) (by kernel_rfl) (fun _ _ _ h=>h) (.inl ⟨by rfl,fun w_ hS_=>by go_simp⟩) hr59 ?_
     try simp only [fL,fB,fu,fw,ft,fC,fD,fM]
     refine fF (i:=13) (v:=undef) rfl (by kernel_rfl) (by kernel_rfl) (by kernel_rfl) (fun _ _ _ h=>h) (.inr ⟨by rfl,rfl⟩) hr59 ?_
     try simp only [fL,fB,fu,fw,ft,fC,fD,fM]
     refine fF (i:=14) (v:=undef) rfl (by kernel_rfl) (by kernel_rfl) (by kernel_rfl) (fun _ _ _ h=>h) (.inr ⟨by rfl,rfl⟩) hr59 ?_
     try simp only [fL,fB,fu,fw,ft,fC,fD,fM]
     refine fF (i:=15) (v:=undef) rfl (by kernel_rfl) (by kernel_rfl) (by kernel_rfl) (fun _ _ _ h=>h) (.inr ⟨by rfl,rfl⟩) hr59 ?_
     try simp only [fL,fB,fu,fw,ft,fC,fD,fM]
     refine fF (i:=16) (v:=undef) rfl (by kernel_rfl) (by kernel_rfl) (by kernel_rfl) (fun _ _ _ h=>h) (.inr ⟨by rfl,rfl⟩) hr59 ?_
     try simp only [fL,fB,fu,fw,ft,fC,fD,fM]
     refine fF (i:=17) (v:=undef) rfl (by kernel_rfl) (by kernel_rfl) (by kernel_rfl) (fun _ _ _ h=>h) (.inr ⟨by rfl,rfl⟩) hr59 ?_
     try simp only [fL,fB,fu,fw,ft,fC,fD,fM]
     refine fF (i:=18) (v:=.bool false) rfl (by kernel_rfl) (by kernel_rfl) (by kernel_rfl) (fun _ _ _ h=>h) (.inl ⟨by rfl,fun w_ hS_=>by go_simp⟩) hr59 ?_
     try simp only [fL,fB,fu,fw,ft,fC,fD,fM]
     refine fF (i:=19) (v:=.bool false) rfl (by kernel_rfl) (by kernel_rfl) (by kernel_rfl) (fun _ _ _ h=>h) (.inl ⟨by rfl,fun w_ hS_=>by go_simp⟩) hr59 ?_
     try simp only [fL,fB,fu,fw,ft,fC,fD,fM]
     refine fF (i:=20) (v:=undef) rfl (by kernel_rfl) (by kernel_rfl) (by kernel_rfl) (fun _ _ _ h=>h) (.inr ⟨by rfl,rfl⟩) hr59 ?_
     try simp only [fL,fB,fu,fw,ft,fC,fD,fM]
     refine fF (i:=21) (v:=undef) rfl (by kernel_rfl) (by kernel_rfl) (by kernel_rfl) (fun _ _ _ h=>h) (.inr ⟨by rfl,rfl⟩) hr59 ?_
     try simp only [fL,fB,fu,fw,ft,fC,fD,fM]
     refine fF (i:=22) (v:=undef) rfl (by kernel_rfl) (by kernel_rfl) (by kernel_rfl) (fun _ _ _ h=>h) (.inr ⟨by rfl,rfl⟩) hr59 ?_
     try simp only [fL,fB,fu,fw,ft,fC,fD,fM]
     refine fF (i:=23) (v:=undef) rfl (by kernel_rfl) (by kernel_rfl) (by kernel_rfl) (fun _ _ _ h=>h) (.inr ⟨by rfl,rfl⟩) hr59 ?_
     try simp only [fL,fB,fu,fw,ft,fC,fD,fM]
     refine fF (i:=24) (v:=undef) rfl (by kernel_rfl) (by kernel_rfl) (by kernel_rfl) (fun _ _ _ h=>h) (.inr ⟨by rfl,rfl⟩) hr59 ?_
     try simp only [fL,fB,fu,fw,ft,fC,fD,fM]
     refine fF (i:=25) (v:=.bool false) rfl (by kernel_rfl) (by kernel_rfl) (by kernel_rfl) (fun _ _ _ h=>h) (.inl ⟨by rfl,fun w_ hS_=>by go_simp⟩) hr59 ?_
     try simp only [fL,fB,fu,fw,ft,fC,fD,fM]
     refine fF (i:=26) (v:=.bool false) rfl (by kernel_rfl) (by kernel_rfl) (by kernel_rfl) (fun _ _ _ h=>h) (.inl ⟨by rfl,fun w_ hS_=>by go_simp⟩) hr59 ?_
     try simp only [fL,fB,fu,fw,ft,fC,fD,fM]
     refine fJ (by kernel_rfl) ?_ _
     go_wp2_with fail
     exact HQ.out _ (HB.out _ hr59)
   | true =>
     cases RE with
     | false =>
       refine fH (S:=fun w'=>fK (w.heap.size+2) W0 w') (by kernel_rfl) hbd (fun _=>?_)
       try simp only [fL,fB,fu,fw,ft,fC,fD,fM]
       refine fF (i:=0) (v:=.agg #[.string title,.string lang,.int .u8 rate,.bool drop,.int .i64 last,.slice ra rG.length rc,.slice ea evs.length ec,.slice ca cms.length cc]) rfl (by kernel_rfl) (by kernel_rfl) (by kernel_rfl) (fun _ _ _ h=>h) (.inl ⟨by rfl,fun w_ hS_=>by go_simp⟩) hbd ?_
       try simp only [fL,fB,fu,fw,ft,fC,fD,fM]
       refine fF (i:=2) (v:=.agg #[.string title',.string lang',.int .u8 rate',.bool drop',.int .i64 last',.slice ra' regs'.length rc',.slice ea' evs'.length ec',.slice ca' cms'.length cc']) rfl (by kernel_rfl) (by kernel_rfl) (by kernel_rfl) (fun _ _ _ h=>h) (.inl ⟨by rfl,fun w_ hS_=>by go_simp⟩) hbd ?_
       try simp only [fL,fB,fu,fw,ft,fC,fD,fM]
       refine fG (rs:=[1]) (by kernel_rfl) (by simp) ?_
       refine fN rfl (fun K hK=>?_) fO
       go_simp
       refine(G1.out _ hbd).mono ?_
       rintro e w1 ⟨rfl,h1⟩
       go_wp2_with fail
       refine hK.out _ _ h1 (fun _=>?_)
       clear hK
       try simp only [fL,fB,fu,fw,ft,fC,fD,fM]
       refine fG (rs:=[3]) (by kernel_rfl) (by simp) ?_
       refine fN rfl (fun K hK=>?_) fO
       go_simp
       refine(G2.out _ h1).mono ?_
       rintro e w2 ⟨rfl,h2⟩
       go_wp2_with fail
       refine hK.out _ _ h2 (fun _=>?_)
       clear hK
       try simp only [fL,fB,fu,fw,ft,fC,fD,fM]
       refine fF (i:=4) (v:=.bool true) rfl (by kernel_rfl) (by kernel_rfl) (by kernel_rfl) (fun _ _ _ h=>h) (.inl ⟨by rfl,fun w_ hS_=>by go_simp⟩) h2 ?_
       try simp only [fL,fB,fu,fw,ft,fC,fD,fM]
       refine fF (i:=5) (v:=.bool true) rfl (by kernel_rfl) (by kernel_rfl) (by kernel_rfl) (fun _ _ _ h=>h) (.inl ⟨by rfl,fun w_ hS_=>by go_simp⟩) h2 ?_
       try simp only [fL,fB,fu,fw,ft,fC,fD,fM]
       refine fF (i:=6) (v:=.pointer (some ⟨w.heap.size,5,none⟩)) rfl (by kernel_rfl) (by kernel_rfl) (by kernel_rfl) (fun _ _ _ h=>h) (.inl ⟨by rfl,fun w_ hS_=>by go_simp⟩) h2 ?_
       try simp only [fL,fB,fu,fw,ft,fC,fD,fM]
       refine fF (i:=7) (v:=.slice ra rG.length rc) rfl (by kernel_rfl) (by kernel_rfl) (by kernel_rfl) (fun _ _ _ h=>h) (.inl ⟨by rfl,fun w_ hS_=>by go_simp⟩) h2 ?_
       try simp only [fL,fB,fu,fw,ft,fC,fD,fM]
       refine fF (i:=8) (v:=.pointer (some ⟨w.heap.size+1,5,none⟩)) rfl (by kernel_rfl) (by kernel_rfl) (by kernel_rfl) (fun _ _ _ h=>h) (.inl ⟨by rfl,fun w_ hS_=>by go_simp⟩) h2 ?_
       try simp only [fL,fB,fu,fw,ft,fC,fD,fM]
       refine fF (i:=9) (v:=.slice ra' regs'.length rc') rfl (by kernel_rfl) (by kernel_rfl) (by kernel_rfl) (fun _ _ _ h=>h) (.inl ⟨by rfl,fun w_ hS_=>by go_simp⟩) h2 ?_
       try simp only [fL,fB,fu,fw,ft,fC,fD,fM]
       refine fG (rs:=[10]) (by kernel_rfl) (by simp) ?_
       refine fN rfl (fun K hK=>?_) fO
       go_simp
       refine(GR.out _ h2).mono ?_
       rintro e wr59 ⟨rfl,hr59⟩
       go_wp2_with fail
       refine hK.out _ _ hr59 (fun _=>?_)
       clear hK
       try simp only [fL,fB,fu,fw,ft,fC,fD,fM]
       refine fF (i:=11) (v:=.bool true) rfl (by kernel_rfl) (by kernel_rfl) (by kernel_rfl) (fun _ _ _ h=>h) (.inl ⟨by rfl,fun w_ hS_=>by go_simp⟩) hr59 ?_
       try simp only [fL,fB,fu,fw,ft,fC,fD,fM]
       refine fF (i:=12) (v:=.bool true) rfl (by kernel_rfl) (by kernel_rfl) (by kernel_rfl) (fun _ _ _ h=>h) (.inl ⟨by rfl,fun w_ hS_=>by go_simp⟩) hr59 ?_
       try simp only [fL,fB,fu,fw,ft,fC,fD,fM]
       refine fF (i:=13) (v:=.pointer (some ⟨w.heap.size,6,none⟩)) rfl (by kernel_rfl) (by kernel_rfl) (by kernel_rfl) (fun _ _ _ h=>h) (.inl ⟨by rfl,fun w_ hS_=>by go_simp⟩) hr59 ?_
       try simp only [fL,fB,fu,fw,ft,fC,fD,fM]
       refine fF (i:=14) (v:=.slice ea evs.length ec) rfl (by kernel_rfl) (by kernel_rfl) (by kernel_rfl) (fun _ _ _ h=>h) (.inl ⟨by rfl,fun w_ hS_=>by go_simp⟩) hr59 ?_
       try simp only [fL,fB,fu,fw,ft,fC,fD,fM]
       refine fF (i:=15) (v:=.pointer (some ⟨w.heap.size+1,6,none⟩)) rfl (by kernel_rfl) (by kernel_rfl) (by kernel_rfl) (fun _ _ _ h=>h) (.inl ⟨by rfl,fun w_ hS_=>by go_simp⟩) hr59 ?_
       try simp only [fL,fB,fu,fw,ft,fC,fD,fM]
       refine fF (i:=16) (v:=.slice ea' evs'.length ec') rfl (by kernel_rfl) (by kernel_rfl) (by kernel_rfl) (fun _ _ _ h=>h) (.inl ⟨by rfl,fun w_ hS_=>by go_simp⟩) hr59 ?_
       try simp only [fL,fB,fu,fw,ft,fC,fD,fM]
       refine fG (rs:=[17]) (by kernel_rfl) (by simp) ?_
       refine fN rfl (fun K hK=>?_) fO
       go_simp
       refine(GE.out _ hr59).mono ?_
       rintro e we60 ⟨rfl,he60⟩
       go_wp2_with fail
       refine hK.out _ _ he60 (fun _=>?_)
       clear hK
       try simp only [fL,fB,fu,fw,ft,fC,fD,fM]
       refine fF (i:=18) (v:=.bool false) rfl (by kernel_rfl) (by kernel_rfl) (by kernel_rfl) (fun _ _ _ h=>h) (.inl ⟨by rfl,fun w_ hS_=>by go_simp⟩) he60 ?_
       try simp only [fL,fB,fu,fw,ft,fC,fD,fM]
       refine fF (i:=19) (v:=.bool false) rfl (by kernel_rfl) (by kernel_rfl) (by kernel_rfl) (fun _ _ _ h=>h) (.inl ⟨by rfl,fun w_ hS_=>by go_simp⟩) he60 ?_
       try simp only [fL,fB,fu,fw,ft,fC,fD,fM]
       refine fF (i:=20) (v:=undef) rfl (by kernel_rfl) (by kernel_rfl) (by kernel_rfl) (fun _ _ _ h=>h) (.inr ⟨by rfl,rfl⟩) he60 ?_
       try simp only [fL,fB,fu,fw,ft,fC,fD,fM]
       refine fF (i:=21) (v:=undef) rfl (by kernel_rfl) (by kernel_rfl) (by kernel_rfl) (fun _ _ _ h=>h) (.inr ⟨by rfl,rfl⟩) he60 ?_
       try simp only [fL,fB,fu,fw,ft,fC,fD,fM]
       refine fF (i:=22) (v:=undef) rfl (by kernel_rfl) (by kernel_rfl) (by kernel_rfl) (fun _ _ _ h=>h) (.inr ⟨by rfl,rfl⟩) he60 ?_
       try simp only [fL,fB,fu,fw,ft,fC,fD,fM]
       refine fF (i:=23) (v:=undef) rfl (by kernel_rfl) (by kernel_rfl) (by kernel_rfl) (fun _ _ _ h=>h) (.inr ⟨by rfl,rfl⟩) he60 ?_
       try simp only [fL,fB,fu,fw,ft,fC,fD,fM]
       refine fF (i:=24) (v:=undef) rfl (by kernel_rfl) (by kernel_rfl) (by kernel_rfl) (fun _ _ _ h=>h) (.inr ⟨by rfl,rfl⟩) he60 ?_
       try simp only [fL,fB,fu,fw,ft,fC,fD,fM]
       refine fF (i:=25) (v:=.bool false) rfl (by kernel_rfl) (by kernel_rfl) (by kernel_rfl) (fun _ _ _ h=>h) (.inl ⟨by rfl,fun w_ hS_=>by go_simp⟩) he60 ?_
       try simp only [fL,fB,fu,fw,ft,fC,fD,fM]
       refine fF (i:=26) (v:=.bool false) rfl (by kernel_rfl) (by kernel_rfl) (by kernel_rfl) (fun _ _ _ h=>h) (.inl ⟨by rfl,fun w_ hS_=>by go_simp⟩) he60 ?_
       try simp only [fL,fB,fu,fw,ft,fC,fD,fM]
       refine fJ (by kernel_rfl) ?_ _
       go_wp2_with fail
       exact HQ.out _ (HB.out _ he60)
     | true =>
       refine fH (S:=fun w'=>fK (w.heap.size+2) W0 w') (by kernel_rfl) hbd (fun _=>?_)
       try simp only [fL,fB,fu,fw,ft,fC,fD,fM]
       refine fF (i:=0) (v:=.agg #[.string title,.string lang,.int .u8 rate,.bool drop,.int .i64 last,.slice ra rG.length rc,.slice ea evs.length ec,.slice ca cms.length cc]) rfl (by kernel_rfl) (by kernel_rfl) (by kernel_rfl) (fun _ _ _ h=>h) (.inl ⟨by rfl,fun w_ hS_=>by go_simp⟩) hbd ?_
       try simp only [fL,fB,fu,fw,ft,fC,fD,fM]
       refine fF (i:=2) (v:=.agg #[.string title',.string lang',.int .u8 rate',.bool drop',.int .i64 last',.slice ra' regs'.length rc',.slice ea' evs'.length ec',.slice ca' cms'.length cc']) rfl (by kernel_rfl) (by kernel_rfl) (by kernel_rfl) (fun _ _ _ h=>h) (.inl ⟨by rfl,fun w_ hS_=>by go_simp⟩) hbd ?_
       try simp only [fL,fB,fu,fw,ft,fC,fD,fM]
       refine fG (rs:=[1]) (by kernel_rfl) (by simp) ?_
       refine fN rfl (fun K hK=>?_) fO
       go_simp
       refine(G1.out _ hbd).mono ?_
       rintro e w1 ⟨rfl,h1⟩
       go_wp2_with fail
       refine hK.out _ _ h1 (fun _=>?_)
       clear hK
       try simp only [fL,fB,fu,fw,ft,fC,fD,fM]
       refine fG (rs:=[3]) (by kernel_rfl) (by simp) ?_
       refine fN rfl (fun K hK=>?_) fO
       go_simp
       refine(G2.out _ h1).mono ?_
       rintro e w2 ⟨rfl,h2⟩
       go_wp2_with fail
       refine hK.out _ _ h2 (fun _=>?_)
       clear hK
       try simp only [fL,fB,fu,fw,ft,fC,fD,fM]
       refine fF (i:=4) (v:=.bool true) rfl (by kernel_rfl) (by kernel_rfl) (by kernel_rfl) (fun _ _ _ h=>h) (.inl ⟨by rfl,fun w_ hS_=>by go_simp⟩) h2 ?_
       try simp only [fL,fB,fu,fw,ft,fC,fD,fM]
       refine fF (i:=5) (v:=.bool true) rfl (by kernel_rfl) (by kernel_rfl) (by kernel_rfl) (fun _ _ _ h=>h) (.inl ⟨by rfl,fun w_ hS_=>by go_simp⟩) h2 ?_
       try simp only [fL,fB,fu,fw,ft,fC,fD,fM]
       refine fF (i:=6) (v:=.pointer (some ⟨w.heap.size,5,none⟩)) rfl (by kernel_rfl) (by kernel_rfl) (by kernel_rfl) (fun _ _ _ h=>h) (.inl ⟨by rfl,fun w_ hS_=>by go_simp⟩) h2 ?_
       try simp only [fL,fB,fu,fw,ft,fC,fD,fM]
       refine fF (i:=7) (v:=.slice ra rG.length rc) rfl (by kernel_rfl) (by kernel_rfl) (by kernel_rfl) (fun _ _ _ h=>h) (.inl ⟨by rfl,fun w_ hS_=>by go_simp⟩) h2 ?_
       try simp only [fL,fB,fu,fw,ft,fC,fD,fM]
       refine fF (i:=8) (v:=.pointer (some ⟨w.heap.size+1,5,none⟩)) rfl (by kernel_rfl) (by kernel_rfl) (by kernel_rfl) (fun _ _ _ h=>h) (.inl ⟨by rfl,fun w_ hS_=>by go_simp⟩) h2 ?_
       try simp only [fL,fB,fu,fw,ft,fC,fD,fM]
       refine fF (i:=9) (v:=.slice ra' regs'.length rc') rfl (by kernel_rfl) (by kernel_rfl) (by kernel_rfl) (fun _ _ _ h=>h) (.inl ⟨by rfl,fun w_ hS_=>by go_simp⟩) h2 ?_
       try simp only [fL,fB,fu,fw,ft,fC,fD,fM]
       refine fG (rs:=[10]) (by kernel_rfl) (by simp) ?_
       refine fN rfl (fun K hK=>?_) fO
       go_simp
       refine(GR.out _ h2).mono ?_
       rintro e wr59 ⟨rfl,hr59⟩
       go_wp2_with fail
       refine hK.out _ _ hr59 (fun _=>?_)
       clear hK
       try simp only [fL,fB,fu,fw,ft,fC,fD,fM]
       refine fF (i:=11) (v:=.bool true) rfl (by kernel_rfl) (by kernel_rfl) (by kernel_rfl) (fun _ _ _ h=>h) (.inl ⟨by rfl,fun w_ hS_=>by go_simp⟩) hr59 ?_
       try simp only [fL,fB,fu,fw,ft,fC,fD,fM]
       refine fF (i:=12) (v:=.bool true) rfl (by kernel_rfl) (by kernel_rfl) (by kernel_rfl) (fun _ _ _ h=>h) (.inl ⟨by rfl,fun w_ hS_=>by go_simp⟩) hr59 ?_
       try simp only [fL,fB,fu,fw,ft,fC,fD,fM]
       refine fF (i:=13) (v:=.pointer (some ⟨w.heap.size,6,none⟩)) rfl (by kernel_rfl) (by kernel_rfl) (by kernel_rfl) (fun _ _ _ h=>h) (.inl ⟨by rfl,fun w_ hS_=>by go_simp⟩) hr59 ?_
       try simp only [fL,fB,fu,fw,ft,fC,fD,fM]
       refine fF (i:=14) (v:=.slice ea evs.length ec) rfl (by kernel_rfl) (by kernel_rfl) (by kernel_rfl) (fun _ _ _ h=>h) (.inl ⟨by rfl,fun w_ hS_=>by go_simp⟩) hr59 ?_
       try simp only [fL,fB,fu,fw,ft,fC,fD,fM]
       refine fF (i:=15) (v:=.pointer (some ⟨w.heap.size+1,6,none⟩)) rfl (by kernel_rfl) (by kernel_rfl) (by kernel_rfl) (fun _ _ _ h=>h) (.inl ⟨by rfl,fun w_ hS_=>by go_simp⟩) hr59 ?_
       try simp only [fL,fB,fu,fw,ft,fC,fD,fM]
       refine fF (i:=16) (v:=.slice ea' evs'.length ec') rfl (by kernel_rfl) (by kernel_rfl) (by kernel_rfl) (fun _ _ _ h=>h) (.inl ⟨by rfl,fun w_ hS_=>by go_simp⟩) hr59 ?_
       try simp only [fL,fB,fu,fw,ft,fC,fD,fM]
       refine fG (rs:=[17]) (by kernel_rfl) (by simp) ?_
       refine fN rfl (fun K hK=>?_) fO
       go_simp
       refine(GE.out _ hr59).mono ?_
       rintro e we60 ⟨rfl,he60⟩
       go_wp2_with fail
       refine hK.out _ _ he60 (fun _=>?_)
       clear hK
       try simp only [fL,fB,fu,fw,ft,fC,fD,fM]
       refine fF (i:=18) (v:=.bool true) rfl (by kernel_rfl) (by kernel_rfl) (by kernel_rfl) (fun _ _ _ h=>h) (.inl ⟨by rfl,fun w_ hS_=>by go_simp⟩) he60 ?_
       try simp only [fL,fB,fu,fw,ft,fC,fD,fM]
       refine fF (i:=19) (v:=.bool true) rfl (by kernel_rfl) (by kernel_rfl) (by kernel_rfl) (fun _ _ _ h=>h) (.inl ⟨by rfl,fun w_ hS_=>by go_simp⟩) he60 ?_
       try simp only [fL,fB,fu,fw,ft,fC,fD,fM]
       refine fF (i:=20) (v:=.pointer (some ⟨w.heap.size,7,none⟩)) rfl (by kernel_rfl) (by kernel_rfl) (by kernel_rfl) (fun _ _ _ h=>h) (.inl ⟨by rfl,fun w_ hS_=>by go_simp⟩) he60 ?_
       try simp only [fL,fB,fu,fw,ft,fC,fD,fM]
       refine fF (i:=21) (v:=.slice ca cms.length cc) rfl (by kernel_rfl) (by kernel_rfl) (by kernel_rfl) (fun _ _ _ h=>h) (.inl ⟨by rfl,fun w_ hS_=>by go_simp⟩) he60 ?_
       try simp only [fL,fB,fu,fw,ft,fC,fD,fM]
       refine fF (i:=22) (v:=.pointer (some ⟨w.heap.size+1,7,none⟩)) rfl (by kernel_rfl) (by kernel_rfl) (by kernel_rfl) (fun _ _ _ h=>h) (.inl ⟨by rfl,fun w_ hS_=>by go_simp⟩) he60 ?_
       try simp only [fL,fB,fu,fw,ft,fC,fD,fM]
       refine fF (i:=23) (v:=.slice ca' cms'.length cc') rfl (by kernel_rfl) (by kernel_rfl) (by kernel_rfl) (fun _ _ _ h=>h) (.inl ⟨by rfl,fun w_ hS_=>by go_simp⟩) he60 ?_
       try simp only [fL,fB,fu,fw,ft,fC,fD,fM]
       refine fG (rs:=[24]) (by kernel_rfl) (by simp) ?_
       refine fN rfl (fun K hK=>?_) fO
       go_simp
       refine(GC.out _ he60).mono ?_
       rintro e we61 ⟨rfl,he61⟩
       go_wp2_with fail
       refine hK.out _ _ he61 (fun _=>?_)
       clear hK
       try simp only [fL,fB,fu,fw,ft,fC,fD,fM]
       refine fF (i:=25) (v:=.bool RC) rfl (by kernel_rfl) (by kernel_rfl) (by kernel_rfl) (fun _ _ _ h=>h) (.inl ⟨by rfl,fun w_ hS_=>by go_simp⟩) he61 ?_
       try simp only [fL,fB,fu,fw,ft,fC,fD,fM]
       refine fF (i:=26) (v:=.bool RC) rfl (by kernel_rfl) (by kernel_rfl) (by kernel_rfl) (fun _ _ _ h=>h) (.inl ⟨by rfl,fun w_ hS_=>by go_simp⟩) he61 ?_
       try simp only [fL,fB,fu,fw,ft,fC,fD,fM]
       refine fJ (by kernel_rfl) ?_ _
       go_wp2_with fail
       exact HQ.out _ (HB.out _ he61)
end Go.Proofs.YtnlnmbcaongehaaGreatDoor
