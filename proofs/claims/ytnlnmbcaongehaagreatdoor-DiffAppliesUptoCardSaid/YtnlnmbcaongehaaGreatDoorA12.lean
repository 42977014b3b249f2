/- The contract of the reference's apply at any change. (printed by gen_refapply.py) -/
import Derived.Test.YtnlnmbcaongehaaGreatDoorA11
set_option linter.unusedVariables false
set_option linter.unusedSimpArgs false
set_option maxRecDepth 100000
set_option maxHeartbeats 12800000
open Go.Lib renaming hid→h_
open Go renaming cell_of_row→e_,World→fb,wpAnyH_take→fe,Value→ff,wpList_load_mid→fg,wpList_store_row→fh,cell_setRow_same→fi,heap_alloc_last→fj,bodyPost_ret→fk,wp_region_held_drew→fm,yieldsIf_load_mid→fo,heap_setCell_same→fp
open Go.RowKit renaming Below→fq
open Go.Proofs.Tryz renaming prog→fr,underlying27→ft,underlying54→fu,results57→fw,ntmps57→fx,func57→fy
open Go.Value renaming string→fz,int→fA
open Go.RowKit.Below renaming heap_setCell→fB,refl→fC
open Nat renaming le_refl→fD,le_trans→fE
open Array renaming getElem?_eq_some_iff→fF,toArray_toList→fG
open Go.Act renaming put→fH
open List renaming setIfInBounds_toArray→fI,getElem_cons_zero→fJ,getElem_cons_succ→fK,getElem_toArray→fL,set_cons_zero→fM,set_cons_succ→fN
namespace Go.Proofs.YtnlnmbcaongehaaGreatDoor
open Go.RowKit
attribute [local go_sem ↓] Go.wp_at_zero Go.wp_at_succ
def dU (d:Doc)(x:Chg)(w:fb)(e:Ending)(w':fb):Prop :=
 ∃ d2:Doc,e=.returned (.tuple #[.agg d2.enc.toArray,.int .i64 (aV d.c x.c).1])∧d2.c=(aV d.c x.c).2∧d2.lies w'∧(∀ b,d2.uses b→d.uses b∨w.heap.size≤b)∧fq w.heap.size w w'
theorem zdO {d d2:Doc} {x:Chg} {w w1:fb} {err:Int} (hd:d.lies w)(hc:aV d.c x.c=(err,d2.c))(hl:d2.lies w1)(hu:∀ b,d2.uses b→d.uses b∨w.heap.size+1+1+1≤b)(hb:fq w.heap.size w w1) :
 dU d x w (.returned (.tuple #[.agg d2.enc.toArray,.int .i64 err])) (w1.setRow (w.heap.size+1+1) d2.enc.toArray):=by
 refine⟨d2,by rw [hc],by rw [hc],Doc.frame hl (by simp) (fun b h=>setRow_other w1 _ b _ ?_),fun b h=>(hu b h).imp id (fun h=>by omega),below_setRow hb (by omega) _⟩
 rcases hu b h with h|h
 · have:=Doc.uses_lt hd h
   omega
 · omega
theorem zhr (r:Option (Reg × Nat)):∃ (x:Reg)(b:Bool),zd9 r=.tuple #[.agg x.enc.toArray,.bool b]∧x=(r.map (·.1)).getD aw∧b=r.isSome:=by
 cases r with
 | none=>exact⟨_,_,rfl,rfl,rfl⟩
 | some q=>exact⟨_,_,rfl,rfl,rfl⟩
theorem ziq (r:Option Cm):∃ (x:Cm)(b:Bool),zl3 r=.tuple #[.agg x.enc.toArray,.bool b]∧x=r.getD aL∧b=r.isSome:=by
 cases r with
 | none=>exact⟨_,_,rfl,rfl,rfl⟩
 | some q=>exact⟨_,_,rfl,rfl,rfl⟩
theorem zce (d:Doc)(x:Chg)(w:fb)(hsec:x.sec=2)(hok:zds d.c)(hb:cu x.c=0)(hd:d.lies w)(hfd:d.fits) :
 Calls fr 57 #[.agg d.enc.toArray,.agg x.enc.toArray] w (dU d x w):=by
 have hag:=(zal hb).2.2.1
 have hag:x.added=true→x.gone=false:=hag
 obtain⟨X,there,hv,hx,ht⟩:=zhr (first (df x.name) d.rG)
 have HF:=h_ (fun(w1:fb) (h:fq w.heap.size w w1)=>(show Calls fr 47 #[.slice d.ra d.rG.length d.rc,.string x.name] w1 (fun e w'=>e=.returned (.tuple #[.agg X.enc.toArray,.bool there])∧fq w1.heap.size w1 w') from(zeD Flat.keeps d.ra d.rc d.rG x.name w1 (hd.1.later h) (by have:=hfd.2.2.2.2.2.2.1;omega)).mono (fun e w' p=>⟨by rw [←hv];exact p.1,p.2⟩)))
 rw [eT] at hx
 rw [dJ] at ht
 have hE:cd d.rG x.c=aB x.added there (eF X x.rg):=by rw [hx,ht];rfl
 have hC0:cd d.rG x.c=0→aV d.c x.c=(0,⟨d.hd,setL (ei x.name) (df x.name) x.c.bJ x.gone d.rG,d.evs.map Ev.c,d.cms⟩):=fun h0=>by
  unfold aV
  rw [if_neg (by simpa using hb),if_neg (show ¬ x.c.sec=1 by show ¬ x.sec=1;omega),if_pos (show x.c.sec=2 from hsec),if_pos (show cd d.c.rG x.c=0 from h0),ziB (xs:=d.rG) (zhQ x.name) (zhR x.name) hok.rG x.gone x.c.bJ]
  rfl
 have hC1:¬ cd d.rG x.c=0→aV d.c x.c=(cd d.rG x.c,d.c):=fun h0=>by
  unfold aV
  rw [if_neg (by simpa using hb),if_neg (show ¬ x.c.sec=1 by show ¬ x.sec=1;omega),if_pos (show x.c.sec=2 from hsec),if_neg (show ¬ cd d.c.rG x.c=0 from h0)]
  rfl
 have HAL:=h_ (fun(s:Bool) (w1:fb)=>zbg x there s w1)
 have r1:=fun wx=>zgM X x.rg wx
 have HCHG:=h_ (fun(w1:fb) (h:fq w.heap.size w w1)=>zfS d.ra d.rc d.rG x w1 (hd.1.later h) hfd.2.2.2.2.2.2.1)
 have HEND:=h_ (fun(d2:Doc) (err:Int) (w1:fb) h1 h2 h3 h4=>zdO (d:=d) (x:=x) (w:=w) (d2:=d2) (err:=err) (w1:=w1) hd h1 h2 h3 h4)
 generalize hRE:eF X x.rg=RE at *
 generalize cd d.rG x.c=ERR at *
 generalize hQ:dU d x w=Q at *
 generalize setL (ei x.name) (df x.name) x.c.bJ x.gone d.rG=YS at *
 have HC0:=h_ hC0
 have HC1:=h_ hC1
 have HEQ:=h_ hE
 have HDL0:=h_ hd
 clear hv hx ht hQ hRE hE hC0 hC1 hd hfd hok hb
 obtain⟨sec,id,name,ad,gn,oh,nh,rg,nr,oe,ne,oc,nc⟩:=x
 simp only at hsec hag
 subst hsec
 obtain⟨title,lA,rate,drop,last,ra,rc,rG,ea,ec,evs,ca,cc,cms⟩:=d
 simp only [Doc.enc,Reg.enc,Doc.c,Doc.hd] at *
 generalize hcl:Chg.enc _=cl at *
 have hln:cl.length=59:=by rw [←hcl];rfl
 have hc0:cl.toArray[0]? =some (.int .u8 2):=by rw [←hcl];rfl
 have hc1:cl.toArray[1]? =some (.int .i64 id):=by rw [←hcl];rfl
 have hc2:cl.toArray[2]? =some (.string name):=by rw [←hcl];rfl
 have hc3:cl.toArray[3]? =some (.bool ad):=by rw [←hcl];rfl
 have hc4:cl.toArray[4]? =some (.bool gn):=by rw [←hcl];rfl
 have hc15:cl.toArray[15]? =some (.string rg.name):=by rw [←hcl];rfl
 have hc16:cl.toArray[16]? =some (.int .i64 rg.top):=by rw [←hcl];rfl
 have hc17:cl.toArray[17]? =some (.int .i64 rg.height):=by rw [←hcl];rfl
 have hc18:cl.toArray[18]? =some (.int .i64 rg.left):=by rw [←hcl];rfl
 have hc19:cl.toArray[19]? =some (.int .i64 rg.width):=by rw [←hcl];rfl
 have hc20:cl.toArray[20]? =some (.int .u8 rg.align):=by rw [←hcl];rfl
 have hc21:cl.toArray[21]? =some (.bool rg.bottom):=by rw [←hcl];rfl
 clear hcl
 have hk0:(((w.alloc (.cells #[fz title,.string lA,.int .u8 rate,.bool drop,.int .i64 last,.slice ra rG.length rc,.slice ea evs.length ec,.slice ca cms.length cc] 27)).alloc (.cells cl.toArray 54)).alloc (.cells #[fz ⟨#[]⟩,.string ⟨#[]⟩,.int .u8 0,.bool false,.int .i64 0,.slice none 0 0,.slice none 0 0,.slice none 0 0] 27)).heap[w.heap.size]? =some (.cells #[fz title,.string lA,.int .u8 rate,.bool drop,.int .i64 last,.slice ra rG.length rc,.slice ea evs.length ec,.slice ca cms.length cc] 27 (0,0)):=ar (ar (fj w _))
 have hk1:(((w.alloc (.cells #[fz title,.string lA,.int .u8 rate,.bool drop,.int .i64 last,.slice ra rG.length rc,.slice ea evs.length ec,.slice ca cms.length cc] 27)).alloc (.cells cl.toArray 54)).alloc (.cells #[fz ⟨#[]⟩,.string ⟨#[]⟩,.int .u8 0,.bool false,.int .i64 0,.slice none 0 0,.slice none 0 0,.slice none 0 0] 27)).heap[w.heap.size+1]? =some (.cells cl.toArray 54 (0,0)):=ar (aD _ (by simp))
 have hk2:(((w.alloc (.cells #[fz title,.string lA,.int .u8 rate,.bool drop,.int .i64 last,.slice ra rG.length rc,.slice ea evs.length ec,.slice ca cms.length cc] 27)).alloc (.cells cl.toArray 54)).alloc (.cells #[fz ⟨#[]⟩,.string ⟨#[]⟩,.int .u8 0,.bool false,.int .i64 0,.slice none 0 0,.slice none 0 0,.slice none 0 0] 27)).heap[w.heap.size+1+1]? =some (.cells #[fz ⟨#[]⟩,.string ⟨#[]⟩,.int .u8 0,.bool false,.int .i64 0,.slice none 0 0,.slice none 0 0,.slice none 0 0] 27 (0,0)):=aD _ (by simp)
 have hbw:fq w.heap.size w (((w.alloc (.cells #[fz title,.string lA,.int .u8 rate,.bool drop,.int .i64 last,.slice ra rG.length rc,.slice ea evs.length ec,.slice ca cms.length cc] 27)).alloc (.cells cl.toArray 54)).alloc (.cells #[fz ⟨#[]⟩,.string ⟨#[]⟩,.int .u8 0,.bool false,.int .i64 0,.slice none 0 0,.slice none 0 0,.slice none 0 0] 27)):=(((fC _ _).alloc (fD _) _).alloc (by simp) _).alloc (by simp;omega) _
 have hsz:(((w.alloc (.cells #[fz title,.string lA,.int .u8 rate,.bool drop,.int .i64 last,.slice ra rG.length rc,.slice ea evs.length ec,.slice ca cms.length cc] 27)).alloc (.cells cl.toArray 54)).alloc (.cells #[fz ⟨#[]⟩,.string ⟨#[]⟩,.int .u8 0,.bool false,.int .i64 0,.slice none 0 0,.slice none 0 0,.slice none 0 0] 27)).heap.size=w.heap.size+1+1+1:=by simp
 generalize hW0:((w.alloc (.cells #[fz title,.string lA,.int .u8 rate,.bool drop,.int .i64 last,.slice ra rG.length rc,.slice ea evs.length ec,.slice ca cms.length cc] 27)).alloc (.cells cl.toArray 54)).alloc (.cells #[fz ⟨#[]⟩,.string ⟨#[]⟩,.int .u8 0,.bool false,.int .i64 0,.slice none 0 0,.slice none 0 0,.slice none 0 0] 27)=W0 at *
 have HW0:=h_ hW0
 have HSZ:=h_ hsz
 have HK0:=h_ hk0
 have HK1:=h_ hk1
 have HK2:=h_ hk2
 have HBW:=h_ (fun(w':fb) (h:fq W0.heap.size W0 w')=>(hbw.trans (h.mono hbw.size):fq w.heap.size w w'))
 have bd:∀ (w':fb),fq W0.heap.size W0 w'→∀ (j:Nat),w'.cell? ⟨w.heap.size,j,none⟩=_:=fun w' h j=>e_ _ _ j _ 27 (0,0) ((h.block _ (fF.1 hk0).1).trans hk0)
 have HRD:=h_ (fun(w':fb) (h:fq W0.heap.size W0 w')=>ay (w:=w') (l:=(#[fz title,.string lA,.int .u8 rate,.bool drop,.int .i64 last,.slice ra rG.length rc,.slice ea evs.length ec,.slice ca cms.length cc]:Array ff).toList) ((h.block _ (fF.1 hk0).1).trans hk0))
 have HRC:=h_ (fun(w':fb) (h:fq W0.heap.size W0 w')=>ay (w:=w') (l:=cl) ((h.block _ (fF.1 hk1).1).trans hk1))
 have HI54:=h_ (show(fr.info? 54).map (·.size)=some cl.length from by rw [ef,hln])
 have HI27:=h_ (show(fr.info? 27).map (·.size)=some (#[fz title,.string lA,.int .u8 rate,.bool drop,.int .i64 last,.slice ra rG.length rc,.slice ea evs.length ec,.slice ca cms.length cc]:Array ff).toList.length from aI)
 have k0:∀ (w':fb),fq W0.heap.size W0 w'→w'.cell? ⟨w.heap.size+1,0,none⟩=some (.int .u8 2):=fun w' h=>(e_ _ _ 0 _ 54 (0,0) ((h.block _ (fF.1 hk1).1).trans hk1)).trans hc0
 have k1:∀ (w':fb),fq W0.heap.size W0 w'→w'.cell? ⟨w.heap.size+1,1,none⟩=some (.int .i64 id):=fun w' h=>(e_ _ _ 1 _ 54 (0,0) ((h.block _ (fF.1 hk1).1).trans hk1)).trans hc1
 have k2:∀ (w':fb),fq W0.heap.size W0 w'→w'.cell? ⟨w.heap.size+1,2,none⟩=some (.string name):=fun w' h=>(e_ _ _ 2 _ 54 (0,0) ((h.block _ (fF.1 hk1).1).trans hk1)).trans hc2
 have k3:∀ (w':fb),fq W0.heap.size W0 w'→w'.cell? ⟨w.heap.size+1,3,none⟩=some (.bool ad):=fun w' h=>(e_ _ _ 3 _ 54 (0,0) ((h.block _ (fF.1 hk1).1).trans hk1)).trans hc3
 have k4:∀ (w':fb),fq W0.heap.size W0 w'→w'.cell? ⟨w.heap.size+1,4,none⟩=some (.bool gn):=fun w' h=>(e_ _ _ 4 _ 54 (0,0) ((h.block _ (fF.1 hk1).1).trans hk1)).trans hc4
 have k15:∀ (w':fb),fq W0.heap.size W0 w'→w'.cell? ⟨w.heap.size+1,15,none⟩=some (.string rg.name):=fun w' h=>(e_ _ _ 15 _ 54 (0,0) ((h.block _ (fF.1 hk1).1).trans hk1)).trans hc15
 have k16:∀ (w':fb),fq W0.heap.size W0 w'→w'.cell? ⟨w.heap.size+1,16,none⟩=some (.int .i64 rg.top):=fun w' h=>(e_ _ _ 16 _ 54 (0,0) ((h.block _ (fF.1 hk1).1).trans hk1)).trans hc16
 have k17:∀ (w':fb),fq W0.heap.size W0 w'→w'.cell? ⟨w.heap.size+1,17,none⟩=some (.int .i64 rg.height):=fun w' h=>(e_ _ _ 17 _ 54 (0,0) ((h.block _ (fF.1 hk1).1).trans hk1)).trans hc17
 have k18:∀ (w':fb),fq W0.heap.size W0 w'→w'.cell? ⟨w.heap.size+1,18,none⟩=some (.int .i64 rg.left):=fun w' h=>(e_ _ _ 18 _ 54 (0,0) ((h.block _ (fF.1 hk1).1).trans hk1)).trans hc18
 have k19:∀ (w':fb),fq W0.heap.size W0 w'→w'.cell? ⟨w.heap.size+1,19,none⟩=some (.int .i64 rg.width):=fun w' h=>(e_ _ _ 19 _ 54 (0,0) ((h.block _ (fF.1 hk1).1).trans hk1)).trans hc19
 have k20:∀ (w':fb),fq W0.heap.size W0 w'→w'.cell? ⟨w.heap.size+1,20,none⟩=some (.int .u8 rg.align):=fun w' h=>(e_ _ _ 20 _ 54 (0,0) ((h.block _ (fF.1 hk1).1).trans hk1)).trans hc20
 have k21:∀ (w':fb),fq W0.heap.size W0 w'→w'.cell? ⟨w.heap.size+1,21,none⟩=some (.bool rg.bottom):=fun w' h=>(e_ _ _ 21 _ 54 (0,0) ((h.block _ (fF.1 hk1).1).trans hk1)).trans hc21
 have b00:fq W0.heap.size W0 W0:=fC _ _
 clear hW0 hsz hk0 hk1 hk2 hbw hln hc0 hc1 hc2 hc3 hc4 hc15 hc16 hc17 hc18 hc19 hc20 hc21
 go_enter fy,fx
 go_upto_region 1 with fail
 rw [HW0.out]
 have hag2:=hag
 clear hag
 cases ad
 case' true=>obtain rfl:gn=false:=hag2 rfl
 all_goals
  clear hag2
  go_upto_region 17 with fail
  go_wp2_with fail
  refine(HF.out _ (HBW.out _ b00)).mono ?_
  rintro e w3 ⟨rfl,hb3⟩
  go_upto_region 18 with fail
  have hbc:fq W0.heap.size W0 (w3.alloc (.cells #[fz X.name,.int .i64 X.top,.int .i64 X.height,.int .i64 X.left,.int .i64 X.width,.int .u8 X.align,.bool X.bottom] 44)):=hb3.alloc hb3.size _
  have hkx:=fj w3 (.cells #[fz X.name,.int .i64 X.top,.int .i64 X.height,.int .i64 X.left,.int .i64 X.width,.int .u8 X.align,.bool X.bottom] 44)
  have hlx:w3.heap.size<(w3.alloc (.cells #[fz X.name,.int .i64 X.top,.int .i64 X.height,.int .i64 X.left,.int .i64 X.width,.int .u8 X.align,.bool X.bottom] 44)).heap.size:=by simp
  have hgx:W0.heap.size≤w3.heap.size:=hb3.size
  generalize w3.alloc (.cells #[fz X.name,.int .i64 X.top,.int .i64 X.height,.int .i64 X.left,.int .i64 X.width,.int .u8 X.align,.bool X.bottom] 44)=wc at *
  have cx:∀ (w':fb),fq wc.heap.size wc w'→∀ (j:Nat),w'.cell? ⟨w3.heap.size,j,none⟩=_:=fun w' h j=>e_ _ _ j _ 44 (0,0) ((h.block _ hlx).trans hkx)
  have HCW:=h_ hbc
  have HT:=h_ (fun(w':fb) (h:fq wc.heap.size wc w')=>(hbc.trans (h.mono hbc.size):fq W0.heap.size W0 w'))
  have HAE:=h_ (fun(w1:fb)=>HAL.out RE w1)
  rw [←HEQ.out] at HAE
  have hwd:fq wc.heap.size wc wc.drew:=(fC _ _).drew
  clear hb3 hkx hlx HF HAL
  refine fm (S:=fun w'=>fq wc.heap.size wc w') (by kernel_rfl) hwd (fun hHeld=>?_)
  refine fe (i:=0) (v:=.agg cl.toArray) rfl (by kernel_rfl) (by kernel_rfl) (by kernel_rfl) (fun _ _ _ h=>h) (fo (by rfl) 54 (.tmp 3) rfl (w.heap.size+1) 0 rfl cl _ (fun w' h=>HRC.out w' (HT.out w' h)) fu rfl HI54.out) (by assumption) ?_
  try simp only [fH,fL,fJ,fK,fI,fM,fN,fG]
  refine fe (i:=1) (v:=.bool there) rfl (by kernel_rfl) (by kernel_rfl) (by kernel_rfl) (fun _ _ _ h=>h) (.inl ⟨by rfl,fun w' h=>by have h2:fq wc.heap.size wc w':=h;have h3:=HT.out w' h2;go_simp⟩) (by assumption) ?_
  try simp only [fH,fL,fJ,fK,fI,fM,fN,fG]
  refine fe (i:=2) (v:=.agg #[fz X.name,.int .i64 X.top,.int .i64 X.height,.int .i64 X.left,.int .i64 X.width,.int .u8 X.align,.bool X.bottom]) rfl (by kernel_rfl) (by kernel_rfl) (by kernel_rfl) (fun _ _ _ h=>h) (.inl ⟨by rfl,fun w' h=>by have h2:fq wc.heap.size wc w':=h;have h3:=HT.out w' h2;go_simp⟩) (by assumption) ?_
  try simp only [fH,fL,fJ,fK,fI,fM,fN,fG]
  refine fe (i:=3) (v:=.pointer (some ⟨w.heap.size+1,15,none⟩)) rfl (by kernel_rfl) (by kernel_rfl) (by kernel_rfl) (fun _ _ _ h=>h) (.inl ⟨by rfl,fun w' h=>by have h2:fq wc.heap.size wc w':=h;have h3:=HT.out w' h2;go_simp⟩) (by assumption) ?_
  try simp only [fH,fL,fJ,fK,fI,fM,fN,fG]
  refine fe (i:=4) (v:=.agg #[fz rg.name,.int .i64 rg.top,.int .i64 rg.height,.int .i64 rg.left,.int .i64 rg.width,.int .u8 rg.align,.bool rg.bottom]) rfl (by kernel_rfl) (by kernel_rfl) (by kernel_rfl) (fun _ _ _ h=>h) (.inl ⟨by rfl,fun w' h=>by have h2:fq wc.heap.size wc w':=h;have h3:=HT.out w' h2;go_simp⟩) (by assumption) ?_
  try simp only [fH,fL,fJ,fK,fI,fM,fN,fG]
  refine fe (i:=5) (v:=.bool RE) rfl (by kernel_rfl) (by kernel_rfl) (by kernel_rfl) (fun _ _ _ h=>h) (.inl ⟨by rfl,fun w' h=>by have h2:fq wc.heap.size wc w':=h;have h3:=HT.out w' h2;go_simp⟩) (by assumption) ?_
  try simp only [fH,fL,fJ,fK,fI,fM,fN,fG]
  refine wpAnyH_ready (rs:=[6]) (by kernel_rfl) (by simp) ?_
  refine AllReadyH.cons rfl (fun K hK=>?_) AllReadyH.nil
  go_simp
  refine(HAE.out _).mono ?_
  rintro e w4 ⟨rfl,hb4⟩
  have hw4:fq wc.heap.size wc w4:=hwd.trans (hb4.mono hwd.size)
  clear hb4
  go_wp2_with fail
  refine hK.out _ _ hw4 (fun hHeld2=>?_)
  clear hK
  try simp only [fH,fL,fJ,fK,fI,fM,fN,fG]
  refine fe (i:=7) (v:=.int .i64 ERR) rfl (by kernel_rfl) (by kernel_rfl) (by kernel_rfl) (fun _ _ _ h=>h) (.inl ⟨by rfl,fun w' h=>by have h2:fq wc.heap.size wc w':=h;have h3:=HT.out w' h2;go_simp⟩) (by assumption) ?_
  try simp only [fH,fL,fJ,fK,fI,fM,fN,fG]
  refine wpAnyH_done (by kernel_rfl) ?_ _
  have hb5:=HT.out _ hw4
  by_cases h0:ERR=0
  · have hcc:=HC0.out h0
    subst h0
    have HCC:=h_ hcc
    clear hcc HC0 HC1 HEQ HAE
    go_wp2_with (refine fg rfl 54 (.tmp 3) rfl (w.heap.size+1) 0 rfl cl _ (HRC.out _ hb5) fu rfl HI54.out ?_)
    refine(HCHG.out _ (HBW.out _ hb5)).mono ?_
    rintro e w6 ⟨a6,c6,rfl,hS6,hf6,hb6⟩
    have h06:fq W0.heap.size W0 w6:=hb5.trans (hb6.mono hb5.size)
    have H06:=h_ h06
    have HK6:=h_ ((h06.block _ (fF.1 HK0.out).1).trans HK0.out)
    have bd6:=bd w6 h06
    have z6:∀ (j:Nat),w6.frozen? ⟨w.heap.size,j,none⟩=false:=fun j=>by simp [fb.frozen?,HK6.out]
    have HS6:=h_ hS6
    have HF6:=h_ (fun ad (e:a6=some ad)=>fE hb5.size (hf6 ad e))
    clear hS6 hf6 hb6 bd cx hw4 hwd HCHG
    go_upto_region 28 with fail
    have HRG:=h_ (ay (w:=w6.setCell ⟨w.heap.size,5,none⟩ (.slice a6 YS.length c6)) (l:=(#[fz title,.string lA,.int .u8 rate,.bool drop,.int .i64 last,.slice a6 YS.length c6,.slice ea evs.length ec,.slice ca cms.length cc]:Array ff).toList) (fp w6 w.heap.size 5 _ 27 (.slice a6 YS.length c6) HK6.out))
    have HKZ:=h_ (show(w6.setCell ⟨w.heap.size,5,none⟩ (.slice a6 YS.length c6)).heap[w.heap.size+1+1]? =some (.cells #[fz ⟨#[]⟩,.string ⟨#[]⟩,.int .u8 0,.bool false,.int .i64 0,.slice none 0 0,.slice none 0 0,.slice none 0 0] 27 (0,0)) from(fB _ _ _ _ (by simp only;omega)).trans ((H06.out.block _ (fF.1 HK2.out).1).trans HK2.out))
    have cz:∀ (cs:Array ff) (j:Nat),((w6.setCell ⟨w.heap.size,5,none⟩ (.slice a6 YS.length c6)).setRow (w.heap.size+1+1) cs).cell? ⟨w.heap.size+1+1,j,none⟩=cs[j]?:=fun cs j=>fi _ _ _ _ _ _ _ HKZ.out
    have HDI:=h_ (show(fr.info? 27).map (·.size)=some (#[fz title,.string lA,.int .u8 rate,.bool drop,.int .i64 last,.slice a6 YS.length c6,.slice ea evs.length ec,.slice ca cms.length cc]:Array ff).size from aI)
    have HDL:=h_ (show(fr.info? 27).map (·.size)=some (#[fz title,.string lA,.int .u8 rate,.bool drop,.int .i64 last,.slice a6 YS.length c6,.slice ea evs.length ec,.slice ca cms.length cc]:Array ff).toList.length from aI)
    have H1C:=h_ (show(#[fz title,.string lA,.int .u8 rate,.bool drop,.int .i64 last,.slice a6 YS.length c6,.slice ea evs.length ec,.slice ca cms.length cc]:Array ff).all (·.oneCell')=true from bq (Doc.one ⟨title,lA,rate,drop,last,a6,c6,YS,ea,ec,evs,ca,cc,cms⟩))
    have HE:=h_ (HEND.out ⟨title,lA,rate,drop,last,a6,c6,YS,ea,ec,evs,ca,cc,cms⟩ 0 (w6.setCell ⟨w.heap.size,5,none⟩ (.slice a6 YS.length c6)) (HCC.out) (⟨ab.frame HS6.out (by simp) (fun b hu=>fB _ _ _ _ (by obtain⟨_,ad,e,rfl⟩:=hu;have:=HF6.out ad e;rw [HSZ.out] at this;simp only;omega)) (fun _ _ _=>trivial),bK.frame (bK.later HDL0.out.2.1 (HBW.out _ H06.out)) (by simp) (fun b hu=>fB _ _ _ _ (by have:=zbT HDL0.out.2.1 hu;simp only;omega)),ab.frame (zey.later HDL0.out.2.2 (HBW.out _ H06.out)) (by simp) (fun b hu=>fB _ _ _ _ (by have:=bu HDL0.out.2.2 hu;simp only;omega)) (fun _ _ _=>trivial)⟩) (fun b hu=>by rcases hu with⟨_,ad,e,rfl⟩|hu|hu;exact .inr (by have:=HF6.out ad e;rw [HSZ.out] at this;exact this);exact .inl (.inr (.inl hu));exact .inl (.inr (.inr hu))) ((HBW.out _ H06.out).setCell (p:=⟨w.heap.size,5,none⟩) (fD _) _))
    go_wp2_with (first|(refine fg rfl 27 (.tmp 2) rfl w.heap.size 0 rfl (#[fz title,.string lA,.int .u8 rate,.bool drop,.int .i64 last,.slice a6 YS.length c6,.slice ea evs.length ec,.slice ca cms.length cc]:Array ff).toList _ HRG.out ft rfl HDL.out ?_)|(refine fh rfl 27 (.tmp 4) (.tmp 146) rfl (w.heap.size+1+1) #[fz title,.string lA,.int .u8 rate,.bool drop,.int .i64 last,.slice a6 YS.length c6,.slice ea evs.length ec,.slice ca cms.length cc] rfl rfl 27 _ HKZ.out HDI.out rfl H1C.out ?_))
    refine fk (v:=.tuple #[.agg #[fz title,.string lA,.int .u8 rate,.bool drop,.int .i64 last,.slice a6 YS.length c6,.slice ea evs.length ec,.slice ca cms.length cc],.int .i64 0]) (by simp [results,fw,go_sem,cz]) rfl HE.out
  · have HCC:=h_ (HC1.out h0)
    have hne:(ERR != 0)=true:=by simpa using h0
    have H04:=h_ hb5
    clear HC0 HC1 HEQ HAE HCHG bd cx hw4 hwd
    go_upto_region 20 with fail
    have HRG:=h_ (ay (w:=w4) (l:=(#[fz title,.string lA,.int .u8 rate,.bool drop,.int .i64 last,.slice ra rG.length rc,.slice ea evs.length ec,.slice ca cms.length cc]:Array ff).toList) ((H04.out.block _ (fF.1 HK0.out).1).trans HK0.out))
    have HKZ:=h_ (show(w4).heap[w.heap.size+1+1]? =some (.cells #[fz ⟨#[]⟩,.string ⟨#[]⟩,.int .u8 0,.bool false,.int .i64 0,.slice none 0 0,.slice none 0 0,.slice none 0 0] 27 (0,0)) from(H04.out.block _ (fF.1 HK2.out).1).trans HK2.out)
    have cz:∀ (cs:Array ff) (j:Nat),((w4).setRow (w.heap.size+1+1) cs).cell? ⟨w.heap.size+1+1,j,none⟩=cs[j]?:=fun cs j=>fi _ _ _ _ _ _ _ HKZ.out
    have HDI:=h_ (show(fr.info? 27).map (·.size)=some (#[fz title,.string lA,.int .u8 rate,.bool drop,.int .i64 last,.slice ra rG.length rc,.slice ea evs.length ec,.slice ca cms.length cc]:Array ff).size from aI)
    have HDL:=h_ (show(fr.info? 27).map (·.size)=some (#[fz title,.string lA,.int .u8 rate,.bool drop,.int .i64 last,.slice ra rG.length rc,.slice ea evs.length ec,.slice ca cms.length cc]:Array ff).toList.length from aI)
    have H1C:=h_ (show(#[fz title,.string lA,.int .u8 rate,.bool drop,.int .i64 last,.slice ra rG.length rc,.slice ea evs.length ec,.slice ca cms.length cc]:Array ff).all (·.oneCell')=true from bq (Doc.one ⟨title,lA,rate,drop,last,ra,rc,rG,ea,ec,evs,ca,cc,cms⟩))
    have HE:=h_ (HEND.out ⟨title,lA,rate,drop,last,ra,rc,rG,ea,ec,evs,ca,cc,cms⟩ ERR (w4) (HCC.out) (Doc.later HDL0.out (HBW.out _ H04.out)) (fun b h=>.inl h) (HBW.out _ H04.out))
    go_wp2_with (first|(refine fg rfl 27 (.tmp 2) rfl w.heap.size 0 rfl (#[fz title,.string lA,.int .u8 rate,.bool drop,.int .i64 last,.slice ra rG.length rc,.slice ea evs.length ec,.slice ca cms.length cc]:Array ff).toList _ HRG.out ft rfl HDL.out ?_)|(refine fh rfl 27 (.tmp 4) (.tmp 114) rfl (w.heap.size+1+1) #[fz title,.string lA,.int .u8 rate,.bool drop,.int .i64 last,.slice ra rG.length rc,.slice ea evs.length ec,.slice ca cms.length cc] rfl rfl 27 _ HKZ.out HDI.out rfl H1C.out ?_))
    refine fk (v:=.tuple #[.agg #[fz title,.string lA,.int .u8 rate,.bool drop,.int .i64 last,.slice ra rG.length rc,.slice ea evs.length ec,.slice ca cms.length cc],.int .i64 ERR]) (by simp [results,fw,go_sem,cz]) rfl HE.out
theorem zdo (d:Doc)(x:Chg)(w:fb)(hsec:x.sec=4)(hok:zds d.c)(hb:cu x.c=0)(hd:d.lies w)(hfd:d.fits) :
 Calls fr 57 #[.agg d.enc.toArray,.agg x.enc.toArray] w (dU d x w):=by
 have hag:=(zal hb).2.2.1
 have hag:x.added=true→x.gone=false:=hag
 obtain⟨X,there,hv,hx,ht⟩:=ziq (d.cms.find? (cmAt x.id))
 have HF:=h_ (fun(w1:fb) (h:fq w.heap.size w w1)=>(show Calls fr 52 #[.agg d.enc.toArray,.int .i64 x.id] w1 (fun e w'=>e=.returned (.tuple #[.agg X.enc.toArray,.bool there])∧fq w1.heap.size w1 w') from(zem d x.id w1 (hd.2.2.later h) hfd.2.2.2.2.2.2.2.2.2.2).mono (fun e w' p=>⟨by rw [←hv];exact p.1,p.2⟩)))
 have hE:cW d.cms x.c=aB x.added there (cmEq X x.oc):=by rw [hx,ht];rfl
 have hC0:cW d.cms x.c=0→aV d.c x.c=(0,⟨d.hd,d.rG,d.evs.map Ev.c,setL (cmLo x.id) (cmAt x.id) x.c.dP x.gone d.cms⟩):=fun h0=>by
  unfold aV
  rw [if_neg (by simpa using hb),if_neg (show ¬ x.c.sec=1 by show ¬ x.sec=1;omega),if_neg (show ¬ x.c.sec=2 by show ¬ x.sec=2;omega),if_neg (show ¬ x.c.sec=3 by show ¬ x.sec=3;omega),if_pos (show cW d.c.cms x.c=0 from h0),ziB (xs:=d.cms) (zkA x.id) (zkB x.id) hok.cms x.gone x.c.dP]
  rfl
 have hC1:¬ cW d.cms x.c=0→aV d.c x.c=(cW d.cms x.c,d.c):=fun h0=>by
  unfold aV
  rw [if_neg (by simpa using hb),if_neg (show ¬ x.c.sec=1 by show ¬ x.sec=1;omega),if_neg (show ¬ x.c.sec=2 by show ¬ x.sec=2;omega),if_neg (show ¬ x.c.sec=3 by show ¬ x.sec=3;omega),if_neg (show ¬ cW d.c.cms x.c=0 from h0)]
  rfl
 have HAL:=h_ (fun(s:Bool) (w1:fb)=>zbg x there s w1)
 have r1:=fun wx=>ziE X x.oc wx
 have HCHG:=h_ (fun(w1:fb) (h:fq w.heap.size w w1)=>zgY d.ca d.cc d.cms x w1 (hd.2.2.later h) hfd.2.2.2.2.2.2.2.2.2.2)
 have HEND:=h_ (fun(d2:Doc) (err:Int) (w1:fb) h1 h2 h3 h4=>zdO (d:=d) (x:=x) (w:=w) (d2:=d2) (err:=err) (w1:=w1) hd h1 h2 h3 h4)
 generalize hRE:cmEq X x.oc=RE at *
 generalize cW d.cms x.c=ERR at *
 generalize hQ:dU d x w=Q at *
 generalize setL (cmLo x.id) (cmAt x.id) x.c.dP x.gone d.cms=YS at *
 have HC0:=h_ hC0
 have HC1:=h_ hC1
 have HEQ:=h_ hE
 have HDL0:=h_ hd
 clear hv hx ht hQ hRE hE hC0 hC1 hd hfd hok hb
 obtain⟨sec,id,name,ad,gn,oh,nh,rg,nr,oe,ne,oc,nc⟩:=x
 simp only at hsec hag
 subst hsec
 obtain⟨title,lA,rate,drop,last,ra,rc,rG,ea,ec,evs,ca,cc,cms⟩:=d
 simp only [Doc.enc,Cm.enc,Doc.c,Doc.hd] at *
 generalize hcl:Chg.enc _=cl at *
 have hln:cl.length=59:=by rw [←hcl];rfl
 have hc0:cl.toArray[0]? =some (.int .u8 4):=by rw [←hcl];rfl
 have hc1:cl.toArray[1]? =some (.int .i64 id):=by rw [←hcl];rfl
 have hc2:cl.toArray[2]? =some (.string name):=by rw [←hcl];rfl
 have hc3:cl.toArray[3]? =some (.bool ad):=by rw [←hcl];rfl
 have hc4:cl.toArray[4]? =some (.bool gn):=by rw [←hcl];rfl
 have hc43:cl.toArray[43]? =some (.int .i64 oc.id):=by rw [←hcl];rfl
 have hc44:cl.toArray[44]? =some (.int .i64 oc.ev):=by rw [←hcl];rfl
 have hc45:cl.toArray[45]? =some (.int .i64 oc.frm):=by rw [←hcl];rfl
 have hc46:cl.toArray[46]? =some (.int .i64 oc.til):=by rw [←hcl];rfl
 have hc47:cl.toArray[47]? =some (.string oc.author):=by rw [←hcl];rfl
 have hc48:cl.toArray[48]? =some (.string oc.text):=by rw [←hcl];rfl
 have hc49:cl.toArray[49]? =some (.bool oc.done):=by rw [←hcl];rfl
 have hc50:cl.toArray[50]? =some (.bool oc.lost):=by rw [←hcl];rfl
 clear hcl
 have hk0:(((w.alloc (.cells #[fz title,.string lA,.int .u8 rate,.bool drop,.int .i64 last,.slice ra rG.length rc,.slice ea evs.length ec,.slice ca cms.length cc] 27)).alloc (.cells cl.toArray 54)).alloc (.cells #[fz ⟨#[]⟩,.string ⟨#[]⟩,.int .u8 0,.bool false,.int .i64 0,.slice none 0 0,.slice none 0 0,.slice none 0 0] 27)).heap[w.heap.size]? =some (.cells #[fz title,.string lA,.int .u8 rate,.bool drop,.int .i64 last,.slice ra rG.length rc,.slice ea evs.length ec,.slice ca cms.length cc] 27 (0,0)):=ar (ar (fj w _))
 have hk1:(((w.alloc (.cells #[fz title,.string lA,.int .u8 rate,.bool drop,.int .i64 last,.slice ra rG.length rc,.slice ea evs.length ec,.slice ca cms.length cc] 27)).alloc (.cells cl.toArray 54)).alloc (.cells #[fz ⟨#[]⟩,.string ⟨#[]⟩,.int .u8 0,.bool false,.int .i64 0,.slice none 0 0,.slice none 0 0,.slice none 0 0] 27)).heap[w.heap.size+1]? =some (.cells cl.toArray 54 (0,0)):=ar (aD _ (by simp))
 have hk2:(((w.alloc (.cells #[fz title,.string lA,.int .u8 rate,.bool drop,.int .i64 last,.slice ra rG.length rc,.slice ea evs.length ec,.slice ca cms.length cc] 27)).alloc (.cells cl.toArray 54)).alloc (.cells #[fz ⟨#[]⟩,.string ⟨#[]⟩,.int .u8 0,.bool false,.int .i64 0,.slice none 0 0,.slice none 0 0,.slice none 0 0] 27)).heap[w.heap.size+1+1]? =some (.cells #[fz ⟨#[]⟩,.string ⟨#[]⟩,.int .u8 0,.bool false,.int .i64 0,.slice none 0 0,.slice none 0 0,.slice none 0 0] 27 (0,0)):=aD _ (by simp)
 have hbw:fq w.heap.size w (((w.alloc (.cells #[fz title,.string lA,.int .u8 rate,.bool drop,.int .i64 last,.slice ra rG.length rc,.slice ea evs.length ec,.slice ca cms.length cc] 27)).alloc (.cells cl.toArray 54)).alloc (.cells #[fz ⟨#[]⟩,.string ⟨#[]⟩,.int .u8 0,.bool false,.int .i64 0,.slice none 0 0,.slice none 0 0,.slice none 0 0] 27)):=(((fC _ _).alloc (fD _) _).alloc (by simp) _).alloc (by simp;omega) _
 have hsz:(((w.alloc (.cells #[fz title,.string lA,.int .u8 rate,.bool drop,.int .i64 last,.slice ra rG.length rc,.slice ea evs.length ec,.slice ca cms.length cc] 27)).alloc (.cells cl.toArray 54)).alloc (.cells #[fz ⟨#[]⟩,.string ⟨#[]⟩,.int .u8 0,.bool false,.int .i64 0,.slice none 0 0,.slice none 0 0,.slice none 0 0] 27)).heap.size=w.heap.size+1+1+1:=by simp
 generalize hW0:((w.alloc (.cells #[fz title,.string lA,.int .u8 rate,.bool drop,.int .i64 last,.slice ra rG.length rc,.slice ea evs.length ec,.slice ca cms.length cc] 27)).alloc (.cells cl.toArray 54)).alloc (.cells #[fz ⟨#[]⟩,.string ⟨#[]⟩,.int .u8 0,.bool false,.int .i64 0,.slice none 0 0,.slice none 0 0,.slice none 0 0] 27)=W0 at *
 have HW0:=h_ hW0
 have HSZ:=h_ hsz
 have HK0:=h_ hk0
 have HK1:=h_ hk1
 have HK2:=h_ hk2
 have HBW:=h_ (fun(w':fb) (h:fq W0.heap.size W0 w')=>(hbw.trans (h.mono hbw.size):fq w.heap.size w w'))
 have bd:∀ (w':fb),fq W0.heap.size W0 w'→∀ (j:Nat),w'.cell? ⟨w.heap.size,j,none⟩=_:=fun w' h j=>e_ _ _ j _ 27 (0,0) ((h.block _ (fF.1 hk0).1).trans hk0)
 have HRD:=h_ (fun(w':fb) (h:fq W0.heap.size W0 w')=>ay (w:=w') (l:=(#[fz title,.string lA,.int .u8 rate,.bool drop,.int .i64 last,.slice ra rG.length rc,.slice ea evs.length ec,.slice ca cms.length cc]:Array ff).toList) ((h.block _ (fF.1 hk0).1).trans hk0))
 have HRC:=h_ (fun(w':fb) (h:fq W0.heap.size W0 w')=>ay (w:=w') (l:=cl) ((h.block _ (fF.1 hk1).1).trans hk1))
 have HI54:=h_ (show(fr.info? 54).map (·.size)=some cl.length from by rw [ef,hln])
 have HI27:=h_ (show(fr.info? 27).map (·.size)=some (#[fz title,.string lA,.int .u8 rate,.bool drop,.int .i64 last,.slice ra rG.length rc,.slice ea evs.length ec,.slice ca cms.length cc]:Array ff).toList.length from aI)
 have k0:∀ (w':fb),fq W0.heap.size W0 w'→w'.cell? ⟨w.heap.size+1,0,none⟩=some (.int .u8 4):=fun w' h=>(e_ _ _ 0 _ 54 (0,0) ((h.block _ (fF.1 hk1).1).trans hk1)).trans hc0
 have k1:∀ (w':fb),fq W0.heap.size W0 w'→w'.cell? ⟨w.heap.size+1,1,none⟩=some (.int .i64 id):=fun w' h=>(e_ _ _ 1 _ 54 (0,0) ((h.block _ (fF.1 hk1).1).trans hk1)).trans hc1
 have k2:∀ (w':fb),fq W0.heap.size W0 w'→w'.cell? ⟨w.heap.size+1,2,none⟩=some (.string name):=fun w' h=>(e_ _ _ 2 _ 54 (0,0) ((h.block _ (fF.1 hk1).1).trans hk1)).trans hc2
 have k3:∀ (w':fb),fq W0.heap.size W0 w'→w'.cell? ⟨w.heap.size+1,3,none⟩=some (.bool ad):=fun w' h=>(e_ _ _ 3 _ 54 (0,0) ((h.block _ (fF.1 hk1).1).trans hk1)).trans hc3
 have k4:∀ (w':fb),fq W0.heap.size W0 w'→w'.cell? ⟨w.heap.size+1,4,none⟩=some (.bool gn):=fun w' h=>(e_ _ _ 4 _ 54 (0,0) ((h.block _ (fF.1 hk1).1).trans hk1)).trans hc4
 have k43:∀ (w':fb),fq W0.heap.size W0 w'→w'.cell? ⟨w.heap.size+1,43,none⟩=some (.int .i64 oc.id):=fun w' h=>(e_ _ _ 43 _ 54 (0,0) ((h.block _ (fF.1 hk1).1).trans hk1)).trans hc43
 have k44:∀ (w':fb),fq W0.heap.size W0 w'→w'.cell? ⟨w.heap.size+1,44,none⟩=some (.int .i64 oc.ev):=fun w' h=>(e_ _ _ 44 _ 54 (0,0) ((h.block _ (fF.1 hk1).1).trans hk1)).trans hc44
 have k45:∀ (w':fb),fq W0.heap.size W0 w'→w'.cell? ⟨w.heap.size+1,45,none⟩=some (.int .i64 oc.frm):=fun w' h=>(e_ _ _ 45 _ 54 (0,0) ((h.block _ (fF.1 hk1).1).trans hk1)).trans hc45
 have k46:∀ (w':fb),fq W0.heap.size W0 w'→w'.cell? ⟨w.heap.size+1,46,none⟩=some (.int .i64 oc.til):=fun w' h=>(e_ _ _ 46 _ 54 (0,0) ((h.block _ (fF.1 hk1).1).trans hk1)).trans hc46
 have k47:∀ (w':fb),fq W0.heap.size W0 w'→w'.cell? ⟨w.heap.size+1,47,none⟩=some (.string oc.author):=fun w' h=>(e_ _ _ 47 _ 54 (0,0) ((h.block _ (fF.1 hk1).1).trans hk1)).trans hc47
 have k48:∀ (w':fb),fq W0.heap.size W0 w'→w'.cell? ⟨w.heap.size+1,48,none⟩=some (.string oc.text):=fun w' h=>(e_ _ _ 48 _ 54 (0,0) ((h.block _ (fF.1 hk1).1).trans hk1)).trans hc48
 have k49:∀ (w':fb),fq W0.heap.size W0 w'→w'.cell? ⟨w.heap.size+1,49,none⟩=some (.bool oc.done):=fun w' h=>(e_ _ _ 49 _ 54 (0,0) ((h.block _ (fF.1 hk1).1).trans hk1)).trans hc49
 have k50:∀ (w':fb),fq W0.heap.size W0 w'→w'.cell? ⟨w.heap.size+1,50,none⟩=some (.bool oc.lost):=fun w' h=>(e_ _ _ 50 _ 54 (0,0) ((h.block _ (fF.1 hk1).1).trans hk1)).trans hc50
 have b00:fq W0.heap.size W0 W0:=fC _ _
 clear hW0 hsz hk0 hk1 hk2 hbw hln hc0 hc1 hc2 hc3 hc4 hc43 hc44 hc45 hc46 hc47 hc48 hc49 hc50
 go_enter fy,fx
 go_upto_region 1 with fail
 rw [HW0.out]
 have hag2:=hag
 clear hag
 cases ad
 case' true=>obtain rfl:gn=false:=hag2 rfl
 all_goals
  clear hag2
  go_upto_region 6 with fail
  go_wp2_with (refine fg rfl 27 (.tmp 2) rfl w.heap.size 0 rfl (#[fz title,.string lA,.int .u8 rate,.bool drop,.int .i64 last,.slice ra rG.length rc,.slice ea evs.length ec,.slice ca cms.length cc]:Array ff).toList _ (HRD.out _ b00) ft rfl HI27.out ?_)
  refine(HF.out _ (HBW.out _ b00)).mono ?_
  rintro e w3 ⟨rfl,hb3⟩
  go_upto_region 7 with fail
  have hbc:fq W0.heap.size W0 (w3.alloc (.cells #[fA .i64 X.id,.int .i64 X.ev,.int .i64 X.frm,.int .i64 X.til,.string X.author,.string X.text,.bool X.done,.bool X.lost] 52)):=hb3.alloc hb3.size _
  have hkx:=fj w3 (.cells #[fA .i64 X.id,.int .i64 X.ev,.int .i64 X.frm,.int .i64 X.til,.string X.author,.string X.text,.bool X.done,.bool X.lost] 52)
  have hlx:w3.heap.size<(w3.alloc (.cells #[fA .i64 X.id,.int .i64 X.ev,.int .i64 X.frm,.int .i64 X.til,.string X.author,.string X.text,.bool X.done,.bool X.lost] 52)).heap.size:=by simp
  have hgx:W0.heap.size≤w3.heap.size:=hb3.size
  generalize w3.alloc (.cells #[fA .i64 X.id,.int .i64 X.ev,.int .i64 X.frm,.int .i64 X.til,.string X.author,.string X.text,.bool X.done,.bool X.lost] 52)=wc at *
  have cx:∀ (w':fb),fq wc.heap.size wc w'→∀ (j:Nat),w'.cell? ⟨w3.heap.size,j,none⟩=_:=fun w' h j=>e_ _ _ j _ 52 (0,0) ((h.block _ hlx).trans hkx)
  have HCW:=h_ hbc
  have HT:=h_ (fun(w':fb) (h:fq wc.heap.size wc w')=>(hbc.trans (h.mono hbc.size):fq W0.heap.size W0 w'))
  have HAE:=h_ (fun(w1:fb)=>HAL.out RE w1)
  rw [←HEQ.out] at HAE
  have hwd:fq wc.heap.size wc wc.drew:=(fC _ _).drew
  clear hb3 hkx hlx HF HAL
  refine fm (S:=fun w'=>fq wc.heap.size wc w') (by kernel_rfl) hwd (fun hHeld=>?_)
  refine fe (i:=0) (v:=.agg cl.toArray) rfl (by kernel_rfl) (by kernel_rfl) (by kernel_rfl) (fun _ _ _ h=>h) (fo (by rfl) 54 (.tmp 3) rfl (w.heap.size+1) 0 rfl cl _ (fun w' h=>HRC.out w' (HT.out w' h)) fu rfl HI54.out) (by assumption) ?_
  try simp only [fH,fL,fJ,fK,fI,fM,fN,fG]
  refine fe (i:=1) (v:=.bool there) rfl (by kernel_rfl) (by kernel_rfl) (by kernel_rfl) (fun _ _ _ h=>h) (.inl ⟨by rfl,fun w' h=>by have h2:fq wc.heap.size wc w':=h;have h3:=HT.out w' h2;go_simp⟩) (by assumption) ?_
  try simp only [fH,fL,fJ,fK,fI,fM,fN,fG]
  refine fe (i:=2) (v:=.agg #[fA .i64 X.id,.int .i64 X.ev,.int .i64 X.frm,.int .i64 X.til,.string X.author,.string X.text,.bool X.done,.bool X.lost]) rfl (by kernel_rfl) (by kernel_rfl) (by kernel_rfl) (fun _ _ _ h=>h) (.inl ⟨by rfl,fun w' h=>by have h2:fq wc.heap.size wc w':=h;have h3:=HT.out w' h2;go_simp⟩) (by assumption) ?_
  try simp only [fH,fL,fJ,fK,fI,fM,fN,fG]
  refine fe (i:=3) (v:=.pointer (some ⟨w.heap.size+1,43,none⟩)) rfl (by kernel_rfl) (by kernel_rfl) (by kernel_rfl) (fun _ _ _ h=>h) (.inl ⟨by rfl,fun w' h=>by have h2:fq wc.heap.size wc w':=h;have h3:=HT.out w' h2;go_simp⟩) (by assumption) ?_
  try simp only [fH,fL,fJ,fK,fI,fM,fN,fG]
  refine fe (i:=4) (v:=.agg #[fA .i64 oc.id,.int .i64 oc.ev,.int .i64 oc.frm,.int .i64 oc.til,.string oc.author,.string oc.text,.bool oc.done,.bool oc.lost]) rfl (by kernel_rfl) (by kernel_rfl) (by kernel_rfl) (fun _ _ _ h=>h) (.inl ⟨by rfl,fun w' h=>by have h2:fq wc.heap.size wc w':=h;have h3:=HT.out w' h2;go_simp⟩) (by assumption) ?_
  try simp only [fH,fL,fJ,fK,fI,fM,fN,fG]
  refine fe (i:=5) (v:=.bool RE) rfl (by kernel_rfl) (by kernel_rfl) (by kernel_rfl) (fun _ _ _ h=>h) (.inl ⟨by rfl,fun w' h=>by have h2:fq wc.heap.size wc w':=h;have h3:=HT.out w' h2;go_simp⟩) (by assumption) ?_
  try simp only [fH,fL,fJ,fK,fI,fM,fN,fG]
  refine wpAnyH_ready (rs:=[6]) (by kernel_rfl) (by simp) ?_
  refine AllReadyH.cons rfl (fun K hK=>?_) AllReadyH.nil
  go_simp
  refine(HAE.out _).mono ?_
  rintro e w4 ⟨rfl,hb4⟩
  have hw4:fq wc.heap.size wc w4:=hwd.trans (hb4.mono hwd.size)
  clear hb4
  go_wp2_with fail
  refine hK.out _ _ hw4 (fun hHeld2=>?_)
  clear hK
  try simp only [fH,fL,fJ,fK,fI,fM,fN,fG]
  refine fe (i:=7) (v:=.int .i64 ERR) rfl (by kernel_rfl) (by kernel_rfl) (by kernel_rfl) (fun _ _ _ h=>h) (.inl ⟨by rfl,fun w' h=>by have h2:fq wc.heap.size wc w':=h;have h3:=HT.out w' h2;go_simp⟩) (by assumption) ?_
  try simp only [fH,fL,fJ,fK,fI,fM,fN,fG]
  refine wpAnyH_done (by kernel_rfl) ?_ _
  have hb5:=HT.out _ hw4
  by_cases h0:ERR=0
  · have hcc:=HC0.out h0
    subst h0
    have HCC:=h_ hcc
    clear hcc HC0 HC1 HEQ HAE
    go_wp2_with (refine fg rfl 54 (.tmp 3) rfl (w.heap.size+1) 0 rfl cl _ (HRC.out _ hb5) fu rfl HI54.out ?_)
    refine(HCHG.out _ (HBW.out _ hb5)).mono ?_
    rintro e w6 ⟨a6,c6,rfl,hS6,hf6,hb6⟩
    have h06:fq W0.heap.size W0 w6:=hb5.trans (hb6.mono hb5.size)
    have H06:=h_ h06
    have HK6:=h_ ((h06.block _ (fF.1 HK0.out).1).trans HK0.out)
    have bd6:=bd w6 h06
    have z6:∀ (j:Nat),w6.frozen? ⟨w.heap.size,j,none⟩=false:=fun j=>by simp [fb.frozen?,HK6.out]
    have HS6:=h_ hS6
    have HF6:=h_ (fun ad (e:a6=some ad)=>fE hb5.size (hf6 ad e))
    clear hS6 hf6 hb6 bd cx hw4 hwd HCHG
    go_upto_region 28 with fail
    have HRG:=h_ (ay (w:=w6.setCell ⟨w.heap.size,7,none⟩ (.slice a6 YS.length c6)) (l:=(#[fz title,.string lA,.int .u8 rate,.bool drop,.int .i64 last,.slice ra rG.length rc,.slice ea evs.length ec,.slice a6 YS.length c6]:Array ff).toList) (fp w6 w.heap.size 7 _ 27 (.slice a6 YS.length c6) HK6.out))
    have HKZ:=h_ (show(w6.setCell ⟨w.heap.size,7,none⟩ (.slice a6 YS.length c6)).heap[w.heap.size+1+1]? =some (.cells #[fz ⟨#[]⟩,.string ⟨#[]⟩,.int .u8 0,.bool false,.int .i64 0,.slice none 0 0,.slice none 0 0,.slice none 0 0] 27 (0,0)) from(fB _ _ _ _ (by simp only;omega)).trans ((H06.out.block _ (fF.1 HK2.out).1).trans HK2.out))
    have cz:∀ (cs:Array ff) (j:Nat),((w6.setCell ⟨w.heap.size,7,none⟩ (.slice a6 YS.length c6)).setRow (w.heap.size+1+1) cs).cell? ⟨w.heap.size+1+1,j,none⟩=cs[j]?:=fun cs j=>fi _ _ _ _ _ _ _ HKZ.out
    have HDI:=h_ (show(fr.info? 27).map (·.size)=some (#[fz title,.string lA,.int .u8 rate,.bool drop,.int .i64 last,.slice ra rG.length rc,.slice ea evs.length ec,.slice a6 YS.length c6]:Array ff).size from aI)
    have HDL:=h_ (show(fr.info? 27).map (·.size)=some (#[fz title,.string lA,.int .u8 rate,.bool drop,.int .i64 last,.slice ra rG.length rc,.slice ea evs.length ec,.slice a6 YS.length c6]:Array ff).toList.length from aI)
    have H1C:=h_ (show(#[fz title,.string lA,.int .u8 rate,.bool drop,.int .i64 last,.slice ra rG.length rc,.slice ea evs.length ec,.slice a6 YS.length c6]:Array ff).all (·.oneCell')=true from bq (Doc.one ⟨title,lA,rate,drop,last,ra,rc,rG,ea,ec,evs,a6,c6,YS⟩))
    have HE:=h_ (HEND.out ⟨title,lA,rate,drop,last,ra,rc,rG,ea,ec,evs,a6,c6,YS⟩ 0 (w6.setCell ⟨w.heap.size,7,none⟩ (.slice a6 YS.length c6)) (HCC.out) (⟨ab.frame (Regs.later HDL0.out.1 (HBW.out _ H06.out)) (by simp) (fun b hu=>fB _ _ _ _ (by have:=bu HDL0.out.1 hu;simp only;omega)) (fun _ _ _=>trivial),bK.frame (bK.later HDL0.out.2.1 (HBW.out _ H06.out)) (by simp) (fun b hu=>fB _ _ _ _ (by have:=zbT HDL0.out.2.1 hu;simp only;omega)),ab.frame HS6.out (by simp) (fun b hu=>fB _ _ _ _ (by obtain⟨_,ad,e,rfl⟩:=hu;have:=HF6.out ad e;rw [HSZ.out] at this;simp only;omega)) (fun _ _ _=>trivial)⟩) (fun b hu=>by rcases hu with hu|hu|⟨_,ad,e,rfl⟩;exact .inl (.inl hu);exact .inl (.inr (.inl hu));exact .inr (by have:=HF6.out ad e;rw [HSZ.out] at this;exact this)) ((HBW.out _ H06.out).setCell (p:=⟨w.heap.size,7,none⟩) (fD _) _))
    go_wp2_with (first|(refine fg rfl 27 (.tmp 2) rfl w.heap.size 0 rfl (#[fz title,.string lA,.int .u8 rate,.bool drop,.int .i64 last,.slice ra rG.length rc,.slice ea evs.length ec,.slice a6 YS.length c6]:Array ff).toList _ HRG.out ft rfl HDL.out ?_)|(refine fh rfl 27 (.tmp 4) (.tmp 146) rfl (w.heap.size+1+1) #[fz title,.string lA,.int .u8 rate,.bool drop,.int .i64 last,.slice ra rG.length rc,.slice ea evs.length ec,.slice a6 YS.length c6] rfl rfl 27 _ HKZ.out HDI.out rfl H1C.out ?_))
    refine fk (v:=.tuple #[.agg #[fz title,.string lA,.int .u8 rate,.bool drop,.int .i64 last,.slice ra rG.length rc,.slice ea evs.length ec,.slice a6 YS.length c6],.int .i64 0]) (by simp [results,fw,go_sem,cz]) rfl HE.out
  · have HCC:=h_ (HC1.out h0)
    have hne:(ERR != 0)=true:=by simpa using h0
    have H04:=h_ hb5
    clear HC0 HC1 HEQ HAE HCHG bd cx hw4 hwd
    go_upto_region 9 with fail
    have HRG:=h_ (ay (w:=w4) (l:=(#[fz title,.string lA,.int .u8 rate,.bool drop,.int .i64 last,.slice ra rG.length rc,.slice ea evs.length ec,.slice ca cms.length cc]:Array ff).toList) ((H04.out.block _ (fF.1 HK0.out).1).trans HK0.out))
    have HKZ:=h_ (show(w4).heap[w.heap.size+1+1]? =some (.cells #[fz ⟨#[]⟩,.string ⟨#[]⟩,.int .u8 0,.bool false,.int .i64 0,.slice none 0 0,.slice none 0 0,.slice none 0 0] 27 (0,0)) from(H04.out.block _ (fF.1 HK2.out).1).trans HK2.out)
    have cz:∀ (cs:Array ff) (j:Nat),((w4).setRow (w.heap.size+1+1) cs).cell? ⟨w.heap.size+1+1,j,none⟩=cs[j]?:=fun cs j=>fi _ _ _ _ _ _ _ HKZ.out
    have HDI:=h_ (show(fr.info? 27).map (·.size)=some (#[fz title,.string lA,.int .u8 rate,.bool drop,.int .i64 last,.slice ra rG.length rc,.slice ea evs.length ec,.slice ca cms.length cc]:Array ff).size from aI)
    have HDL:=h_ (show(fr.info? 27).map (·.size)=some (#[fz title,.string lA,.int .u8 rate,.bool drop,.int .i64 last,.slice ra rG.length rc,.slice ea evs.length ec,.slice ca cms.length cc]:Array ff).toList.length from aI)
    have H1C:=h_ (show(#[fz title,.string lA,.int .u8 rate,.bool drop,.int .i64 last,.slice ra rG.length rc,.slice ea evs.length ec,.slice ca cms.length cc]:Array ff).all (·.oneCell')=true from bq (Doc.one ⟨title,lA,rate,drop,last,ra,rc,rG,ea,ec,evs,ca,cc,cms⟩))
    have HE:=h_ (HEND.out ⟨title,lA,rate,drop,last,ra,rc,rG,ea,ec,evs,ca,cc,cms⟩ ERR (w4) (HCC.out) (Doc.later HDL0.out (HBW.out _ H04.out)) (fun b h=>.inl h) (HBW.out _ H04.out))
    go_wp2_with (first|(refine fg rfl 27 (.tmp 2) rfl w.heap.size 0 rfl (#[fz title,.string lA,.int .u8 rate,.bool drop,.int .i64 last,.slice ra rG.length rc,.slice ea evs.length ec,.slice ca cms.length cc]:Array ff).toList _ HRG.out ft rfl HDL.out ?_)|(refine fh rfl 27 (.tmp 4) (.tmp 63) rfl (w.heap.size+1+1) #[fz title,.string lA,.int .u8 rate,.bool drop,.int .i64 last,.slice ra rG.length rc,.slice ea evs.length ec,.slice ca cms.length cc] rfl rfl 27 _ HKZ.out HDI.out rfl H1C.out ?_))
    refine fk (v:=.tuple #[.agg #[fz title,.string lA,.int .u8 rate,.bool drop,.int .i64 last,.slice ra rG.length rc,.slice ea evs.length ec,.slice ca cms.length cc],.int .i64 ERR]) (by simp [results,fw,go_sem,cz]) rfl HE.out
end Go.Proofs.YtnlnmbcaongehaaGreatDoor
