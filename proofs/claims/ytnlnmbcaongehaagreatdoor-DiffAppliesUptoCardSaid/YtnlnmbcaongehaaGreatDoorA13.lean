/- The contract of the reference's apply at an event's change, a header's, and one that is none; at any change. (printed by gen_refapply.py) -/
import Derived.Test.YtnlnmbcaongehaaGreatDoorA12
set_option linter.unusedVariables false
set_option linter.unusedSimpArgs false
set_option maxRecDepth 100000
set_option maxHeartbeats 12800000
open Go.Lib renaming hid→h_
open Go renaming cell_of_row→e_,Value→fb,World→fe,wpList_load_mid→ff,wpList_store_row→fg,cell_setRow_same→fh,bodyPost_ret→fi,heap_setCell_same→fj,heap_alloc_last→fk,wpAnyH_take→fm
open Go.Proofs.Tryz renaming prog→fo,underlying27→fp,results57→fq,ntmps57→fr,func57→ft,underlying54→fu
open Go.RowKit renaming Below→fw
open Go.Value renaming string→fx,int→fy
open Go.RowKit.Below renaming heap_setCell→fz,refl→fA
open Nat renaming le_refl→fB
open Array renaming getElem?_eq_some_iff→fC,toArray_toList→fD
open Go.Act renaming put→fE
open List renaming setIfInBounds_toArray→fF,getElem_cons_zero→fG,getElem_cons_succ→fH,getElem_toArray→fI,set_cons_zero→fJ,set_cons_succ→fK
namespace Go.Proofs.YtnlnmbcaongehaaGreatDoor
open Go.RowKit
attribute [local go_sem ↓] Go.wp_at_zero Go.wp_at_succ
theorem zdn (d:Doc)(x:Chg)(w:fe)(hsec:x.sec=3)(hok:zds d.c)(hb:cu x.c=0)(hd:d.lies w)(hfd:d.fits)(hxl:x.lies w)(hfn:x.ne.rows.length≤4000000∧∀ r∈x.ne.rows,r.runs.length≤4000000) :
 Calls fo 57 #[.agg d.enc.toArray,.agg x.enc.toArray] w (dU d x w):=by
 have hag:=(zal hb).2.2.1
 have hag:x.added=true→x.gone=false:=hag
 have hfe:∀ z∈d.evs,z.rows.length≤4000000∧∀ r∈z.rows,r.runs.length≤4000000:=fun z hz=>⟨(hfd.2.2.2.2.2.2.2.1 z hz).2.2.2.2.2.2.2.2,fun r hr=>((hfd.2.2.2.2.2.2.2.1 z hz).2.2.2.2.2.2.2.1 r hr).2.1⟩
 have HF:=h_ (fun(w1:fe) (h:fw w.heap.size w w1)=>zgc d x.id w1 (hd.2.1.later h) hfd.2.2.2.2.2.2.2.2.1 hfe)
 have HGOT:=h_ (zih hfe (evIs x.id))
 have hE:b8 (d.evs.map Ev.c) x.c=aB x.added (d.evs.find? (evIs x.id)).isSome (zgf ((d.evs.find? (evIs x.id)).getD aQ).c x.oe.c):=by
  unfold b8
  show aB x.added ((d.evs.map Ev.c).find? (evAt x.id)).isSome (zgf (((d.evs.map Ev.c).find? (evAt x.id)).getD aY) x.oe.c)=_
  rw [zkm,Option.isSome_map]
  show aB x.added (d.evs.find? (evIs x.id)).isSome (zgf (((d.evs.find? (evIs x.id)).map Ev.c).getD aY) x.oe.c)=_
  cases d.evs.find? (evIs x.id)<;>rfl
 have hC0:∀ zs:List Ev,b8 (d.evs.map Ev.c) x.c=0→(zs.map Ev.c).Perm ((d.evs.map Ev.c).filter (fun z=>!(z.id==x.id))++(if x.gone=true then none else some x.c.newEv).toList)→((zs.map Ev.c).Pairwise fun x y=>evLe x y=true)→aV d.c x.c=(0,⟨d.hd,d.rG,zs.map Ev.c,d.cms⟩):=fun zs h0 hp hs=>by
  unfold aV
  rw [if_neg (by simpa using hb),if_neg (show ¬ x.c.sec=1 by show ¬ x.sec=1;omega),if_neg (show ¬ x.c.sec=2 by show ¬ x.sec=2;omega),if_pos (show x.c.sec=3 from hsec),if_pos (show b8 d.c.evs x.c=0 from h0)]
  have:=zbU hp hs (zca hok.ids x.id _ (fun y hy=>by
   split at hy
   · cases hy
   · obtain rfl:=Option.some.inj hy
     rfl))
  rw [this]
  rfl
 have hC1:¬ b8 (d.evs.map Ev.c) x.c=0→aV d.c x.c=(b8 (d.evs.map Ev.c) x.c,d.c):=fun h0=>by
  unfold aV
  rw [if_neg (by simpa using hb),if_neg (show ¬ x.c.sec=1 by show ¬ x.sec=1;omega),if_neg (show ¬ x.c.sec=2 by show ¬ x.sec=2;omega),if_pos (show x.c.sec=3 from hsec),if_neg (show ¬ b8 d.c.evs x.c=0 from h0)]
  rfl
 have HAL:=h_ (fun(t s:Bool) (w1:fe)=>zbg x t s w1)
 have HSM:=h_ (fun(y:Ev) (w1:fe) (h:fw w.heap.size w w1) (hy:y.lies w1) hfy hly=>zaC y x.oe w1 hy (Ev.keeps _ _ _ h hxl.1) hfy hly)
 have HCHG:=h_ (fun(w1:fe) (h:fw w.heap.size w w1)=>zeI d.ea d.ec d.evs x w1 (hd.2.1.later h) (Ev.keeps _ _ _ h hxl.2) hfe hfn hfd.2.2.2.2.2.2.2.2.1)
 have HEND:=h_ (fun(d2:Doc) (err:Int) (w1:fe) h1 h2 h3 h4=>zdO (d:=d) (x:=x) (w:=w) (d2:=d2) (err:=err) (w1:=w1) hd h1 h2 h3 h4)
 have HCE:=h_ (fun(y:Ev) (h:y.c=((d.evs.find? (evIs x.id)).getD aQ).c)=>(show evEq y x.oe=zgf ((d.evs.find? (evIs x.id)).getD aQ).c x.oe.c from by rw [zkr,h]))
 unfold zmc at HF
 unfold zgC at HCHG
 generalize (d.evs.find? (evIs x.id)).isSome=there at *
 generalize ((d.evs.find? (evIs x.id)).getD aQ).c=GC at *
 generalize zgf GC x.oe.c=RE at *
 generalize b8 (d.evs.map Ev.c) x.c=ERR at *
 generalize hQ:dU d x w=Q at *
 generalize ((d.evs.map Ev.c).filter (fun z=>!(z.id==x.id))++(if x.gone=true then none else some x.c.newEv).toList)=CS at *
 have HC0:=h_ hC0
 have HC1:=h_ hC1
 have HEQ:=h_ hE
 have HDL0:=h_ hd
 clear hQ hE hC0 hC1 hd hfd hok hb hfe hfn hxl
 obtain⟨sec,id,name,ad,gn,oh,nh,rg,nr,oe,ne,oc,nc⟩:=x
 simp only at hsec hag
 subst hsec
 obtain⟨title,lA,rate,drop,last,ra,rc,rG,ea,ec,evs,ca,cc,cms⟩:=d
 simp only [Doc.enc,Doc.c,Doc.hd] at *
 generalize hcl:Chg.enc _=cl at *
 have hln:cl.length=59:=by rw [←hcl];rfl
 have hc0:cl.toArray[0]? =some (.int .u8 3):=by rw [←hcl];rfl
 have hc1:cl.toArray[1]? =some (.int .i64 id):=by rw [←hcl];rfl
 have hc3:cl.toArray[3]? =some (.bool ad):=by rw [←hcl];rfl
 have hc4:cl.toArray[4]? =some (.bool gn):=by rw [←hcl];rfl
 have hc29:cl.toArray[29]? =some (.int .i64 oe.id):=by rw [←hcl];rfl
 have hc30:cl.toArray[30]? =some (.int .i64 oe.inn):=by rw [←hcl];rfl
 have hc31:cl.toArray[31]? =some (.int .i64 oe.out):=by rw [←hcl];rfl
 have hc32:cl.toArray[32]? =some (.string oe.region):=by rw [←hcl];rfl
 have hc33:cl.toArray[33]? =some (.int .u8 oe.kind):=by rw [←hcl];rfl
 have hc34:cl.toArray[34]? =some (.string oe.speaker):=by rw [←hcl];rfl
 have hc35:cl.toArray[35]? =some (.slice oe.at_ oe.rows.length oe.cap):=by rw [←hcl];rfl
 clear hcl
 have hk0:(((w.alloc (.cells #[fx title,.string lA,.int .u8 rate,.bool drop,.int .i64 last,.slice ra rG.length rc,.slice ea evs.length ec,.slice ca cms.length cc] 27)).alloc (.cells cl.toArray 54)).alloc (.cells #[fx ⟨#[]⟩,.string ⟨#[]⟩,.int .u8 0,.bool false,.int .i64 0,.slice none 0 0,.slice none 0 0,.slice none 0 0] 27)).heap[w.heap.size]? =some (.cells #[fx title,.string lA,.int .u8 rate,.bool drop,.int .i64 last,.slice ra rG.length rc,.slice ea evs.length ec,.slice ca cms.length cc] 27 (0,0)):=ar (ar (fk w _))
 have hk1:(((w.alloc (.cells #[fx title,.string lA,.int .u8 rate,.bool drop,.int .i64 last,.slice ra rG.length rc,.slice ea evs.length ec,.slice ca cms.length cc] 27)).alloc (.cells cl.toArray 54)).alloc (.cells #[fx ⟨#[]⟩,.string ⟨#[]⟩,.int .u8 0,.bool false,.int .i64 0,.slice none 0 0,.slice none 0 0,.slice none 0 0] 27)).heap[w.heap.size+1]? =some (.cells cl.toArray 54 (0,0)):=ar (aD _ (by simp))
 have hk2:(((w.alloc (.cells #[fx title,.string lA,.int .u8 rate,.bool drop,.int .i64 last,.slice ra rG.length rc,.slice ea evs.length ec,.slice ca cms.length cc] 27)).alloc (.cells cl.toArray 54)).alloc (.cells #[fx ⟨#[]⟩,.string ⟨#[]⟩,.int .u8 0,.bool false,.int .i64 0,.slice none 0 0,.slice none 0 0,.slice none 0 0] 27)).heap[w.heap.size+1+1]? =some (.cells #[fx ⟨#[]⟩,.string ⟨#[]⟩,.int .u8 0,.bool false,.int .i64 0,.slice none 0 0,.slice none 0 0,.slice none 0 0] 27 (0,0)):=aD _ (by simp)
 have hbw:fw w.heap.size w (((w.alloc (.cells #[fx title,.string lA,.int .u8 rate,.bool drop,.int .i64 last,.slice ra rG.length rc,.slice ea evs.length ec,.slice ca cms.length cc] 27)).alloc (.cells cl.toArray 54)).alloc (.cells #[fx ⟨#[]⟩,.string ⟨#[]⟩,.int .u8 0,.bool false,.int .i64 0,.slice none 0 0,.slice none 0 0,.slice none 0 0] 27)):=(((fA _ _).alloc (fB _) _).alloc (by simp) _).alloc (by simp;omega) _
 have hsz:(((w.alloc (.cells #[fx title,.string lA,.int .u8 rate,.bool drop,.int .i64 last,.slice ra rG.length rc,.slice ea evs.length ec,.slice ca cms.length cc] 27)).alloc (.cells cl.toArray 54)).alloc (.cells #[fx ⟨#[]⟩,.string ⟨#[]⟩,.int .u8 0,.bool false,.int .i64 0,.slice none 0 0,.slice none 0 0,.slice none 0 0] 27)).heap.size=w.heap.size+1+1+1:=by simp
 generalize hW0:((w.alloc (.cells #[fx title,.string lA,.int .u8 rate,.bool drop,.int .i64 last,.slice ra rG.length rc,.slice ea evs.length ec,.slice ca cms.length cc] 27)).alloc (.cells cl.toArray 54)).alloc (.cells #[fx ⟨#[]⟩,.string ⟨#[]⟩,.int .u8 0,.bool false,.int .i64 0,.slice none 0 0,.slice none 0 0,.slice none 0 0] 27)=W0 at *
 have HW0:=h_ hW0
 have HSZ:=h_ hsz
 have HK0:=h_ hk0
 have HK1:=h_ hk1
 have HK2:=h_ hk2
 have HBW:=h_ (fun(w':fe) (h:fw W0.heap.size W0 w')=>(hbw.trans (h.mono hbw.size):fw w.heap.size w w'))
 have bd:∀ (w':fe),fw W0.heap.size W0 w'→∀ (j:Nat),w'.cell? ⟨w.heap.size,j,none⟩=_:=fun w' h j=>e_ _ _ j _ 27 (0,0) ((h.block _ (fC.1 hk0).1).trans hk0)
 have HRD:=h_ (fun(w':fe) (h:fw W0.heap.size W0 w')=>ay (w:=w') (l:=(#[fx title,.string lA,.int .u8 rate,.bool drop,.int .i64 last,.slice ra rG.length rc,.slice ea evs.length ec,.slice ca cms.length cc]:Array fb).toList) ((h.block _ (fC.1 hk0).1).trans hk0))
 have HRC:=h_ (fun(w':fe) (h:fw W0.heap.size W0 w')=>ay (w:=w') (l:=cl) ((h.block _ (fC.1 hk1).1).trans hk1))
 have HI54:=h_ (show(fo.info? 54).map (·.size)=some cl.length from by rw [ef,hln])
 have HI27:=h_ (show(fo.info? 27).map (·.size)=some (#[fx title,.string lA,.int .u8 rate,.bool drop,.int .i64 last,.slice ra rG.length rc,.slice ea evs.length ec,.slice ca cms.length cc]:Array fb).toList.length from aI)
 have k0:∀ (w':fe),fw W0.heap.size W0 w'→w'.cell? ⟨w.heap.size+1,0,none⟩=some (.int .u8 3):=fun w' h=>(e_ _ _ 0 _ 54 (0,0) ((h.block _ (fC.1 hk1).1).trans hk1)).trans hc0
 have k1:∀ (w':fe),fw W0.heap.size W0 w'→w'.cell? ⟨w.heap.size+1,1,none⟩=some (.int .i64 id):=fun w' h=>(e_ _ _ 1 _ 54 (0,0) ((h.block _ (fC.1 hk1).1).trans hk1)).trans hc1
 have k3:∀ (w':fe),fw W0.heap.size W0 w'→w'.cell? ⟨w.heap.size+1,3,none⟩=some (.bool ad):=fun w' h=>(e_ _ _ 3 _ 54 (0,0) ((h.block _ (fC.1 hk1).1).trans hk1)).trans hc3
 have k4:∀ (w':fe),fw W0.heap.size W0 w'→w'.cell? ⟨w.heap.size+1,4,none⟩=some (.bool gn):=fun w' h=>(e_ _ _ 4 _ 54 (0,0) ((h.block _ (fC.1 hk1).1).trans hk1)).trans hc4
 have k29:∀ (w':fe),fw W0.heap.size W0 w'→w'.cell? ⟨w.heap.size+1,29,none⟩=some (.int .i64 oe.id):=fun w' h=>(e_ _ _ 29 _ 54 (0,0) ((h.block _ (fC.1 hk1).1).trans hk1)).trans hc29
 have k30:∀ (w':fe),fw W0.heap.size W0 w'→w'.cell? ⟨w.heap.size+1,30,none⟩=some (.int .i64 oe.inn):=fun w' h=>(e_ _ _ 30 _ 54 (0,0) ((h.block _ (fC.1 hk1).1).trans hk1)).trans hc30
 have k31:∀ (w':fe),fw W0.heap.size W0 w'→w'.cell? ⟨w.heap.size+1,31,none⟩=some (.int .i64 oe.out):=fun w' h=>(e_ _ _ 31 _ 54 (0,0) ((h.block _ (fC.1 hk1).1).trans hk1)).trans hc31
 have k32:∀ (w':fe),fw W0.heap.size W0 w'→w'.cell? ⟨w.heap.size+1,32,none⟩=some (.string oe.region):=fun w' h=>(e_ _ _ 32 _ 54 (0,0) ((h.block _ (fC.1 hk1).1).trans hk1)).trans hc32
 have k33:∀ (w':fe),fw W0.heap.size W0 w'→w'.cell? ⟨w.heap.size+1,33,none⟩=some (.int .u8 oe.kind):=fun w' h=>(e_ _ _ 33 _ 54 (0,0) ((h.block _ (fC.1 hk1).1).trans hk1)).trans hc33
 have k34:∀ (w':fe),fw W0.heap.size W0 w'→w'.cell? ⟨w.heap.size+1,34,none⟩=some (.string oe.speaker):=fun w' h=>(e_ _ _ 34 _ 54 (0,0) ((h.block _ (fC.1 hk1).1).trans hk1)).trans hc34
 have k35:∀ (w':fe),fw W0.heap.size W0 w'→w'.cell? ⟨w.heap.size+1,35,none⟩=some (.slice oe.at_ oe.rows.length oe.cap):=fun w' h=>(e_ _ _ 35 _ 54 (0,0) ((h.block _ (fC.1 hk1).1).trans hk1)).trans hc35
 have b00:fw W0.heap.size W0 W0:=fA _ _
 clear hW0 hsz hk0 hk1 hk2 hbw hln hc0 hc1 hc3 hc4 hc29 hc30 hc31 hc32 hc33 hc34 hc35
 go_enter ft,fr
 go_upto_region 1 with fail
 rw [HW0.out]
 have hag2:=hag
 clear hag
 cases ad
 case' true=>obtain rfl:gn=false:=hag2 rfl
 all_goals
  clear hag2
  go_upto_region 23 with fail
  go_wp2_with (refine ff rfl 27 (.tmp 2) rfl w.heap.size 0 rfl (#[fx title,.string lA,.int .u8 rate,.bool drop,.int .i64 last,.slice ra rG.length rc,.slice ea evs.length ec,.slice ca cms.length cc]:Array fb).toList _ (HRD.out _ b00) fp rfl HI27.out ?_)
  refine(HF.out _ (HBW.out _ b00)).mono ?_
  rintro e w3 ⟨y,rfl,hyc,hyl,hyu,hb3⟩
  have hfy:=zgd hyc HGOT.out
  have hes:evEq y oe=RE:=HCE.out y hyc
  have HYL:=h_ hyl
  have hH:=fun(w1:fe) (h:fw w3.heap.size w3 w1)=>HSM.out y w1 (HBW.out _ (hb3.trans (h.mono hb3.size))) (Ev.keeps _ _ _ h hyl) hfy.2 hfy.1
  rw [hes] at hH
  have HES:=h_ hH
  obtain⟨yid,yinn,yout,yreg,ykind,ysp,ya,yc,yrows⟩:=y
  simp only [Ev.enc] at *
  clear hyc hyl hyu hfy hes HSM HCE HGOT hH HF
  go_upto_region 24 with fail
  have hbc:fw W0.heap.size W0 (w3.alloc (.cells #[fy .i64 yid,.int .i64 yinn,.int .i64 yout,.string yreg,.int .u8 ykind,.string ysp,.slice ya yrows.length yc] 50)):=hb3.alloc hb3.size _
  have h3c:fw w3.heap.size w3 (w3.alloc (.cells #[fy .i64 yid,.int .i64 yinn,.int .i64 yout,.string yreg,.int .u8 ykind,.string ysp,.slice ya yrows.length yc] 50)):=(fA _ _).alloc (fB _) _
  have hkx:=fk w3 (.cells #[fy .i64 yid,.int .i64 yinn,.int .i64 yout,.string yreg,.int .u8 ykind,.string ysp,.slice ya yrows.length yc] 50)
  have hlx:w3.heap.size<(w3.alloc (.cells #[fy .i64 yid,.int .i64 yinn,.int .i64 yout,.string yreg,.int .u8 ykind,.string ysp,.slice ya yrows.length yc] 50)).heap.size:=by simp
  have hgx:W0.heap.size≤w3.heap.size:=hb3.size
  generalize w3.alloc (.cells #[fy .i64 yid,.int .i64 yinn,.int .i64 yout,.string yreg,.int .u8 ykind,.string ysp,.slice ya yrows.length yc] 50)=wc at *
  have cx:∀ (w':fe),fw wc.heap.size wc w'→∀ (j:Nat),w'.cell? ⟨w3.heap.size,j,none⟩=_:=fun w' h j=>e_ _ _ j _ 50 (0,0) ((h.block _ hlx).trans hkx)
  have HT:=h_ (fun(w':fe) (h:fw wc.heap.size wc w')=>(hbc.trans (h.mono hbc.size):fw W0.heap.size W0 w'))
  have HT3:=h_ (fun(w':fe) (h:fw wc.heap.size wc w')=>(h3c.trans (h.mono h3c.size):fw w3.heap.size w3 w'))
  have HAE:=h_ (fun(w1:fe)=>HAL.out there RE w1)
  rw [←HEQ.out] at HAE
  have hwd:fw wc.heap.size wc wc.drew:=(fA _ _).drew
  clear hb3 hkx hlx HAL h3c
  refine wp_region_held_drew (S:=fun w'=>fw wc.heap.size wc w') (by kernel_rfl) hwd (fun hHeld=>?_)
  refine fm (i:=0) (v:=.agg cl.toArray) rfl (by kernel_rfl) (by kernel_rfl) (by kernel_rfl) (fun _ _ _ h=>h) (yieldsIf_load_mid (by rfl) 54 (.tmp 3) rfl (w.heap.size+1) 0 rfl cl _ (fun w' h=>HRC.out w' (HT.out w' h)) fu rfl HI54.out) (by assumption) ?_
  try simp only [fE,fI,fG,fH,fF,fJ,fK,fD]
  refine fm (i:=1) (v:=.bool there) rfl (by kernel_rfl) (by kernel_rfl) (by kernel_rfl) (fun _ _ _ h=>h) (.inl ⟨by rfl,fun w' h=>by have h2:fw wc.heap.size wc w':=h;have h3:=HT.out w' h2;go_simp⟩) (by assumption) ?_
  try simp only [fE,fI,fG,fH,fF,fJ,fK,fD]
  refine fm (i:=2) (v:=.agg #[fy .i64 yid,.int .i64 yinn,.int .i64 yout,.string yreg,.int .u8 ykind,.string ysp,.slice ya yrows.length yc]) rfl (by kernel_rfl) (by kernel_rfl) (by kernel_rfl) (fun _ _ _ h=>h) (.inl ⟨by rfl,fun w' h=>by have h2:fw wc.heap.size wc w':=h;have h3:=HT.out w' h2;go_simp⟩) (by assumption) ?_
  try simp only [fE,fI,fG,fH,fF,fJ,fK,fD]
  refine fm (i:=3) (v:=.pointer (some ⟨w.heap.size+1,29,none⟩)) rfl (by kernel_rfl) (by kernel_rfl) (by kernel_rfl) (fun _ _ _ h=>h) (.inl ⟨by rfl,fun w' h=>by have h2:fw wc.heap.size wc w':=h;have h3:=HT.out w' h2;go_simp⟩) (by assumption) ?_
  try simp only [fE,fI,fG,fH,fF,fJ,fK,fD]
  refine fm (i:=4) (v:=.agg #[fy .i64 oe.id,.int .i64 oe.inn,.int .i64 oe.out,.string oe.region,.int .u8 oe.kind,.string oe.speaker,.slice oe.at_ oe.rows.length oe.cap]) rfl (by kernel_rfl) (by kernel_rfl) (by kernel_rfl) (fun _ _ _ h=>h) (.inl ⟨by rfl,fun w' h=>by have h2:fw wc.heap.size wc w':=h;have h3:=HT.out w' h2;go_simp⟩) (by assumption) ?_
  try simp only [fE,fI,fG,fH,fF,fJ,fK,fD]
  refine wpAnyH_ready (rs:=[5]) (by kernel_rfl) (by simp) ?_
  refine AllReadyH.cons rfl (fun K hK=>?_) AllReadyH.nil
  go_simp
  refine(HES.out _ (HT3.out _ hwd)).mono ?_
  rintro e w5 ⟨rfl,hb5'⟩
  have hw5:fw wc.heap.size wc w5:=hwd.trans (hb5'.mono hwd.size)
  clear hb5'
  go_wp2_with fail
  refine hK.out _ _ hw5 (fun hHeld1=>?_)
  clear hK
  try simp only [fE,fI,fG,fH,fF,fJ,fK,fD]
  refine wpAnyH_ready (rs:=[6]) (by kernel_rfl) (by simp) ?_
  refine AllReadyH.cons rfl (fun K hK=>?_) AllReadyH.nil
  go_simp
  refine(HAE.out _).mono ?_
  rintro e w4 ⟨rfl,hb4⟩
  have hw4:fw wc.heap.size wc w4:=hw5.trans (hb4.mono hw5.size)
  clear hb4
  go_wp2_with fail
  refine hK.out _ _ hw4 (fun hHeld2=>?_)
  clear hK
  try simp only [fE,fI,fG,fH,fF,fJ,fK,fD]
  refine fm (i:=7) (v:=.int .i64 ERR) rfl (by kernel_rfl) (by kernel_rfl) (by kernel_rfl) (fun _ _ _ h=>h) (.inl ⟨by rfl,fun w' h=>by have h2:fw wc.heap.size wc w':=h;have h3:=HT.out w' h2;go_simp⟩) (by assumption) ?_
  try simp only [fE,fI,fG,fH,fF,fJ,fK,fD]
  refine wpAnyH_done (by kernel_rfl) ?_ _
  have hb5:=HT.out _ hw4
  by_cases h0:ERR=0
  · have HCC:=h_ (fun zs=>HC0.out zs h0)
    subst h0
    clear HC0 HC1 HEQ HAE
    go_wp2_with (refine ff rfl 54 (.tmp 3) rfl (w.heap.size+1) 0 rfl cl _ (HRC.out _ hb5) fu rfl HI54.out ?_)
    refine(HCHG.out _ (HBW.out _ hb5)).mono ?_
    rintro e w6 ⟨v6,zs,rfl,hS6,hp6,ho6⟩
    have hb6:=hS6.2.2
    have h06:fw W0.heap.size W0 w6:=hb5.trans (hb6.mono hb5.size)
    have H06:=h_ h06
    have HK6:=h_ ((h06.block _ (fC.1 HK0.out).1).trans HK0.out)
    have bd6:=bd w6 h06
    have z6:∀ (j:Nat),w6.frozen? ⟨w.heap.size,j,none⟩=false:=fun j=>by simp [fe.frozen?,HK6.out]
    obtain⟨a6,c6,hv6,hS⟩:=zcn (ys:=zs) hS6.1 (fun z hz=>(hS6.2.1 z hz).1)
    subst hv6
    have HSE:=h_ hS
    have HU6:=h_ (fun b (hu:zht a6 zs b)=>(show W0.heap.size≤b from Nat.le_trans hb5.size (by
     rcases hu with⟨_,ad,e,rfl⟩|⟨z,hz,hu⟩
     · exact(hS6.1.lt ad.block (by rw [e];rfl)).1
     · exact(hS6.2.1 z hz).2 b hu)))
    have HCD:=h_ (HCC.out zs hp6 ho6)
    clear hS6 hp6 ho6 hb6 bd cx hw4 hw5 hwd HCHG hS
    go_upto_region 28 with fail
    have HRG:=h_ (ay (w:=w6.setCell ⟨w.heap.size,6,none⟩ (.slice a6 zs.length c6)) (l:=(#[fx title,.string lA,.int .u8 rate,.bool drop,.int .i64 last,.slice ra rG.length rc,.slice a6 zs.length c6,.slice ca cms.length cc]:Array fb).toList) (fj w6 w.heap.size 6 _ 27 (.slice a6 zs.length c6) HK6.out))
    have HKZ:=h_ (show(w6.setCell ⟨w.heap.size,6,none⟩ (.slice a6 zs.length c6)).heap[w.heap.size+1+1]? =some (.cells #[fx ⟨#[]⟩,.string ⟨#[]⟩,.int .u8 0,.bool false,.int .i64 0,.slice none 0 0,.slice none 0 0,.slice none 0 0] 27 (0,0)) from(fz _ _ _ _ (by simp only;omega)).trans ((H06.out.block _ (fC.1 HK2.out).1).trans HK2.out))
    have cz:∀ (cs:Array fb) (j:Nat),((w6.setCell ⟨w.heap.size,6,none⟩ (.slice a6 zs.length c6)).setRow (w.heap.size+1+1) cs).cell? ⟨w.heap.size+1+1,j,none⟩=cs[j]?:=fun cs j=>fh _ _ _ _ _ _ _ HKZ.out
    have HDI:=h_ (show(fo.info? 27).map (·.size)=some (#[fx title,.string lA,.int .u8 rate,.bool drop,.int .i64 last,.slice ra rG.length rc,.slice a6 zs.length c6,.slice ca cms.length cc]:Array fb).size from aI)
    have HDL:=h_ (show(fo.info? 27).map (·.size)=some (#[fx title,.string lA,.int .u8 rate,.bool drop,.int .i64 last,.slice ra rG.length rc,.slice a6 zs.length c6,.slice ca cms.length cc]:Array fb).toList.length from aI)
    have H1C:=h_ (show(#[fx title,.string lA,.int .u8 rate,.bool drop,.int .i64 last,.slice ra rG.length rc,.slice a6 zs.length c6,.slice ca cms.length cc]:Array fb).all (·.oneCell')=true from bq (Doc.one ⟨title,lA,rate,drop,last,ra,rc,rG,a6,c6,zs,ca,cc,cms⟩))
    have HE:=h_ (HEND.out ⟨title,lA,rate,drop,last,ra,rc,rG,a6,c6,zs,ca,cc,cms⟩ 0 (w6.setCell ⟨w.heap.size,6,none⟩ (.slice a6 zs.length c6)) (HCD.out) (⟨ab.frame (Regs.later HDL0.out.1 (HBW.out _ H06.out)) (by simp) (fun b hu=>fz _ _ _ _ (by have:=bu HDL0.out.1 hu;simp only;omega)) (fun _ _ _=>trivial),bK.frame HSE.out (by simp) (fun b hu=>fz _ _ _ _ (by have:=HU6.out b hu;rw [HSZ.out] at this;simp only;omega)),ab.frame (zey.later HDL0.out.2.2 (HBW.out _ H06.out)) (by simp) (fun b hu=>fz _ _ _ _ (by have:=bu HDL0.out.2.2 hu;simp only;omega)) (fun _ _ _=>trivial)⟩) (fun b hu=>by rcases hu with hu|hu|hu;exact .inl (.inl hu);exact .inr (by have:=HU6.out b hu;rw [HSZ.out] at this;exact this);exact .inl (.inr (.inr hu))) ((HBW.out _ H06.out).setCell (p:=⟨w.heap.size,6,none⟩) (fB _) _))
    go_wp2_with (first|(refine ff rfl 27 (.tmp 2) rfl w.heap.size 0 rfl (#[fx title,.string lA,.int .u8 rate,.bool drop,.int .i64 last,.slice ra rG.length rc,.slice a6 zs.length c6,.slice ca cms.length cc]:Array fb).toList _ HRG.out fp rfl HDL.out ?_)|(refine fg rfl 27 (.tmp 4) (.tmp 146) rfl (w.heap.size+1+1) #[fx title,.string lA,.int .u8 rate,.bool drop,.int .i64 last,.slice ra rG.length rc,.slice a6 zs.length c6,.slice ca cms.length cc] rfl rfl 27 _ HKZ.out HDI.out rfl H1C.out ?_))
    refine fi (v:=.tuple #[.agg #[fx title,.string lA,.int .u8 rate,.bool drop,.int .i64 last,.slice ra rG.length rc,.slice a6 zs.length c6,.slice ca cms.length cc],.int .i64 0]) (by simp [results,fq,go_sem,cz]) rfl HE.out
  · have HCC:=h_ (HC1.out h0)
    have hne:(ERR != 0)=true:=by simpa using h0
    have H04:=h_ hb5
    clear HC0 HC1 HEQ HAE HCHG bd cx hw4 hw5 hwd
    go_upto_region 26 with fail
    have HRG:=h_ (ay (w:=w4) (l:=(#[fx title,.string lA,.int .u8 rate,.bool drop,.int .i64 last,.slice ra rG.length rc,.slice ea evs.length ec,.slice ca cms.length cc]:Array fb).toList) ((H04.out.block _ (fC.1 HK0.out).1).trans HK0.out))
    have HKZ:=h_ (show(w4).heap[w.heap.size+1+1]? =some (.cells #[fx ⟨#[]⟩,.string ⟨#[]⟩,.int .u8 0,.bool false,.int .i64 0,.slice none 0 0,.slice none 0 0,.slice none 0 0] 27 (0,0)) from(H04.out.block _ (fC.1 HK2.out).1).trans HK2.out)
    have cz:∀ (cs:Array fb) (j:Nat),((w4).setRow (w.heap.size+1+1) cs).cell? ⟨w.heap.size+1+1,j,none⟩=cs[j]?:=fun cs j=>fh _ _ _ _ _ _ _ HKZ.out
    have HDI:=h_ (show(fo.info? 27).map (·.size)=some (#[fx title,.string lA,.int .u8 rate,.bool drop,.int .i64 last,.slice ra rG.length rc,.slice ea evs.length ec,.slice ca cms.length cc]:Array fb).size from aI)
    have HDL:=h_ (show(fo.info? 27).map (·.size)=some (#[fx title,.string lA,.int .u8 rate,.bool drop,.int .i64 last,.slice ra rG.length rc,.slice ea evs.length ec,.slice ca cms.length cc]:Array fb).toList.length from aI)
    have H1C:=h_ (show(#[fx title,.string lA,.int .u8 rate,.bool drop,.int .i64 last,.slice ra rG.length rc,.slice ea evs.length ec,.slice ca cms.length cc]:Array fb).all (·.oneCell')=true from bq (Doc.one ⟨title,lA,rate,drop,last,ra,rc,rG,ea,ec,evs,ca,cc,cms⟩))
    have HE:=h_ (HEND.out ⟨title,lA,rate,drop,last,ra,rc,rG,ea,ec,evs,ca,cc,cms⟩ ERR (w4) (HCC.out) (Doc.later HDL0.out (HBW.out _ H04.out)) (fun b h=>.inl h) (HBW.out _ H04.out))
    go_wp2_with (first|(refine ff rfl 27 (.tmp 2) rfl w.heap.size 0 rfl (#[fx title,.string lA,.int .u8 rate,.bool drop,.int .i64 last,.slice ra rG.length rc,.slice ea evs.length ec,.slice ca cms.length cc]:Array fb).toList _ HRG.out fp rfl HDL.out ?_)|(refine fg rfl 27 (.tmp 4) (.tmp 139) rfl (w.heap.size+1+1) #[fx title,.string lA,.int .u8 rate,.bool drop,.int .i64 last,.slice ra rG.length rc,.slice ea evs.length ec,.slice ca cms.length cc] rfl rfl 27 _ HKZ.out HDI.out rfl H1C.out ?_))
    refine fi (v:=.tuple #[.agg #[fx title,.string lA,.int .u8 rate,.bool drop,.int .i64 last,.slice ra rG.length rc,.slice ea evs.length ec,.slice ca cms.length cc],.int .i64 ERR]) (by simp [results,fq,go_sem,cz]) rfl HE.out
theorem zdm (d:Doc)(x:Chg)(w:fe)(hsec:x.sec=1)(hb:cu x.c=0)(hd:d.lies w) :
 Calls fo 57 #[.agg d.enc.toArray,.agg x.enc.toArray] w (dU d x w):=by
 have hag:x.added=false∧x.gone=false:=(zal hb).2.2.2 hsec
 have hC0:hdEq d.hd x.oh=true→aV d.c x.c=(0,⟨x.nh,d.rG,d.evs.map Ev.c,d.cms⟩):=fun h0=>by
  unfold aV
  rw [if_neg (by simpa using hb),if_pos (show x.c.sec=1 from hsec),if_pos (show hdEq d.c.hd x.c.oh=true from h0)]
  rfl
 have hC1:hdEq d.hd x.oh=false→aV d.c x.c=(16,d.c):=fun h0=>by
  unfold aV
  rw [if_neg (by simpa using hb),if_pos (show x.c.sec=1 from hsec),if_neg (show ¬ hdEq d.c.hd x.c.oh=true from by show ¬ hdEq d.hd x.oh=true;rw [h0];decide)]
 have HHD:=h_ (fun(w1:fe)=>zbm d w1)
 have r1:=fun wx=>zdw d.hd x.oh wx
 have HEND:=h_ (fun(d2:Doc) (err:Int) (w1:fe) h1 h2 h3 h4=>zdO (d:=d) (x:=x) (w:=w) (d2:=d2) (err:=err) (w1:=w1) hd h1 h2 h3 h4)
 generalize hRE:hdEq d.hd x.oh=RE at *
 generalize hQ:dU d x w=Q at *
 have HC0:=h_ hC0
 have HC1:=h_ hC1
 have HDL0:=h_ hd
 clear hQ hRE hC0 hC1 hd hb
 obtain⟨sec,id,name,ad,gn,oh,nh,rg,nr,oe,ne,oc,nc⟩:=x
 simp only at hsec hag
 subst hsec
 obtain⟨rfl,rfl⟩:=hag
 obtain⟨title,lA,rate,drop,last,ra,rc,rG,ea,ec,evs,ca,cc,cms⟩:=d
 simp only [Doc.enc,Doc.c,Doc.hd,Hd.enc] at *
 generalize hcl:Chg.enc _=cl at *
 have hln:cl.length=59:=by rw [←hcl];rfl
 have hc0:cl.toArray[0]? =some (.int .u8 1):=by rw [←hcl];rfl
 have hc3:cl.toArray[3]? =some (.bool false):=by rw [←hcl];rfl
 have hc4:cl.toArray[4]? =some (.bool false):=by rw [←hcl];rfl
 have hc5:cl.toArray[5]? =some (.string oh.title):=by rw [←hcl];rfl
 have hc6:cl.toArray[6]? =some (.string oh.lA):=by rw [←hcl];rfl
 have hc7:cl.toArray[7]? =some (.int .u8 oh.rate):=by rw [←hcl];rfl
 have hc8:cl.toArray[8]? =some (.bool oh.drop):=by rw [←hcl];rfl
 have hc9:cl.toArray[9]? =some (.int .i64 oh.last):=by rw [←hcl];rfl
 have hc10:cl.toArray[10]? =some (.string nh.title):=by rw [←hcl];rfl
 have hc11:cl.toArray[11]? =some (.string nh.lA):=by rw [←hcl];rfl
 have hc12:cl.toArray[12]? =some (.int .u8 nh.rate):=by rw [←hcl];rfl
 have hc13:cl.toArray[13]? =some (.bool nh.drop):=by rw [←hcl];rfl
 have hc14:cl.toArray[14]? =some (.int .i64 nh.last):=by rw [←hcl];rfl
 clear hcl
 have hk0:(((w.alloc (.cells #[fx title,.string lA,.int .u8 rate,.bool drop,.int .i64 last,.slice ra rG.length rc,.slice ea evs.length ec,.slice ca cms.length cc] 27)).alloc (.cells cl.toArray 54)).alloc (.cells #[fx ⟨#[]⟩,.string ⟨#[]⟩,.int .u8 0,.bool false,.int .i64 0,.slice none 0 0,.slice none 0 0,.slice none 0 0] 27)).heap[w.heap.size]? =some (.cells #[fx title,.string lA,.int .u8 rate,.bool drop,.int .i64 last,.slice ra rG.length rc,.slice ea evs.length ec,.slice ca cms.length cc] 27 (0,0)):=ar (ar (fk w _))
 have hk1:(((w.alloc (.cells #[fx title,.string lA,.int .u8 rate,.bool drop,.int .i64 last,.slice ra rG.length rc,.slice ea evs.length ec,.slice ca cms.length cc] 27)).alloc (.cells cl.toArray 54)).alloc (.cells #[fx ⟨#[]⟩,.string ⟨#[]⟩,.int .u8 0,.bool false,.int .i64 0,.slice none 0 0,.slice none 0 0,.slice none 0 0] 27)).heap[w.heap.size+1]? =some (.cells cl.toArray 54 (0,0)):=ar (aD _ (by simp))
 have hk2:(((w.alloc (.cells #[fx title,.string lA,.int .u8 rate,.bool drop,.int .i64 last,.slice ra rG.length rc,.slice ea evs.length ec,.slice ca cms.length cc] 27)).alloc (.cells cl.toArray 54)).alloc (.cells #[fx ⟨#[]⟩,.string ⟨#[]⟩,.int .u8 0,.bool false,.int .i64 0,.slice none 0 0,.slice none 0 0,.slice none 0 0] 27)).heap[w.heap.size+1+1]? =some (.cells #[fx ⟨#[]⟩,.string ⟨#[]⟩,.int .u8 0,.bool false,.int .i64 0,.slice none 0 0,.slice none 0 0,.slice none 0 0] 27 (0,0)):=aD _ (by simp)
 have hbw:fw w.heap.size w (((w.alloc (.cells #[fx title,.string lA,.int .u8 rate,.bool drop,.int .i64 last,.slice ra rG.length rc,.slice ea evs.length ec,.slice ca cms.length cc] 27)).alloc (.cells cl.toArray 54)).alloc (.cells #[fx ⟨#[]⟩,.string ⟨#[]⟩,.int .u8 0,.bool false,.int .i64 0,.slice none 0 0,.slice none 0 0,.slice none 0 0] 27)):=(((fA _ _).alloc (fB _) _).alloc (by simp) _).alloc (by simp;omega) _
 have hsz:(((w.alloc (.cells #[fx title,.string lA,.int .u8 rate,.bool drop,.int .i64 last,.slice ra rG.length rc,.slice ea evs.length ec,.slice ca cms.length cc] 27)).alloc (.cells cl.toArray 54)).alloc (.cells #[fx ⟨#[]⟩,.string ⟨#[]⟩,.int .u8 0,.bool false,.int .i64 0,.slice none 0 0,.slice none 0 0,.slice none 0 0] 27)).heap.size=w.heap.size+1+1+1:=by simp
 generalize hW0:((w.alloc (.cells #[fx title,.string lA,.int .u8 rate,.bool drop,.int .i64 last,.slice ra rG.length rc,.slice ea evs.length ec,.slice ca cms.length cc] 27)).alloc (.cells cl.toArray 54)).alloc (.cells #[fx ⟨#[]⟩,.string ⟨#[]⟩,.int .u8 0,.bool false,.int .i64 0,.slice none 0 0,.slice none 0 0,.slice none 0 0] 27)=W0 at *
 have HW0:=h_ hW0
 have HSZ:=h_ hsz
 have HK0:=h_ hk0
 have HK1:=h_ hk1
 have HK2:=h_ hk2
 have HBW:=h_ (fun(w':fe) (h:fw W0.heap.size W0 w')=>(hbw.trans (h.mono hbw.size):fw w.heap.size w w'))
 have bd:∀ (w':fe),fw W0.heap.size W0 w'→∀ (j:Nat),w'.cell? ⟨w.heap.size,j,none⟩=_:=fun w' h j=>e_ _ _ j _ 27 (0,0) ((h.block _ (fC.1 hk0).1).trans hk0)
 have HRD:=h_ (fun(w':fe) (h:fw W0.heap.size W0 w')=>ay (w:=w') (l:=(#[fx title,.string lA,.int .u8 rate,.bool drop,.int .i64 last,.slice ra rG.length rc,.slice ea evs.length ec,.slice ca cms.length cc]:Array fb).toList) ((h.block _ (fC.1 hk0).1).trans hk0))
 have HRC:=h_ (fun(w':fe) (h:fw W0.heap.size W0 w')=>ay (w:=w') (l:=cl) ((h.block _ (fC.1 hk1).1).trans hk1))
 have HI54:=h_ (show(fo.info? 54).map (·.size)=some cl.length from by rw [ef,hln])
 have HI27:=h_ (show(fo.info? 27).map (·.size)=some (#[fx title,.string lA,.int .u8 rate,.bool drop,.int .i64 last,.slice ra rG.length rc,.slice ea evs.length ec,.slice ca cms.length cc]:Array fb).toList.length from aI)
 have k0:∀ (w':fe),fw W0.heap.size W0 w'→w'.cell? ⟨w.heap.size+1,0,none⟩=some (.int .u8 1):=fun w' h=>(e_ _ _ 0 _ 54 (0,0) ((h.block _ (fC.1 hk1).1).trans hk1)).trans hc0
 have k3:∀ (w':fe),fw W0.heap.size W0 w'→w'.cell? ⟨w.heap.size+1,3,none⟩=some (.bool false):=fun w' h=>(e_ _ _ 3 _ 54 (0,0) ((h.block _ (fC.1 hk1).1).trans hk1)).trans hc3
 have k4:∀ (w':fe),fw W0.heap.size W0 w'→w'.cell? ⟨w.heap.size+1,4,none⟩=some (.bool false):=fun w' h=>(e_ _ _ 4 _ 54 (0,0) ((h.block _ (fC.1 hk1).1).trans hk1)).trans hc4
 have k5:∀ (w':fe),fw W0.heap.size W0 w'→w'.cell? ⟨w.heap.size+1,5,none⟩=some (.string oh.title):=fun w' h=>(e_ _ _ 5 _ 54 (0,0) ((h.block _ (fC.1 hk1).1).trans hk1)).trans hc5
 have k6:∀ (w':fe),fw W0.heap.size W0 w'→w'.cell? ⟨w.heap.size+1,6,none⟩=some (.string oh.lA):=fun w' h=>(e_ _ _ 6 _ 54 (0,0) ((h.block _ (fC.1 hk1).1).trans hk1)).trans hc6
 have k7:∀ (w':fe),fw W0.heap.size W0 w'→w'.cell? ⟨w.heap.size+1,7,none⟩=some (.int .u8 oh.rate):=fun w' h=>(e_ _ _ 7 _ 54 (0,0) ((h.block _ (fC.1 hk1).1).trans hk1)).trans hc7
 have k8:∀ (w':fe),fw W0.heap.size W0 w'→w'.cell? ⟨w.heap.size+1,8,none⟩=some (.bool oh.drop):=fun w' h=>(e_ _ _ 8 _ 54 (0,0) ((h.block _ (fC.1 hk1).1).trans hk1)).trans hc8
 have k9:∀ (w':fe),fw W0.heap.size W0 w'→w'.cell? ⟨w.heap.size+1,9,none⟩=some (.int .i64 oh.last):=fun w' h=>(e_ _ _ 9 _ 54 (0,0) ((h.block _ (fC.1 hk1).1).trans hk1)).trans hc9
 have k10:∀ (w':fe),fw W0.heap.size W0 w'→w'.cell? ⟨w.heap.size+1,10,none⟩=some (.string nh.title):=fun w' h=>(e_ _ _ 10 _ 54 (0,0) ((h.block _ (fC.1 hk1).1).trans hk1)).trans hc10
 have k11:∀ (w':fe),fw W0.heap.size W0 w'→w'.cell? ⟨w.heap.size+1,11,none⟩=some (.string nh.lA):=fun w' h=>(e_ _ _ 11 _ 54 (0,0) ((h.block _ (fC.1 hk1).1).trans hk1)).trans hc11
 have k12:∀ (w':fe),fw W0.heap.size W0 w'→w'.cell? ⟨w.heap.size+1,12,none⟩=some (.int .u8 nh.rate):=fun w' h=>(e_ _ _ 12 _ 54 (0,0) ((h.block _ (fC.1 hk1).1).trans hk1)).trans hc12
 have k13:∀ (w':fe),fw W0.heap.size W0 w'→w'.cell? ⟨w.heap.size+1,13,none⟩=some (.bool nh.drop):=fun w' h=>(e_ _ _ 13 _ 54 (0,0) ((h.block _ (fC.1 hk1).1).trans hk1)).trans hc13
 have k14:∀ (w':fe),fw W0.heap.size W0 w'→w'.cell? ⟨w.heap.size+1,14,none⟩=some (.int .i64 nh.last):=fun w' h=>(e_ _ _ 14 _ 54 (0,0) ((h.block _ (fC.1 hk1).1).trans hk1)).trans hc14
 have b00:fw W0.heap.size W0 W0:=fA _ _
 clear hW0 hsz hk0 hk1 hk2 hbw hln hc0 hc3 hc4 hc5 hc6 hc7 hc8 hc9 hc10 hc11 hc12 hc13 hc14
 go_enter ft,fr
 go_upto_region 1 with fail
 rw [HW0.out]
 go_upto_region 12 with fail
 have hbd:fw W0.heap.size W0 W0.drew:=b00.drew
 go_region_held3 (fun w'=>fw W0.heap.size W0 w') (repeat (first|with_reducible assumption|with_reducible exact hbd)) (first
  | (go_at_call 45;(with_reducible refine(HHD.out _).mono ?_);rintro e w4 ⟨rfl,hb3⟩;have hb5:fw W0.heap.size W0 w4:=hbd.trans (hb3.mono hbd.size);clear hb3))
 all_goals
  have H04:=h_ hb5
  cases RE
  · have HCC:=h_ (HC1.out rfl)
    clear HC0 HC1 HHD hbd bd k0 k3 k4 k5 k6 k7 k8 k9 k10 k11 k12 k13 k14
    go_upto_region 13 with fail
    have HRG:=h_ (ay (w:=w4) (l:=(#[fx title,.string lA,.int .u8 rate,.bool drop,.int .i64 last,.slice ra rG.length rc,.slice ea evs.length ec,.slice ca cms.length cc]:Array fb).toList) ((H04.out.block _ (fC.1 HK0.out).1).trans HK0.out))
    have HKZ:=h_ (show(w4).heap[w.heap.size+1+1]? =some (.cells #[fx ⟨#[]⟩,.string ⟨#[]⟩,.int .u8 0,.bool false,.int .i64 0,.slice none 0 0,.slice none 0 0,.slice none 0 0] 27 (0,0)) from(H04.out.block _ (fC.1 HK2.out).1).trans HK2.out)
    have cz:∀ (cs:Array fb) (j:Nat),((w4).setRow (w.heap.size+1+1) cs).cell? ⟨w.heap.size+1+1,j,none⟩=cs[j]?:=fun cs j=>fh _ _ _ _ _ _ _ HKZ.out
    have HDI:=h_ (show(fo.info? 27).map (·.size)=some (#[fx title,.string lA,.int .u8 rate,.bool drop,.int .i64 last,.slice ra rG.length rc,.slice ea evs.length ec,.slice ca cms.length cc]:Array fb).size from aI)
    have HDL:=h_ (show(fo.info? 27).map (·.size)=some (#[fx title,.string lA,.int .u8 rate,.bool drop,.int .i64 last,.slice ra rG.length rc,.slice ea evs.length ec,.slice ca cms.length cc]:Array fb).toList.length from aI)
    have H1C:=h_ (show(#[fx title,.string lA,.int .u8 rate,.bool drop,.int .i64 last,.slice ra rG.length rc,.slice ea evs.length ec,.slice ca cms.length cc]:Array fb).all (·.oneCell')=true from bq (Doc.one ⟨title,lA,rate,drop,last,ra,rc,rG,ea,ec,evs,ca,cc,cms⟩))
    have HE:=h_ (HEND.out ⟨title,lA,rate,drop,last,ra,rc,rG,ea,ec,evs,ca,cc,cms⟩ 16 (w4) (HCC.out) (Doc.later HDL0.out (HBW.out _ H04.out)) (fun b h=>.inl h) (HBW.out _ H04.out))
    go_wp2_with (first|(refine ff rfl 27 (.tmp 2) rfl w.heap.size 0 rfl (#[fx title,.string lA,.int .u8 rate,.bool drop,.int .i64 last,.slice ra rG.length rc,.slice ea evs.length ec,.slice ca cms.length cc]:Array fb).toList _ HRG.out fp rfl HDL.out ?_)|(refine fg rfl 27 (.tmp 4) (.tmp 77) rfl (w.heap.size+1+1) #[fx title,.string lA,.int .u8 rate,.bool drop,.int .i64 last,.slice ra rG.length rc,.slice ea evs.length ec,.slice ca cms.length cc] rfl rfl 27 _ HKZ.out HDI.out rfl H1C.out ?_))
    refine fi (v:=.tuple #[.agg #[fx title,.string lA,.int .u8 rate,.bool drop,.int .i64 last,.slice ra rG.length rc,.slice ea evs.length ec,.slice ca cms.length cc],.int .i64 16]) (by simp [results,fq,go_sem,cz]) rfl HE.out
  · have HCC:=h_ (HC0.out rfl)
    clear HC0 HC1 HHD hbd
    go_upto_region 15 with fail
    have h05:fw W0.heap.size W0 (w4.alloc (.cells #[fx nh.title,.string nh.lA,.int .u8 nh.rate,.bool nh.drop,.int .i64 nh.last] 41)):=H04.out.alloc H04.out.size _
    have hkx:=fk w4 (.cells #[fx nh.title,.string nh.lA,.int .u8 nh.rate,.bool nh.drop,.int .i64 nh.last] 41)
    have hgx:W0.heap.size≤w4.heap.size:=H04.out.size
    generalize w4.alloc (.cells #[fx nh.title,.string nh.lA,.int .u8 nh.rate,.bool nh.drop,.int .i64 nh.last] 41)=w5 at *
    have H05:=h_ h05
    have HK5:=h_ ((h05.block _ (fC.1 HK0.out).1).trans HK0.out)
    have e1:∀ (j:Nat),w5.cell? ⟨w4.heap.size,j,none⟩=(#[fx nh.title,.string nh.lA,.int .u8 nh.rate,.bool nh.drop,.int .i64 nh.last]:Array fb)[j]?:=fun j=>e_ _ _ j _ 41 (0,0) hkx
    have e2:∀ (j:Nat),w5.cell? ⟨w.heap.size,j,none⟩=(#[fx title,.string lA,.int .u8 rate,.bool drop,.int .i64 last,.slice ra rG.length rc,.slice ea evs.length ec,.slice ca cms.length cc]:Array fb)[j]?:=fun j=>e_ _ _ j _ 27 (0,0) HK5.out
    have z2:∀ (j:Nat),w5.frozen? ⟨w.heap.size,j,none⟩=false:=fun j=>by simp [fe.frozen?,HK5.out]
    have hne:¬ w4.heap.size=w.heap.size:=by have:=HSZ.out;omega
    have hne':¬ w.heap.size=w4.heap.size:=by have:=HSZ.out;omega
    have HGX:=h_ hgx
    clear hb5 h05 hkx bd hgx k0 k3 k4 k5 k6 k7 k8 k9 k10 k11 k12 k13 k14 b00
    go_region
    go_upto_region 28 with fail
    have HRG:=h_ (ay (w:=(((((w5.setCell ⟨w.heap.size,0,none⟩ (.string nh.title)).setCell ⟨w.heap.size,1,none⟩ (.string nh.lA)).setCell ⟨w.heap.size,2,none⟩ (.int .u8 nh.rate)).setCell ⟨w.heap.size,3,none⟩ (.bool nh.drop)).setCell ⟨w.heap.size,4,none⟩ (.int .i64 nh.last)).drew) (l:=(#[fx nh.title,.string nh.lA,.int .u8 nh.rate,.bool nh.drop,.int .i64 nh.last,.slice ra rG.length rc,.slice ea evs.length ec,.slice ca cms.length cc]:Array fb).toList) (fj _ _ _ _ _ _ (fj _ _ _ _ _ _ (fj _ _ _ _ _ _ (fj _ _ _ _ _ _ (fj _ _ _ _ _ _ HK5.out))))))
    have HKZ:=h_ (show((((((w5.setCell ⟨w.heap.size,0,none⟩ (.string nh.title)).setCell ⟨w.heap.size,1,none⟩ (.string nh.lA)).setCell ⟨w.heap.size,2,none⟩ (.int .u8 nh.rate)).setCell ⟨w.heap.size,3,none⟩ (.bool nh.drop)).setCell ⟨w.heap.size,4,none⟩ (.int .i64 nh.last)).drew).heap[w.heap.size+1+1]? =some (.cells #[fx ⟨#[]⟩,.string ⟨#[]⟩,.int .u8 0,.bool false,.int .i64 0,.slice none 0 0,.slice none 0 0,.slice none 0 0] 27 (0,0)) from((fz _ _ _ _ (by simp only;omega)).trans ((fz _ _ _ _ (by simp only;omega)).trans ((fz _ _ _ _ (by simp only;omega)).trans ((fz _ _ _ _ (by simp only;omega)).trans (fz _ _ _ _ (by simp only;omega)))))).trans ((H05.out.block _ (fC.1 HK2.out).1).trans HK2.out))
    have cz:∀ (cs:Array fb) (j:Nat),(((((((w5.setCell ⟨w.heap.size,0,none⟩ (.string nh.title)).setCell ⟨w.heap.size,1,none⟩ (.string nh.lA)).setCell ⟨w.heap.size,2,none⟩ (.int .u8 nh.rate)).setCell ⟨w.heap.size,3,none⟩ (.bool nh.drop)).setCell ⟨w.heap.size,4,none⟩ (.int .i64 nh.last)).drew).setRow (w.heap.size+1+1) cs).cell? ⟨w.heap.size+1+1,j,none⟩=cs[j]?:=fun cs j=>fh _ _ _ _ _ _ _ HKZ.out
    have HDI:=h_ (show(fo.info? 27).map (·.size)=some (#[fx nh.title,.string nh.lA,.int .u8 nh.rate,.bool nh.drop,.int .i64 nh.last,.slice ra rG.length rc,.slice ea evs.length ec,.slice ca cms.length cc]:Array fb).size from aI)
    have HDL:=h_ (show(fo.info? 27).map (·.size)=some (#[fx nh.title,.string nh.lA,.int .u8 nh.rate,.bool nh.drop,.int .i64 nh.last,.slice ra rG.length rc,.slice ea evs.length ec,.slice ca cms.length cc]:Array fb).toList.length from aI)
    have H1C:=h_ (show(#[fx nh.title,.string nh.lA,.int .u8 nh.rate,.bool nh.drop,.int .i64 nh.last,.slice ra rG.length rc,.slice ea evs.length ec,.slice ca cms.length cc]:Array fb).all (·.oneCell')=true from bq (Doc.one ⟨nh.title,nh.lA,nh.rate,nh.drop,nh.last,ra,rc,rG,ea,ec,evs,ca,cc,cms⟩))
    have HE:=h_ (HEND.out ⟨nh.title,nh.lA,nh.rate,nh.drop,nh.last,ra,rc,rG,ea,ec,evs,ca,cc,cms⟩ 0 ((((((w5.setCell ⟨w.heap.size,0,none⟩ (.string nh.title)).setCell ⟨w.heap.size,1,none⟩ (.string nh.lA)).setCell ⟨w.heap.size,2,none⟩ (.int .u8 nh.rate)).setCell ⟨w.heap.size,3,none⟩ (.bool nh.drop)).setCell ⟨w.heap.size,4,none⟩ (.int .i64 nh.last)).drew) (HCC.out) (Doc.frame (d:=⟨nh.title,nh.lA,nh.rate,nh.drop,nh.last,ra,rc,rG,ea,ec,evs,ca,cc,cms⟩) (w:=w5) ⟨Regs.later HDL0.out.1 (HBW.out _ H05.out),bK.later HDL0.out.2.1 (HBW.out _ H05.out),zey.later HDL0.out.2.2 (HBW.out _ H05.out)⟩ (by simp) (fun b hu=>have hlt:=Doc.uses_lt HDL0.out hu;(fz _ _ _ _ (by simp only;omega)).trans ((fz _ _ _ _ (by simp only;omega)).trans ((fz _ _ _ _ (by simp only;omega)).trans ((fz _ _ _ _ (by simp only;omega)).trans (fz _ _ _ _ (by simp only;omega))))))) (fun b h=>.inl h) ((((((HBW.out _ H05.out).setCell (p:=⟨w.heap.size,0,none⟩) (fB _) _).setCell (p:=⟨w.heap.size,1,none⟩) (fB _) _).setCell (p:=⟨w.heap.size,2,none⟩) (fB _) _).setCell (p:=⟨w.heap.size,3,none⟩) (fB _) _).setCell (p:=⟨w.heap.size,4,none⟩) (fB _) _ |>.drew))
    go_wp2_with (first|(refine ff rfl 27 (.tmp 2) rfl w.heap.size 0 rfl (#[fx nh.title,.string nh.lA,.int .u8 nh.rate,.bool nh.drop,.int .i64 nh.last,.slice ra rG.length rc,.slice ea evs.length ec,.slice ca cms.length cc]:Array fb).toList _ HRG.out fp rfl HDL.out ?_)|(refine fg rfl 27 (.tmp 4) (.tmp 146) rfl (w.heap.size+1+1) #[fx nh.title,.string nh.lA,.int .u8 nh.rate,.bool nh.drop,.int .i64 nh.last,.slice ra rG.length rc,.slice ea evs.length ec,.slice ca cms.length cc] rfl rfl 27 _ HKZ.out HDI.out rfl H1C.out ?_))
    refine fi (v:=.tuple #[.agg #[fx nh.title,.string nh.lA,.int .u8 nh.rate,.bool nh.drop,.int .i64 nh.last,.slice ra rG.length rc,.slice ea evs.length ec,.slice ca cms.length cc],.int .i64 0]) (by simp [results,fq,go_sem,cz]) rfl HE.out
theorem zcf (d:Doc)(x:Chg)(w:fe)(h0:0≤x.sec)(hb:cu x.c≠0)(hd:d.lies w) :
 Calls fo 57 #[.agg d.enc.toArray,.agg x.enc.toArray] w (dU d x w):=by
 have hC:=zfB (d:=d.c) hb
 have hB:cu x.c=if x.sec<1∨4<x.sec then 3 else if (x.added&&x.gone||(x.sec==1&&(x.added||x.gone)))=true then 1 else 0:=rfl
 have HEND:=h_ (fun(d2:Doc) (err:Int) (w1:fe) h1 h2 h3 h4=>zdO (d:=d) (x:=x) (w:=w) (d2:=d2) (err:=err) (w1:=w1) hd h1 h2 h3 h4)
 generalize hQ:dU d x w=Q at *
 have HDL0:=h_ hd
 have HC:=h_ hC
 clear hQ hd hC
 generalize cu x.c=E at *
 obtain⟨sec,id,name,ad,gn,oh,nh,rg,nr,oe,ne,oc,nc⟩:=x
 simp only at hB h0
 have HBB:=h_ hB
 clear hB
 obtain⟨title,lA,rate,drop,last,ra,rc,rG,ea,ec,evs,ca,cc,cms⟩:=d
 simp only [Doc.enc,Doc.c,Doc.hd] at *
 generalize hcl:Chg.enc _=cl at *
 have hln:cl.length=59:=by rw [←hcl];rfl
 have hc0:cl.toArray[0]? =some (.int .u8 sec):=by rw [←hcl];rfl
 have hc3:cl.toArray[3]? =some (.bool ad):=by rw [←hcl];rfl
 have hc4:cl.toArray[4]? =some (.bool gn):=by rw [←hcl];rfl
 clear hcl
 have hk0:(((w.alloc (.cells #[fx title,.string lA,.int .u8 rate,.bool drop,.int .i64 last,.slice ra rG.length rc,.slice ea evs.length ec,.slice ca cms.length cc] 27)).alloc (.cells cl.toArray 54)).alloc (.cells #[fx ⟨#[]⟩,.string ⟨#[]⟩,.int .u8 0,.bool false,.int .i64 0,.slice none 0 0,.slice none 0 0,.slice none 0 0] 27)).heap[w.heap.size]? =some (.cells #[fx title,.string lA,.int .u8 rate,.bool drop,.int .i64 last,.slice ra rG.length rc,.slice ea evs.length ec,.slice ca cms.length cc] 27 (0,0)):=ar (ar (fk w _))
 have hk1:(((w.alloc (.cells #[fx title,.string lA,.int .u8 rate,.bool drop,.int .i64 last,.slice ra rG.length rc,.slice ea evs.length ec,.slice ca cms.length cc] 27)).alloc (.cells cl.toArray 54)).alloc (.cells #[fx ⟨#[]⟩,.string ⟨#[]⟩,.int .u8 0,.bool false,.int .i64 0,.slice none 0 0,.slice none 0 0,.slice none 0 0] 27)).heap[w.heap.size+1]? =some (.cells cl.toArray 54 (0,0)):=ar (aD _ (by simp))
 have hk2:(((w.alloc (.cells #[fx title,.string lA,.int .u8 rate,.bool drop,.int .i64 last,.slice ra rG.length rc,.slice ea evs.length ec,.slice ca cms.length cc] 27)).alloc (.cells cl.toArray 54)).alloc (.cells #[fx ⟨#[]⟩,.string ⟨#[]⟩,.int .u8 0,.bool false,.int .i64 0,.slice none 0 0,.slice none 0 0,.slice none 0 0] 27)).heap[w.heap.size+1+1]? =some (.cells #[fx ⟨#[]⟩,.string ⟨#[]⟩,.int .u8 0,.bool false,.int .i64 0,.slice none 0 0,.slice none 0 0,.slice none 0 0] 27 (0,0)):=aD _ (by simp)
 have hbw:fw w.heap.size w (((w.alloc (.cells #[fx title,.string lA,.int .u8 rate,.bool drop,.int .i64 last,.slice ra rG.length rc,.slice ea evs.length ec,.slice ca cms.length cc] 27)).alloc (.cells cl.toArray 54)).alloc (.cells #[fx ⟨#[]⟩,.string ⟨#[]⟩,.int .u8 0,.bool false,.int .i64 0,.slice none 0 0,.slice none 0 0,.slice none 0 0] 27)):=(((fA _ _).alloc (fB _) _).alloc (by simp) _).alloc (by simp;omega) _
 have hsz:(((w.alloc (.cells #[fx title,.string lA,.int .u8 rate,.bool drop,.int .i64 last,.slice ra rG.length rc,.slice ea evs.length ec,.slice ca cms.length cc] 27)).alloc (.cells cl.toArray 54)).alloc (.cells #[fx ⟨#[]⟩,.string ⟨#[]⟩,.int .u8 0,.bool false,.int .i64 0,.slice none 0 0,.slice none 0 0,.slice none 0 0] 27)).heap.size=w.heap.size+1+1+1:=by simp
 generalize hW0:((w.alloc (.cells #[fx title,.string lA,.int .u8 rate,.bool drop,.int .i64 last,.slice ra rG.length rc,.slice ea evs.length ec,.slice ca cms.length cc] 27)).alloc (.cells cl.toArray 54)).alloc (.cells #[fx ⟨#[]⟩,.string ⟨#[]⟩,.int .u8 0,.bool false,.int .i64 0,.slice none 0 0,.slice none 0 0,.slice none 0 0] 27)=W0 at *
 have HW0:=h_ hW0
 have HSZ:=h_ hsz
 have HK0:=h_ hk0
 have HK1:=h_ hk1
 have HK2:=h_ hk2
 have HBW:=h_ (fun(w':fe) (h:fw W0.heap.size W0 w')=>(hbw.trans (h.mono hbw.size):fw w.heap.size w w'))
 have bd:∀ (w':fe),fw W0.heap.size W0 w'→∀ (j:Nat),w'.cell? ⟨w.heap.size,j,none⟩=_:=fun w' h j=>e_ _ _ j _ 27 (0,0) ((h.block _ (fC.1 hk0).1).trans hk0)
 have HRD:=h_ (fun(w':fe) (h:fw W0.heap.size W0 w')=>ay (w:=w') (l:=(#[fx title,.string lA,.int .u8 rate,.bool drop,.int .i64 last,.slice ra rG.length rc,.slice ea evs.length ec,.slice ca cms.length cc]:Array fb).toList) ((h.block _ (fC.1 hk0).1).trans hk0))
 have HRC:=h_ (fun(w':fe) (h:fw W0.heap.size W0 w')=>ay (w:=w') (l:=cl) ((h.block _ (fC.1 hk1).1).trans hk1))
 have HI54:=h_ (show(fo.info? 54).map (·.size)=some cl.length from by rw [ef,hln])
 have HI27:=h_ (show(fo.info? 27).map (·.size)=some (#[fx title,.string lA,.int .u8 rate,.bool drop,.int .i64 last,.slice ra rG.length rc,.slice ea evs.length ec,.slice ca cms.length cc]:Array fb).toList.length from aI)
 have k0:∀ (w':fe),fw W0.heap.size W0 w'→w'.cell? ⟨w.heap.size+1,0,none⟩=some (.int .u8 sec):=fun w' h=>(e_ _ _ 0 _ 54 (0,0) ((h.block _ (fC.1 hk1).1).trans hk1)).trans hc0
 have k3:∀ (w':fe),fw W0.heap.size W0 w'→w'.cell? ⟨w.heap.size+1,3,none⟩=some (.bool ad):=fun w' h=>(e_ _ _ 3 _ 54 (0,0) ((h.block _ (fC.1 hk1).1).trans hk1)).trans hc3
 have k4:∀ (w':fe),fw W0.heap.size W0 w'→w'.cell? ⟨w.heap.size+1,4,none⟩=some (.bool gn):=fun w' h=>(e_ _ _ 4 _ 54 (0,0) ((h.block _ (fC.1 hk1).1).trans hk1)).trans hc4
 have b00:fw W0.heap.size W0 W0:=fA _ _
 clear hW0 hsz hk0 hk1 hk2 hbw hln hc0 hc3 hc4
 by_cases s1:sec<1
 · obtain rfl:E=3:=by rw [HBB.out,if_pos (.inl s1)]
   clear HBB
   go_enter ft,fr
   go_upto_region 1 with fail
   rw [HW0.out]
   go_upto_region 2 with fail
   have HRG:=h_ (ay (w:=W0) (l:=(#[fx title,.string lA,.int .u8 rate,.bool drop,.int .i64 last,.slice ra rG.length rc,.slice ea evs.length ec,.slice ca cms.length cc]:Array fb).toList) ((b00.block _ (fC.1 HK0.out).1).trans HK0.out))
   have HKZ:=h_ (show(W0).heap[w.heap.size+1+1]? =some (.cells #[fx ⟨#[]⟩,.string ⟨#[]⟩,.int .u8 0,.bool false,.int .i64 0,.slice none 0 0,.slice none 0 0,.slice none 0 0] 27 (0,0)) from(b00.block _ (fC.1 HK2.out).1).trans HK2.out)
   have cz:∀ (cs:Array fb) (j:Nat),((W0).setRow (w.heap.size+1+1) cs).cell? ⟨w.heap.size+1+1,j,none⟩=cs[j]?:=fun cs j=>fh _ _ _ _ _ _ _ HKZ.out
   have HDI:=h_ (show(fo.info? 27).map (·.size)=some (#[fx title,.string lA,.int .u8 rate,.bool drop,.int .i64 last,.slice ra rG.length rc,.slice ea evs.length ec,.slice ca cms.length cc]:Array fb).size from aI)
   have HDL:=h_ (show(fo.info? 27).map (·.size)=some (#[fx title,.string lA,.int .u8 rate,.bool drop,.int .i64 last,.slice ra rG.length rc,.slice ea evs.length ec,.slice ca cms.length cc]:Array fb).toList.length from aI)
   have H1C:=h_ (show(#[fx title,.string lA,.int .u8 rate,.bool drop,.int .i64 last,.slice ra rG.length rc,.slice ea evs.length ec,.slice ca cms.length cc]:Array fb).all (·.oneCell')=true from bq (Doc.one ⟨title,lA,rate,drop,last,ra,rc,rG,ea,ec,evs,ca,cc,cms⟩))
   have HE:=h_ (HEND.out ⟨title,lA,rate,drop,last,ra,rc,rG,ea,ec,evs,ca,cc,cms⟩ 3 (W0) (HC.out) (Doc.later HDL0.out (HBW.out _ b00)) (fun b h=>.inl h) (HBW.out _ b00))
   go_wp2_with (first|(refine ff rfl 27 (.tmp 2) rfl w.heap.size 0 rfl (#[fx title,.string lA,.int .u8 rate,.bool drop,.int .i64 last,.slice ra rG.length rc,.slice ea evs.length ec,.slice ca cms.length cc]:Array fb).toList _ HRG.out fp rfl HDL.out ?_)|(refine fg rfl 27 (.tmp 4) (.tmp 24) rfl (w.heap.size+1+1) #[fx title,.string lA,.int .u8 rate,.bool drop,.int .i64 last,.slice ra rG.length rc,.slice ea evs.length ec,.slice ca cms.length cc] rfl rfl 27 _ HKZ.out HDI.out rfl H1C.out ?_))
   refine fi (v:=.tuple #[.agg #[fx title,.string lA,.int .u8 rate,.bool drop,.int .i64 last,.slice ra rG.length rc,.slice ea evs.length ec,.slice ca cms.length cc],.int .i64 3]) (by simp [results,fq,go_sem,cz]) rfl HE.out
 · by_cases s4:4<sec
   · obtain rfl:E=3:=by rw [HBB.out,if_pos (.inr s4)]
     clear HBB
     go_enter ft,fr
     go_upto_region 1 with fail
     rw [HW0.out]
     go_upto_region 2 with fail
     have HRG:=h_ (ay (w:=W0) (l:=(#[fx title,.string lA,.int .u8 rate,.bool drop,.int .i64 last,.slice ra rG.length rc,.slice ea evs.length ec,.slice ca cms.length cc]:Array fb).toList) ((b00.block _ (fC.1 HK0.out).1).trans HK0.out))
     have HKZ:=h_ (show(W0).heap[w.heap.size+1+1]? =some (.cells #[fx ⟨#[]⟩,.string ⟨#[]⟩,.int .u8 0,.bool false,.int .i64 0,.slice none 0 0,.slice none 0 0,.slice none 0 0] 27 (0,0)) from(b00.block _ (fC.1 HK2.out).1).trans HK2.out)
     have cz:∀ (cs:Array fb) (j:Nat),((W0).setRow (w.heap.size+1+1) cs).cell? ⟨w.heap.size+1+1,j,none⟩=cs[j]?:=fun cs j=>fh _ _ _ _ _ _ _ HKZ.out
     have HDI:=h_ (show(fo.info? 27).map (·.size)=some (#[fx title,.string lA,.int .u8 rate,.bool drop,.int .i64 last,.slice ra rG.length rc,.slice ea evs.length ec,.slice ca cms.length cc]:Array fb).size from aI)
     have HDL:=h_ (show(fo.info? 27).map (·.size)=some (#[fx title,.string lA,.int .u8 rate,.bool drop,.int .i64 last,.slice ra rG.length rc,.slice ea evs.length ec,.slice ca cms.length cc]:Array fb).toList.length from aI)
     have H1C:=h_ (show(#[fx title,.string lA,.int .u8 rate,.bool drop,.int .i64 last,.slice ra rG.length rc,.slice ea evs.length ec,.slice ca cms.length cc]:Array fb).all (·.oneCell')=true from bq (Doc.one ⟨title,lA,rate,drop,last,ra,rc,rG,ea,ec,evs,ca,cc,cms⟩))
     have HE:=h_ (HEND.out ⟨title,lA,rate,drop,last,ra,rc,rG,ea,ec,evs,ca,cc,cms⟩ 3 (W0) (HC.out) (Doc.later HDL0.out (HBW.out _ b00)) (fun b h=>.inl h) (HBW.out _ b00))
     go_wp2_with (first|(refine ff rfl 27 (.tmp 2) rfl w.heap.size 0 rfl (#[fx title,.string lA,.int .u8 rate,.bool drop,.int .i64 last,.slice ra rG.length rc,.slice ea evs.length ec,.slice ca cms.length cc]:Array fb).toList _ HRG.out fp rfl HDL.out ?_)|(refine fg rfl 27 (.tmp 4) (.tmp 24) rfl (w.heap.size+1+1) #[fx title,.string lA,.int .u8 rate,.bool drop,.int .i64 last,.slice ra rG.length rc,.slice ea evs.length ec,.slice ca cms.length cc] rfl rfl 27 _ HKZ.out HDI.out rfl H1C.out ?_))
     refine fi (v:=.tuple #[.agg #[fx title,.string lA,.int .u8 rate,.bool drop,.int .i64 last,.slice ra rG.length rc,.slice ea evs.length ec,.slice ca cms.length cc],.int .i64 3]) (by simp [results,fq,go_sem,cz]) rfl HE.out
   · have hx:(ad&&gn||(sec==1&&(ad||gn)))=true:=by
      rcases Bool.eq_false_or_eq_true (ad&&gn||(sec==1&&(ad||gn))) with h|h
      · exact h
      · exact absurd (by rw [HBB.out,if_neg (fun h=>h.elim s1 s4),h];rfl) hb
     obtain rfl:E=1:=by rw [HBB.out,if_neg (fun h=>h.elim s1 s4),if_pos hx]
     clear HBB
     cases ad<;>cases gn
     · simp at hx
     · obtain rfl:sec=1:=by simpa using hx
       clear hx s1 s4
       go_enter ft,fr
       go_upto_region 1 with fail
       rw [HW0.out]
       go_upto_region 4 with fail
       have HRG:=h_ (ay (w:=W0) (l:=(#[fx title,.string lA,.int .u8 rate,.bool drop,.int .i64 last,.slice ra rG.length rc,.slice ea evs.length ec,.slice ca cms.length cc]:Array fb).toList) ((b00.block _ (fC.1 HK0.out).1).trans HK0.out))
       have HKZ:=h_ (show(W0).heap[w.heap.size+1+1]? =some (.cells #[fx ⟨#[]⟩,.string ⟨#[]⟩,.int .u8 0,.bool false,.int .i64 0,.slice none 0 0,.slice none 0 0,.slice none 0 0] 27 (0,0)) from(b00.block _ (fC.1 HK2.out).1).trans HK2.out)
       have cz:∀ (cs:Array fb) (j:Nat),((W0).setRow (w.heap.size+1+1) cs).cell? ⟨w.heap.size+1+1,j,none⟩=cs[j]?:=fun cs j=>fh _ _ _ _ _ _ _ HKZ.out
       have HDI:=h_ (show(fo.info? 27).map (·.size)=some (#[fx title,.string lA,.int .u8 rate,.bool drop,.int .i64 last,.slice ra rG.length rc,.slice ea evs.length ec,.slice ca cms.length cc]:Array fb).size from aI)
       have HDL:=h_ (show(fo.info? 27).map (·.size)=some (#[fx title,.string lA,.int .u8 rate,.bool drop,.int .i64 last,.slice ra rG.length rc,.slice ea evs.length ec,.slice ca cms.length cc]:Array fb).toList.length from aI)
       have H1C:=h_ (show(#[fx title,.string lA,.int .u8 rate,.bool drop,.int .i64 last,.slice ra rG.length rc,.slice ea evs.length ec,.slice ca cms.length cc]:Array fb).all (·.oneCell')=true from bq (Doc.one ⟨title,lA,rate,drop,last,ra,rc,rG,ea,ec,evs,ca,cc,cms⟩))
       have HE:=h_ (HEND.out ⟨title,lA,rate,drop,last,ra,rc,rG,ea,ec,evs,ca,cc,cms⟩ 1 (W0) (HC.out) (Doc.later HDL0.out (HBW.out _ b00)) (fun b h=>.inl h) (HBW.out _ b00))
       go_wp2_with (first|(refine ff rfl 27 (.tmp 2) rfl w.heap.size 0 rfl (#[fx title,.string lA,.int .u8 rate,.bool drop,.int .i64 last,.slice ra rG.length rc,.slice ea evs.length ec,.slice ca cms.length cc]:Array fb).toList _ HRG.out fp rfl HDL.out ?_)|(refine fg rfl 27 (.tmp 4) (.tmp 44) rfl (w.heap.size+1+1) #[fx title,.string lA,.int .u8 rate,.bool drop,.int .i64 last,.slice ra rG.length rc,.slice ea evs.length ec,.slice ca cms.length cc] rfl rfl 27 _ HKZ.out HDI.out rfl H1C.out ?_))
       refine fi (v:=.tuple #[.agg #[fx title,.string lA,.int .u8 rate,.bool drop,.int .i64 last,.slice ra rG.length rc,.slice ea evs.length ec,.slice ca cms.length cc],.int .i64 1]) (by simp [results,fq,go_sem,cz]) rfl HE.out
     · obtain rfl:sec=1:=by simpa using hx
       clear hx s1 s4
       go_enter ft,fr
       go_upto_region 1 with fail
       rw [HW0.out]
       go_upto_region 4 with fail
       have HRG:=h_ (ay (w:=W0) (l:=(#[fx title,.string lA,.int .u8 rate,.bool drop,.int .i64 last,.slice ra rG.length rc,.slice ea evs.length ec,.slice ca cms.length cc]:Array fb).toList) ((b00.block _ (fC.1 HK0.out).1).trans HK0.out))
       have HKZ:=h_ (show(W0).heap[w.heap.size+1+1]? =some (.cells #[fx ⟨#[]⟩,.string ⟨#[]⟩,.int .u8 0,.bool false,.int .i64 0,.slice none 0 0,.slice none 0 0,.slice none 0 0] 27 (0,0)) from(b00.block _ (fC.1 HK2.out).1).trans HK2.out)
       have cz:∀ (cs:Array fb) (j:Nat),((W0).setRow (w.heap.size+1+1) cs).cell? ⟨w.heap.size+1+1,j,none⟩=cs[j]?:=fun cs j=>fh _ _ _ _ _ _ _ HKZ.out
       have HDI:=h_ (show(fo.info? 27).map (·.size)=some (#[fx title,.string lA,.int .u8 rate,.bool drop,.int .i64 last,.slice ra rG.length rc,.slice ea evs.length ec,.slice ca cms.length cc]:Array fb).size from aI)
       have HDL:=h_ (show(fo.info? 27).map (·.size)=some (#[fx title,.string lA,.int .u8 rate,.bool drop,.int .i64 last,.slice ra rG.length rc,.slice ea evs.length ec,.slice ca cms.length cc]:Array fb).toList.length from aI)
       have H1C:=h_ (show(#[fx title,.string lA,.int .u8 rate,.bool drop,.int .i64 last,.slice ra rG.length rc,.slice ea evs.length ec,.slice ca cms.length cc]:Array fb).all (·.oneCell')=true from bq (Doc.one ⟨title,lA,rate,drop,last,ra,rc,rG,ea,ec,evs,ca,cc,cms⟩))
       have HE:=h_ (HEND.out ⟨title,lA,rate,drop,last,ra,rc,rG,ea,ec,evs,ca,cc,cms⟩ 1 (W0) (HC.out) (Doc.later HDL0.out (HBW.out _ b00)) (fun b h=>.inl h) (HBW.out _ b00))
       go_wp2_with (first|(refine ff rfl 27 (.tmp 2) rfl w.heap.size 0 rfl (#[fx title,.string lA,.int .u8 rate,.bool drop,.int .i64 last,.slice ra rG.length rc,.slice ea evs.length ec,.slice ca cms.length cc]:Array fb).toList _ HRG.out fp rfl HDL.out ?_)|(refine fg rfl 27 (.tmp 4) (.tmp 44) rfl (w.heap.size+1+1) #[fx title,.string lA,.int .u8 rate,.bool drop,.int .i64 last,.slice ra rG.length rc,.slice ea evs.length ec,.slice ca cms.length cc] rfl rfl 27 _ HKZ.out HDI.out rfl H1C.out ?_))
       refine fi (v:=.tuple #[.agg #[fx title,.string lA,.int .u8 rate,.bool drop,.int .i64 last,.slice ra rG.length rc,.slice ea evs.length ec,.slice ca cms.length cc],.int .i64 1]) (by simp [results,fq,go_sem,cz]) rfl HE.out
     · clear hx
       go_enter ft,fr
       go_upto_region 1 with fail
       rw [HW0.out]
       go_upto_region 4 with fail
       have HRG:=h_ (ay (w:=W0) (l:=(#[fx title,.string lA,.int .u8 rate,.bool drop,.int .i64 last,.slice ra rG.length rc,.slice ea evs.length ec,.slice ca cms.length cc]:Array fb).toList) ((b00.block _ (fC.1 HK0.out).1).trans HK0.out))
       have HKZ:=h_ (show(W0).heap[w.heap.size+1+1]? =some (.cells #[fx ⟨#[]⟩,.string ⟨#[]⟩,.int .u8 0,.bool false,.int .i64 0,.slice none 0 0,.slice none 0 0,.slice none 0 0] 27 (0,0)) from(b00.block _ (fC.1 HK2.out).1).trans HK2.out)
       have cz:∀ (cs:Array fb) (j:Nat),((W0).setRow (w.heap.size+1+1) cs).cell? ⟨w.heap.size+1+1,j,none⟩=cs[j]?:=fun cs j=>fh _ _ _ _ _ _ _ HKZ.out
       have HDI:=h_ (show(fo.info? 27).map (·.size)=some (#[fx title,.string lA,.int .u8 rate,.bool drop,.int .i64 last,.slice ra rG.length rc,.slice ea evs.length ec,.slice ca cms.length cc]:Array fb).size from aI)
       have HDL:=h_ (show(fo.info? 27).map (·.size)=some (#[fx title,.string lA,.int .u8 rate,.bool drop,.int .i64 last,.slice ra rG.length rc,.slice ea evs.length ec,.slice ca cms.length cc]:Array fb).toList.length from aI)
       have H1C:=h_ (show(#[fx title,.string lA,.int .u8 rate,.bool drop,.int .i64 last,.slice ra rG.length rc,.slice ea evs.length ec,.slice ca cms.length cc]:Array fb).all (·.oneCell')=true from bq (Doc.one ⟨title,lA,rate,drop,last,ra,rc,rG,ea,ec,evs,ca,cc,cms⟩))
       have HE:=h_ (HEND.out ⟨title,lA,rate,drop,last,ra,rc,rG,ea,ec,evs,ca,cc,cms⟩ 1 (W0) (HC.out) (Doc.later HDL0.out (HBW.out _ b00)) (fun b h=>.inl h) (HBW.out _ b00))
       go_wp2_with (first|(refine ff rfl 27 (.tmp 2) rfl w.heap.size 0 rfl (#[fx title,.string lA,.int .u8 rate,.bool drop,.int .i64 last,.slice ra rG.length rc,.slice ea evs.length ec,.slice ca cms.length cc]:Array fb).toList _ HRG.out fp rfl HDL.out ?_)|(refine fg rfl 27 (.tmp 4) (.tmp 44) rfl (w.heap.size+1+1) #[fx title,.string lA,.int .u8 rate,.bool drop,.int .i64 last,.slice ra rG.length rc,.slice ea evs.length ec,.slice ca cms.length cc] rfl rfl 27 _ HKZ.out HDI.out rfl H1C.out ?_))
       refine fi (v:=.tuple #[.agg #[fx title,.string lA,.int .u8 rate,.bool drop,.int .i64 last,.slice ra rG.length rc,.slice ea evs.length ec,.slice ca cms.length cc],.int .i64 1]) (by simp [results,fq,go_sem,cz]) rfl HE.out
theorem zeJ (d:Doc)(x:Chg)(n:Nat)(w:fe)(hok:zds d.c)(hf:d.c.fits n)(hn:n+1≤4000000)(hc:x.c.full)(hd:d.lies w)(hl:x.lies w) :
 Calls fo 57 #[.agg d.enc.toArray,.agg x.enc.toArray] w (dU d x w):=by
 have hfd:=hf.doc (by omega)
 by_cases hb:cu x.c=0
 · obtain⟨b1,b2,b3,b4⟩:=zal hb
   have hsec:x.sec=1∨x.sec=2∨x.sec=3∨x.sec=4:=by
    have h1:1≤x.sec:=b1
    have h2:x.sec≤4:=b2
    omega
   rcases hsec with hs|hs|hs|hs
   · exact zdm d x w hs hb hd
   · exact zce d x w hs hok hb hd hfd
   · have hne:=(Ev.fits_c x.ne).1 hc.2.2.2.2.2.2.1
     exact zdn d x w hs hok hb hd hfd hl ⟨hne.2.2.2.2.2.2.2.2,fun r hr=>(hne.2.2.2.2.2.2.2.1 r hr).2.1⟩
   · exact zdo d x w hs hok hb hd hfd
 · exact zcf d x w hc.1 hb hd
end Go.Proofs.YtnlnmbcaongehaaGreatDoor
