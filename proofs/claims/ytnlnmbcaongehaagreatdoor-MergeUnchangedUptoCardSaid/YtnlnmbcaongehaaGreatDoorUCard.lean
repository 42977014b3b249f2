/- MergeUnchanged: an unchanged side gives the other one, equal sides give that side, without a clash. Conditions: the arguments hold together at most 1048576 values and letters (the second form); the library's tables are as their text lays them (the card ties them). -/
import Derived.Deep.DeepWitnessRowRef
import Derived.Lib.LaidU8T
import Derived.Stop.LaidErr
import Derived.MakeChecks
import Derived.Test.YtnlnmbcaongehaaGreatDoorCards
import Derived.Test.YtnlnmbcaongehaaGreatDoorTie
import Derived.Test.YtnlnmbcaongehaaGreatDoorU01
set_option linter.unusedVariables false
set_option linter.unusedSimpArgs false
set_option maxRecDepth 100000
set_option maxHeartbeats 12800000
open Go.Lib renaming hid→h_
open Go renaming wpAnyH_take→kR,heap_alloc_last→kS,World→kT,yieldsIf_load_mid→kU,wpList_store_row→kV,Value→kW,wpAnyH_ready→kX,TypeId→kY,trodAll_cons_mk→kZ
open Go.RowKit renaming Below→k9
open Go.Value renaming int→k_,string→lf,okWide→lg,cells→lh
open Array renaming toArray_toList→lj,getElem?_eq_some_iff→lk
open Go.RowKit.Below renaming refl→ll,trod→ln
open Go.Act renaming put→lp
open List renaming setIfInBounds_toArray→lq,getElem_cons_zero→lr,getElem_cons_succ→lu,getElem_toArray→lv,set_cons_zero→lC,set_cons_succ→lD
open Go.AllReadyH renaming cons→lE,nil→lF
open Go.World renaming setRow_alloc_new→lG
open Nat renaming le_refl→lH
namespace Go.Proofs.YtnlnmbcaongehaaGreatDoor
open Go.RowKit
theorem size_135:(Tryz.prog.info? 135).map (·.size)=some 4:=by kernel_rfl
theorem mg_rows {a:Doc} (h:a.fits):∀ x∈a.evs,x.rows.length≤4000000∧∀ r∈x.rows,r.runs.length≤4000000:=fun x hx=>⟨(h.2.2.2.2.2.2.2.1 x hx).2.2.2.2.2.2.2.2,fun r hr=>((h.2.2.2.2.2.2.2.1 x hx).2.2.2.2.2.2.2.1 r hr).2.1⟩
theorem mgSame_calls (d d':Doc)(w:kT)(hd:d.lies w)(hd':d'.lies w)(hf:d.fits)(hf':d'.fits)(hc:d.c=d'.c):Calls Tryz.prog 18 #[.agg d.enc.toArray,.agg d'.enc.toArray] w fun e w'=>e=.returned (.bool true)∧k9 w.heap.size w w':=by
 have h:=zjI d d' w hd hd' (mg_rows hf) (mg_rows hf') hf.2.2.2.2.2.2.1 hf'.2.2.2.2.2.2.1 hf.2.2.2.2.2.2.2.2.1 hf'.2.2.2.2.2.2.2.2.1 hf.2.2.2.2.2.2.2.2.2.2 hf'.2.2.2.2.2.2.2.2.2.2
 rwa [(zkP d d').2 hc] at h
theorem aw_r4 (x d2 d3:Doc)(b p2 p3 k3 c2 c3:Nat)(a2:Option Addr)(w0:kT)(hx:x.lies w0)(hd2:d2.lies w0)(hd3:d3.lies w0)(fx:x.fits)(hf2:d2.fits)(hf3:d3.fits)(cx:x.c=aw18 0 50 sA18)(hc2:d2.c=aw18 10 50 sB18)(hc3:d3.c=aw18 0 50 sA18)
 (hb:w0.heap[b]? =some (.cells x.enc.toArray 27 (0,0))) (hp2:w0.heap[p2]? =some (.cells d2.enc.toArray 27 (0,0))) (hp3:w0.heap[p3]? =some (.cells d3.enc.toArray 27 (0,0))) (hk:w0.rangeAt k3 0 [k_ .u8 3,.int .i64 1,.string ⟨#[]⟩,.string ⟨#[83,80,65,78]⟩]) (hkl:k3<w0.heap.size) (hkc:1≤c3)
 (Q:Exit→Act→kT→Prop) (hP:∀ ch a a' w,a'.defers=a.defers→Q (.panic ch) a w→Q (.panic ch) a' w) (s0 s8 s9 s10 s11 s12 s13 s14 s15 s16 s17 s18 s19 s20 s21 s22 s23 s24 s25 s26 s27 s28 s29 s30 s31 s32 s33 s34 s35 s36 s37 s38 s39 s40 s41 s42 s43 s44 s45 s46 s47 s48 s49 s50 s51 s52 s53 s54 s55 s56 s57 s58 s59 s60 s61 s62 s63:kW)
 (hfin:∀ (u30 u31 u32 u33 u34 u35 u36 u37 u38 u39 u40 u41 u42 u43 u44 u45 u46 u47 u48 u49 u50 u51 u52 u53 u54 u55 u56 u57 u58 u59 u60 u61 u62 u63:kW) (wx:kT),k9 w0.heap.size w0 wx→Q .normal { tmps:=#[.bool true,.pointer (some ⟨b,0,none⟩),.pointer (some ⟨p2,0,none⟩),.slice a2 0 c2,.int .i64 0,.pointer (some ⟨p3,0,none⟩),.slice (some ⟨k3,0,none⟩) 1 c3,.int .i64 0,s8,s9,s10,s11,s12,s13,s14,s15,s16,s17,s18,s19,s20,s21,s22,s23,s24,s25,s26,s27,s28,s29,u30,u31,u32,u33,u34,u35,u36,u37,u38,u39,u40,u41,u42,u43,u44,u45,u46,u47,u48,u49,u50,u51,u52,u53,u54,u55,u56,u57,u58,u59,u60,u61,u62,u63],defers:=[] } wx) :
 Code.wp Tryz.prog ((zeq 4 (Tryz.f25.body.getD .skip)).getD .skip) Q { tmps:=#[s0,.pointer (some ⟨b,0,none⟩),.pointer (some ⟨p2,0,none⟩),.slice a2 0 c2,.int .i64 0,.pointer (some ⟨p3,0,none⟩),.slice (some ⟨k3,0,none⟩) 1 c3,.int .i64 0,s8,s9,s10,s11,s12,s13,s14,s15,s16,s17,s18,s19,s20,s21,s22,s23,s24,s25,s26,s27,s28,s29,s30,s31,s32,s33,s34,s35,s36,s37,s38,s39,s40,s41,s42,s43,s44,s45,s46,s47,s48,s49,s50,s51,s52,s53,s54,s55,s56,s57,s58,s59,s60,s61,s62,s63],defers:=[] } w0:=by
 have HFIN:=h_ hfin
 have HP:=h_ hP
 have HT:=h_ (fun(w2 w3:kT) (q:k9 w0.heap.size w0 w2) (q3:k9 w2.heap.size w2 w3)=>(q.trans (q3.mono q.size):k9 w0.heap.size w0 w3))
 have HRX:=h_ (fun(w':kT) (q:k9 w0.heap.size w0 w')=>aw_range ((q.block _ (lk.1 hb).1).trans hb))
 have HR2:=h_ (fun(w':kT) (q:k9 w0.heap.size w0 w')=>aw_range ((q.block _ (lk.1 hp2).1).trans hp2))
 have HR3:=h_ (fun(w':kT) (q:k9 w0.heap.size w0 w')=>aw_range ((q.block _ (lk.1 hp3).1).trans hp3))
 have HRC:=h_ (fun(w':kT) (q:k9 w0.heap.size w0 w')=>(show w'.rangeAt k3 0 [k_ .u8 3,.int .i64 1,.string ⟨#[]⟩,.string ⟨#[83,80,65,78]⟩] from fun j v hv=>(q.cell (p:=⟨k3,0+j,none⟩) hkl).trans (hk j v hv)))
 have hd0:k9 w0.heap.size w0 w0.drew:=(ll _ _).drew
 clear hfin hP hb hp2 hp3 hk hkl
 conv=>arg 2;whnf
 refine wp_region_held_drew (S:=fun w'=>k9 w0.heap.size w0 w') (by kernel_rfl) hd0 (fun _=>?_)
 try simp only [lp,lv,lr,lu,lq,lC,lD,lj]
 refine kR (i:=0) (v:=.int .i64 0) rfl (by kernel_rfl) (by kernel_rfl) (by kernel_rfl) (fun _ _ _ h=>HP.out _ _ _ _ (by rfl) h) (.inl ⟨by rfl,fun w_ hS_=>by go_simp⟩) hd0 ?_
 try simp only [lp,lv,lr,lu,lq,lC,lD,lj]
 refine kR (i:=1) (v:=.bool true) rfl (by kernel_rfl) (by kernel_rfl) (by kernel_rfl) (fun _ _ _ h=>HP.out _ _ _ _ (by rfl) h) (.inl ⟨by rfl,fun w_ hS_=>by go_simp⟩) hd0 ?_
 try simp only [lp,lv,lr,lu,lq,lC,lD,lj]
 refine kR (i:=2) (v:=.bool true) rfl (by kernel_rfl) (by kernel_rfl) (by kernel_rfl) (fun _ _ _ h=>HP.out _ _ _ _ (by rfl) h) (.inl ⟨by rfl,fun w_ hS_=>by go_simp⟩) hd0 ?_
 try simp only [lp,lv,lr,lu,lq,lC,lD,lj]
 refine kR (i:=3) (v:=.int .i64 0) rfl (by kernel_rfl) (by kernel_rfl) (by kernel_rfl) (fun _ _ _ h=>HP.out _ _ _ _ (by rfl) h) (.inl ⟨by rfl,fun w_ hS_=>by go_simp⟩) hd0 ?_
 try simp only [lp,lv,lr,lu,lq,lC,lD,lj]
 refine kR (i:=4) (v:=.bool true) rfl (by kernel_rfl) (by kernel_rfl) (by kernel_rfl) (fun _ _ _ h=>HP.out _ _ _ _ (by rfl) h) (.inl ⟨by rfl,fun w_ hS_=>by go_simp⟩) hd0 ?_
 try simp only [lp,lv,lr,lu,lq,lC,lD,lj]
 refine kR (i:=5) (v:=.bool true) rfl (by kernel_rfl) (by kernel_rfl) (by kernel_rfl) (fun _ _ _ h=>HP.out _ _ _ _ (by rfl) h) (.inl ⟨by rfl,fun w_ hS_=>by go_simp⟩) hd0 ?_
 try simp only [lp,lv,lr,lu,lq,lC,lD,lj]
 refine kR (i:=6) (v:=.bool true) rfl (by kernel_rfl) (by kernel_rfl) (by kernel_rfl) (fun _ _ _ h=>HP.out _ _ _ _ (by rfl) h) (.inl ⟨by rfl,fun w_ hS_=>by go_simp⟩) hd0 ?_
 try simp only [lp,lv,lr,lu,lq,lC,lD,lj]
 refine kR (i:=7) (v:=.slice a2 0 c2) rfl (by kernel_rfl) (by kernel_rfl) (by kernel_rfl) (fun _ _ _ h=>HP.out _ _ _ _ (by rfl) h) (.inl ⟨by rfl,fun w_ hS_=>by go_simp⟩) hd0 ?_
 try simp only [lp,lv,lr,lu,lq,lC,lD,lj]
 refine kR (i:=8) (v:=.int .i64 0) rfl (by kernel_rfl) (by kernel_rfl) (by kernel_rfl) (fun _ _ _ h=>HP.out _ _ _ _ (by rfl) h) (.inl ⟨by rfl,fun w_ hS_=>by go_simp⟩) hd0 ?_
 try simp only [lp,lv,lr,lu,lq,lC,lD,lj]
 refine kR (i:=9) (v:=.bool true) rfl (by kernel_rfl) (by kernel_rfl) (by kernel_rfl) (fun _ _ _ h=>HP.out _ _ _ _ (by rfl) h) (.inl ⟨by rfl,fun w_ hS_=>by go_simp⟩) hd0 ?_
 try simp only [lp,lv,lr,lu,lq,lC,lD,lj]
 refine kR (i:=10) (v:=.bool true) rfl (by kernel_rfl) (by kernel_rfl) (by kernel_rfl) (fun _ _ _ h=>HP.out _ _ _ _ (by rfl) h) (.inl ⟨by rfl,fun w_ hS_=>by go_simp⟩) hd0 ?_
 try simp only [lp,lv,lr,lu,lq,lC,lD,lj]
 refine kR (i:=11) (v:=.bool true) rfl (by kernel_rfl) (by kernel_rfl) (by kernel_rfl) (fun _ _ _ h=>HP.out _ _ _ _ (by rfl) h) (.inl ⟨by rfl,fun w_ hS_=>by go_simp⟩) hd0 ?_
 try simp only [lp,lv,lr,lu,lq,lC,lD,lj]
 refine kR (i:=12) (v:=.agg d2.enc.toArray) rfl (by kernel_rfl) (by kernel_rfl) (by kernel_rfl) (fun _ _ _ h=>HP.out _ _ _ _ (by rfl) h) (kU (by rfl) 27 (.tmp 2) rfl p2 0 rfl d2.enc _ HR2.out Tryz.underlying27 rfl zj8) hd0 ?_
 try simp only [lp,lv,lr,lu,lq,lC,lD,lj]
 refine kR (i:=13) (v:=.agg #[.int .i64 10,.int .i64 50]) rfl (by kernel_rfl) (by kernel_rfl) (by kernel_rfl) (fun _ _ _ h=>HP.out _ _ _ _ (by rfl) h) (.inl ⟨by rfl,fun w_ hS_=>by go_simp⟩) hd0 ?_
 try simp only [lp,lv,lr,lu,lq,lC,lD,lj]
 refine kX (rs:=[14]) (by kernel_rfl) (by simp) ?_
 refine lE rfl (fun K hK=>?_) lF
 go_simp
 refine(one_calls 10 50 sB18 _ ⟨by decide,by decide⟩ ⟨by decide,by decide⟩ (by decide)).mono ?_
 rintro e va ⟨y,rfl,hcy,hly,hfy,hu_,hb_⟩
 have hva:=HT.out _ _ hd0 hb_
 clear hb_ hu_
 go_wp2_with fail
 refine hK.out _ _ hva (fun _=>?_)
 clear hK
 try simp only [lp,lv,lr,lu,lq,lC,lD,lj]
 refine kX (rs:=[15]) (by kernel_rfl) (by simp) ?_
 refine lE rfl (fun K hK=>?_) lF
 go_simp
 refine(mgSame_calls d2 y _ (Doc.later hd2 hva) hly hf2 hfy (hc2.trans hcy.symm)).mono ?_
 rintro e vb ⟨rfl,hb_⟩
 have hvb:=HT.out _ _ hva hb_
 clear hb_
 go_wp2_with fail
 refine hK.out _ _ hvb (fun _=>?_)
 clear hK
 try simp only [lp,lv,lr,lu,lq,lC,lD,lj]
 refine kR (i:=16) (v:=.bool true) rfl (by kernel_rfl) (by kernel_rfl) (by kernel_rfl) (fun _ _ _ h=>HP.out _ _ _ _ (by rfl) h) (.inl ⟨by rfl,fun w_ hS_=>by go_simp⟩) hvb ?_
 try simp only [lp,lv,lr,lu,lq,lC,lD,lj]
 refine kR (i:=17) (v:=.bool true) rfl (by kernel_rfl) (by kernel_rfl) (by kernel_rfl) (fun _ _ _ h=>HP.out _ _ _ _ (by rfl) h) (.inl ⟨by rfl,fun w_ hS_=>by go_simp⟩) hvb ?_
 try simp only [lp,lv,lr,lu,lq,lC,lD,lj]
 refine kR (i:=18) (v:=.slice (some ⟨k3,0,none⟩) 1 c3) rfl (by kernel_rfl) (by kernel_rfl) (by kernel_rfl) (fun _ _ _ h=>HP.out _ _ _ _ (by rfl) h) (.inl ⟨by rfl,fun w_ hS_=>by go_simp⟩) hvb ?_
 try simp only [lp,lv,lr,lu,lq,lC,lD,lj]
 refine kR (i:=19) (v:=.int .i64 1) rfl (by kernel_rfl) (by kernel_rfl) (by kernel_rfl) (fun _ _ _ h=>HP.out _ _ _ _ (by rfl) h) (.inl ⟨by rfl,fun w_ hS_=>by go_simp⟩) hvb ?_
 try simp only [lp,lv,lr,lu,lq,lC,lD,lj]
 refine kR (i:=20) (v:=.bool true) rfl (by kernel_rfl) (by kernel_rfl) (by kernel_rfl) (fun _ _ _ h=>HP.out _ _ _ _ (by rfl) h) (.inl ⟨by rfl,fun w_ hS_=>by go_simp⟩) hvb ?_
 try simp only [lp,lv,lr,lu,lq,lC,lD,lj]
 refine kR (i:=21) (v:=.bool true) rfl (by kernel_rfl) (by kernel_rfl) (by kernel_rfl) (fun _ _ _ h=>HP.out _ _ _ _ (by rfl) h) (.inl ⟨by rfl,fun w_ hS_=>by go_simp⟩) hvb ?_
 try simp only [lp,lv,lr,lu,lq,lC,lD,lj]
 refine kR (i:=22) (v:=.bool true) rfl (by kernel_rfl) (by kernel_rfl) (by kernel_rfl) (fun _ _ _ h=>HP.out _ _ _ _ (by rfl) h) (.inl ⟨by rfl,fun w_ hS_=>by go_simp⟩) hvb ?_
 try simp only [lp,lv,lr,lu,lq,lC,lD,lj]
 refine kR (i:=23) (v:=.slice (some ⟨k3,0,none⟩) 1 c3) rfl (by kernel_rfl) (by kernel_rfl) (by kernel_rfl) (fun _ _ _ h=>HP.out _ _ _ _ (by rfl) h) (.inl ⟨by rfl,fun w_ hS_=>by go_simp⟩) hvb ?_
 try simp only [lp,lv,lr,lu,lq,lC,lD,lj]
 refine kR (i:=24) (v:=.pointer (some ⟨k3,0,none⟩)) rfl (by kernel_rfl) (by kernel_rfl) (by kernel_rfl) (fun _ _ _ h=>HP.out _ _ _ _ (by rfl) h) (.inl ⟨by rfl,fun w_ hS_=>by go_simp⟩) hvb ?_
 try simp only [lp,lv,lr,lu,lq,lC,lD,lj]
 refine kR (i:=25) (v:=.agg ([k_ .u8 3,.int .i64 1,.string ⟨#[]⟩,.string ⟨#[83,80,65,78]⟩]).toArray) rfl (by kernel_rfl) (by kernel_rfl) (by kernel_rfl) (fun _ _ _ h=>HP.out _ _ _ _ (by rfl) h) (kU (by rfl) 135 (.tmp 54) rfl k3 0 rfl [k_ .u8 3,.int .i64 1,.string ⟨#[]⟩,.string ⟨#[83,80,65,78]⟩] _ HRC.out Tryz.underlying135 rfl size_135) hvb ?_
 try simp only [lp,lv,lr,lu,lq,lC,lD,lj]
 refine kR (i:=26) (v:=.agg ([k_ .u8 3,.int .i64 1,.string ⟨#[]⟩,.string ⟨#[83,80,65,78]⟩]).toArray) rfl (by kernel_rfl) (by kernel_rfl) (by kernel_rfl) (fun _ _ _ h=>HP.out _ _ _ _ (by rfl) h) (.inl ⟨by rfl,fun w_ hS_=>by go_simp⟩) hvb ?_
 try simp only [lp,lv,lr,lu,lq,lC,lD,lj]
 refine kR (i:=27) (v:=.bool true) rfl (by kernel_rfl) (by kernel_rfl) (by kernel_rfl) (fun _ _ _ h=>HP.out _ _ _ _ (by rfl) h) (.inl ⟨by rfl,fun w_ hS_=>by go_simp⟩) hvb ?_
 try simp only [lp,lv,lr,lu,lq,lC,lD,lj]
 refine kR (i:=28) (v:=.bool true) rfl (by kernel_rfl) (by kernel_rfl) (by kernel_rfl) (fun _ _ _ h=>HP.out _ _ _ _ (by rfl) h) (.inl ⟨by rfl,fun w_ hS_=>by go_simp⟩) hvb ?_
 try simp only [lp,lv,lr,lu,lq,lC,lD,lj]
 refine kR (i:=29) (v:=.bool true) rfl (by kernel_rfl) (by kernel_rfl) (by kernel_rfl) (fun _ _ _ h=>HP.out _ _ _ _ (by rfl) h) (.inl ⟨by rfl,fun w_ hS_=>by go_simp⟩) hvb ?_
 try simp only [lp,lv,lr,lu,lq,lC,lD,lj]
 refine kR (i:=30) (v:=.agg d3.enc.toArray) rfl (by kernel_rfl) (by kernel_rfl) (by kernel_rfl) (fun _ _ _ h=>HP.out _ _ _ _ (by rfl) h) (kU (by rfl) 27 (.tmp 5) rfl p3 0 rfl d3.enc _ HR3.out Tryz.underlying27 rfl zj8) hvb ?_
 try simp only [lp,lv,lr,lu,lq,lC,lD,lj]
 refine kR (i:=31) (v:=.agg x.enc.toArray) rfl (by kernel_rfl) (by kernel_rfl) (by kernel_rfl) (fun _ _ _ h=>HP.out _ _ _ _ (by rfl) h) (kU (by rfl) 27 (.tmp 1) rfl b 0 rfl x.enc _ HRX.out Tryz.underlying27 rfl zj8) hvb ?_
 try simp only [lp,lv,lr,lu,lq,lC,lD,lj]
 refine kX (rs:=[32]) (by kernel_rfl) (by simp) ?_
 refine lE rfl (fun K hK=>?_) lF
 go_simp
 refine(mgSame_calls d3 x _ (Doc.later hd3 hvb) (Doc.later hx hvb) hf3 fx (hc3.trans cx.symm)).mono ?_
 rintro e vc ⟨rfl,hb_⟩
 have hvc:=HT.out _ _ hvb hb_
 clear hb_
 go_wp2_with fail
 refine hK.out _ _ hvc (fun _=>?_)
 clear hK
 try simp only [lp,lv,lr,lu,lq,lC,lD,lj]
 refine kR (i:=33) (v:=.bool true) rfl (by kernel_rfl) (by kernel_rfl) (by kernel_rfl) (fun _ _ _ h=>HP.out _ _ _ _ (by rfl) h) (.inl ⟨by rfl,fun w_ hS_=>by go_simp⟩) hvc ?_
 try simp only [lp,lv,lr,lu,lq,lC,lD,lj]
 refine kR (i:=34) (v:=.bool true) rfl (by kernel_rfl) (by kernel_rfl) (by kernel_rfl) (fun _ _ _ h=>HP.out _ _ _ _ (by rfl) h) (.inl ⟨by rfl,fun w_ hS_=>by go_simp⟩) hvc ?_
 try simp only [lp,lv,lr,lu,lq,lC,lD,lj]
 refine wpAnyH_done (by kernel_rfl) ?_ _
 exact HFIN.out _ _ _ _ _ _ _ _ _ _ _ _ _ _ _ _ _ _ _ _ _ _ _ _ _ _ _ _ _ _ _ _ _ _ _ hvc
theorem awake18_calls (w:kT)(hE:Env w):Calls Tryz.prog 25 #[] w fun e w'=>e=.returned (.bool true)∧k9 w.heap.size w w':=by
 generalize hQ:(fun(e:Ending) (w':kT)=>e=.returned (.bool true)∧k9 w.heap.size w w')=Q
 have HQ:=h_ (fun w' (hb:k9 w.heap.size w w')=>show Q (.returned (.bool true)) w' from hQ▸⟨rfl,hb⟩)
 clear hQ
 go_enter Tryz.func25,Tryz.ntmps25
 go_wp2_with fail
 refine(one_calls 0 50 sA18 w ⟨by decide,by decide⟩ ⟨by decide,by decide⟩ (by decide)).mono ?_
 rintro e w1 ⟨x,rfl,hcx,hlx,hfx,_,hb1⟩
 have hI:=kS w1 (.cells #[lf ⟨#[]⟩,.string ⟨#[]⟩,.int .u8 0,.bool false,.int .i64 0,.slice none 0 0,.slice none 0 0,.slice none 0 0] 27)
 go_upto_region 2 with(refine kV rfl 27 (.tmp 1) (.tmp 9) rfl w1.heap.size x.enc.toArray rfl rfl 27 _ hI zj8 rfl (zk2 _ _ _ _ _ _ _ _ _ _ _ _ _ _) ?_)
 rw [lG]
 have hb2:k9 w.heap.size w (w1.alloc (.cells x.enc.toArray 27)):=hb1.alloc hb1.size _
 have hx2:x.lies (w1.alloc (.cells x.enc.toArray 27)):=Doc.later hlx ((ll _ _).alloc (lH _) _)
 have hr2:=kS w1 (.cells x.enc.toArray 27)
 generalize w1.alloc (.cells x.enc.toArray 27)=w2 at *
 refine aw_r2 x w1.heap.size w2 (hE.below hb2 (lH _)) hx2 hfx hcx hr2 _ (fun _ _ _ _ hd h=>⟨hd.trans h.1,h.2⟩) _ _ _ _ _ _ _ _ _ _ _ _ _ _ _ _ _ _ _ _ _ _ _ _ _ _ _ _ _ _ _ _ _ _ _ _ _ _ _ _ _ _ _ _ _ _ _ _ _ _ _ _ _ _ _ _ _ _ _ _ _ _ _ ?_
 intro u10 u11 u12 u13 u14 u15 u16 u17 u18 u19 d2 kv2 p2 w3 hc2 hl2 hf2 hk2 hp2 hg2 hb3
 have hb3w:k9 w.heap.size w w3:=hb2.trans (hb3.mono hb2.size)
 have hx3:=Doc.later hx2 hb3
 have hr3:=(hb3.block _ (lk.1 hr2).1).trans hr2
 obtain⟨a2,c2,rfl⟩:=dS hk2
 clear hk2 hb2 hx2 hr2 hI hlx hb1 hb3 hg2
 go_upto_region 3 with fail
 refine aw_r3 x w1.heap.size w3 (hE.below hb3w (lH _)) hx3 hfx hcx hr3 _ (fun _ _ _ _ hd h=>⟨hd.trans h.1,h.2⟩) _ _ _ _ _ _ _ _ _ _ _ _ _ _ _ _ _ _ _ _ _ _ _ _ _ _ _ _ _ _ _ _ _ _ _ _ _ _ _ _ _ _ _ _ _ _ _ _ _ _ _ _ _ _ _ _ _ _ _ _ _ _ _ ?_
 intro u20 u21 u22 u23 u24 u25 u26 u27 u28 u29 d3 kv3 p3 w4 hc3 hl3 hf3 hk3 hp3 hg3 hb4
 have hb4w:k9 w.heap.size w w4:=hb3w.trans (hb4.mono hb3w.size)
 have hx4:=Doc.later hx3 hb4
 have hr4:=(hb4.block _ (lk.1 hr3).1).trans hr3
 have hl2':=Doc.later hl2 hb4
 have hp2':=(hb4.block _ (lk.1 hp2).1).trans hp2
 obtain⟨k3,c3,rfl⟩:=zat hk3 (by decide)
 have hkl:=(hk3.lt k3 rfl).2
 have hkc:1≤c3:=by
  rcases hk3.2 with⟨h0,_⟩|⟨g',cap,cur,h0,_,_,hnc,_⟩
  · simp at h0
  · simp only [kW.slice.injEq] at h0
    obtain⟨_,_,rfl⟩:=h0
    exact hnc
 have hkr:w4.rangeAt k3 0 [k_ .u8 3,.int .i64 1,.string ⟨#[]⟩,.string ⟨#[83,80,65,78]⟩]:=fun j v hv=>by
  have hj:j<4:=(List.getElem?_eq_some_iff.1 hv).1
  rw [Nat.zero_add]
  exact(hk3.cellAt j (by simpa using hj)).trans hv
 clear hk3 hb4 hx3 hr3 hb3w hl2 hp2 hg3
 go_upto_region 4 with fail
 refine aw_r4 x d2 d3 w1.heap.size p2 p3 k3 c2 c3 a2 w4 hx4 hl2' hl3 hfx hf2 hf3 hcx hc2 hc3 hr4 hp2' hp3 hkr hkl hkc _ (fun _ _ _ _ hd h=>⟨hd.trans h.1,h.2⟩) _ _ _ _ _ _ _ _ _ _ _ _ _ _ _ _ _ _ _ _ _ _ _ _ _ _ _ _ _ _ _ _ _ _ _ _ _ _ _ _ _ _ _ _ _ _ _ _ _ _ _ _ _ _ _ _ _ ?_
 intro u30 u31 u32 u33 u34 u35 u36 u37 u38 u39 u40 u41 u42 u43 u44 u45 u46 u47 u48 u49 u50 u51 u52 u53 u54 u55 u56 u57 u58 u59 u60 u61 u62 u63 wx hbx
 have HE:=h_ (HQ.out wx (hb4w.trans (hbx.mono hb4w.size)))
 clear hbx
 go_wp2_with fail
 exact HE.out
end Go.Proofs.YtnlnmbcaongehaaGreatDoor
namespace Go.Proofs.YtnlnmbcaongehaaGreatDoor.mergeSeat
open Go.Shelf Go.ChangeShapes Go.WideShapes Go.ChangeAt Go.RowKit Go.Lib
theorem own:ownKnob Tryz.prog.godebug=none:=by kernel_rfl
theorem laidOut:laidOutB Tryz.prog=true:=by kernel_rfl
def tab32:List Int:=[0,1,28,2,29,14,24,3,30,22,20,15,25,17,4,8,31,27,13,23,21,19,16,7,26,12,18,6,11,5,10,9]
def tab64:List Int:=[0,1,56,2,57,49,28,3,61,58,42,50,38,29,17,4,62,47,59,36,45,43,51,22,53,39,33,30,24,18,12,5,63,55,48,27,60,41,37,16,46,35,44,21,52,32,23,11,54,26,40,15,34,20,31,10,25,14,19,9,13,8,7,6]
noncomputable def laidWorld (os:Os):kT :=
 let w0:=kT.holding Tryz.prog os ⟨#[],#[],[]⟩
 let put (h:Array Obj) (g:Nat) (cs:Array kW):Array Obj:=h.modify g fun
  | .cells _ t frozen=>.cells cs t frozen
  | o=>o
 let h1:=put w0.heap 0 (Lib.firstTab.map fun z=>k_ .u8 z).toArray
 let h2:=put h1 1 ((List.range 16).flatMap fun i=>[k_ .u8 (Lib.accLo i),k_ .u8 (Lib.accHi i)]).toArray
 let h3:=put h2 2 (Lib.pow10Tab.map fun z=>k_ .u64 z).toArray
 let h4:=put h3 4 (tab32.map fun z=>k_ .u8 z).toArray
 let h5:=put h4 5 (tab64.map fun z=>k_ .u8 z).toArray
 { w0 with heap:=h5 }
def zd:Array kW:=#[.string ⟨#[]⟩,.string ⟨#[]⟩,.int .u8 0,.bool false,.int .i64 0,.slice none 0 0,.slice none 0 0,.slice none 0 0]
theorem laid_met (os:Os)(args:Array kW):laidMet Tryz.prog Rows.mergeUnchangedUptoRow.laid ((laidWorld os).forCall (fun _ _=>0) ⟨#[],args,[]⟩).memory :=
 laidMet_of_run' 8 (by kernel_rfl) (by kernel_rfl)
theorem first_eq:Rows.laid_unicode_utf8_first=Lib.firstData:=by kernel_rfl
theorem accept_eq:(Rows.laid_unicode_utf8_acceptRanges:DataW Unit)=Lib.acceptData:=by kernel_rfl
theorem laid_list:Rows.mergeUnchangedUptoRow.laid=[("unicode/utf8.acceptRanges",Rows.laid_unicode_utf8_acceptRanges),("unicode/utf8.first",Rows.laid_unicode_utf8_first)]:=rfl
theorem max_of {W:kT} (h:W.ShapedOpen Tryz.prog):∃ m,W.cell? ⟨3,0,none⟩=some (.int .i64 m) :=
 Go.Proofs.cell_of_shapedOpen_int (zero:=#[.int .i64 0]) (t:=3) h (of_decide_eq_true (by kernel_rfl)) (by kernel_rfl) rfl (by kernel_rfl) (by kernel_rfl) Tryz.underlying3
theorem env_of {W:kT} (hL:laidMetH Tryz.prog Rows.mergeUnchangedUptoRow.laid W)(hS:W.ShapedOpen Tryz.prog):Env W:=by
 have hL':laidMet Tryz.prog Rows.mergeUnchangedUptoRow.laid W:=by
  rw [Go.MakeChecks.laidMetH_plain _ _ _ (by kernel_rfl)] at hL
  exact hL
 rw [laid_list,first_eq,accept_eq] at hL'
 exact⟨utf8Tabs_of_readsT (U8Types.of196 Tryz.lays196) ⟨by kernel_rfl,by kernel_rfl,by kernel_rfl,by kernel_rfl,by kernel_rfl,by kernel_rfl,by kernel_rfl⟩ (Lib.laidMet.reads hL' (List.Mem.tail _ (List.Mem.head _))) (Lib.laidMet.reads hL' (List.Mem.head _)),max_of hS⟩
end Go.Proofs.YtnlnmbcaongehaaGreatDoor.mergeSeat
namespace Go.Proofs.YtnlnmbcaongehaaGreatDoor
open Go.RowKit
theorem mg_load {P:Program} {ops:Array Oper} {rest:List Oper} {op:Oper} {a:Act} {w:kT} {Q:Exit→Act→kT→Prop} (ty:kY)(x:Operand)(ho:op.op=.load ty x)
 (b o:Nat) (hx:a.eval x=.pointer (some ⟨b,o,none⟩)) (cs:List kW) (d:TypeDesc) (hc:w.rangeAt b o cs) (hu:P.underlying ty=some d) (hd:d.isRow=true) (hi:(P.info? ty).map (·.size)=some cs.length) (hw:Region.wanted op (yielded ops a.tmps)=true)
 (h:wpList P ops Q rest (a.put op.dst (.agg cs.toArray)) w):wpList P ops Q (op::rest) a w :=
 BigFrame.wpList_want hw fun _ hK=>wp_load_mid ty x ho b o hx cs d hc hu hd hi (hK _ _ h)
def UnPost (E:Int)(T:DocC)(w:kT)(e:Ending)(w':kT):Prop:=∃ (d:Doc) (p:Option Addr) (c:Nat),e=.returned (.tuple #[.agg d.enc.toArray,.slice p 0 c,.int .i64 E])∧d.c=T∧d.lies w'∧d.fits∧k9 w.heap.size w w'
theorem un_post {x y z:DocC} {w:kT} {e:Ending} {w':kT} (h:zc2 x y z w e w') {E:Int} {T:DocC} (hm:zah x y z=E∧zcA x y z=T∧mgCl x y z=[]):UnPost E T w e w':=by
 obtain⟨d,kv,he,hc,hl,hf,_,hk,hb⟩:=h
 obtain⟨h1,h2,h3⟩:=hm
 rw [h3] at hk
 obtain⟨p,c,rfl⟩:=dS hk
 exact⟨d,p,c,by rw [he,h1];rfl,hc.trans h2,hl,hf,hb⟩
theorem lawUnch_calls (base a:Doc)(w:kT)(hE:Env w)(hb:base.lies w)(ha:a.lies w)(fb:base.fits)(fa:a.fits) :
 Calls Tryz.prog 7 #[.agg base.enc.toArray,.agg a.enc.toArray] w fun e w'=>e=.returned (.bool true)∧k9 w.heap.size w w':=by
 have HA:=h_ (fun(w1:kT) (h:k9 w.heap.size w w1)=>awake18_calls w1 (hE.below h (lH _)))
 obtain⟨E,T,hM1,hM2,hM3,hET⟩:∃ (E:Int) (T:DocC),(zah base.c a.c base.c=E∧zcA base.c a.c base.c=T∧mgCl base.c a.c base.c=[])∧(zah base.c base.c a.c=E∧zcA base.c base.c a.c=T∧mgCl base.c base.c a.c=[])∧(zah base.c a.c a.c=E∧zcA base.c a.c a.c=T∧mgCl base.c a.c a.c=[])∧((E=0∧T=a.c)∨(E≠0∧T=zj2)):=by
  by_cases h0:aO base.c a.c base.c=0
  · obtain⟨h1,h2,h3⟩:=unch_ok h0
    exact⟨0,a.c,h1,h2,h3,.inl ⟨rfl,rfl⟩⟩
  · obtain⟨h1,h2,h3⟩:=unch_err h0
    exact⟨_,zj2,h1,h2,h3,.inr ⟨h0,rfl⟩⟩
 have HM1:=h_ (fun(w1:kT) (h:k9 w.heap.size w w1)=>(zki base a base w1 (hE.below h (lH _)) (Doc.later hb h) (Doc.later ha h) (Doc.later hb h) fb fa fb (fun _=>old_base _ _)).mono fun e w' p=>un_post p hM1)
 have HM2:=h_ (fun(w1:kT) (h:k9 w.heap.size w w1)=>(zki base base a w1 (hE.below h (lH _)) (Doc.later hb h) (Doc.later hb h) (Doc.later ha h) fb fb fa (fun _=>old_a _ _)).mono fun e w' p=>un_post p hM2)
 have HM3:=h_ (fun(w1:kT) (h:k9 w.heap.size w w1)=>(zki base a a w1 (hE.below h (lH _)) (Doc.later hb h) (Doc.later ha h) (Doc.later ha h) fb fa fa (fun h0=>old_both _ (cErr_ok (eb h0).2.1))).mono fun e w' p=>un_post p hM3)
 have HLA:=h_ (And.intro ha fa)
 have HET:=h_ hET
 generalize hQ:(fun(e:Ending) (w':kT)=>e=.returned (.bool true)∧k9 w.heap.size w w')=Q
 have HQ:=h_ (fun w' (h:k9 w.heap.size w w')=>show Q (.returned (.bool true)) w' from hQ▸⟨rfl,h⟩)
 clear hQ hE hb ha fb fa hM1 hM2 hM3 hET
 go_enter Tryz.func7,Tryz.ntmps7
 have h1:((w.alloc (.cells base.enc.toArray 27)).alloc (.cells a.enc.toArray 27)).heap[w.heap.size]? =some (.cells base.enc.toArray 27 (0,0)):=(k9.heap_alloc _ _ _ (by simp)).trans (kS w _)
 have h2:((w.alloc (.cells base.enc.toArray 27)).alloc (.cells a.enc.toArray 27)).heap[w.heap.size+1]? =some (.cells a.enc.toArray 27 (0,0)):=by
  have:=kS (w.alloc (.cells base.enc.toArray 27)) (.cells a.enc.toArray 27)
  rwa [kT.size_alloc] at this
 have h3:k9 w.heap.size w ((w.alloc (.cells base.enc.toArray 27)).alloc (.cells a.enc.toArray 27)):=((ll _ _).alloc (lH _) _).alloc (by simp) _
 go_wp2_with fail
 generalize (w.alloc (.cells base.enc.toArray 27)).alloc (.cells a.enc.toArray 27)=W0 at *
 have HB:=h_ (fun(w':kT) (q:k9 W0.heap.size W0 w')=>(h3.trans (q.mono h3.size):k9 w.heap.size w w'))
 have HT:=h_ (fun(w2 w3:kT) (q:k9 W0.heap.size W0 w2) (q3:k9 w2.heap.size w2 w3)=>(q.trans (q3.mono q.size):k9 W0.heap.size W0 w3))
 have R1:=h_ (fun(w':kT) (q:k9 W0.heap.size W0 w')=>aw_range ((q.block _ (lk.1 h1).1).trans h1))
 have R2:=h_ (fun(w':kT) (q:k9 W0.heap.size W0 w')=>aw_range ((q.block _ (lk.1 h2).1).trans h2))
 clear h1 h2 h3
 refine(HA.out W0 (HB.out _ (ll _ _))).mono ?_
 rintro e w1 ⟨rfl,hb1⟩
 have hc1:=HT.out _ _ (ll _ _) hb1
 clear hb1 HA
 go_wp2_with (first|(refine mg_load 27 (.tmp 2) rfl w.heap.size 0 rfl base.enc _ (R1.out w1 hc1) Tryz.underlying27 rfl zj8 (by rfl) ?_)|(refine mg_load 27 (.tmp 3) rfl (w.heap.size+1) 0 rfl a.enc _ (R2.out w1 hc1) Tryz.underlying27 rfl zj8 (by rfl) ?_))
 refine(HM1.out w1 (HB.out _ hc1)).mono ?_
 rintro e v1 ⟨d1,p1,q1,rfl,he1,hl1,hf1,hb_⟩
 have hv1:=HT.out _ _ hc1 hb_
 have hI:=kS v1 (.cells #[lf ⟨#[]⟩,.string ⟨#[]⟩,.int .u8 0,.bool false,.int .i64 0,.slice none 0 0,.slice none 0 0,.slice none 0 0] 27)
 clear hb_
 go_upto_region 4 with(refine kV rfl 27 (.tmp 5) (.tmp 21) rfl v1.heap.size d1.enc.toArray rfl rfl 27 _ hI zj8 rfl (zk2 _ _ _ _ _ _ _ _ _ _ _ _ _ _) ?_)
 rw [lG]
 have hbe:k9 v1.heap.size v1 (v1.alloc (.cells d1.enc.toArray 27)):=(ll _ _).alloc (lH _) _
 have hc2:=HT.out _ _ hv1 hbe
 have B1:=h_ (kS v1 (.cells d1.enc.toArray 27))
 have D1:=h_ (show d1.lies (v1.alloc (.cells d1.enc.toArray 27))∧d1.fits∧d1.c=T from⟨Doc.later hl1 hbe,hf1,he1⟩)
 clear hI hbe hv1 hc1 hl1 hf1 he1 HM1
 generalize v1.alloc (.cells d1.enc.toArray 27)=w2 at *
 go_wp2_with (first|(refine mg_load 27 (.tmp 2) rfl w.heap.size 0 rfl base.enc _ (R1.out w2 hc2) Tryz.underlying27 rfl zj8 (by rfl) ?_)|(refine mg_load 27 (.tmp 3) rfl (w.heap.size+1) 0 rfl a.enc _ (R2.out w2 hc2) Tryz.underlying27 rfl zj8 (by rfl) ?_))
 refine(HM2.out w2 (HB.out _ hc2)).mono ?_
 rintro e v2 ⟨d2,p2,q2,rfl,he2,hl2,hf2,hb_⟩
 have hv2:=HT.out _ _ hc2 hb_
 have hI:=kS v2 (.cells #[lf ⟨#[]⟩,.string ⟨#[]⟩,.int .u8 0,.bool false,.int .i64 0,.slice none 0 0,.slice none 0 0,.slice none 0 0] 27)
 have D1:=h_ (show d1.lies v2∧d1.fits∧d1.c=T from⟨Doc.later D1.out.1 hb_,D1.out.2⟩)
 have B1:=h_ ((hb_.block _ (lk.1 B1.out).1).trans B1.out)
 clear hb_
 go_upto_region 5 with(refine kV rfl 27 (.tmp 8) (.tmp 29) rfl v2.heap.size d2.enc.toArray rfl rfl 27 _ hI zj8 rfl (zk2 _ _ _ _ _ _ _ _ _ _ _ _ _ _) ?_)
 rw [lG]
 have hbe:k9 v2.heap.size v2 (v2.alloc (.cells d2.enc.toArray 27)):=(ll _ _).alloc (lH _) _
 have hc3:=HT.out _ _ hv2 hbe
 have B2:=h_ (kS v2 (.cells d2.enc.toArray 27))
 have D2:=h_ (show d2.lies (v2.alloc (.cells d2.enc.toArray 27))∧d2.fits∧d2.c=T from⟨Doc.later hl2 hbe,hf2,he2⟩)
 have D1:=h_ (show d1.lies (v2.alloc (.cells d2.enc.toArray 27))∧d1.fits∧d1.c=T from⟨Doc.later D1.out.1 hbe,D1.out.2⟩)
 have B1:=h_ ((hbe.block _ (lk.1 B1.out).1).trans B1.out)
 clear hI hbe hv2 hc2 hl2 hf2 he2 HM2
 generalize v2.alloc (.cells d2.enc.toArray 27)=w3 at *
 go_wp2_with (first|(refine mg_load 27 (.tmp 2) rfl w.heap.size 0 rfl base.enc _ (R1.out w3 hc3) Tryz.underlying27 rfl zj8 (by rfl) ?_)|(refine mg_load 27 (.tmp 3) rfl (w.heap.size+1) 0 rfl a.enc _ (R2.out w3 hc3) Tryz.underlying27 rfl zj8 (by rfl) ?_))
 refine(HM3.out w3 (HB.out _ hc3)).mono ?_
 rintro e v3 ⟨d3,p3,q3,rfl,he3,hl3,hf3,hb_⟩
 have hv3:=HT.out _ _ hc3 hb_
 have hI:=kS v3 (.cells #[lf ⟨#[]⟩,.string ⟨#[]⟩,.int .u8 0,.bool false,.int .i64 0,.slice none 0 0,.slice none 0 0,.slice none 0 0] 27)
 have D1:=h_ (show d1.lies v3∧d1.fits∧d1.c=T from⟨Doc.later D1.out.1 hb_,D1.out.2⟩)
 have B1:=h_ ((hb_.block _ (lk.1 B1.out).1).trans B1.out)
 have D2:=h_ (show d2.lies v3∧d2.fits∧d2.c=T from⟨Doc.later D2.out.1 hb_,D2.out.2⟩)
 have B2:=h_ ((hb_.block _ (lk.1 B2.out).1).trans B2.out)
 clear hb_
 go_upto_region 6 with(refine kV rfl 27 (.tmp 11) (.tmp 37) rfl v3.heap.size d3.enc.toArray rfl rfl 27 _ hI zj8 rfl (zk2 _ _ _ _ _ _ _ _ _ _ _ _ _ _) ?_)
 rw [lG]
 have hbe:k9 v3.heap.size v3 (v3.alloc (.cells d3.enc.toArray 27)):=(ll _ _).alloc (lH _) _
 have hc4:=HT.out _ _ hv3 hbe
 have B3:=h_ (kS v3 (.cells d3.enc.toArray 27))
 have D3:=h_ (show d3.lies (v3.alloc (.cells d3.enc.toArray 27))∧d3.fits∧d3.c=T from⟨Doc.later hl3 hbe,hf3,he3⟩)
 have D1:=h_ (show d1.lies (v3.alloc (.cells d3.enc.toArray 27))∧d1.fits∧d1.c=T from⟨Doc.later D1.out.1 hbe,D1.out.2⟩)
 have B1:=h_ ((hbe.block _ (lk.1 B1.out).1).trans B1.out)
 have D2:=h_ (show d2.lies (v3.alloc (.cells d3.enc.toArray 27))∧d2.fits∧d2.c=T from⟨Doc.later D2.out.1 hbe,D2.out.2⟩)
 have B2:=h_ ((hbe.block _ (lk.1 B2.out).1).trans B2.out)
 clear hI hbe hv3 hc3 hl3 hf3 he3 HM3
 generalize v3.alloc (.cells d3.enc.toArray 27)=w4 at *
 have HAL:=h_ (fun(w':kT) (q:k9 W0.heap.size W0 w')=>(show a.lies w' from Doc.later HLA.out.1 (HB.out w' q)))
 rcases HET.out with⟨rfl,rfl⟩|⟨hne,rfl⟩
 · go_wp2_with (first|(refine mg_load 27 (.tmp 5) rfl v1.heap.size 0 rfl d1.enc _ (aw_range B1.out) Tryz.underlying27 rfl zj8 (by rfl) ?_)|(refine mg_load 27 (.tmp 3) rfl (w.heap.size+1) 0 rfl a.enc _ (R2.out w4 hc4) Tryz.underlying27 rfl zj8 (by rfl) ?_))
   refine(mgSame_calls d1 a w4 D1.out.1 (HAL.out _ hc4) D1.out.2.1 HLA.out.2 D1.out.2.2).mono ?_
   rintro e w5 ⟨rfl,hb5⟩
   have hc5:=HT.out _ _ hc4 hb5
   have l2:=Doc.later D2.out.1 hb5
   have l3:=Doc.later D3.out.1 hb5
   have b2:=(hb5.block _ (lk.1 B2.out).1).trans B2.out
   have b3:=(hb5.block _ (lk.1 B3.out).1).trans B3.out
   clear hb5 hc4
   go_wp2_with (first|(refine mg_load 27 (.tmp 8) rfl v2.heap.size 0 rfl d2.enc _ (aw_range b2) Tryz.underlying27 rfl zj8 (by rfl) ?_)|(refine mg_load 27 (.tmp 3) rfl (w.heap.size+1) 0 rfl a.enc _ (R2.out w5 hc5) Tryz.underlying27 rfl zj8 (by rfl) ?_))
   refine(mgSame_calls d2 a w5 l2 (HAL.out _ hc5) D2.out.2.1 HLA.out.2 D2.out.2.2).mono ?_
   rintro e w6 ⟨rfl,hb6⟩
   have hc6:=HT.out _ _ hc5 hb6
   have l3':=Doc.later l3 hb6
   have b3':=(hb6.block _ (lk.1 b3).1).trans b3
   clear hb6 hc5 l2 b2 l3 b3
   go_wp2_with (first|(refine mg_load 27 (.tmp 11) rfl v3.heap.size 0 rfl d3.enc _ (aw_range b3') Tryz.underlying27 rfl zj8 (by rfl) ?_)|(refine mg_load 27 (.tmp 3) rfl (w.heap.size+1) 0 rfl a.enc _ (R2.out w6 hc6) Tryz.underlying27 rfl zj8 (by rfl) ?_))
   refine(mgSame_calls d3 a w6 l3' (HAL.out _ hc6) D3.out.2.1 HLA.out.2 D3.out.2.2).mono ?_
   rintro e w7 ⟨rfl,hb7⟩
   have HE:=h_ (HQ.out w7 (HB.out _ (HT.out _ _ hc6 hb7)))
   clear hb7 hc6
   go_wp2_with fail
   exact HE.out
 · have hn:(E != 0)=true:=by simpa using hne
   have hn2:(E==0)=false:=by simpa using hne
   go_wp2_with (refine mg_load 27 (.tmp 5) rfl v1.heap.size 0 rfl d1.enc _ (aw_range B1.out) Tryz.underlying27 rfl zj8 (by rfl) ?_)
   refine(mgSame_calls d1 zDoc w4 D1.out.1 (zeS _) D1.out.2.1 ((zeT 0).doc (by decide)) D1.out.2.2).mono ?_
   rintro e w5 ⟨rfl,hb5⟩
   have HE:=h_ (HQ.out w5 (HB.out _ (HT.out _ _ hc4 hb5)))
   clear hb5 hc4
   go_wp2_with fail
   exact HE.out
end Go.Proofs.YtnlnmbcaongehaaGreatDoor
namespace Go.Proofs.YtnlnmbcaongehaaGreatDoor.mergeUnchanged
open Go.Shelf Go.ChangeShapes Go.WideShapes Go.ChangeAt Go.RowKit Go.Lib
open Go.Proofs.YtnlnmbcaongehaaGreatDoor.mergeSeat (own laidOut laidWorld laid_met env_of zd)
theorem bound {H:Type} {l:List (DataW H)} (hk:Rows.uptoSmall H l=true):Rows.uptoBulkAll l≤1048576:=of_decide_eq_true hk
theorem slice_cap {P:Program} {W:kT} {r:Reach} {base len cap:Nat} {t e:kY} {a:Option Addr} (ht:P.underlying t=some (.slice e))(h:lg P W r base t (.slice a len cap)):len≤cap:=by
 simp only [lg,ht,Cell.okWide] at h
 cases a with
 | none =>
   by_cases hl:len=0
   · omega
   · obtain⟨n,rfl⟩:∃ n,len=n+1:=⟨len-1,by omega⟩
     simp only [Cell.ok,ht] at h
 | some a=>simp only [Cell.ok,ht] at h;exact h.1
def wargs:Array kW:=#[.agg zd,.agg zd]
theorem contract (H:Type)(enc:kY × kW→H)(F:Stop.Interp)(W:kT)(base:Nat)(args:Array kW)(ds gs:List (DataW H))(before:List MemPlace)
 (hval:∀ (j:Nat) t v,Tryz.f7.params[j]? =some t→args[j]? =some v→lg Tryz.prog W .any base t v)
 (hW:DataW.Whole enc Tryz.prog Tryz.f7.params.toList (Rows.OpenSpec.upto Rows.mergeUnchangedSpec).vars false W args.toList ds gs before) (hk:Rows.uptoSmall H (ds++gs)=true) (hE:Env W) :
 Calls Tryz.prog 7 args W fun e W'=>∃ v,e=.returned v∧((Rows.OpenSpec.upto Rows.mergeUnchangedSpec).at F).post enc Tryz.prog Tryz.f7 false true false false W args v W':=by
 have hW':=hW
 obtain⟨p,q,hA0,hV,rfl,hfz,hnd⟩:=hW
 have hA:DataW.TrodAll enc Tryz.prog W 0 (fun _=>true) true Tryz.f7.params.toList args.toList ds p:=hA0
 rw [Tryz.params7] at hA hval
 obtain⟨v0,vs0,d0,ds0,p0,q0,hargs,rfl,rfl,h0,r0⟩:=trodAll_cons hA
 obtain⟨v1,vs1,d1,ds1,p1,q1,rfl,rfl,rfl,h1,r1⟩:=trodAll_cons r0
 obtain⟨rfl,rfl,rfl⟩:=trodAll_nil r1
 obtain rfl:args=#[v0,v1]:=by cases args;simp_all
 obtain⟨rfl,rfl⟩:=trodVars_none hV
 have hbk:=bound hk
 simp only [List.append_nil,Rows.uptoBulkAll] at hbk
 have k0:=h0
 have lt0:∀ x∈p0,x.block<W.heap.size:=by obtain⟨m,hm⟩:=k0;exact DataW.trod_lt m _ _ _ hm
 obtain⟨f0,t0⟩:=h0
 have k1:=h1
 have lt1:∀ x∈p1,x.block<W.heap.size:=by obtain⟨m,hm⟩:=k1;exact DataW.trod_lt m _ _ _ hm
 obtain⟨f1,t1⟩:=h1
 obtain⟨c0,rfl,hc0⟩:=okWide_struct Tryz.underlying27 (hval 0 27 v0 rfl rfl)
 obtain⟨d,e0,l0,g0,_⟩:=read_doc f0 _ (d0,p0) t0 (by simp only;omega)
 simp [lh] at e0
 have e0':c0=d.enc.toArray:=by rw [←e0]
 subst e0'
 obtain⟨c1,rfl,hc1⟩:=okWide_struct Tryz.underlying27 (hval 1 27 v1 rfl rfl)
 obtain⟨d',e1,l1,g1,_⟩:=read_doc f1 _ (d1,p1) t1 (by simp only;omega)
 simp [lh] at e1
 have e1':c1=d'.enc.toArray:=by rw [←e1]
 subst e1'
 clear hA0
 refine(lawUnch_calls d d' W hE l0 l1 g0 g1).mono fun e W' ⟨he,bel⟩=>?_
 subst he
 exact⟨_,rfl,_,_,_,[],_,[],hW',trodAll_mk1 (shut_bool Tryz.underlying4 _),(kZ (ln laidOut (by kernel_rfl) (of_decide_eq_true (by kernel_rfl)) k0 bel lt0) (kZ (ln laidOut (by kernel_rfl) (of_decide_eq_true (by kernel_rfl)) k1 bel lt1) trodAll_mk0)),rfl,bel.frame _,fun h=>by cases h⟩
def zdoc {H:Type}:DataW H:=.agg [.lit (.string []),.lit (.string []),.lit (.int .u8 0),.lit (.bool false),.lit (.int .i64 0),.nil,.nil,.nil]
theorem wreads (os:Os) {H:Type} (enc:kY × kW→H):∃ places,DataW.whole enc Tryz.prog ((laidWorld os).forCall (fun _ _=>0) ⟨#[],wargs,[]⟩).memory Tryz.f7.params.toList (Rows.OpenSpec.upto Rows.mergeUnchangedSpec).vars false wargs.toList 8=some ([zdoc,zdoc],[],places):=by
 have hw:(DataW.whole enc Tryz.prog ((laidWorld os).forCall (fun _ _=>0) ⟨#[],wargs,[]⟩).memory Tryz.f7.params.toList (Rows.OpenSpec.upto Rows.mergeUnchangedSpec).vars false wargs.toList 8).map (fun x=>(x.1,x.2.1))=some ([zdoc,zdoc],[]):=by kernel_rfl
 obtain⟨⟨x1,x2,x3⟩,hx,hx1⟩:=Option.map_eq_some_iff.1 hw
 simp only [Prod.mk.injEq] at hx1
 obtain⟨rfl,rfl⟩:=hx1
 exact⟨x3,hx⟩
theorem liftedUpto (os:Os)(started:os.Started)(H:Type)(enc:kY × kW→H)(F:Stop.Interp) :
 ReturnsInHanded {} Tryz.checked os 7 .any ((Rows.OpenSpec.upto Rows.mergeUnchangedSpec).preRow enc Tryz.prog Tryz.f7 Rows.mergeUnchangedUptoRow.domain false Rows.mergeUnchangedUptoRow.laid) (((Rows.OpenSpec.upto Rows.mergeUnchangedSpec).at F).post enc Tryz.prog Tryz.f7 false true false false):=by
 obtain⟨places,hx⟩:=wreads os enc
 refine returnsInHanded_of_row (C:=Tryz.checked) (s:=Rows.OpenSpec.upto Rows.mergeUnchangedSpec) own started (by kernel_rfl) Tryz.func7
  (witness_row_at (enc:=enc) (C:=Tryz.checked) false (laidWorld os) wargs rfl (by kernel_rfl) (by kernel_rfl) (by kernel_rfl)
   (OpenSpec.preRow_of_cond 8 hx (by kernel_rfl) (fun k hk=>by cases hk;kernel_rfl) (by kernel_rfl) (laid_met os _))) ?_
 intro W base args ds gs before hval hW _ hcond _ hL hS _
 exact contract H enc F W base args ds gs before hval hW (hcond _ rfl) (env_of hL hS)
theorem inPlace_eq:Rows.mergeUnchangedUptoRow.inPlace=Tryz.prog.inPlace 7:=by kernel_rfl
theorem unfollowed_eq:Tryz.prog.unfollowed 7=true:=by kernel_rfl
theorem recurses_eq:Tryz.prog.recurses 7=true:=by
 unfold Program.recurses
 rw [unfollowed_eq]
 rfl
theorem varsNamed_eq:Rows.mergeUnchangedUptoRow.named=Tryz.prog.varsNamed 7:=by kernel_rfl
theorem mapsRowed_eq:mapsRowed Tryz.prog=true:=by kernel_rfl
theorem plainKeys_eq:Rows.mergeUnchangedUptoRow.plainKeys=Tryz.prog.plainKeys:=by kernel_rfl
theorem joined:joinedFacts Tryz.prog 7 Tryz.f7 (Rows.OpenSpec.upto Rows.mergeUnchangedSpec).bare Rows.mergeUnchangedUptoRow=true:=by
 unfold joinedFacts
 rw [←inPlace_eq,unfollowed_eq,recurses_eq,←varsNamed_eq,laidOut,mapsRowed_eq,←plainKeys_eq]
 refine Eq.trans ?_ (Eq.refl _)
 kernel_rfl
theorem named:Tryz.pinned.checked.prog.funcNamed Rows.mergeUnchangedUptoRow.func=some 7:=by kernel_rfl
theorem isInst:Tryz.f7.isInstance Tryz.pinned.checked.prog Rows.mergeUnchangedUptoRow.origin Rows.mergeUnchangedUptoRow.targs:=of_decide_eq_true (by kernel_rfl)
theorem isWrap:Tryz.f7.isWrapper Tryz.pinned.checked.prog Rows.mergeUnchangedUptoRow.wrapper Rows.mergeUnchangedUptoRow.mainSum:=by
 unfold Func.isWrapper
 first|(rw [if_pos (by decide +kernel)];kernel_rfl)|(rw [if_neg (by decide +kernel)];exact⟨rfl,rfl⟩)
theorem saidUpto:Rows.MergeUnchangedUptoSaid :=
 OpenClaim.holds_of_cond 7 Tryz.f7 rfl rfl rfl rfl rfl rfl rfl ⟨rfl,rfl,rfl,rfl,rfl⟩ rfl rfl rfl rfl rfl named Tryz.func7 joined isInst isWrap
  (fun os started H enc _ F=>by rw [OpenClaim.pre_eq_preRow];exact liftedUpto os started H enc F)
theorem plain (f:FuncId)(fn:Func)(hf:Tryz.pinned.checked.prog.funcNamed "captioner/captionerlaw18.MergeUnchanged" =some f)(hfn:Tryz.pinned.checked.prog.funcs[f]? =some fn) :
 false=Tryz.pinned.checked.prog.looks []∧∀ (j:Nat) t,fn.params[j]? =some t→Tryz.pinned.checked.prog.wantsStandIn t=false:=by
 obtain rfl:f=7:=Option.some.inj ((show Tryz.prog.funcNamed "captioner/captionerlaw18.MergeUnchanged" =some 7 by kernel_rfl).symm.trans hf) |>.symm
 obtain rfl:fn=Tryz.f7:=(Option.some.inj (Tryz.func7.symm.trans hfn)).symm
 refine⟨by kernel_rfl,fun j t ht=>?_⟩
 rw [Tryz.params7] at ht
 have hm:=Array.mem_of_getElem? ht
 simp at hm
 obtain rfl:t=27:=by simpa using hm
 · exact(show Tryz.prog.wantsStandIn 27=false by kernel_rfl)
theorem cardUpto:Rows.MergeUnchangedUptoCardSaid :=
 Claim7.holds_tied_plain_at .later [] _ _ _ _ saidUpto (fun _ h=>by cases h) (by kernel_rfl) (fun _ h=>by cases h) mergeUnchangedUpto_row_tie rfl ⟨rfl,rfl⟩ (by kernel_rfl) rfl plain (by kernel_rfl)
#print axioms cardUpto
end Go.Proofs.YtnlnmbcaongehaaGreatDoor.mergeUnchanged
