/- Law 18's awake: the test of its two merges. (printed by gen_mgawake.py) Law 18's awake: the chapter's example holds. (printed by gen_mgawake.py) What the rows' list of the library's variables gives, and a world for the witness. The reference's Decimal: a number's digits. The contract of diff.Text: the report of changes, over diff.Fields. The reference's Place: the words of a change's place. slices.Backward over changes: the contract of its iterator. Laws of a round of Invert: the halves of a change change places (the program's and the reference's). (printed by gen_invert.py) Behind a false test of a row of tests ('a && b && ..') every other operation is not wanted, or hands 'false' on. The contract of the reference's Text: a line for each change. The contract of the reference's report of clashes: a line for each. -/
import Derived.Deep.DeepWitnessRowRef
import Derived.Lib.LaidU8T
import Derived.Stop.LaidErr
import Derived.MakeChecks
import Derived.Lib.ItoaLen
import Derived.RangeFuncBox
import Derived.Test.YtnlnmbcaongehaaGreatDoorR01
set_option linter.unusedVariables false
set_option linter.unusedSimpArgs false
set_option maxRecDepth 100000
set_option maxHeartbeats 12800000
open Go.Lib renaming hid→h_
open Go renaming wpAnyH_take→kR,World→kS,yieldsIf_load_mid→kT,heap_alloc_last→kU,wpAnyH_ready→kV,laidMet→kW,Value→kX
open Go.RowKit renaming Below→kY
open Go.Value renaming int→kZ
open Array renaming toArray_toList→k7,getElem?_eq_some_iff→k9,toList_append→k_,length_toList→lf,getElem?_setIfInBounds→lg
open Go.RowKit.Below renaming refl→lh
open Go.Act renaming put→lj
open List renaming setIfInBounds_toArray→lk,getElem_cons_zero→ll,getElem_cons_succ→ln,getElem_toArray→lp,set_cons_zero→lq,set_cons_succ→lr,length_append→lu,flatMap_append→lv,append_assoc→lC,take_add_one→lD,length→lE
open Go.AllReadyH renaming cons→lF,nil→lG
open Go.Lib renaming decDigits→lH,IsBuilder→lI,BuilderAt→lJ,pow10Tab→lK,itoa→lL,byteCells→lM
open ByteArray renaming data_append→lN,size_append→lO
namespace Go.Proofs.YtnlnmbcaongehaaGreatDoor
open Go.RowKit
theorem size_135:(Tryz.prog.info? 135).map (·.size)=some 4:=by kernel_rfl
theorem mg_rows {a:Doc} (h:a.fits):∀ x∈a.evs,x.rows.length≤4000000∧∀ r∈x.rows,r.runs.length≤4000000:=fun x hx=>⟨(h.2.2.2.2.2.2.2.1 x hx).2.2.2.2.2.2.2.2,fun r hr=>((h.2.2.2.2.2.2.2.1 x hx).2.2.2.2.2.2.2.1 r hr).2.1⟩
theorem mgSame_calls (d d':Doc)(w:kS)(hd:d.lies w)(hd':d'.lies w)(hf:d.fits)(hf':d'.fits)(hc:d.c=d'.c):Calls Tryz.prog 18 #[.agg d.enc.toArray,.agg d'.enc.toArray] w fun e w'=>e=.returned (.bool true)∧kY w.heap.size w w':=by
 have h:=zjI d d' w hd hd' (mg_rows hf) (mg_rows hf') hf.2.2.2.2.2.2.1 hf'.2.2.2.2.2.2.1 hf.2.2.2.2.2.2.2.2.1 hf'.2.2.2.2.2.2.2.2.1 hf.2.2.2.2.2.2.2.2.2.2 hf'.2.2.2.2.2.2.2.2.2.2
 rwa [(zkP d d').2 hc] at h
theorem aw_r4 (x d2 d3:Doc)(b p2 p3 k3 c2 c3:Nat)(a2:Option Addr)(w0:kS)(hx:x.lies w0)(hd2:d2.lies w0)(hd3:d3.lies w0)(fx:x.fits)(hf2:d2.fits)(hf3:d3.fits)(cx:x.c=aw18 0 50 sA18)(hc2:d2.c=aw18 10 50 sB18)(hc3:d3.c=aw18 0 50 sA18)
 (hb:w0.heap[b]? =some (.cells x.enc.toArray 27 (0,0))) (hp2:w0.heap[p2]? =some (.cells d2.enc.toArray 27 (0,0))) (hp3:w0.heap[p3]? =some (.cells d3.enc.toArray 27 (0,0))) (hk:w0.rangeAt k3 0 [kZ .u8 3,.int .i64 1,.string ⟨#[]⟩,.string ⟨#[83,80,65,78]⟩]) (hkl:k3<w0.heap.size) (hkc:1≤c3)
 (Q:Exit→Act→kS→Prop) (hP:∀ ch a a' w,a'.defers=a.defers→Q (.panic ch) a w→Q (.panic ch) a' w) (s0 s8 s9 s10 s11 s12 s13 s14 s15 s16 s17 s18 s19 s20 s21 s22 s23 s24 s25 s26 s27 s28 s29 s30 s31 s32 s33 s34 s35 s36 s37 s38 s39 s40 s41 s42 s43 s44 s45 s46 s47 s48 s49 s50 s51 s52 s53 s54 s55 s56 s57 s58 s59 s60 s61 s62 s63:kX)
 (hfin:∀ (u30 u31 u32 u33 u34 u35 u36 u37 u38 u39 u40 u41 u42 u43 u44 u45 u46 u47 u48 u49 u50 u51 u52 u53 u54 u55 u56 u57 u58 u59 u60 u61 u62 u63:kX) (wx:kS),kY w0.heap.size w0 wx→Q .normal { tmps:=#[.bool true,.pointer (some ⟨b,0,none⟩),.pointer (some ⟨p2,0,none⟩),.slice a2 0 c2,.int .i64 0,.pointer (some ⟨p3,0,none⟩),.slice (some ⟨k3,0,none⟩) 1 c3,.int .i64 0,s8,s9,s10,s11,s12,s13,s14,s15,s16,s17,s18,s19,s20,s21,s22,s23,s24,s25,s26,s27,s28,s29,u30,u31,u32,u33,u34,u35,u36,u37,u38,u39,u40,u41,u42,u43,u44,u45,u46,u47,u48,u49,u50,u51,u52,u53,u54,u55,u56,u57,u58,u59,u60,u61,u62,u63],defers:=[] } wx) :
 Code.wp Tryz.prog ((zeq 4 (Tryz.f25.body.getD .skip)).getD .skip) Q { tmps:=#[s0,.pointer (some ⟨b,0,none⟩),.pointer (some ⟨p2,0,none⟩),.slice a2 0 c2,.int .i64 0,.pointer (some ⟨p3,0,none⟩),.slice (some ⟨k3,0,none⟩) 1 c3,.int .i64 0,s8,s9,s10,s11,s12,s13,s14,s15,s16,s17,s18,s19,s20,s21,s22,s23,s24,s25,s26,s27,s28,s29,s30,s31,s32,s33,s34,s35,s36,s37,s38,s39,s40,s41,s42,s43,s44,s45,s46,s47,s48,s49,s50,s51,s52,s53,s54,s55,s56,s57,s58,s59,s60,s61,s62,s63],defers:=[] } w0:=by
 have HFIN:=h_ hfin
 have HP:=h_ hP
 have HT:=h_ (fun(w2 w3:kS) (q:kY w0.heap.size w0 w2) (q3:kY w2.heap.size w2 w3)=>(q.trans (q3.mono q.size):kY w0.heap.size w0 w3))
 have HRX:=h_ (fun(w':kS) (q:kY w0.heap.size w0 w')=>aw_range ((q.block _ (k9.1 hb).1).trans hb))
 have HR2:=h_ (fun(w':kS) (q:kY w0.heap.size w0 w')=>aw_range ((q.block _ (k9.1 hp2).1).trans hp2))
 have HR3:=h_ (fun(w':kS) (q:kY w0.heap.size w0 w')=>aw_range ((q.block _ (k9.1 hp3).1).trans hp3))
 have HRC:=h_ (fun(w':kS) (q:kY w0.heap.size w0 w')=>(show w'.rangeAt k3 0 [kZ .u8 3,.int .i64 1,.string ⟨#[]⟩,.string ⟨#[83,80,65,78]⟩] from fun j v hv=>(q.cell (p:=⟨k3,0+j,none⟩) hkl).trans (hk j v hv)))
 have hd0:kY w0.heap.size w0 w0.drew:=(lh _ _).drew
 clear hfin hP hb hp2 hp3 hk hkl
 conv=>arg 2;whnf
 refine wp_region_held_drew (S:=fun w'=>kY w0.heap.size w0 w') (by kernel_rfl) hd0 (fun _=>?_)
 try simp only [lj,lp,ll,ln,lk,lq,lr,k7]
 refine kR (i:=0) (v:=.int .i64 0) rfl (by kernel_rfl) (by kernel_rfl) (by kernel_rfl) (fun _ _ _ h=>HP.out _ _ _ _ (by rfl) h) (.inl ⟨by rfl,fun w_ hS_=>by go_simp⟩) hd0 ?_
 try simp only [lj,lp,ll,ln,lk,lq,lr,k7]
 refine kR (i:=1) (v:=.bool true) rfl (by kernel_rfl) (by kernel_rfl) (by kernel_rfl) (fun _ _ _ h=>HP.out _ _ _ _ (by rfl) h) (.inl ⟨by rfl,fun w_ hS_=>by go_simp⟩) hd0 ?_
 try simp only [lj,lp,ll,ln,lk,lq,lr,k7]
 refine kR (i:=2) (v:=.bool true) rfl (by kernel_rfl) (by kernel_rfl) (by kernel_rfl) (fun _ _ _ h=>HP.out _ _ _ _ (by rfl) h) (.inl ⟨by rfl,fun w_ hS_=>by go_simp⟩) hd0 ?_
 try simp only [lj,lp,ll,ln,lk,lq,lr,k7]
 refine kR (i:=3) (v:=.int .i64 0) rfl (by kernel_rfl) (by kernel_rfl) (by kernel_rfl) (fun _ _ _ h=>HP.out _ _ _ _ (by rfl) h) (.inl ⟨by rfl,fun w_ hS_=>by go_simp⟩) hd0 ?_
 try simp only [lj,lp,ll,ln,lk,lq,lr,k7]
 refine kR (i:=4) (v:=.bool true) rfl (by kernel_rfl) (by kernel_rfl) (by kernel_rfl) (fun _ _ _ h=>HP.out _ _ _ _ (by rfl) h) (.inl ⟨by rfl,fun w_ hS_=>by go_simp⟩) hd0 ?_
 try simp only [lj,lp,ll,ln,lk,lq,lr,k7]
 refine kR (i:=5) (v:=.bool true) rfl (by kernel_rfl) (by kernel_rfl) (by kernel_rfl) (fun _ _ _ h=>HP.out _ _ _ _ (by rfl) h) (.inl ⟨by rfl,fun w_ hS_=>by go_simp⟩) hd0 ?_
 try simp only [lj,lp,ll,ln,lk,lq,lr,k7]
 refine kR (i:=6) (v:=.bool true) rfl (by kernel_rfl) (by kernel_rfl) (by kernel_rfl) (fun _ _ _ h=>HP.out _ _ _ _ (by rfl) h) (.inl ⟨by rfl,fun w_ hS_=>by go_simp⟩) hd0 ?_
 try simp only [lj,lp,ll,ln,lk,lq,lr,k7]
 refine kR (i:=7) (v:=.slice a2 0 c2) rfl (by kernel_rfl) (by kernel_rfl) (by kernel_rfl) (fun _ _ _ h=>HP.out _ _ _ _ (by rfl) h) (.inl ⟨by rfl,fun w_ hS_=>by go_simp⟩) hd0 ?_
 try simp only [lj,lp,ll,ln,lk,lq,lr,k7]
 refine kR (i:=8) (v:=.int .i64 0) rfl (by kernel_rfl) (by kernel_rfl) (by kernel_rfl) (fun _ _ _ h=>HP.out _ _ _ _ (by rfl) h) (.inl ⟨by rfl,fun w_ hS_=>by go_simp⟩) hd0 ?_
 try simp only [lj,lp,ll,ln,lk,lq,lr,k7]
 refine kR (i:=9) (v:=.bool true) rfl (by kernel_rfl) (by kernel_rfl) (by kernel_rfl) (fun _ _ _ h=>HP.out _ _ _ _ (by rfl) h) (.inl ⟨by rfl,fun w_ hS_=>by go_simp⟩) hd0 ?_
 try simp only [lj,lp,ll,ln,lk,lq,lr,k7]
 refine kR (i:=10) (v:=.bool true) rfl (by kernel_rfl) (by kernel_rfl) (by kernel_rfl) (fun _ _ _ h=>HP.out _ _ _ _ (by rfl) h) (.inl ⟨by rfl,fun w_ hS_=>by go_simp⟩) hd0 ?_
 try simp only [lj,lp,ll,ln,lk,lq,lr,k7]
 refine kR (i:=11) (v:=.bool true) rfl (by kernel_rfl) (by kernel_rfl) (by kernel_rfl) (fun _ _ _ h=>HP.out _ _ _ _ (by rfl) h) (.inl ⟨by rfl,fun w_ hS_=>by go_simp⟩) hd0 ?_
 try simp only [lj,lp,ll,ln,lk,lq,lr,k7]
 refine kR (i:=12) (v:=.agg d2.enc.toArray) rfl (by kernel_rfl) (by kernel_rfl) (by kernel_rfl) (fun _ _ _ h=>HP.out _ _ _ _ (by rfl) h) (kT (by rfl) 27 (.tmp 2) rfl p2 0 rfl d2.enc _ HR2.out Tryz.underlying27 rfl zj8) hd0 ?_
 try simp only [lj,lp,ll,ln,lk,lq,lr,k7]
 refine kR (i:=13) (v:=.agg #[.int .i64 10,.int .i64 50]) rfl (by kernel_rfl) (by kernel_rfl) (by kernel_rfl) (fun _ _ _ h=>HP.out _ _ _ _ (by rfl) h) (.inl ⟨by rfl,fun w_ hS_=>by go_simp⟩) hd0 ?_
 try simp only [lj,lp,ll,ln,lk,lq,lr,k7]
 refine kV (rs:=[14]) (by kernel_rfl) (by simp) ?_
 refine lF rfl (fun K hK=>?_) lG
 go_simp
 refine(one_calls 10 50 sB18 _ ⟨by decide,by decide⟩ ⟨by decide,by decide⟩ (by decide)).mono ?_
 rintro e va ⟨y,rfl,hcy,hly,hfy,hu_,hb_⟩
 have hva:=HT.out _ _ hd0 hb_
 clear hb_ hu_
 go_wp2_with fail
 refine hK.out _ _ hva (fun _=>?_)
 clear hK
 try simp only [lj,lp,ll,ln,lk,lq,lr,k7]
 refine kV (rs:=[15]) (by kernel_rfl) (by simp) ?_
 refine lF rfl (fun K hK=>?_) lG
 go_simp
 refine(mgSame_calls d2 y _ (Doc.later hd2 hva) hly hf2 hfy (hc2.trans hcy.symm)).mono ?_
 rintro e vb ⟨rfl,hb_⟩
 have hvb:=HT.out _ _ hva hb_
 clear hb_
 go_wp2_with fail
 refine hK.out _ _ hvb (fun _=>?_)
 clear hK
 try simp only [lj,lp,ll,ln,lk,lq,lr,k7]
 refine kR (i:=16) (v:=.bool true) rfl (by kernel_rfl) (by kernel_rfl) (by kernel_rfl) (fun _ _ _ h=>HP.out _ _ _ _ (by rfl) h) (.inl ⟨by rfl,fun w_ hS_=>by go_simp⟩) hvb ?_
 try simp only [lj,lp,ll,ln,lk,lq,lr,k7]
 refine kR (i:=17) (v:=.bool true) rfl (by kernel_rfl) (by kernel_rfl) (by kernel_rfl) (fun _ _ _ h=>HP.out _ _ _ _ (by rfl) h) (.inl ⟨by rfl,fun w_ hS_=>by go_simp⟩) hvb ?_
 try simp only [lj,lp,ll,ln,lk,lq,lr,k7]
 refine kR (i:=18) (v:=.slice (some ⟨k3,0,none⟩) 1 c3) rfl (by kernel_rfl) (by kernel_rfl) (by kernel_rfl) (fun _ _ _ h=>HP.out _ _ _ _ (by rfl) h) (.inl ⟨by rfl,fun w_ hS_=>by go_simp⟩) hvb ?_
 try simp only [lj,lp,ll,ln,lk,lq,lr,k7]
 refine kR (i:=19) (v:=.int .i64 1) rfl (by kernel_rfl) (by kernel_rfl) (by kernel_rfl) (fun _ _ _ h=>HP.out _ _ _ _ (by rfl) h) (.inl ⟨by rfl,fun w_ hS_=>by go_simp⟩) hvb ?_
 try simp only [lj,lp,ll,ln,lk,lq,lr,k7]
 refine kR (i:=20) (v:=.bool true) rfl (by kernel_rfl) (by kernel_rfl) (by kernel_rfl) (fun _ _ _ h=>HP.out _ _ _ _ (by rfl) h) (.inl ⟨by rfl,fun w_ hS_=>by go_simp⟩) hvb ?_
 try simp only [lj,lp,ll,ln,lk,lq,lr,k7]
 refine kR (i:=21) (v:=.bool true) rfl (by kernel_rfl) (by kernel_rfl) (by kernel_rfl) (fun _ _ _ h=>HP.out _ _ _ _ (by rfl) h) (.inl ⟨by rfl,fun w_ hS_=>by go_simp⟩) hvb ?_
 try simp only [lj,lp,ll,ln,lk,lq,lr,k7]
 refine kR (i:=22) (v:=.bool true) rfl (by kernel_rfl) (by kernel_rfl) (by kernel_rfl) (fun _ _ _ h=>HP.out _ _ _ _ (by rfl) h) (.inl ⟨by rfl,fun w_ hS_=>by go_simp⟩) hvb ?_
 try simp only [lj,lp,ll,ln,lk,lq,lr,k7]
 refine kR (i:=23) (v:=.slice (some ⟨k3,0,none⟩) 1 c3) rfl (by kernel_rfl) (by kernel_rfl) (by kernel_rfl) (fun _ _ _ h=>HP.out _ _ _ _ (by rfl) h) (.inl ⟨by rfl,fun w_ hS_=>by go_simp⟩) hvb ?_
 try simp only [lj,lp,ll,ln,lk,lq,lr,k7]
 refine kR (i:=24) (v:=.pointer (some ⟨k3,0,none⟩)) rfl (by kernel_rfl) (by kernel_rfl) (by kernel_rfl) (fun _ _ _ h=>HP.out _ _ _ _ (by rfl) h) (.inl ⟨by rfl,fun w_ hS_=>by go_simp⟩) hvb ?_
 try simp only [lj,lp,ll,ln,lk,lq,lr,k7]
 refine kR (i:=25) (v:=.agg ([kZ .u8 3,.int .i64 1,.string ⟨#[]⟩,.string ⟨#[83,80,65,78]⟩]).toArray) rfl (by kernel_rfl) (by kernel_rfl) (by kernel_rfl) (fun _ _ _ h=>HP.out _ _ _ _ (by rfl) h) (kT (by rfl) 135 (.tmp 54) rfl k3 0 rfl [kZ .u8 3,.int .i64 1,.string ⟨#[]⟩,.string ⟨#[83,80,65,78]⟩] _ HRC.out Tryz.underlying135 rfl size_135) hvb ?_
 try simp only [lj,lp,ll,ln,lk,lq,lr,k7]
 refine kR (i:=26) (v:=.agg ([kZ .u8 3,.int .i64 1,.string ⟨#[]⟩,.string ⟨#[83,80,65,78]⟩]).toArray) rfl (by kernel_rfl) (by kernel_rfl) (by kernel_rfl) (fun _ _ _ h=>HP.out _ _ _ _ (by rfl) h) (.inl ⟨by rfl,fun w_ hS_=>by go_simp⟩) hvb ?_
 try simp only [lj,lp,ll,ln,lk,lq,lr,k7]
 refine kR (i:=27) (v:=.bool true) rfl (by kernel_rfl) (by kernel_rfl) (by kernel_rfl) (fun _ _ _ h=>HP.out _ _ _ _ (by rfl) h) (.inl ⟨by rfl,fun w_ hS_=>by go_simp⟩) hvb ?_
 try simp only [lj,lp,ll,ln,lk,lq,lr,k7]
 refine kR (i:=28) (v:=.bool true) rfl (by kernel_rfl) (by kernel_rfl) (by kernel_rfl) (fun _ _ _ h=>HP.out _ _ _ _ (by rfl) h) (.inl ⟨by rfl,fun w_ hS_=>by go_simp⟩) hvb ?_
 try simp only [lj,lp,ll,ln,lk,lq,lr,k7]
 refine kR (i:=29) (v:=.bool true) rfl (by kernel_rfl) (by kernel_rfl) (by kernel_rfl) (fun _ _ _ h=>HP.out _ _ _ _ (by rfl) h) (.inl ⟨by rfl,fun w_ hS_=>by go_simp⟩) hvb ?_
 try simp only [lj,lp,ll,ln,lk,lq,lr,k7]
 refine kR (i:=30) (v:=.agg d3.enc.toArray) rfl (by kernel_rfl) (by kernel_rfl) (by kernel_rfl) (fun _ _ _ h=>HP.out _ _ _ _ (by rfl) h) (kT (by rfl) 27 (.tmp 5) rfl p3 0 rfl d3.enc _ HR3.out Tryz.underlying27 rfl zj8) hvb ?_
 try simp only [lj,lp,ll,ln,lk,lq,lr,k7]
 refine kR (i:=31) (v:=.agg x.enc.toArray) rfl (by kernel_rfl) (by kernel_rfl) (by kernel_rfl) (fun _ _ _ h=>HP.out _ _ _ _ (by rfl) h) (kT (by rfl) 27 (.tmp 1) rfl b 0 rfl x.enc _ HRX.out Tryz.underlying27 rfl zj8) hvb ?_
 try simp only [lj,lp,ll,ln,lk,lq,lr,k7]
 refine kV (rs:=[32]) (by kernel_rfl) (by simp) ?_
 refine lF rfl (fun K hK=>?_) lG
 go_simp
 refine(mgSame_calls d3 x _ (Doc.later hd3 hvb) (Doc.later hx hvb) hf3 fx (hc3.trans cx.symm)).mono ?_
 rintro e vc ⟨rfl,hb_⟩
 have hvc:=HT.out _ _ hvb hb_
 clear hb_
 go_wp2_with fail
 refine hK.out _ _ hvc (fun _=>?_)
 clear hK
 try simp only [lj,lp,ll,ln,lk,lq,lr,k7]
 refine kR (i:=33) (v:=.bool true) rfl (by kernel_rfl) (by kernel_rfl) (by kernel_rfl) (fun _ _ _ h=>HP.out _ _ _ _ (by rfl) h) (.inl ⟨by rfl,fun w_ hS_=>by go_simp⟩) hvc ?_
 try simp only [lj,lp,ll,ln,lk,lq,lr,k7]
 refine kR (i:=34) (v:=.bool true) rfl (by kernel_rfl) (by kernel_rfl) (by kernel_rfl) (fun _ _ _ h=>HP.out _ _ _ _ (by rfl) h) (.inl ⟨by rfl,fun w_ hS_=>by go_simp⟩) hvc ?_
 try simp only [lj,lp,ll,ln,lk,lq,lr,k7]
 refine wpAnyH_done (by kernel_rfl) ?_ _
 exact HFIN.out _ _ _ _ _ _ _ _ _ _ _ _ _ _ _ _ _ _ _ _ _ _ _ _ _ _ _ _ _ _ _ _ _ _ _ hvc
theorem awake18_calls (w:kS)(hE:Env w):Calls Tryz.prog 25 #[] w fun e w'=>e=.returned (.bool true)∧kY w.heap.size w w':=by
 generalize hQ:(fun(e:Ending) (w':kS)=>e=.returned (.bool true)∧kY w.heap.size w w')=Q
 have HQ:=h_ (fun w' (hb:kY w.heap.size w w')=>show Q (.returned (.bool true)) w' from hQ▸⟨rfl,hb⟩)
 clear hQ
 go_enter Tryz.func25,Tryz.ntmps25
 go_wp2_with fail
 refine(one_calls 0 50 sA18 w ⟨by decide,by decide⟩ ⟨by decide,by decide⟩ (by decide)).mono ?_
 rintro e w1 ⟨x,rfl,hcx,hlx,hfx,_,hb1⟩
 have hI:=kU w1 (.cells #[kX.string ⟨#[]⟩,.string ⟨#[]⟩,.int .u8 0,.bool false,.int .i64 0,.slice none 0 0,.slice none 0 0,.slice none 0 0] 27)
 go_upto_region 2 with(refine wpList_store_row rfl 27 (.tmp 1) (.tmp 9) rfl w1.heap.size x.enc.toArray rfl rfl 27 _ hI zj8 rfl (zk2 _ _ _ _ _ _ _ _ _ _ _ _ _ _) ?_)
 rw [kS.setRow_alloc_new]
 have hb2:kY w.heap.size w (w1.alloc (.cells x.enc.toArray 27)):=hb1.alloc hb1.size _
 have hx2:x.lies (w1.alloc (.cells x.enc.toArray 27)):=Doc.later hlx ((lh _ _).alloc (Nat.le_refl _) _)
 have hr2:=kU w1 (.cells x.enc.toArray 27)
 generalize w1.alloc (.cells x.enc.toArray 27)=w2 at *
 refine aw_r2 x w1.heap.size w2 (hE.below hb2 (Nat.le_refl _)) hx2 hfx hcx hr2 _ (fun _ _ _ _ hd h=>⟨hd.trans h.1,h.2⟩) _ _ _ _ _ _ _ _ _ _ _ _ _ _ _ _ _ _ _ _ _ _ _ _ _ _ _ _ _ _ _ _ _ _ _ _ _ _ _ _ _ _ _ _ _ _ _ _ _ _ _ _ _ _ _ _ _ _ _ _ _ _ _ ?_
 intro u10 u11 u12 u13 u14 u15 u16 u17 u18 u19 d2 kv2 p2 w3 hc2 hl2 hf2 hk2 hp2 hg2 hb3
 have hb3w:kY w.heap.size w w3:=hb2.trans (hb3.mono hb2.size)
 have hx3:=Doc.later hx2 hb3
 have hr3:=(hb3.block _ (k9.1 hr2).1).trans hr2
 obtain⟨a2,c2,rfl⟩:=dS hk2
 clear hk2 hb2 hx2 hr2 hI hlx hb1 hb3 hg2
 go_upto_region 3 with fail
 refine aw_r3 x w1.heap.size w3 (hE.below hb3w (Nat.le_refl _)) hx3 hfx hcx hr3 _ (fun _ _ _ _ hd h=>⟨hd.trans h.1,h.2⟩) _ _ _ _ _ _ _ _ _ _ _ _ _ _ _ _ _ _ _ _ _ _ _ _ _ _ _ _ _ _ _ _ _ _ _ _ _ _ _ _ _ _ _ _ _ _ _ _ _ _ _ _ _ _ _ _ _ _ _ _ _ _ _ ?_
 intro u20 u21 u22 u23 u24 u25 u26 u27 u28 u29 d3 kv3 p3 w4 hc3 hl3 hf3 hk3 hp3 hg3 hb4
 have hb4w:kY w.heap.size w w4:=hb3w.trans (hb4.mono hb3w.size)
 have hx4:=Doc.later hx3 hb4
 have hr4:=(hb4.block _ (k9.1 hr3).1).trans hr3
 have hl2':=Doc.later hl2 hb4
 have hp2':=(hb4.block _ (k9.1 hp2).1).trans hp2
 obtain⟨k3,c3,rfl⟩:=zat hk3 (by decide)
 have hkl:=(hk3.lt k3 rfl).2
 have hkc:1≤c3:=by
  rcases hk3.2 with⟨h0,_⟩|⟨g',cap,cur,h0,_,_,hnc,_⟩
  · simp at h0
  · simp only [kX.slice.injEq] at h0
    obtain⟨_,_,rfl⟩:=h0
    exact hnc
 have hkr:w4.rangeAt k3 0 [kZ .u8 3,.int .i64 1,.string ⟨#[]⟩,.string ⟨#[83,80,65,78]⟩]:=fun j v hv=>by
  have hj:j<4:=(List.getElem?_eq_some_iff.1 hv).1
  rw [Nat.zero_add]
  exact(hk3.cellAt j (by simpa using hj)).trans hv
 clear hk3 hb4 hx3 hr3 hb3w hl2 hp2 hg3
 go_upto_region 4 with fail
 refine aw_r4 x d2 d3 w1.heap.size p2 p3 k3 c2 c3 a2 w4 hx4 hl2' hl3 hfx hf2 hf3 hcx hc2 hc3 hr4 hp2' hp3 hkr hkl hkc _ (fun _ _ _ _ hd h=>⟨hd.trans h.1,h.2⟩) _ _ _ _ _ _ _ _ _ _ _ _ _ _ _ _ _ _ _ _ _ _ _ _ _ _ _ _ _ _ _ _ _ _ _ _ _ _ _ _ _ _ _ _ _ _ _ _ _ _ _ _ _ _ _ _ _ ?_
 intro u30 u31 u32 u33 u34 u35 u36 u37 u38 u39 u40 u41 u42 u43 u44 u45 u46 u47 u48 u49 u50 u51 u52 u53 u54 u55 u56 u57 u58 u59 u60 u61 u62 u63 wx hbx
 have HE:=h_ (HQ.out wx (hb4w.trans (hbx.mono hb4w.size)))
 clear hbx
 go_wp2_with fail
 exact HE.out
end Go.Proofs.YtnlnmbcaongehaaGreatDoor
namespace Go.Proofs.YtnlnmbcaongehaaGreatDoor.reportSeat
open Go.Shelf Go.ChangeShapes Go.WideShapes Go.ChangeAt Go.RowKit Go.Lib
theorem own:ownKnob Tryz.prog.godebug=none:=by kernel_rfl
theorem laidOut:laidOutB Tryz.prog=true:=by kernel_rfl
def tab32:List Int:=[0,1,28,2,29,14,24,3,30,22,20,15,25,17,4,8,31,27,13,23,21,19,16,7,26,12,18,6,11,5,10,9]
def tab64:List Int:=[0,1,56,2,57,49,28,3,61,58,42,50,38,29,17,4,62,47,59,36,45,43,51,22,53,39,33,30,24,18,12,5,63,55,48,27,60,41,37,16,46,35,44,21,52,32,23,11,54,26,40,15,34,20,31,10,25,14,19,9,13,8,7,6]
noncomputable def laidWorld (os:Os):kS :=
 let w0:=kS.holding Tryz.prog os ⟨#[],#[],[]⟩
 let put (h:Array Obj) (g:Nat) (cs:Array kX):Array Obj:=h.modify g fun
  | .cells _ t frozen=>.cells cs t frozen
  | o=>o
 let h1:=put w0.heap 0 (Lib.firstTab.map fun z=>kZ .u8 z).toArray
 let h2:=put h1 1 ((List.range 16).flatMap fun i=>[kZ .u8 (Lib.accLo i),kZ .u8 (Lib.accHi i)]).toArray
 let h3:=put h2 2 (lK.map fun z=>kZ .u64 z).toArray
 let h4:=put h3 4 (tab32.map fun z=>kZ .u8 z).toArray
 let h5:=put h4 5 (tab64.map fun z=>kZ .u8 z).toArray
 { w0 with heap:=h5 }
def zd:Array kX:=#[.string ⟨#[]⟩,.string ⟨#[]⟩,.int .u8 0,.bool false,.int .i64 0,.slice none 0 0,.slice none 0 0,.slice none 0 0]
theorem laid_met (os:Os)(args:Array kX):laidMet Tryz.prog Rows.mergeReportsUptoRow.laid ((laidWorld os).forCall (fun _ _=>0) ⟨#[],args,[]⟩).memory :=
 laidMet_of_run' 8 (by kernel_rfl) (by kernel_rfl)
theorem first_eq:Rows.laid_unicode_utf8_first=Lib.firstData:=by kernel_rfl
theorem accept_eq:(Rows.laid_unicode_utf8_acceptRanges:DataW Unit)=Lib.acceptData:=by kernel_rfl
theorem pow_eq:(Rows.laid_internal_strconv_uint64pow10:DataW Unit)=Lib.tabData .u64 lK:=by kernel_rfl
theorem laid_list:Rows.mergeReportsUptoRow.laid=[("math/bits.deBruijn32tab",Rows.laid_math_bits_deBruijn32tab),("math/bits.deBruijn64tab",Rows.laid_math_bits_deBruijn64tab),("internal/strconv.uint64pow10",Rows.laid_internal_strconv_uint64pow10),("unicode/utf8.acceptRanges",Rows.laid_unicode_utf8_acceptRanges),("unicode/utf8.first",Rows.laid_unicode_utf8_first)]:=rfl
theorem max_of {W:kS} (h:W.ShapedOpen Tryz.prog):∃ m,W.cell? ⟨3,0,none⟩=some (.int .i64 m) :=
 Go.Proofs.cell_of_shapedOpen_int (zero:=#[.int .i64 0]) (t:=3) h (of_decide_eq_true (by kernel_rfl)) (by kernel_rfl) rfl (by kernel_rfl) (by kernel_rfl) Tryz.underlying3
theorem env_of {W:kS} (hL:laidMetH Tryz.prog Rows.mergeReportsUptoRow.laid W)(hS:W.ShapedOpen Tryz.prog):Env W∧Lib.TabIs Tryz.prog W "internal/strconv.uint64pow10" .u64 lK:=by
 have hL':laidMet Tryz.prog Rows.mergeReportsUptoRow.laid W:=by
  rw [Go.MakeChecks.laidMetH_plain _ _ _ (by kernel_rfl)] at hL
  exact hL
 rw [laid_list,first_eq,accept_eq,pow_eq] at hL'
 have h3:=kW.tail (kW.tail hL')
 have h4:=kW.tail h3
 exact⟨⟨utf8Tabs_of_readsT (U8Types.of196 Tryz.lays196) ⟨by kernel_rfl,by kernel_rfl,by kernel_rfl,by kernel_rfl,by kernel_rfl,by kernel_rfl,by kernel_rfl⟩ (Lib.laidMet.reads h4 (List.Mem.tail _ (List.Mem.head _))) (Lib.laidMet.reads h4 (List.Mem.head _)),max_of hS⟩,Lib.tabIs_of_head (g:=2) (t:=337) (n:=20) (by kernel_rfl) (by kernel_rfl) Tryz.underlying337 Tryz.underlying259 (by kernel_rfl) (by kernel_rfl) h3⟩
end Go.Proofs.YtnlnmbcaongehaaGreatDoor.reportSeat
namespace Go.Proofs.YtnlnmbcaongehaaGreatDoor
open Go.RowKit
theorem u64_wrap (n:Int):IntKind.u64.wrap n=n % 18446744073709551616:=by simp [IntKind.wrap,IntKind.bits,IntKind.signed]
theorem u64_neg {n:Int} (h0:-9223372036854775808≤n)(hn:n<0):IntKind.u64.wrap (-IntKind.u64.wrap n)=n.natAbs:=by
 rw [u64_wrap,u64_wrap]
 omega
theorem dec_len {n:Int} (h0:-9223372036854775808≤n)(h1:n≤9223372036854775807):(lH n.natAbs).length≤21:=by
 have:=Lib.itoa_length_le n h0 h1
 unfold lL at this
 split at this
 · simp at this
   omega
 · rw [show n.toNat=n.natAbs by omega] at this
   exact this
theorem dec_small {k:Nat} (h:k<10):lH k=[UInt8.ofNat (48+k)]:=by rw [lH,dif_pos h]
theorem dec_big {k:Nat} (h:¬ k<10):lH k=lH (k / 10)++[UInt8.ofNat (48+k % 10)]:=by rw [lH,dif_neg h]
theorem ba_of {a:ByteArray} {l:List UInt8} (h:a.data.toList=l):a=⟨l.toArray⟩:=by
 obtain⟨⟨d⟩⟩:=a
 simp only at h
 rw [h]
theorem digit_data (k:Nat)(h:k<10):((⟨#[48,49,50,51,52,53,54,55,56,57]⟩:ByteArray).extract k (k+1)).data.toList=[UInt8.ofNat (48+k)]:=by
 rw [ByteArray.data_extract,Array.toList_extract]
 match k,h with
 | 0,_=>rfl
 | 1,_=>rfl
 | 2,_=>rfl
 | 3,_=>rfl
 | 4,_=>rfl
 | 5,_=>rfl
 | 6,_=>rfl
 | 7,_=>rfl
 | 8,_=>rfl
 | 9,_=>rfl
theorem dec_neg {n:Int} (hn:n<0) {k:Nat} (hk:k<10) {t:ByteArray} (h:lH n.natAbs=lH k++t.data.toList):(⟨#[45]⟩:ByteArray)++(⟨#[48,49,50,51,52,53,54,55,56,57]⟩:ByteArray).extract k (k+1)++t=decB n:=by
 refine ba_of ?_
 rw [lN,k_,lN,k_,digit_data k hk,←dec_small hk,lC,←h]
 unfold lL
 rw [if_pos hn]
 rfl
theorem dec_pos {n:Int} (hn:¬ n<0) {k:Nat} (hk:k<10) {t:ByteArray} (h:lH n.natAbs=lH k++t.data.toList):(⟨#[]⟩:ByteArray)++(⟨#[48,49,50,51,52,53,54,55,56,57]⟩:ByteArray).extract k (k+1)++t=decB n:=by
 refine ba_of ?_
 rw [lN,k_,lN,k_,digit_data k hk,←dec_small hk,lC,←h]
 unfold lL
 rw [if_neg hn,show n.toNat=n.natAbs by omega]
 rfl
theorem dec_round {N k:Nat} (hk:¬ k<10) {t:ByteArray} (h:lH N=lH k++t.data.toList):lH N=lH (k / 10)++((⟨#[48,49,50,51,52,53,54,55,56,57]⟩:ByteArray).extract (k % 10) (k % 10+1)++t).data.toList:=by
 rw [lN,k_,digit_data _ (by omega),h,dec_big hk,lC]
theorem refDecimal_calls (n:Int)(h0:-9223372036854775808≤n)(h1:n≤9223372036854775807)(w:kS) :
 Calls Tryz.prog 124 #[.int .i64 n] w fun e w'=>e=.returned (.string (decB n))∧kY w.heap.size w w':=by
 by_cases hn:n<0
 · have HPN:=h_ (fun(k:Nat) (hk:k<10) (t:ByteArray) h=>dec_neg hn hk (t:=t) h)
   go_enter Tryz.func124,Tryz.ntmps124
   have hd:decide (n<0)=true:=by simp [hn]
   go_wp2_with fail
   go_loopw [3,6] (fun u s wr=>∃ (k:Nat) (t:ByteArray),u=.int .u64 k∧s=.string t∧lH n.natAbs=lH k++t.data.toList∧k<18446744073709551616∧wr=w) (fun u _ _=>(intOf u).toNat)
   case atStart=>exact⟨n.natAbs,⟨#[]⟩,by rw [u64_neg h0 hn],rfl,by simp,by omega,rfl⟩
   case round =>
    obtain⟨k,t,rfl,rfl,hd,hk,rfl⟩:=hrel
    have hts:t.size≤21:=by
     have:=congrArg lE hd
     rw [lu] at this
     have:=dec_len h0 h1
     show t.data.size≤21
     rw [←lf]
     omega
    by_cases hlt:k<10
    · have hg:(((k:Nat):Int) ≥ 10)=False:=by simp;omega
      go_wp2_with fail
      go_ret
      exact⟨by rw [HPN.out k hlt t hd];rfl,lh _ _⟩
    · have hg:(((k:Nat):Int) ≥ 10)=True:=by simp;omega
      have HR:=h_ (dec_round hlt hd)
      go_wp2_with fail
      exact⟨⟨k / 10,_,by go_num,rfl,HR.out,by omega,trivial⟩,by simp [intOf];omega⟩
 · have HPN:=h_ (fun(k:Nat) (hk:k<10) (t:ByteArray) h=>dec_pos hn hk (t:=t) h)
   go_enter Tryz.func124,Tryz.ntmps124
   have hd:decide (n<0)=false:=by simp [hn]
   go_wp2_with fail
   go_loopw [3,6] (fun u s wr=>∃ (k:Nat) (t:ByteArray),u=.int .u64 k∧s=.string t∧lH n.natAbs=lH k++t.data.toList∧k<18446744073709551616∧wr=w) (fun u _ _=>(intOf u).toNat)
   case atStart=>exact⟨n.natAbs,⟨#[]⟩,by congr 1;omega,rfl,by simp,by omega,rfl⟩
   case round =>
    obtain⟨k,t,rfl,rfl,hd,hk,rfl⟩:=hrel
    have hts:t.size≤21:=by
     have:=congrArg lE hd
     rw [lu] at this
     have:=dec_len h0 h1
     show t.data.size≤21
     rw [←lf]
     omega
    by_cases hlt:k<10
    · have hg:(((k:Nat):Int) ≥ 10)=False:=by simp;omega
      go_wp2_with fail
      go_ret
      exact⟨by rw [HPN.out k hlt t hd];rfl,lh _ _⟩
    · have hg:(((k:Nat):Int) ≥ 10)=True:=by simp;omega
      have HR:=h_ (dec_round hlt hd)
      go_wp2_with fail
      exact⟨⟨k / 10,_,by go_num,rfl,HR.out,by omega,trivial⟩,by simp [intOf];omega⟩
theorem builder_below {B b:Nat} {bs:List kX} {w w':kS} (h:lI 123 5 B b bs w)(hb:kY w.heap.size w w'):lI 123 5 B b bs w':=by
 have key:∀ p,lJ 123 5 B b p bs w→lJ 123 5 B b p bs w':=by
  rintro p ⟨hB,v,hbk,hown,hne⟩
  exact⟨hB,v,(hb.block b (k9.1 hbk).1).trans hbk,aq hown hb,hne⟩
 rcases h with h|h
 · exact .inl (key _ h)
 · exact .inr (key _ h)
theorem pow10_global:Tryz.prog.globalNamed "internal/strconv.uint64pow10" =some 2:=by kernel_rfl
def LineRel (xs:List Chg)(w:kS)(k:Nat)(wr:kS):Prop:=lI 123 5 w.heap.size w.heap.size (lM (textB (xs.take k))) wr∧kY w.heap.size w wr
theorem textB_snoc (xs:List Chg)(k:Nat)(x:Chg)(h:xs[k]? =some x):textB (xs.take (k+1))=textB (xs.take k)++lineB x:=by
 unfold textB
 rw [lD,h,lv]
 simp
theorem LineRel.step {xs:List Chg} {w wr w4 w5:kS} {k:Nat} {x:Chg} {s:ByteArray} (hx:xs[k]? =some x)(h:LineRel xs w k wr)(hs:s.data.toList=lineB x)(hb4:kY wr.heap.size wr w4)
 (h5:lJ 123 5 w.heap.size w.heap.size (.pointer (some ⟨w.heap.size,0,none⟩)) (lM (textB (xs.take k))++Lib.strCells s) w5) (hb5:kY w.heap.size w4 w5):LineRel xs w (k+1) w5:=by
 obtain⟨h1,h2⟩:=h
 refine⟨?_,(h2.trans (hb4.mono h2.size)).trans hb5⟩
 rw [textB_snoc xs k x hx,←hs,←zdG]
 exact .inr h5
def placeOf (sec id:Int)(name:ByteArray):ByteArray :=
 if sec=1 then wHEAD else if sec=2 then (⟨#[82,69,71,73,79,78,32]⟩:ByteArray)++name else if sec=3 then (⟨#[69,86,69,78,84,32]⟩:ByteArray)++decB id else if sec=4 then (⟨#[67,79,77,77,69,78,84,32]⟩:ByteArray)++decB id else wASK
theorem decB_size {n:Int} (h0:-9223372036854775808≤n)(h1:n≤9223372036854775807):(decB n).size≤21:=by
 have:=Lib.itoa_length_le n h0 h1
 show(lL n).toArray.size≤21
 rw [List.size_toArray]
 exact this
theorem placeOf_size (sec id:Int)(name:ByteArray)(h0:-9223372036854775808≤id)(h1:id≤9223372036854775807)(hn:name.size≤4000000):(placeOf sec id name).size≤4000100:=by
 have hd:=decB_size h0 h1
 unfold placeOf
 split
 · decide
 · split
   · rw [lO]
     have:(⟨#[82,69,71,73,79,78,32]⟩:ByteArray).size=7:=rfl
     omega
   · split
     · rw [lO]
       have:(⟨#[69,86,69,78,84,32]⟩:ByteArray).size=6:=rfl
       omega
     · split
       · rw [lO]
         have:(⟨#[67,79,77,77,69,78,84,32]⟩:ByteArray).size=8:=rfl
         omega
       · decide
theorem place17_calls (sec id:Int)(name:ByteArray)(w:kS)(h0:-9223372036854775808≤id)(h1:id≤9223372036854775807)(hn:name.size≤4000000) :
 Calls Tryz.prog 70 #[.int .u8 sec,.string name,.int .i64 id] w fun e w'=>e=.returned (.string (placeOf sec id name))∧kY w.heap.size w w':=by
 have HD:=h_ (refDecimal_calls id h0 h1 w)
 have hd:=decB_size h0 h1
 unfold placeOf
 by_cases e1:sec=1
 · subst e1
   go_enter Tryz.func70,Tryz.ntmps70
   go_wp2_with fail
   go_ret
   exact⟨rfl,lh _ _⟩
 · by_cases e2:sec=2
   · subst e2
     go_enter Tryz.func70,Tryz.ntmps70
     go_wp2_with fail
     go_ret
     exact⟨rfl,lh _ _⟩
   · by_cases e3:sec=3
     · rw [if_neg e1,if_neg e2,if_pos e3]
       subst e3
       go_enter Tryz.func70,Tryz.ntmps70
       go_wp2_with fail
       refine HD.out.mono ?_
       rintro e w1 ⟨rfl,hb1⟩
       generalize hD:decB id=D at *
       go_wp2_with fail
       go_ret
       exact⟨by rw [hD];rfl,hb1⟩
     · by_cases e4:sec=4
       · rw [if_neg e1,if_neg e2,if_neg e3,if_pos e4]
         subst e4
         go_enter Tryz.func70,Tryz.ntmps70
         go_wp2_with fail
         refine HD.out.mono ?_
         rintro e w1 ⟨rfl,hb1⟩
         generalize hD:decB id=D at *
         go_wp2_with fail
         go_ret
         exact⟨by rw [hD];rfl,hb1⟩
       · rw [if_neg e1,if_neg e2,if_neg e3,if_neg e4]
         go_enter Tryz.func70,Tryz.ntmps70
         go_wp2_with fail
         go_ret
         exact⟨rfl,lh _ _⟩
end Go.Proofs.YtnlnmbcaongehaaGreatDoor
namespace Go.Proofs.YtnlnmbcaongehaaGreatDoor
open Go.RowKit Go.Shelf
attribute [local go_sem] Oper.semAt_some
def BackKp (n₀ Bs:Nat)(A B:kS):Prop:=kY n₀ A B∧∀ v,Boxed A Bs 29 v→Boxed B Bs 29 v
theorem BackKp.t {n₀ Bs:Nat} {A B C:kS} (h:BackKp n₀ Bs A B)(k:BackKp n₀ Bs B C):BackKp n₀ Bs A C:=⟨h.1.trans k.1,fun v hv=>k.2 v (h.2 v hv)⟩
theorem BackKp.r (n₀ Bs:Nat)(A:kS):BackKp n₀ Bs A A:=⟨lh _ _,fun _ h=>h⟩
theorem BackKp.b {n₀ Bs:Nat} {w:kS} (hn:n₀≤w.heap.size)(hB:Bs<w.heap.size)(W:kS)(l:Nat)(o o':Obj)(hl:w.heap.size≤l)(h:W.heap[l]? =some o)(hc:o.isCells=false)(hw:o.isWalk=false):BackKp n₀ Bs W (W.putObj l o') :=
 ⟨belowK_b hn W l o o' hl h hc hw,fun v hv=>(kS.putObj_heap_other (by omega)).trans hv⟩
end Go.Proofs.YtnlnmbcaongehaaGreatDoor
namespace Go.Proofs.YtnlnmbcaongehaaGreatDoor
open Go.RowKit
theorem Aside.trans {w w1 w2:kS} {g:Nat} (h:Aside w g w1)(hs:w.heap.size≤w1.heap.size)(h2:Aside w1 g w2):Aside w g w2:=fun b hb hn=>(h2 b (by omega) hn).trans (h b hb hn)
theorem Aside.of {w w':kS} {g:Nat} (h:w.grownBy w' (some g)):Aside w g w':=fun b hb hn=>h.block b hb (fun e=>hn (Option.some.inj e))
def Falses (a:Act)(K:List Nat):Prop:=∀ s∈K,a.tmps[s]? =some (.bool false)
theorem Falses.eval {a:Act} {K:List Nat} (h:Falses a K) {s:Nat} (hs:K.contains s=true):a.eval (.tmp s)=.bool false:=by
 have:=h s (by simpa using hs)
 show a.tmps.getD s undef=_
 rw [Array.getD_eq_getD_getElem?,this]
 rfl
theorem Falses.put {a:Act} {K:List Nat} (h:Falses a K) {x:Nat} (hx:x<a.tmps.size):Falses (a.put (some x) (.bool false)) (x::K):=by
 intro s hs
 show(a.tmps.setIfInBounds x (.bool false))[s]? =_
 rw [lg]
 by_cases e:x=s
 · rw [if_pos e,if_pos (by omega)]
 · rw [if_neg e]
   exact h s (by
    rcases List.mem_cons.1 hs with rfl|hs
    · exact absurd rfl e
    · exact hs)
theorem Falses.skip {a:Act} {K:List Nat} (h:Falses a K)(d:Option Nat):Falses (a.put d undef) (match d with|some x=>K.filter (· != x)|none=>K):=by
 cases d with
 | none=>exact h
 | some x =>
   intro s hs
   simp only [List.mem_filter,bne_iff_ne,ne_eq] at hs
   show(a.tmps.setIfInBounds x undef)[s]? =_
   rw [lg,if_neg (fun e=>hs.2 e.symm)]
   exact h s hs.1
theorem app_data (a b:ByteArray):(a++b).data.toList=a.data.toList++b.data.toList:=by rw [lN,k_]
theorem size_list (a:ByteArray):a.size=a.data.toList.length:=by
 show a.data.size=_
 rw [lf]
def TxtRel (xs:List Chg)(w:kS)(k:Nat)(s:ByteArray)(wr:kS):Prop:=s.data.toList=textB (xs.take k)∧kY w.heap.size w wr
theorem TxtRel.step {xs:List Chg} {w wr w1:kS} {k:Nat} {s s':ByteArray} {x:Chg} (h:TxtRel xs w k s wr)(hx:xs[k]? =some x)(hb:kY wr.heap.size wr w1)(hs:s'.data.toList=s.data.toList++lineB x):TxtRel xs w (k+1) s' w1 :=
 ⟨by rw [hs,h.1,textB_snoc xs k x hx],h.2.trans (hb.mono h.2.size)⟩
def clLine (c:Cl):List UInt8:=(placeOf c.sec c.id c.name).data.toList++([32]++(c.field.data.toList++[10]))
def clText (xs:List Cl):List UInt8:=xs.flatMap clLine
theorem clText_snoc (xs:List Cl)(k:Nat)(x:Cl)(h:xs[k]? =some x):clText (xs.take (k+1))=clText (xs.take k)++clLine x:=by
 unfold clText
 rw [lD,h,lv]
 simp
theorem clText_le (xs:List Cl)(k:Nat)(x:Cl)(h:xs[k]? =some x):(clText (xs.take k)).length+(clLine x).length≤(clText xs).length:=by
 have h1:=clText_snoc xs k x h
 have h2:clText xs=clText (xs.take (k+1))++clText (xs.drop (k+1)):=by
  unfold clText
  rw [←lv,List.take_append_drop]
 rw [h2,h1,lu,lu]
 omega
def Cl.fits (c:Cl):Prop:=0≤c.sec∧c.sec≤255∧i64 c.id∧c.name.size≤4000000∧c.field.size≤4000000
theorem refText18_calls (a:Option Addr)(cap:Nat)(xs:List Cl)(w:kS)(hx:af 4 Cl.enc Flat w a xs)(hl:xs.length≤40000000)(hf:∀ x∈xs,x.fits)(htx:(clText xs).length≤140737488355328) :
 Calls Tryz.prog 32 #[.slice a xs.length cap] w fun e w'=>e=.returned (.string ⟨(clText xs).toArray⟩)∧kY w.heap.size w w':=by
 have HX:=h_ (fun(w1:kS) (h:kY w.heap.size w w1)=>af.keeps Flat.keeps _ _ _ _ h hx)
 have HF:=h_ hf
 have HTX:=h_ htx
 generalize hQ:(fun(e:Ending) (w':kS)=>e=.returned (.string ⟨(clText xs).toArray⟩)∧kY w.heap.size w w')=Q
 have HQ:=h_ (fun(s:ByteArray) (w':kS) (h:s.data.toList=clText xs) (hb:kY w.heap.size w w')=>show Q (.returned (.string s)) w' from hQ▸⟨by rw [ba_of h],hb⟩)
 clear hQ hx hf htx
 go_enter Tryz.func32,Tryz.ntmps32
 go_wp2_with fail
 go_loopw [3,8] (fun v i wr=>∃ (k:Nat) (s:ByteArray),k≤xs.length∧i=.int .i64 k∧v=.string s∧s.data.toList=clText (xs.take k)∧kY w.heap.size w wr) (fun _ i _=>xs.length-(intOf i).toNat)
 case atStart=>exact⟨0,⟨#[]⟩,by omega,rfl,rfl,rfl,lh _ _⟩
 case round =>
  obtain⟨k,s,hk,rfl,rfl,hs,hb⟩:=hrel
  by_cases hlt:k<xs.length
  · obtain⟨b,off,x,rfl,hbl,hxk,hc,_⟩:=(HX.out wr hb).at_ hlt
    have hfx:=HF.out x (List.mem_of_getElem? hxk)
    have HPL:=h_ (fun w1=>place17_calls x.sec x.id x.name w1 hfx.2.2.1.1 hfx.2.2.1.2 hfx.2.2.2.1)
    have hps:=placeOf_size x.sec x.id x.name hfx.2.2.1.1 hfx.2.2.1.2 hfx.2.2.2.1
    have hfs:=hfx.2.2.2.2
    have hss:s.size≤140737488355328-4000100-4000000-2∨s.size+(clLine x).length≤140737488355328:=.inr (by
     have:=clText_le xs k x hxk
     have:=HTX.out
     rw [size_list,hs]
     omega)
    have hsz:s.size+((placeOf x.sec x.id x.name).size+1+x.field.size+1)≤140737488355328:=by
     rcases hss with h|h
     · omega
     · have e:(clLine x).length=(placeOf x.sec x.id x.name).size+(1+(x.field.size+1)):=by
        unfold clLine
        simp only [lu,List.length_cons,List.length_nil,size_list]
       omega
    have HN:=h_ (show(s++(placeOf x.sec x.id x.name++(⟨#[32]⟩:ByteArray)++x.field++(⟨#[10]⟩:ByteArray))).data.toList=clText (xs.take (k+1)) from by
     rw [clText_snoc xs k x hxk]
     simp only [app_data,hs,clLine]
     simp)
    have d0:=hc 0 _ rfl;have d1:=hc 1 _ rfl;have d2:=hc 2 _ rfl;have d3:=hc 3 _ rfl
    have hbr:=hb.size
    have HB:=h_ (fun(o:Obj)=>hb.alloc hb.size o)
    obtain⟨sec,id,name,field⟩:=x
    simp only at HPL hps hfs hsz HN
    simp only [Cl.enc,Nat.add_zero] at d0 d1 d2 d3
    generalize placeOf sec id name=PL at *
    clear hc hxk hfx hss hs
    go_upto_region 5 with fail
    have hk1:=kU wr (.cells #[.int .u8 sec,.int .i64 id,.string name,.string field] 135)
    have hbA:=HB.out (.cells #[.int .u8 sec,.int .i64 id,.string name,.string field] 135)
    have hlA:wr.heap.size<(wr.alloc (.cells #[.int .u8 sec,.int .i64 id,.string name,.string field] 135)).heap.size:=by simp
    generalize wr.alloc (.cells #[.int .u8 sec,.int .i64 id,.string name,.string field] 135)=WA at *
    have q0:∀ w',kY WA.heap.size WA w'→∀ j,w'.cell? ⟨wr.heap.size,j,none⟩=_:=fun w' q j=>cell_of_row _ _ j _ 135 (0,0) ((q.block _ hlA).trans hk1)
    have HT:=h_ (fun(w2 w3:kS) (q:kY WA.heap.size WA w2) (q3:kY w2.heap.size w2 w3)=>(q.trans (q3.mono q.size):kY WA.heap.size WA w3))
    have hbd:kY WA.heap.size WA WA.drew:=(lh _ _).drew
    have HBA:=h_ hbA
    have hsl:w.heap.size≤WA.heap.size:=hbA.size
    have hn1:¬ 9223372036854775807<PL.size+1:=by omega
    have hn2:¬ 9223372036854775807<PL.size+1+field.size:=by omega
    have hn3:¬ 9223372036854775807<PL.size+1+field.size+1:=by omega
    have hn4:¬ 9223372036854775807<s.size+(PL.size+1+field.size+1):=by omega
    clear hk1 hbA d0 d1 d2 d3
    go_region_held3 (fun w'=>kY WA.heap.size WA w') (repeat (first|with_reducible assumption|with_reducible exact hbd)) (first
     | (go_at_call 70;(with_reducible refine(HPL.out _).mono ?_);rintro e v1 ⟨rfl,hv1⟩;have hcv1:=HT.out _ _ (by first|with_reducible assumption|with_reducible exact hbd) hv1;clear hv1))
    all_goals
     go_wp2_with fail
     go_roundw
     case rel=>exact⟨k+1,_,by omega,by go_num,rfl,HN.out,HBA.out.trans (hcv1.mono hsl)⟩
     case measure=>simp [intOf];omega
  · obtain rfl:k=xs.length:=by omega
    rw [List.take_length] at hs
    have HE:=h_ (HQ.out s wr hs hb)
    clear hs hb
    go_wp2_with fail
    exact HE.out
end Go.Proofs.YtnlnmbcaongehaaGreatDoor
