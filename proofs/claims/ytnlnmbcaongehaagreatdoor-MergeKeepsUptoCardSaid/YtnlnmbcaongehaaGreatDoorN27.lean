/- Law 18's awake: the test of its two merges. Law 18's awake: the chapter's example holds. The law MergeKeeps. How the readings of the arguments give links and documents in memory. -/
import Derived.Test.YtnlnmbcaongehaaGreatDoorRows
import Derived.Deep.DeepWitnessRowRef
import Derived.Lib.LaidU8T
import Derived.Stop.LaidErr
import Derived.MakeChecks
import Derived.Test.YtnlnmbcaongehaaGreatDoorN26
set_option linter.unusedVariables false
set_option linter.unusedSimpArgs false
set_option maxRecDepth 100000
set_option maxHeartbeats 12800000
open Go.Lib renaming hid→h_
open List renaming setIfInBounds_toArray→SG,getElem_cons_zero→SH,getElem_cons_succ→SI,getElem_toArray→SJ,set_cons_zero→SK,set_cons_succ→SL
open Array renaming toArray_toList→SQ
open Go.Proofs.Tryz renaming prog→Su,underlying27→Sv,underlying9→Sw,underlying3→Sx,underlying4→Sy,underlying2→Sz
open Go renaming World→SA,heap_alloc_last→SB,yieldsIf_load_mid→SC,Value→SD,MemPlace→SE,DataW→SF,TypeId→SM,wpList_store_row→SN
open Go.RowKit renaming Below→SO
open Go.Value renaming int→SR,string→SS
open Array renaming getElem?_eq_some_iff→SU
open Go.RowKit.Below renaming refl→SV
open Nat renaming le_refl→SW,zero_le→SX
open List renaming range→SY,mem_singleton→SZ,getElem?_eq_some_iff→S5,getElem?_eq_getElem→S6,mem_map→S7,mem_flatMap→S8,mem_append→S9,map_map→S_,take_append_drop→Ta,mem_of_getElem?→Tb,append_assoc→Tc,sum_cons→Td,map_cons→Te
open Go.Proofs.YtnlnmbcaongehaaGreatDoor.Rows renaming uptoBulk→Tf,uptoBulkAll→Tg,mergeUnchangedUptoRow→Th,laid_unicode_utf8_acceptRanges→Ti,laid_unicode_utf8_first→Tj
open Go.DataW renaming trod_int→Tk,trod_struct→Tl,trod_string→Tm,trod_bool→Tn,trod→To
namespace Go.Proofs.YtnlnmbcaongehaaGreatDoor
open Go.RowKit
theorem Iu:(Su.info? 135).map (·.size)=some 4:=by kernel_rfl
theorem FK {a:Doc} (h:a.fits):∀ x∈a.eV,x.rows.length≤4000000∧∀ r∈x.rows,r.runs.length≤4000000:=fun x hx=>⟨(h.2.2.2.2.2.2.2.1 x hx).2.2.2.2.2.2.2.2,fun r hr=>((h.2.2.2.2.2.2.2.1 x hx).2.2.2.2.2.2.2.1 r hr).2.1⟩
theorem qz (d d':Doc)(w:SA)(hd:d.lies w)(hd':d'.lies w)(hf:d.fits)(hf':d'.fits)(hc:d.c=d'.c):Calls Su 18 #[.agg d.enc.toArray,.agg d'.enc.toArray] w fun e w'=>e=.returned (.bool true)∧SO w.heap.size w w':=by
 exact zF d d' w hd hd' hc (FK hf) (FK hf') hf.2.2.2.2.2.2.1 hf.2.2.2.2.2.2.2.2.1 hf'.2.2.2.2.2.2.2.2.1 hf.2.2.2.2.2.2.2.2.2.2
theorem zad (x d2 d3:Doc)(b p2 p3 k3 c2 c3:Nat)(a2:Option Addr)(w0:SA)(hx:x.lies w0)(hd2:d2.lies w0)(hd3:d3.lies w0)(fx:x.fits)(hf2:d2.fits)(hf3:d3.fits)(cx:x.c=aw18 0 50 sA18)(hc2:d2.c=aw18 10 50 sB18)(hc3:d3.c=aw18 0 50 sA18)
 (hb:w0.heap[b]? =some (.cells x.enc.toArray 27 (0,0))) (hp2:w0.heap[p2]? =some (.cells d2.enc.toArray 27 (0,0))) (hp3:w0.heap[p3]? =some (.cells d3.enc.toArray 27 (0,0))) (hk:w0.rangeAt k3 0 [SR .u8 3,.int .i64 1,.string ⟨#[]⟩,.string ⟨#[83,80,65,78]⟩]) (hkl:k3<w0.heap.size) (hkc:1≤c3)
 (Q:Exit→Act→SA→Prop) (hP:∀ ch a a' w,a'.defers=a.defers→Q (.panic ch) a w→Q (.panic ch) a' w) (s0 s8 s9 s10 s11 s12 s13 xF s15 s16 kF ze uO s20 xP sK rP s24 qJ qI qj qi pW ou n_ ll nW nV nU nT nS nR nQ nP nO mX s43 s44 mW mV mK mH s49 mG mg mf s53 lG sM lF qW qV rO rH rF rE qX:SD)
 (hfin:∀ (u30 u31 u32 u33 u34 u35 u36 u37 u38 u39 u40 u41 u42 u43 u44 u45 u46 u47 u48 u49 u50 u51 u52 u53 u54 u55 u56 u57 u58 u59 u60 RN RL u63:SD) (wx:SA),SO w0.heap.size w0 wx→Q .normal { tmps:=#[.bool true,.pointer (some ⟨b,0,none⟩),.pointer (some ⟨p2,0,none⟩),.slice a2 0 c2,.int .i64 0,.pointer (some ⟨p3,0,none⟩),.slice (some ⟨k3,0,none⟩) 1 c3,.int .i64 0,s8,s9,s10,s11,s12,s13,xF,s15,s16,kF,ze,uO,s20,xP,sK,rP,s24,qJ,qI,qj,qi,pW,u30,u31,u32,u33,u34,u35,u36,u37,u38,u39,u40,u41,u42,u43,u44,u45,u46,u47,u48,u49,u50,u51,u52,u53,u54,u55,u56,u57,u58,u59,u60,RN,RL,u63],defers:=[] } wx) :
 Code.wp Su ((mE 4 (Tryz.f25.body.getD .skip)).getD .skip) Q { tmps:=#[s0,.pointer (some ⟨b,0,none⟩),.pointer (some ⟨p2,0,none⟩),.slice a2 0 c2,.int .i64 0,.pointer (some ⟨p3,0,none⟩),.slice (some ⟨k3,0,none⟩) 1 c3,.int .i64 0,s8,s9,s10,s11,s12,s13,xF,s15,s16,kF,ze,uO,s20,xP,sK,rP,s24,qJ,qI,qj,qi,pW,ou,n_,ll,nW,nV,nU,nT,nS,nR,nQ,nP,nO,mX,s43,s44,mW,mV,mK,mH,s49,mG,mg,mf,s53,lG,sM,lF,qW,qV,rO,rH,rF,rE,qX],defers:=[] } w0:=by
 have aA:=h_ hfin
 have HP:=h_ hP
 have HRX:=h_ (fun(w':SA) (q:SO w0.heap.size w0 w')=>pB ((q.block _ (SU.1 hb).1).trans hb))
 have HR2:=h_ (fun(w':SA) (q:SO w0.heap.size w0 w')=>pB ((q.block _ (SU.1 hp2).1).trans hp2))
 have HR3:=h_ (fun(w':SA) (q:SO w0.heap.size w0 w')=>pB ((q.block _ (SU.1 hp3).1).trans hp3))
 have HRC:=h_ (fun(w':SA) (q:SO w0.heap.size w0 w')=>(show w'.rangeAt k3 0 [SR .u8 3,.int .i64 1,.string ⟨#[]⟩,.string ⟨#[83,80,65,78]⟩] from fun j v hv=>(q.cell (p:=⟨k3,0+j,none⟩) hkl).trans (hk j v hv)))
 have hd0:SO w0.heap.size w0 w0.drew:=(SV _ _).drew
 clear hfin hP hb hp2 hp3 hk hkl
 conv=>arg 2;whnf
 refine wp_region_held_drew (S:=fun w'=>SO w0.heap.size w0 w') (by kernel_rfl) hd0 (fun _=>?_)
 try simp only [Act.put,SJ,SH,SI,SG,SK,SL,SQ]
 refine ab HP.out 0 (.int .i64 0) hd0 ?_
 refine ab HP.out 1 (.bool true) hd0 ?_
 refine ab HP.out 2 (.bool true) hd0 ?_
 refine ab HP.out 3 (.int .i64 0) hd0 ?_
 refine ab HP.out 4 (.bool true) hd0 ?_
 refine ab HP.out 5 (.bool true) hd0 ?_
 refine ab HP.out 6 (.bool true) hd0 ?_
 refine ab HP.out 7 (.slice a2 0 c2) hd0 ?_
 refine ab HP.out 8 (.int .i64 0) hd0 ?_
 refine ab HP.out 9 (.bool true) hd0 ?_
 refine ab HP.out 10 (.bool true) hd0 ?_
 refine ab HP.out 11 (.bool true) hd0 ?_
 refine ab HP.out 12 (.agg d2.enc.toArray) hd0 ?_ (hy:=SC (by rfl) 27 (.tmp 2) rfl p2 0 rfl d2.enc _ HR2.out Sv rfl aQ)
 refine ab HP.out 13 (.agg #[.int .i64 10,.int .i64 50]) hd0 ?_
 refine aq 14 (fun K hK=>?_)
 go_simp
 refine(e8 10 50 sB18 _ ⟨by decide,by decide⟩ ⟨by decide,by decide⟩ (by decide)).mono ?_
 rintro e va ⟨y,rfl,hcy,zi,EI,Bf,ai⟩
 have hva:=ak hd0 ai
 clear ai Bf
 go_wp2_with fail
 refine goOn hK hva ?_
 clear hK
 refine aq 15 (fun K hK=>?_)
 go_simp
 refine(qz d2 y _ (Doc.later hd2 hva) zi hf2 EI (hc2.trans hcy.symm)).mono ?_
 rintro e vb ⟨rfl,ai⟩
 have hvb:=ak hva ai
 clear ai
 go_wp2_with fail
 refine goOn hK hvb ?_
 clear hK
 refine ab HP.out 16 (.bool true) hvb ?_
 refine ab HP.out 17 (.bool true) hvb ?_
 refine ab HP.out 18 (.slice (some ⟨k3,0,none⟩) 1 c3) hvb ?_
 refine ab HP.out 19 (.int .i64 1) hvb ?_
 refine ab HP.out 20 (.bool true) hvb ?_
 refine ab HP.out 21 (.bool true) hvb ?_
 refine ab HP.out 22 (.bool true) hvb ?_
 refine ab HP.out 23 (.slice (some ⟨k3,0,none⟩) 1 c3) hvb ?_
 refine ab HP.out 24 (.pointer (some ⟨k3,0,none⟩)) hvb ?_
 refine ab HP.out 25 (.agg ([SR .u8 3,.int .i64 1,.string ⟨#[]⟩,.string ⟨#[83,80,65,78]⟩]).toArray) hvb ?_ (hy:=SC (by rfl) 135 (.tmp 54) rfl k3 0 rfl [SR .u8 3,.int .i64 1,.string ⟨#[]⟩,.string ⟨#[83,80,65,78]⟩] _ HRC.out Tryz.underlying135 rfl Iu)
 refine ab HP.out 26 (.agg ([SR .u8 3,.int .i64 1,.string ⟨#[]⟩,.string ⟨#[83,80,65,78]⟩]).toArray) hvb ?_
 refine ab HP.out 27 (.bool true) hvb ?_
 refine ab HP.out 28 (.bool true) hvb ?_
 refine ab HP.out 29 (.bool true) hvb ?_
 refine ab HP.out 30 (.agg d3.enc.toArray) hvb ?_ (hy:=SC (by rfl) 27 (.tmp 5) rfl p3 0 rfl d3.enc _ HR3.out Sv rfl aQ)
 refine ab HP.out 31 (.agg x.enc.toArray) hvb ?_ (hy:=SC (by rfl) 27 (.tmp 1) rfl b 0 rfl x.enc _ HRX.out Sv rfl aQ)
 refine aq 32 (fun K hK=>?_)
 go_simp
 refine(qz d3 x _ (Doc.later hd3 hvb) (Doc.later hx hvb) hf3 fx (hc3.trans cx.symm)).mono ?_
 rintro e vc ⟨rfl,ai⟩
 have kI:=ak hvb ai
 clear ai
 go_wp2_with fail
 refine goOn hK kI ?_
 clear hK
 refine ab HP.out 33 (.bool true) kI ?_
 refine ab HP.out 34 (.bool true) kI ?_
 refine wpAnyH_done (by kernel_rfl) ?_ _
 exact aA.out _ _ _ _ _ _ _ _ _ _ _ _ _ _ _ _ _ _ _ _ _ _ _ _ _ _ _ _ _ _ _ _ _ _ _ kI
theorem xu (w:SA)(hE:Env w):Calls Su 25 #[] w fun e w'=>e=.returned (.bool true)∧SO w.heap.size w w':=by
 generalize hQ:(fun(e:Ending) (w':SA)=>e=.returned (.bool true)∧SO w.heap.size w w')=Q
 have HQ:=h_ (fun w' (hb:SO w.heap.size w w')=>show Q (.returned (.bool true)) w' from hQ▸⟨rfl,hb⟩)
 clear hQ
 go_enter Tryz.func25,Tryz.ntmps25
 go_wp2_with fail
 refine(e8 0 50 sA18 w ⟨by decide,by decide⟩ ⟨by decide,by decide⟩ (by decide)).mono ?_
 rintro e w1 ⟨x,rfl,hcx,hlx,hfx,_,hb1⟩
 have hI:=SB w1 (.cells #[SS ⟨#[]⟩,.string ⟨#[]⟩,.int .u8 0,.bool false,.int .i64 0,.slice none 0 0,.slice none 0 0,.slice none 0 0] 27)
 go_upto_region 2 with(refine SN rfl 27 (.tmp 1) (.tmp 9) rfl w1.heap.size x.enc.toArray rfl rfl 27 _ hI aQ rfl (pR _ _ _ _ _ _ _ _ _ _ _ _ _ _) ?_)
 rw [SA.setRow_alloc_new]
 have hb2:SO w.heap.size w (w1.alloc (.cells x.enc.toArray 27)):=hb1.alloc hb1.size _
 have hx2:x.lies (w1.alloc (.cells x.enc.toArray 27)):=Doc.later hlx ((SV _ _).alloc (SW _) _)
 have hr2:=SB w1 (.cells x.enc.toArray 27)
 generalize w1.alloc (.cells x.enc.toArray 27)=w2 at *
 refine zaf x w1.heap.size w2 (hE.below hb2 (SW _)) hx2 hfx hcx hr2 _ (fun _ _ _ _ hd h=>⟨hd.trans h.1,h.2⟩) _ _ _ _ _ _ _ _ _ _ _ _ _ _ _ _ _ _ _ _ _ _ _ _ _ _ _ _ _ _ _ _ _ _ _ _ _ _ _ _ _ _ _ _ _ _ _ _ _ _ _ _ _ _ _ _ _ _ _ _ _ _ _ ?_
 intro u10 u11 u12 RO u14 u15 u16 u17 u18 u19 d2 kv2 p2 w3 hc2 hl2 hf2 hk2 hp2 hg2 hb3
 have NM:SO w.heap.size w w3:=hb2.trans (hb3.mono hb2.size)
 have hx3:=Doc.later hx2 hb3
 have hr3:=(hb3.block _ (SU.1 hr2).1).trans hr2
 obtain⟨a2,c2,rfl⟩:=kf hk2
 clear hk2 hb2 hx2 hr2 hI hlx hb1 hb3 hg2
 go_upto_region 3 with fail
 refine zae x w1.heap.size w3 (hE.below NM (SW _)) hx3 hfx hcx hr3 _ (fun _ _ _ _ hd h=>⟨hd.trans h.1,h.2⟩) _ _ _ _ _ _ _ _ _ _ _ _ _ _ _ _ _ _ _ _ _ _ _ _ _ _ _ _ _ _ _ _ _ _ _ _ _ _ _ _ _ _ _ _ _ _ _ _ _ _ _ _ _ _ _ _ _ _ _ _ _ _ _ ?_
 intro u20 u21 u22 u23 u24 u25 u26 u27 u28 u29 d3 kv3 p3 w4 hc3 hl3 hf3 hk3 hp3 hg3 hb4
 have hb4w:SO w.heap.size w w4:=NM.trans (hb4.mono NM.size)
 have hx4:=Doc.later hx3 hb4
 have hr4:=(hb4.block _ (SU.1 hr3).1).trans hr3
 have hl2':=Doc.later hl2 hb4
 have hp2':=(hb4.block _ (SU.1 hp2).1).trans hp2
 obtain⟨k3,c3,rfl⟩:=kZ hk3 (by decide)
 have hkl:=(hk3.lt k3 rfl).2
 have hkc:1≤c3:=by
  rcases hk3.2 with⟨h0,_⟩|⟨g',cap,cur,h0,_,_,hnc,_⟩
  · simp at h0
  · simp only [SD.slice.injEq] at h0
    obtain⟨_,_,rfl⟩:=h0
    exact hnc
 have hkr:w4.rangeAt k3 0 [SR .u8 3,.int .i64 1,.string ⟨#[]⟩,.string ⟨#[83,80,65,78]⟩]:=fun j v hv=>by
  have hj:j<4:=(S5.1 hv).1
  rw [Nat.zero_add]
  exact(hk3.cellAt j (by simpa using hj)).trans hv
 clear hk3 hb4 hx3 hr3 NM hl2 hp2 hg3
 go_upto_region 4 with fail
 refine zad x d2 d3 w1.heap.size p2 p3 k3 c2 c3 a2 w4 hx4 hl2' hl3 hfx hf2 hf3 hcx hc2 hc3 hr4 hp2' hp3 hkr hkl hkc _ (fun _ _ _ _ hd h=>⟨hd.trans h.1,h.2⟩) _ _ _ _ _ _ _ _ _ _ _ _ _ _ _ _ _ _ _ _ _ _ _ _ _ _ _ _ _ _ _ _ _ _ _ _ _ _ _ _ _ _ _ _ _ _ _ _ _ _ _ _ _ _ _ _ _ ?_
 intro u30 u31 u32 u33 u34 u35 u36 u37 u38 u39 u40 u41 u42 u43 u44 u45 u46 u47 u48 u49 u50 u51 u52 u53 u54 u55 u56 u57 u58 u59 u60 RN RL u63 wx hbx
 have HE:=h_ (HQ.out wx (hb4w.trans (hbx.mono hb4w.size)))
 clear hbx
 go_wp2_with fail
 exact HE.out
theorem Om {w:SA} {base:Nat} {kv:SD} {cls:List Cl} (h:w.ownsRow base 135 4 kv cls.length (cls.flatMap Cl.enc)):∃ (a:Option Addr)(c:Nat),kv=.slice a cls.length c∧af 4 Cl.enc Flat w a cls∧(cls.length≤c∨cls=[])∧cls.length≤9223372036854775807:=by
 obtain⟨a,c,e,hs⟩:=ay (k:=4) (enc:=Cl.enc) (fun _=>rfl) h (Ok:=Flat) fun _ _=>trivial
 refine⟨a,c,e,hs,?_⟩
 rcases h.2 with⟨_,h0⟩|⟨g,cap,cur,h0,_,_,hn,hm,_⟩
 · exact⟨.inr (List.length_eq_zero_iff.1 h0),by omega⟩
 · rw [e] at h0
   simp only [SD.slice.injEq] at h0
   obtain⟨_,_,rfl⟩:=h0
   refine⟨.inl hn,?_⟩
   have:Go.maxLen=9223372036854775807:=by decide
   omega
theorem wP:bC.fits:=⟨eS,eS,eS,by decide,by decide,by decide,by decide,(fun r hr=>by simp [bC,aJ,Ev.c] at hr),by decide⟩
theorem LW {x y:Doc} (fy:y.fits) {c:ChgC} (h:c∈chgs x y):c.ne.fits:=by
 unfold chgs zL at h
 rcases S9.1 h with h|h
 · unfold jn at h
   split at h
   · cases h
   · obtain rfl:=SZ.1 h
     exact wP
 rcases S9.1 h with h|h
 · obtain⟨k,_,hk⟩:=S8.1 h
   unfold bH at hk
   split at hk
   · obtain rfl:=SZ.1 hk
     exact wP
   · cases hk
 rcases S9.1 h with h|h
 · obtain⟨k,_,hk⟩:=S8.1 h
   unfold kt at hk
   split at hk
   · obtain rfl:=SZ.1 hk
     show((y.eV.find? (evIs k)).getD aJ).c.fits
     cases hf:y.eV.find? (evIs k) with
     | none=>exact wP
     | some e=>exact(Ev.fits_c e).2 (fy.2.2.2.2.2.2.2.1 e (List.mem_of_find?_eq_some hf))
   · cases hk
 · obtain⟨k,_,hk⟩:=S8.1 h
   unfold ng at hk
   split at hk
   · obtain rfl:=SZ.1 hk
     exact wP
   · cases hk
theorem Oo {x y z:Doc} {G:Nat} {w:SA} (h:w.heap[G]? =some (.cells (x.enc++(y.enc++z.enc)).toArray 63 (0,0))):w.rangeAt G 0 x.enc∧w.rangeAt G 8 y.enc∧w.rangeAt G 16 z.enc:=by
 refine⟨sD (l:=[]) h,sD (l:=x.enc) h,?_⟩
 rw [←Tc,←List.append_nil (x.enc++y.enc++z.enc),Tc (x.enc++y.enc)] at h
 exact sD (l:=x.enc++y.enc) h
theorem L8 {a b:Doc} {w:SA} {e:Ending} {w':SA} (h:fT a b w e w')(h0:aL a=0)(h1:aL b=0):∃ (A:Option Addr)(xs:List Chg)(c:Nat),e=.returned (.tuple #[.slice A xs.length c,.int .i64 0])∧NG w' A xs∧xs.map Chg.c=chgs a b∧xs.length≤9223372036854775807∧SO w.heap.size w w':=by
 unfold fT at h
 rw [if_neg (by simpa using h0),if_neg (by simpa using h1)] at h
 obtain⟨v,xs,rfl,hG,hc⟩:=h
 obtain⟨A,c,rfl,hS⟩:=iO.slice (k:=59) (enc:=Chg.enc) Chg.len hG
 refine⟨A,xs,c,rfl,hS,hc,?_,hG.2.2⟩
 rcases hG.1.2 with⟨_,h0⟩|⟨g,cap,cur,h0,_,_,hn,hm,_⟩
 · omega
 · have:Go.maxLen=9223372036854775807:=by decide
   omega
theorem lawKeeps_calls (x y z:Doc)(w:SA)(hE:Env w)(hx:x.lies w)(hy:y.lies w)(hz:z.lies w)(fx:x.fits)(fy:y.fits)(fz:z.fits) :
 Calls Su 8 #[.agg (x.enc++(y.enc++z.enc)).toArray] w fun e w'=>e=.returned (.bool true)∧SO w.heap.size w w':=by
 have HA:=h_ (fun(w1:SA) (h:SO w.heap.size w w1)=>xu w1 (hE.below h (SW _)))
 have HM:=h_ (fun(w1:SA) (h:SO w.heap.size w w1)=>lf x y z w1 (hE.below h (SW _)) (Doc.later hx h) (Doc.later hy h) (Doc.later hz h) fx fy fz)
 have HD:=h_ (fun(h0:aL x=0) (h1:aL y=0) (w1:SA) (h:SO w.heap.size w w1)=>MT x y w1 (hE.below h (SW _)) (Doc.later hx h) (Doc.later hy h) fx fy h0 h1)
 have Gs:=h_ (fun(d:Doc) (fd:d.fits) (w1:SA) (h:SO w.heap.size w w1) (hd:d.lies w1)=>eM d w1 (hE.below h (SW _)) hd fd)
 have J6:=h_ (And.intro hx (And.intro hy hz))
 generalize hQ:(fun(e:Ending) (w':SA)=>e=.returned (.bool true)∧SO w.heap.size w w')=Q
 have HQ:=h_ (fun w' (h:SO w.heap.size w w')=>show Q (.returned (.bool true)) w' from hQ▸⟨rfl,h⟩)
 clear hQ hE hx hy hz
 go_enter Tryz.func8,Tryz.ntmps8
 have h1:=SB w (.cells (x.enc++(y.enc++z.enc)).toArray 63)
 have h3:SO w.heap.size w (w.alloc (.cells (x.enc++(y.enc++z.enc)).toArray 63)):=(SV _ _).alloc (SW _) _
 have RX:=h_ (fun(w':SA) (q:SO (w.alloc (.cells (x.enc++(y.enc++z.enc)).toArray 63)).heap.size (w.alloc (.cells (x.enc++(y.enc++z.enc)).toArray 63)) w')=>Oo ((q.block _ (SU.1 h1).1).trans h1))
 have zu:=h_ h1
 generalize hxyz:x.enc++(y.enc++z.enc)=XYZ at *
 have HXYZ:=h_ hxyz
 clear hxyz
 go_wp2_with fail
 generalize w.alloc (.cells XYZ.toArray 63)=W0 at *
 have HB:=h_ (fun(w':SA) (q:SO W0.heap.size W0 w')=>(h3.trans (q.mono h3.size):SO w.heap.size w w'))
 have HT:=h_ (fun(w2 w3:SA) (q:SO W0.heap.size W0 w2) (q3:SO w2.heap.size w2 w3)=>(q.trans (q3.mono q.size):SO W0.heap.size W0 w3))
 clear h1 h3
 refine(HA.out W0 (HB.out _ (SV _ _))).mono ?_
 rintro e w1 ⟨rfl,hb1⟩
 have hc1:=HT.out _ _ (SV _ _) hb1
 clear hb1 HA
 go_wp2_with (first|(refine eR (.tmp 22) rfl w.heap.size 0 rfl x.enc _ (RX.out w1 hc1).1 Sv rfl aQ (by rfl) ?_)|(refine eR (.tmp 24) rfl w.heap.size 8 rfl y.enc _ (RX.out w1 hc1).2.1 Sv rfl aQ (by rfl) ?_)|(refine eR (.tmp 26) rfl w.heap.size 16 rfl z.enc _ (RX.out w1 hc1).2.2 Sv rfl aQ (by rfl) ?_)|(refine eR (.tmp 44) rfl w.heap.size 0 rfl x.enc _ (RX.out w1 hc1).1 Sv rfl aQ (by rfl) ?_)|(refine eR (.tmp 46) rfl w.heap.size 8 rfl y.enc _ (RX.out w1 hc1).2.1 Sv rfl aQ (by rfl) ?_))
 refine(HM.out w1 (HB.out _ hc1)).mono ?_
 rintro e w2 ⟨d,kv,rfl,EJ,hld,bn,_,hown,hb2⟩
 obtain⟨pa,cc,rfl,hcl,hcc,hcm⟩:=Om hown
 have hc2:=HT.out _ _ hc1 hb2
 have hI:=SB w2 (.cells #[SS ⟨#[]⟩,.string ⟨#[]⟩,.int .u8 0,.bool false,.int .i64 0,.slice none 0 0,.slice none 0 0,.slice none 0 0] 27)
 clear hb2 hown hc1 HM
 go_upto_region 4 with(refine SN rfl 27 (.tmp 3) (.tmp 29) rfl w2.heap.size d.enc.toArray rfl rfl 27 _ hI aQ rfl (pR _ _ _ _ _ _ _ _ _ _ _ _ _ _) ?_)
 rw [SA.setRow_alloc_new]
 have hbe:SO w2.heap.size w2 (w2.alloc (.cells d.enc.toArray 27)):=(SV _ _).alloc (SW _) _
 have hc3:=HT.out _ _ hc2 hbe
 have hkw:KpW x y z d w.heap.size w2.heap.size pa (mgCl x.c y.c z.c) (w2.alloc (.cells d.enc.toArray 27)) :=
  ⟨by rw [HXYZ.out];exact(hc3.block _ (SU.1 zu.out).1).trans zu.out,SB w2 _,Doc.later J6.out.1 (HB.out _ hc3),Doc.later J6.out.2.1 (HB.out _ hc3),Doc.later J6.out.2.2 (HB.out _ hc3),Doc.later hld hbe,af.keeps Flat.keeps _ _ _ _ hbe hcl⟩
 generalize w2.alloc (.cells d.enc.toArray 27)=w3 at *
 have HKW:=h_ hkw
 have H3:=h_ hc3
 clear hI hbe hld hcl hkw hc2 hc3
 by_cases he:fL x.c y.c z.c=0
 · have hp:=lM he
   have OA:=h_ he
   have KZ:=h_ EJ
   have h0:aL x=0:=by rw [eN];exact hp.1
   have h1:aL y=0:=by rw [eN];exact hp.2.1
   have HD:=h_ (fun w1 h=>HD.out h0 h1 w1 h)
   have EM:=h_ (show aL d=0 by rw [eN,EJ];exact hp.2.2.2.1)
   have HDP:=h_ (And.intro h0 h1)
   rw [he]
   clear hp he h0 h1 EJ
   go_wp2_with (first|(refine eR (.tmp 22) rfl w.heap.size 0 rfl x.enc _ (RX.out w3 H3.out).1 Sv rfl aQ (by rfl) ?_)|(refine eR (.tmp 24) rfl w.heap.size 8 rfl y.enc _ (RX.out w3 H3.out).2.1 Sv rfl aQ (by rfl) ?_)|(refine eR (.tmp 26) rfl w.heap.size 16 rfl z.enc _ (RX.out w3 H3.out).2.2 Sv rfl aQ (by rfl) ?_)|(refine eR (.tmp 44) rfl w.heap.size 0 rfl x.enc _ (RX.out w3 H3.out).1 Sv rfl aQ (by rfl) ?_)|(refine eR (.tmp 46) rfl w.heap.size 8 rfl y.enc _ (RX.out w3 H3.out).2.1 Sv rfl aQ (by rfl) ?_))
   refine(HD.out w3 (HB.out _ H3.out)).mono ?_
   rintro e w4 hdp
   obtain⟨ca,xs,cn,rfl,hxa,hxc,hxm,hb4⟩:=L8 hdp HDP.out.1 HDP.out.2
   have HK:=h_ (fun(w':SA) (q:SO w4.heap.size w4 w')=>(HKW.out.later hb4).later q)
   have Pk:=h_ (fun(w':SA) (q:SO w4.heap.size w4 w')=>af.keeps Chg.keeps _ _ _ _ q hxa)
   have H4:=h_ (HT.out _ _ H3.out hb4)
   have BP:=h_ hxc
   clear hdp hxa hxc hb4 HKW HD RX
   go_wp2_with fail
   go_loopw [55] (fun i wr=>∃ k:Nat,k≤xs.length∧i=.int .i64 k∧SO w4.heap.size w4 wr) (fun i _=>xs.length-(intOf i).toNat)
   case atStart=>exact⟨0,by omega,rfl,SV _ _⟩
   case round =>
    obtain⟨k,hk,rfl,hb⟩:=hrel
    have xR:=h_ hb
    clear hb
    by_cases hlt:k<xs.length
    · obtain⟨c,hck⟩:∃ c,xs[k]? =some c:=⟨_,S6 hlt⟩
      have hcm1:c.c∈chgs x y:=by rw [←BP.out];exact S7.2 ⟨c,Tb hck,rfl⟩
      have fc:c.ne.fits:=(Ev.fits_c _).1 (LW fy hcm1)
      have hpl:c.sec=3→(c.added=true∨iH x.c z.c c.id=true)→aO (mgCl x.c y.c z.c) c.id=false→(c.gone=true∧aj d.c.eV c.id=none)∨(c.gone=false∧aj d.c.eV c.id=some c.ne.c):=fun h1 h2 h3=>by
       rw [KZ.out]
       exact On OA.out hcm1 h1 (h2.imp id D8) h3
      have HTW:=h_ (fun(wx:SA) (q:SO wr.heap.size wr wx)=>(xR.out.trans (q.mono xR.out.size):SO w4.heap.size w4 wx))
      have HR:=h_ (F4 x y z d w.heap.size w2.heap.size pa (mgCl x.c y.c z.c) wr (HK.out _ xR.out) fx fy fz bn cc hcm hcc xs ca cn (Pk.out _ xR.out) k c hck hxm fc hpl)
      clear hcm1 fc hpl hck
      generalize mgCl x.c y.c z.c=CLS at *
      go_upto_block 1 with fail
      refine wp_block ?_
      refine HR.out _ (fun ch a a' w hd h=>by exact⟨hd.trans h.1,h.2⟩) ?_
      intro X hX
      intros;rename_i wx hbx
      have HE:=h_ (HTW.out wx hbx)
      clear hbx HR HTW
      rcases hX with rfl|rfl
      all_goals
       go_wp2_with fail
       go_roundw
       case rel=>exact⟨k+1,by omega,by go_num,HE.out⟩
       case measure=>simp [intOf];omega
    · obtain rfl:k=xs.length:=by omega
      have H5:=h_ (HT.out _ _ H4.out xR.out)
      have c6:wr.cell? ⟨w.heap.size,6,none⟩=some (.slice x.ea x.eV.length x.ec):=(HK.out _ xR.out).rx 6 (.slice x.ea x.eV.length x.ec) rfl
      go_wp2_with fail
      have Ps:=h_ (fun(w':SA) (q:SO wr.heap.size wr w')=>(HK.out _ xR.out).later q)
      clear c6 Pk BP HK H4
      go_loopw [138] (fun i wz=>∃ k:Nat,k≤x.eV.length∧i=.int .i64 k∧SO wr.heap.size wr wz) (fun i _=>x.eV.length-(intOf i).toNat)
      case atStart=>exact⟨0,by omega,rfl,SV _ _⟩
      case round =>
       obtain⟨k,hk,rfl,hb⟩:=hrel
       have HB2:=h_ hb
       clear hb
       by_cases hlt2:k<x.eV.length
       · obtain⟨e,O4⟩:∃ e,x.eV[k]? =some e:=⟨_,S6 hlt2⟩
         have hmem:e.c∈x.c.eV:=S7.2 ⟨e,Tb O4,rfl⟩
         have hpl:aj y.c.eV e.id=some e.c→aj z.c.eV e.id=some e.c→aO (mgCl x.c y.c z.c) e.id=false→aj d.c.eV e.id=some e.c:=fun h1 h2 h3=>by
          rw [KZ.out]
          exact LI OA.out hmem h1 h2 h3
         have HTW:=h_ (fun(wx:SA) (q:SO wr.heap.size wr wx)=>HB2.out.trans (q.mono HB2.out.size))
         have HR:=h_ (F3 x y z d w.heap.size w2.heap.size pa (mgCl x.c y.c z.c) wr (Ps.out _ HB2.out) fx fy fz bn cc hcm hcc k e O4 hpl)
         have hxl:x.eV.length≤4000000:=fx.2.2.2.2.2.2.2.2.1
         clear hpl hmem O4
         generalize mgCl x.c y.c z.c=CLS at *
         go_upto_block 3 with fail
         refine wp_block ?_
         refine HR.out _ (fun ch a a' w hd h=>by exact⟨hd.trans h.1,h.2⟩) ?_
         intro X hX
         intros;rename_i wx hbx
         have HE:=h_ (HTW.out wx hbx)
         clear hbx HR HTW
         rcases hX with rfl|rfl
         all_goals
          go_wp2_with fail
          go_roundw
          case rel=>exact⟨k+1,by omega,by go_num,HE.out⟩
          case measure=>simp [intOf];omega
       · obtain rfl:k=x.eV.length:=by omega
         have HK6:=h_ (Ps.out _ HB2.out)
         have H6:=h_ (HT.out _ _ H5.out HB2.out)
         clear Ps H5
         go_wp2_with (refine eR (.tmp 3) rfl w2.heap.size 0 rfl d.enc _ HK6.out.rd Sv rfl aQ (by rfl) ?_)
         refine(Gs.out d bn _ (HB.out _ H6.out) HK6.out.ld).mono ?_
         rintro e w7 ⟨rfl,zk⟩
         rw [EM.out]
         have HE:=h_ (HQ.out w7 (HB.out _ (HT.out _ _ H6.out zk)))
         clear zk
         go_wp2_with fail
         exact HE.out
 · have hz:d.eV=[]:=by
    have:d.c=EY:=by rw [EJ];unfold jm;rw [if_neg he]
    have h2:d.c.eV=[]:=by rw [this];rfl
    exact List.map_eq_nil_iff.1 h2
   have hn:mgCl x.c y.c z.c=[]:=by unfold mgCl;rw [if_neg he]
   have c6:w3.cell? ⟨w2.heap.size,6,none⟩=some (.slice d.ea 0 d.ec):=by
    have:=HKW.out.rd 6 (.slice d.ea d.eV.length d.ec) rfl
    rw [hz] at this
    exact this
   have HE:=h_ (HQ.out w3 (HB.out _ H3.out))
   rw [hn]
   have hne:(fL x.c y.c z.c != 0)=true:=by simpa using he
   generalize fL x.c y.c z.c=E at *
   clear HKW HD Gs RX HB HT hz hn he
   go_wp2_with fail
   exact HE.out
end Go.Proofs.YtnlnmbcaongehaaGreatDoor
namespace Go.Proofs.YtnlnmbcaongehaaGreatDoor
open Go.RowKit Go.ChangeShapes Go.WideShapes Go.Deep
theorem JC {H:Type} (d:SF H):1≤Tf d:=by
 cases d with
 | lit l=>cases l<;>simp [Tf]
 | nil=>simp [Tf]
 | ptr d=>simp [Tf]
 | slice elems spare=>simp [Tf]
 | agg parts=>simp [Tf]
 | iface t d=>simp [Tf]
 | map entries=>simp [Tf]
 | held h=>simp [Tf]
theorem zN {H:Type} {d:SF H} {l:List (SF H)} (h:d∈l):Tf d≤Tg l:=by
 induction l with
 | nil=>cases h
 | cons x r ih =>
   simp only [Tg]
   cases List.mem_cons.1 h with
   | inl e=>subst e;omega
   | inr e=>have:=ih e;omega
theorem Dg {H:Type} (l:List (SF H)):Tg l=(l.map Tf).sum:=by
 induction l with
 | nil=>simp [Tg]
 | cons x r ih=>simp [Tg,ih]
theorem build {α:Type} {Q:Nat→α→Prop}:∀ n,(∀ i,i<n→∃ a,Q i a)→∃ xs:List α,xs.length=n∧∀ i x,xs[i]? =some x→Q i x
 | 0,_=>⟨[],rfl,by simp⟩
 | n+1,h=>by
   obtain⟨xs,hl,hx⟩:=build n (fun i hi=>h i (by omega))
   obtain⟨a,ha⟩:=h n (by omega)
   refine⟨xs++[a],by simp [hl],fun i x hi=>?_⟩
   by_cases hn:i<n
   · rw [List.getElem?_append_left (by omega)] at hi
     exact hx i x hi
   · have hil:i<(xs++[a]).length:=(S5.1 hi).1
     obtain rfl:i=n:=by simp at hil;omega
     rw [List.getElem?_append_right (by omega),hl,Nat.sub_self] at hi
     obtain rfl:a=x:=by simpa using hi
     exact ha
theorem Ki {α:Type} (μ:α→Nat):∀ (xs:List α)(g:Nat→Nat),(∀ i x,xs[i]? =some x→μ x≤g i)→(xs.map μ).sum≤((SY xs.length).map g).sum
 | [],g,_=>by simp
 | x::l,g,h=>by
   have ih:=Ki μ l (fun i=>g (i+1)) (fun i y hy=>h (i+1) y (by simpa using hy))
   have h0:=h 0 x rfl
   rw [List.length_cons,List.range_succ_eq_map,Te,Te,Td,Td,S_]
   exact Nat.add_le_add h0 ih
theorem Kl (g:Nat→Nat)(h:∀ i,1≤g i):∀ n,n≤((SY n).map g).sum
 | 0=>by simp
 | n+1=>by
   have:=Kl g h n
   have:=h n
   rw [List.range_succ,List.map_append,List.sum_append]
   simp
   omega
section
variable {H:Type} (enc:SM × SD→H)(w:SA)(base:Nat)(sp:Nat→Bool)(held:Bool)
def Reads {α:Type} (t:SM)(ea:α→List SD)(Ok:SA→α→Prop)(fits:α→Prop)(μ:α→Nat):Prop :=
 ∀ fuel cs (x:SF H × List SE),To enc Su w base sp held fuel t cs=some x→Tf x.1≤1048576→∃ a:α,cs=ea a∧Ok w a∧fits a∧μ a≤Tf x.1
end
theorem j9 {H:Type} {enc:SM × SD→H} {w:SA} {base:Nat} {sp:Nat→Bool} {held:Bool} {α:Type} {t e k:Nat} {ea:α→List SD} {Ok:SA→α→Prop} {fits:α→Prop} {μ:α→Nat}
 (ht:Su.underlying t=some (.slice e)) (hk:Su.cellsOf e=k) (hk0:0<k) (hlen:∀ a,(ea a).length=k) (hr:Reads enc w base sp held e ea Ok fits μ)
 (fuel:Nat) (cs:List SD) (x:SF H × List SE) (h:To enc Su w base sp held fuel t cs=some x) (hb:Tf x.1≤1048576) :
 ∃ (a:Option Addr) (xs:List α) (cap:Nat),cs=[.slice a xs.length cap]∧af k ea Ok w a xs∧(∀ y∈xs,fits y)∧xs.length≤Tf x.1∧(xs.map μ).sum≤Tf x.1:=by
 rcases open_slice ht h with⟨rfl,rfl⟩|⟨a,len,cap,m,n,D,Pl,rfl,hbl,hl,hm,hmm,rfl,hi⟩
 · exact⟨none,[],0,rfl,.inl rfl,by simp,by simp,by simp⟩
 · have hml:len≤m:=by rw [hmm];split<;>omega
   simp only [Tf] at hb ⊢
   have hD:∀ i,i<len→Tf (D i)≤Tg ((SY len).map D):=fun i hi=>zN (S7.2 ⟨i,List.mem_range.2 hi,rfl⟩)
   obtain⟨xs,hxl,hx⟩:=build (Q:=fun i y=>(∀ j v,(ea y)[j]? =some v→w.cell? ((a.add (i*k)).add j)=some v)∧Ok w y∧fits y∧μ y≤Tf (D i)) len (fun i hil=>by
    obtain⟨cs',hc,htr⟩:=hi i (by omega)
    obtain⟨y,hy1,hy2,hy3,hy4⟩:=hr n cs' (D i,Pl i) htr (by have:=hD i hil;simp only;omega)
    rw [hk] at hc
    obtain⟨_,hcl,hat⟩:=SA.cells?_some hc
    refine⟨y,fun j v hv=>?_,hy2,hy3,hy4⟩
    have hj:j<k:=by have:=(S5.1 hv).1;rw [hlen] at this;exact this
    rw [hat j hj,hy1]
    exact hv)
   refine⟨some a,xs,cap,by rw [hxl],?_,fun y hy=>?_,?_,?_⟩
   · cases xs with
     | nil=>exact .inl rfl
     | cons y0 ys =>
       have h0:=(hx 0 y0 rfl).1
       have hy0:∃ v,(ea y0)[0]? =some v:=⟨_,S6 (by rw [hlen];exact hk0)⟩
       obtain⟨v0,hv0⟩:=hy0
       have hc0:=h0 0 v0 hv0
       simp only [Nat.zero_mul] at hc0
       obtain⟨b,off,spot⟩:=a
       have hspot:spot=none:=by simpa [Addr.add] using SA.cell?_spot hc0
       subst hspot
       refine .inr ⟨b,off,rfl,by simpa [Addr.add] using SA.block_lt_of_cell? w _ hc0,fun i y hy=>⟨fun j v hv=>?_,(hx i y hy).2.1⟩⟩
       have:=(hx i y hy).1 j v hv
       have e:((⟨b,off,none⟩:Addr).add (i*k)).add j=⟨b,off+i*k+j,none⟩:=by
        unfold Addr.add
        split<;>split<;>simp_all
       rw [e] at this
       exact this
   · obtain⟨i,hi'⟩:=List.getElem?_of_mem hy
     exact(hx i y hi').2.2.1
   · have h1:xs.length≤Tg ((SY len).map D):=by
      rw [Dg,S_,hxl]
      exact Kl _ (fun i=>JC _) len
     omega
   · have h1:=Ki μ xs (fun i=>Tf (D i)) (fun i y hy=>(hx i y hy).2.2.2)
     have h2:((SY xs.length).map fun i=>Tf (D i)).sum=Tg ((SY len).map D):=by
      rw [Dg,S_,hxl];rfl
     omega
theorem Sn:IntKind.i64.min=-9223372036854775808:=by decide
theorem Sp:IntKind.i64.max=9223372036854775807:=by decide
theorem min8:IntKind.u8.min=0:=by decide
theorem max8:IntKind.u8.max=255:=by decide
theorem ml {n:Int} (h:(Lit.int .i64 n).wf=true):i64 n:=by
 simp only [Lit.wf,Bool.and_eq_true,decide_eq_true_eq,Sn,Sp] at h
 exact h
theorem xY {n:Int} (h:(Lit.int .u8 n).wf=true):0≤n∧n≤255:=by
 simp only [Lit.wf,Bool.and_eq_true,decide_eq_true_eq,min8,max8] at h
 exact h
theorem Of {α:Type} {l:List α} (h:l.length=1):∃ a0,l=[a0]:=by
 obtain _|⟨a0,l⟩:=l
 · simp at h
 obtain _|⟨b,l⟩:=l
 · exact⟨a0,rfl⟩
 · simp at h
theorem Ss {α:Type} {l:List α} (h:l.length=2):∃ a0 a1,l=[a0,a1]:=by
 obtain _|⟨a0,l⟩:=l
 · simp at h
 obtain _|⟨a1,l⟩:=l
 · simp at h
 obtain _|⟨b,l⟩:=l
 · exact⟨a0,a1,rfl⟩
 · simp at h
theorem LH {α:Type} {l:List α} (h:l.length=3):∃ a0 a1 a2,l=[a0,a1,a2]:=by
 obtain _|⟨a0,l⟩:=l
 · simp at h
 obtain _|⟨a1,l⟩:=l
 · simp at h
 obtain _|⟨a2,l⟩:=l
 · simp at h
 obtain _|⟨b,l⟩:=l
 · exact⟨a0,a1,a2,rfl⟩
 · simp at h
theorem Sr {α:Type} {l:List α} (h:l.length=5):∃ a0 a1 a2 a3 a4,l=[a0,a1,a2,a3,a4]:=by
 obtain _|⟨a0,l⟩:=l
 · simp at h
 obtain _|⟨a1,l⟩:=l
 · simp at h
 obtain _|⟨a2,l⟩:=l
 · simp at h
 obtain _|⟨a3,l⟩:=l
 · simp at h
 obtain _|⟨a4,l⟩:=l
 · simp at h
 obtain _|⟨b,l⟩:=l
 · exact⟨a0,a1,a2,a3,a4,rfl⟩
 · simp at h
theorem Sq {α:Type} {l:List α} (h:l.length=6):∃ a0 a1 a2 a3 a4 a5,l=[a0,a1,a2,a3,a4,a5]:=by
 obtain _|⟨a0,l⟩:=l
 · simp at h
 obtain _|⟨a1,l⟩:=l
 · simp at h
 obtain _|⟨a2,l⟩:=l
 · simp at h
 obtain _|⟨a3,l⟩:=l
 · simp at h
 obtain _|⟨a4,l⟩:=l
 · simp at h
 obtain _|⟨a5,l⟩:=l
 · simp at h
 obtain _|⟨b,l⟩:=l
 · exact⟨a0,a1,a2,a3,a4,a5,rfl⟩
 · simp at h
theorem LG {α:Type} {l:List α} (h:l.length=7):∃ a0 a1 a2 a3 a4 a5 a6,l=[a0,a1,a2,a3,a4,a5,a6]:=by
 obtain _|⟨a0,l⟩:=l
 · simp at h
 obtain _|⟨a1,l⟩:=l
 · simp at h
 obtain _|⟨a2,l⟩:=l
 · simp at h
 obtain _|⟨a3,l⟩:=l
 · simp at h
 obtain _|⟨a4,l⟩:=l
 · simp at h
 obtain _|⟨a5,l⟩:=l
 · simp at h
 obtain _|⟨a6,l⟩:=l
 · simp at h
 obtain _|⟨b,l⟩:=l
 · exact⟨a0,a1,a2,a3,a4,a5,a6,rfl⟩
 · simp at h
theorem IZ {α:Type} {l:List α} (h:l.length=8):∃ a0 a1 a2 a3 a4 a5 a6 a7,l=[a0,a1,a2,a3,a4,a5,a6,a7]:=by
 obtain _|⟨a0,l⟩:=l
 · simp at h
 obtain _|⟨a1,l⟩:=l
 · simp at h
 obtain _|⟨a2,l⟩:=l
 · simp at h
 obtain _|⟨a3,l⟩:=l
 · simp at h
 obtain _|⟨a4,l⟩:=l
 · simp at h
 obtain _|⟨a5,l⟩:=l
 · simp at h
 obtain _|⟨a6,l⟩:=l
 · simp at h
 obtain _|⟨a7,l⟩:=l
 · simp at h
 obtain _|⟨b,l⟩:=l
 · exact⟨a0,a1,a2,a3,a4,a5,a6,a7,rfl⟩
 · simp at h
section
variable {H:Type} {enc:SM × SD→H} {w:SA} {base:Nat} {sp:Nat→Bool} {held:Bool}
theorem c2:Su.cellsOf 2=1:=by kernel_rfl
theorem c3:Su.cellsOf 3=1:=by kernel_rfl
theorem c4:Su.cellsOf 4=1:=by kernel_rfl
theorem c5:Su.cellsOf 5=1:=by kernel_rfl
theorem c9:Su.cellsOf 9=1:=by kernel_rfl
theorem c23:Su.cellsOf 22=1:=by kernel_rfl
theorem c24:Su.cellsOf 23=1:=by kernel_rfl
theorem c25:Su.cellsOf 24=1:=by kernel_rfl
theorem c26:Su.cellsOf 25=1:=by kernel_rfl
theorem c28:Su.cellsOf 27=8:=by kernel_rfl
theorem c56:Su.cellsOf 46=2:=by kernel_rfl
theorem c57:Su.cellsOf 47=1:=by kernel_rfl
theorem c58:Su.cellsOf 48=1:=by kernel_rfl
theorem c60:Su.cellsOf 50=7:=by kernel_rfl
theorem c81:Su.cellsOf 71=1:=by kernel_rfl
theorem c83:Su.cellsOf 73=3:=by kernel_rfl
theorem c85:Su.cellsOf 75=5:=by kernel_rfl
theorem c86:Su.cellsOf 76=1:=by kernel_rfl
theorem c88:Su.cellsOf 78=1:=by kernel_rfl
theorem c99:Su.cellsOf 42=1:=by kernel_rfl
theorem c101:Su.cellsOf 44=7:=by kernel_rfl
theorem c116:Su.cellsOf 52=8:=by kernel_rfl
theorem dY {x:SF H × List SE} {ys:List (SF H × List SE)} (hx:x=(.agg (ys.map (·.1)),ys.flatMap (·.2))) {y:SF H × List SE} (hy:y∈ys):Tf y.1≤Tf x.1:=by
 rw [hx]
 simp only [Tf]
 have:=zN (S7.2 ⟨y,hy,rfl⟩:y.1∈ys.map (·.1))
 omega
theorem jE {s:ByteArray} {y:SF H × List SE} (h:y=(.lit (.string s.data.toList),[])):s.size≤Tf y.1:=by
 rw [h]
 simp only [Tf]
 have:s.data.toList.length=s.size:=by simp
 omega
theorem IK:Reads enc w base sp held 44 Reg.enc Flat Reg.fits (fun _=>0):=by
 intro fuel cs x h hb
 obtain⟨ys,n,rfl,hx,hlen,hyl,hf⟩:=Tl Tryz.underlying44 h
 rw [c101] at hlen
 obtain⟨v0,v1,v2,v3,v4,v5,v6,rfl⟩:=LG hlen
 obtain⟨y0,y1,y2,y3,y4,y5,y6,rfl⟩:=LG hyl
 have g0:=hf 0 _ rfl;have g1:=hf 1 _ rfl;have g2:=hf 2 _ rfl;have g3:=hf 3 _ rfl;have g4:=hf 4 _ rfl;have g5:=hf 5 _ rfl;have g6:=hf 6 _ rfl
 simp [c9,c3,c99,c4] at g0 g1 g2 g3 g4 g5 g6
 obtain⟨s0,e0,q0,w0⟩:=Tm Sw g0
 obtain⟨z1,e1,_,w1⟩:=Tk Sx g1
 obtain⟨z2,e2,_,w2⟩:=Tk Sx g2
 obtain⟨z3,e3,_,w3⟩:=Tk Sx g3
 obtain⟨z4,e4,_,w4⟩:=Tk Sx g4
 obtain⟨z5,e5,_,w5⟩:=Tk Tryz.underlying42 g5
 obtain⟨z6,e6,_⟩:=Tn Sy g6
 simp at e0 e1 e2 e3 e4 e5 e6
 subst e0 e1 e2 e3 e4 e5 e6
 have k0:=dY hx (y:=y0) (by simp)
 have k1:=jE q0
 exact⟨⟨s0,z1,z2,z3,z4,z5,z6⟩,rfl,trivial,⟨by simp only;omega,ml w1,ml w2,ml w3,ml w4,(xY w5).1,(xY w5).2⟩,SX _⟩
theorem Lx:Reads enc w base sp held 52 Cm.enc Flat Cm.fits (fun _=>0):=by
 intro fuel cs x h hb
 obtain⟨ys,n,rfl,hx,hlen,hyl,hf⟩:=Tl Tryz.underlying52 h
 rw [c116] at hlen
 obtain⟨v0,v1,v2,v3,v4,v5,v6,v7,rfl⟩:=IZ hlen
 obtain⟨y0,y1,y2,y3,y4,y5,y6,y7,rfl⟩:=IZ hyl
 have g0:=hf 0 _ rfl;have g1:=hf 1 _ rfl;have g2:=hf 2 _ rfl;have g3:=hf 3 _ rfl;have g4:=hf 4 _ rfl;have g5:=hf 5 _ rfl;have g6:=hf 6 _ rfl;have g7:=hf 7 _ rfl
 simp [c9,c3,c2,c4] at g0 g1 g2 g3 g4 g5 g6 g7
 obtain⟨z0,e0,_,w0⟩:=Tk Sz g0
 obtain⟨z1,e1,_,w1⟩:=Tk Sz g1
 obtain⟨z2,e2,_,w2⟩:=Tk Sx g2
 obtain⟨z3,e3,_,w3⟩:=Tk Sx g3
 obtain⟨s4,e4,q4,_⟩:=Tm Sw g4
 obtain⟨s5,e5,q5,_⟩:=Tm Sw g5
 obtain⟨z6,e6,_⟩:=Tn Sy g6
 obtain⟨z7,e7,_⟩:=Tn Sy g7
 simp at e0 e1 e2 e3 e4 e5 e6 e7
 subst e0 e1 e2 e3 e4 e5 e6 e7
 have k4:=dY hx (y:=y4) (by simp)
 have k5:=dY hx (y:=y5) (by simp)
 have l4:=jE q4
 have l5:=jE q5
 exact⟨⟨z0,z1,z2,z3,s4,s5,z6,z7⟩,rfl,trivial,⟨ml w0,ml w1,ml w2,ml w3,by simp only;omega,by simp only;omega⟩,SX _⟩
theorem IG:Reads enc w base sp held 75 Run.enc Flat Run.fits (fun r=>r.text.size):=by
 intro fuel cs x h hb
 obtain⟨ys,n,rfl,hx,hlen,hyl,hf⟩:=Tl Tryz.underlying75 h
 rw [c85] at hlen
 obtain⟨v0,v1,v2,v3,v4,rfl⟩:=Sr hlen
 obtain⟨y0,y1,y2,rfl⟩:=LH hyl
 have g0:=hf 0 _ rfl;have g1:=hf 1 _ rfl;have g2:=hf 2 _ rfl
 simp [c9,c83] at g0 g1 g2
 obtain⟨s0,e0,q0,_⟩:=Tm Sw g0
 obtain⟨s4,e4,q4,_⟩:=Tm Sw g2
 obtain⟨us,n',rfl,hx',hlen',Qe,hf'⟩:=Tl Tryz.underlying73 g1
 obtain⟨u0,u1,u2,rfl⟩:=LH Qe
 have p0:=hf' 0 _ rfl;have p1:=hf' 1 _ rfl;have p2:=hf' 2 _ rfl
 simp [c81,c4] at p0 p1 p2
 obtain⟨z1,e1,_,w1⟩:=Tk Tryz.underlying71 p0
 obtain⟨z2,e2,_⟩:=Tn Sy p1
 obtain⟨z3,e3,_⟩:=Tn Sy p2
 simp at e0 e1 e2 e3 e4
 subst e0 e1 e2 e3 e4
 have k0:=dY hx (y:=y0) (by simp)
 have k2:=dY hx (y:=y2) (by simp)
 have l0:=jE q0
 have l2:=jE q4
 exact⟨⟨s0,z1,z2,z3,s4⟩,rfl,trivial,⟨by simp only;omega,by simp only;omega,(xY w1).1,(xY w1).2⟩,by simp only;omega⟩
theorem uX:∀ l:List Run,(l.map fun r=>r.text.size).sum=fE l
 | []=>rfl
 | r::l=>by simp [fE,uX l]
theorem IJ:Reads enc w base sp held 78 Row.enc Row.lies Row.fits (fun _=>0):=by
 intro fuel cs x h hb
 obtain⟨ys,n,rfl,hx,hlen,hyl,hf⟩:=Tl Tryz.underlying78 h
 rw [c88] at hlen
 obtain⟨v0,rfl⟩:=Of hlen
 obtain⟨y0,rfl⟩:=Of hyl
 have g0:=hf 0 _ rfl
 simp [c86] at g0
 have k0:=dY hx (y:=y0) (by simp)
 obtain⟨a,xs,cap,e,hS,hF,hL,hM⟩:=j9 Tryz.underlying76 c85 (by decide) (fun _=>rfl) IG n [v0] y0 g0 (by omega)
 simp at e
 subst e
 rw [uX] at hM
 exact⟨⟨a,cap,xs⟩,rfl,hS,⟨hF,by simp only;omega,by simp only;omega⟩,SX _⟩
theorem Lw:Reads enc w base sp held 50 Ev.enc Ev.lies Ev.fits (fun _=>0):=by
 intro fuel cs x h hb
 obtain⟨ys,n,rfl,hx,hlen,hyl,hf⟩:=Tl Tryz.underlying50 h
 rw [c60] at hlen
 obtain⟨v0,v1,v2,v3,v4,v5,v6,rfl⟩:=LG hlen
 obtain⟨y0,y1,y2,y3,y4,y5,rfl⟩:=Sq hyl
 have g0:=hf 0 _ rfl;have g1:=hf 1 _ rfl;have g2:=hf 2 _ rfl;have g3:=hf 3 _ rfl;have g4:=hf 4 _ rfl;have g5:=hf 5 _ rfl
 simp [c2,c56,c9,c57,c58] at g0 g1 g2 g3 g4 g5
 obtain⟨z0,e0,_,w0⟩:=Tk Sz g0
 obtain⟨us,n',rfl,hx',hlen',Qe,hf'⟩:=Tl Tryz.underlying46 g1
 obtain⟨u0,u1,rfl⟩:=Ss Qe
 have p0:=hf' 0 _ rfl;have p1:=hf' 1 _ rfl
 simp [c2] at p0 p1
 obtain⟨z1,e1,_,w1⟩:=Tk Sz p0
 obtain⟨z2,e2,_,w2⟩:=Tk Sz p1
 obtain⟨s3,e3,q3,_⟩:=Tm Sw g2
 obtain⟨z4,e4,_,w4⟩:=Tk Tryz.underlying47 g3
 obtain⟨s5,e5,q5,_⟩:=Tm Sw g4
 have k2:=dY hx (y:=y2) (by simp)
 have k4:=dY hx (y:=y4) (by simp)
 have k5:=dY hx (y:=y5) (by simp)
 have l3:=jE q3
 have l5:=jE q5
 obtain⟨a,xs,cap,e6,hS,hF,hL,hM⟩:=j9 Tryz.underlying48 c88 (by decide) (fun _=>rfl) IJ _ [v6] y5 g5 (by omega)
 simp at e0 e1 e2 e3 e4 e5 e6
 subst e0 e1 e2 e3 e4 e5 e6
 exact⟨⟨z0,z1,z2,s3,z4,s5,a,cap,xs⟩,rfl,hS,⟨ml w0,ml w1,ml w2,by simp only;omega,(xY w4).1,(xY w4).2,by simp only;omega,hF,by simp only;omega⟩,SX _⟩
theorem wD:Reads enc w base sp held 27 Doc.enc (fun w d=>d.lies w) Doc.fits (fun _=>0):=by
 intro fuel cs x h hb
 obtain⟨ys,n,rfl,hx,hlen,hyl,hf⟩:=Tl Sv h
 rw [c28] at hlen
 obtain⟨v0,v1,v2,v3,v4,v5,v6,v7,rfl⟩:=IZ hlen
 obtain⟨y0,y1,y2,y3,y4,y5,y6,y7,rfl⟩:=IZ hyl
 have g0:=hf 0 _ rfl;have g1:=hf 1 _ rfl;have g2:=hf 2 _ rfl;have g3:=hf 3 _ rfl;have g4:=hf 4 _ rfl;have g5:=hf 5 _ rfl;have g6:=hf 6 _ rfl;have g7:=hf 7 _ rfl
 simp [c9,c23,c4,c2,c24,c25,c26] at g0 g1 g2 g3 g4 g5 g6 g7
 obtain⟨s0,e0,q0,_⟩:=Tm Sw g0
 obtain⟨s1,e1,q1,_⟩:=Tm Sw g1
 obtain⟨z2,e2,_,w2⟩:=Tk Tryz.underlying22 g2
 obtain⟨z3,e3,_⟩:=Tn Sy g3
 obtain⟨z4,e4,_,w4⟩:=Tk Sz g4
 have k0:=dY hx (y:=y0) (by simp)
 have k1:=dY hx (y:=y1) (by simp)
 have k5:=dY hx (y:=y5) (by simp)
 have k6:=dY hx (y:=y6) (by simp)
 have k7:=dY hx (y:=y7) (by simp)
 have l0:=jE q0
 have l1:=jE q1
 obtain⟨ra,rG,rc,e5,hS5,hF5,hL5,_⟩:=j9 Tryz.underlying23 c101 (by decide) (fun _=>rfl) IK _ [v5] y5 g5 (by omega)
 obtain⟨ea,eV,ec,e6,hS6,hF6,hL6,_⟩:=j9 Tryz.underlying24 c60 (by decide) (fun _=>rfl) Lw _ [v6] y6 g6 (by omega)
 obtain⟨ca,cM,cc,e7,hS7,hF7,hL7,_⟩:=j9 Tryz.underlying25 c116 (by decide) (fun _=>rfl) Lx _ [v7] y7 g7 (by omega)
 simp at e0 e1 e2 e3 e4 e5 e6 e7
 subst e0 e1 e2 e3 e4 e5 e6 e7
 exact⟨⟨s0,s1,z2,z3,z4,ra,rc,rG,ea,ec,eV,ca,cc,cM⟩,rfl,⟨hS5,hS6,hS7⟩,⟨by simp only;omega,by simp only;omega,(xY w2).1,(xY w2).2,ml w4,hF5,by simp only;omega,hF6,by simp only;omega,hF7,by simp only;omega⟩,SX _⟩
end
end Go.Proofs.YtnlnmbcaongehaaGreatDoor
namespace Go.Proofs.YtnlnmbcaongehaaGreatDoor.mergeSeat
open Go.Shelf Go.ChangeShapes Go.WideShapes Go.ChangeAt Go.RowKit Go.Lib
theorem own:ownKnob Su.godebug=none:=by kernel_rfl
theorem laidOut:laidOutB Su=true:=by kernel_rfl
def Si:List Int:=[0,1,28,2,29,14,24,3,30,22,20,15,25,17,4,8,31,27,13,23,21,19,16,7,26,12,18,6,11,5,10,9]
def Sh:List Int:=[0,1,56,2,57,49,28,3,61,58,42,50,38,29,17,4,62,47,59,36,45,43,51,22,53,39,33,30,24,18,12,5,63,55,48,27,60,41,37,16,46,35,44,21,52,32,23,11,54,26,40,15,34,20,31,10,25,14,19,9,13,8,7,6]
noncomputable def laidWorld (os:Os):SA :=
 let w0:=SA.holding Su os ⟨#[],#[],[]⟩
 let put (h:Array Obj) (g:Nat) (cs:Array SD):Array Obj:=h.modify g fun
  | .cells _ t frozen=>.cells cs t frozen
  | o=>o
 let h1:=put w0.heap 0 (Lib.firstTab.map fun z=>SR .u8 z).toArray
 let h2:=put h1 1 ((SY 16).flatMap fun i=>[SR .u8 (Lib.accLo i),SR .u8 (Lib.accHi i)]).toArray
 let h3:=put h2 2 (Lib.pow10Tab.map fun z=>SR .u64 z).toArray
 let h4:=put h3 4 (Si.map fun z=>SR .u8 z).toArray
 let h5:=put h4 5 (Sh.map fun z=>SR .u8 z).toArray
 { w0 with heap:=h5 }
def zd:Array SD:=#[.string ⟨#[]⟩,.string ⟨#[]⟩,.int .u8 0,.bool false,.int .i64 0,.slice none 0 0,.slice none 0 0,.slice none 0 0]
theorem laid_met (os:Os)(args:Array SD):laidMet Su Th.laid ((laidWorld os).forCall (fun _ _=>0) ⟨#[],args,[]⟩).memory :=
 laidMet_of_run' 8 (by kernel_rfl) (by kernel_rfl)
theorem Jr:Tj=Lib.firstData:=by kernel_rfl
theorem G7:(Ti:SF Unit)=Lib.acceptData:=by kernel_rfl
theorem F2:Th.laid=[("unicode/utf8.acceptRanges",Ti),("unicode/utf8.first",Tj)]:=rfl
theorem Oe {W:SA} (h:W.ShapedOpen Su):∃ m,W.cell? ⟨3,0,none⟩=some (.int .i64 m) :=
 Go.Proofs.cell_of_shapedOpen_int (zero:=#[.int .i64 0]) (t:=3) h (of_decide_eq_true (by kernel_rfl)) (by kernel_rfl) rfl (by kernel_rfl) (by kernel_rfl) Sx
theorem env_of {W:SA} (hL:laidMetH Su Th.laid W)(hS:W.ShapedOpen Su):Env W:=by
 have hL':laidMet Su Th.laid W:=by
  rw [Go.MakeChecks.laidMetH_plain _ _ _ (by kernel_rfl)] at hL
  exact hL
 rw [F2,Jr,G7] at hL'
 exact⟨utf8Tabs_of_readsT (U8Types.of196 Tryz.lays196) ⟨by kernel_rfl,by kernel_rfl,by kernel_rfl,by kernel_rfl,by kernel_rfl,by kernel_rfl,by kernel_rfl⟩ (Lib.laidMet.reads hL' (List.Mem.tail _ (List.Mem.head _))) (Lib.laidMet.reads hL' (List.Mem.head _)),Oe hS⟩
end Go.Proofs.YtnlnmbcaongehaaGreatDoor.mergeSeat
namespace Go.Proofs.YtnlnmbcaongehaaGreatDoor
open Go.RowKit Go.ChangeShapes Go.WideShapes Go.Deep
theorem GM (cs:List SD)(h:cs.length=24):cs=(cs.drop 0).take 8++((cs.drop 8).take 8++(cs.drop 16).take 8):=by
 have h1:cs.drop 8=(cs.drop 8).take 8++cs.drop 16:=by
  rw [show cs.drop 16=(cs.drop 8).drop 8 from by rw [List.drop_drop]]
  exact(Ta 8 _).symm
 have h2:(cs.drop 16).take 8=cs.drop 16:=List.take_of_length_le (by simp;omega)
 rw [h2,←h1,List.drop_zero]
 exact(Ta 8 cs).symm
section
variable {H:Type} {enc:SM × SD→H} {w:SA} {base:Nat} {sp:Nat→Bool} {held:Bool}
theorem c63:Su.cellsOf 63=24:=by kernel_rfl
theorem DQ (fuel:Nat)(cs:List SD)(x:SF H × List SE)(h:To enc Su w base sp held fuel 63 cs=some x)(hb:Tf x.1≤1048576) :
 ∃ (d1 d2 d3:Doc),cs=d1.enc++(d2.enc++d3.enc)∧(d1.lies w∧d2.lies w∧d3.lies w)∧(d1.fits∧d2.fits∧d3.fits):=by
 obtain⟨ys,n,rfl,hx,hlen,hyl,hf⟩:=Tl Tryz.underlying63 h
 rw [c63] at hlen
 obtain⟨y0,y1,y2,rfl⟩:=LH hyl
 have k0:=dY hx (y:=y0) (by simp)
 have k1:=dY hx (y:=y1) (by simp)
 have k2:=dY hx (y:=y2) (by simp)
 have g0:To enc Su w base sp held n 27 ((cs.drop 0).take 8)=some y0:=(congrArg (fun q=>To enc Su w base sp held n 27 ((cs.drop 0).take q)) c28).symm.trans (hf 0 _ rfl)
 have g1:To enc Su w base sp held n 27 ((cs.drop 8).take 8)=some y1:=(congrArg (fun q=>To enc Su w base sp held n 27 ((cs.drop 8).take q)) c28).symm.trans (hf 1 _ rfl)
 have g2:To enc Su w base sp held n 27 ((cs.drop 16).take 8)=some y2:=(congrArg (fun q=>To enc Su w base sp held n 27 ((cs.drop 16).take q)) c28).symm.trans (hf 2 _ rfl)
 obtain⟨d1,e1,l1,f1,_⟩:=wD _ _ y0 g0 (by omega)
 obtain⟨d2,e2,l2,f2,_⟩:=wD _ _ y1 g1 (by omega)
 obtain⟨d3,e3,l3,f3,_⟩:=wD _ _ y2 g2 (by omega)
 refine⟨d1,d2,d3,?_,⟨l1,l2,l3⟩,⟨f1,f2,f3⟩⟩
 rw [←e1,←e2,←e3]
 exact GM cs hlen
end
end Go.Proofs.YtnlnmbcaongehaaGreatDoor
