/- The contract of diff.Diff at valid documents. (printed by gen_diff.py, gen_diff2.py) The contract of the reference's Check of documents: the same specification as the program's. The contracts of the reference's put and Events: the IDs of two documents, ascending. The contract of the reference's Events. The contract of the reference's Comments. (printed by gen_refkeys.py) The reference's lists of keys, built by insertion, are the program's ones, sorted and compacted. The contract of the reference's Names: the names of the regions of two documents, ascending. (printed by gen_names.py) The reference's Clone of rows and events, Same of events, and event. (printed by gen_refev.py) The contract of the reference's Diff. (printed by gen_refdiff.py) The reference's SameChange and Same at changes with equal contents. (printed by gen_refchgsame.py) The law DiffLists, where awake is true: the changes of both sides have the same contents. -/
import Derived.Test.YtnlnmbcaongehaaGreatDoorB08
set_option linter.unusedVariables false
set_option linter.unusedSimpArgs false
set_option maxRecDepth 100000
set_option maxHeartbeats 12800000
open Go.Lib renaming hid→h_
open Go renaming World→e_,Value→fb,heap_alloc_last→fe,cell_of_row→ff,wp_at_zero→fg,wp_at_succ→fh,rounds_succ→fi
open Go.RowKit renaming Below→fj
open Nat renaming le_refl→fk,lt_of_lt_of_le→fm,le_trans→fo
open Go.Lib renaming compact→fp,toList_data→fq,allEq→fr
open List renaming pairwise_cons→ft,length_append→fu,mem_cons→fw,length_map→fx,mem_map→fy,length_mergeSort→fz,mem_append→fA,mem_singleton→fB,map_append→fC,map_cons→fD,mem_flatMap→fE,eq_nil_of_length_eq_zero→fF,pairwise_mergeSort→fG,not_lt→fH,mem_mergeSort→fI,append_assoc→fJ,take_length→fK,length_cons→fL,length_nil→fM,lt_irrefl→fN,lt_trans→fO
open Go.Value renaming string→fP,int→fQ
open Go.Value.slice renaming injEq→fR
open Array renaming getElem?_eq_some_iff→fS
open List.Pairwise renaming nil→fT
namespace Go.Proofs.YtnlnmbcaongehaaGreatDoor
open Go.RowKit
attribute [local go_sem ↓] fg fh
theorem zl1 (a b:Doc)(w:e_)(hE:Env w)(ha:a.lies w)(hb:b.lies w)(hfa:a.fits)(hfb:b.fits)(h0:az a=0)(h1:az b=0) :
 Calls Tryz.prog 11 #[.agg a.enc.toArray,.agg b.enc.toArray] w (bm a b w):=by
 have HQ:=h_ (fun(v:fb) (W0 w':e_) (hB:w.heap.size+2≤W0.heap.size) (hW:fj w.heap.size w W0) (h2:DRel (chgs a b) (w.heap.size+2) W0 v w')=>(show bm a b w (.returned (.tuple #[v,.int .i64 0])) w' from by
  unfold bm
  rw [if_neg (by simpa using h0),if_neg (by simpa using h1)]
  obtain⟨zs,⟨h4,h5,h6⟩,h3⟩:=h2
  exact⟨v,zs,rfl,⟨⟨h4.1,h4.2.imp id (fun⟨g,cap,cur,q1,q2,q3⟩=>⟨g,cap,cur,q1,by omega,q3⟩)⟩,fun z hz=>⟨(h5 z hz).1,fun b hu=>⟨((h5 z hz).2 b hu).1,by have:=((h5 z hz).2 b hu).2;omega⟩⟩,hW.trans (h6.mono (by omega))⟩,h3⟩))
 have HCA:=h_ (fun(w1:e_) (h:fj w.heap.size w w1)=>a_ a w1 (hE.below h (fk _)) (Doc.later ha h) hfa)
 have HCB:=h_ (fun(w1:e_) (h:fj w.heap.size w w1)=>a_ b w1 (hE.below h (fk _)) (Doc.later hb h) hfb)
 have HREST:=h_ (fun(wc:e_) (av:Option Addr) (an ac:Nat) hcut s0 s1 s4 s5 s6 s7 s8 s10 s11 s12 s13 s14 s15 s16 s17 s18 s19 s20 s21 s22 s23 s24 s25 s26 s27 s28 s29 s30 s31 s32 s33 s34 s35 s36 s37 s38 s39 s40 s41 s42 s43 s44 s45 s46 s47 s48 s49 s50 s51 s52 s53 s54 s55 s56 s57 s58 s59 s60 s61 s62 s63 s64 s65 s66 s67 s68 s69 s70 s71 s72 s73 s74 s75 s76 s77 s78 s79 s80 s81 s82 s83 s84 s85 s86 s87 s88 s89 s90 s91 s92 s93 s94 s95 s96 s97 s98 s99 s100 s101 s102 s103 s104 s105 s106 s107 s108 s109 s110 s111 s112 s113 s114 s115 s116 s117 s118 s119 s120 s121 s122 s123 s124 s125 s126 s127 s128 s129 s130 s131 s132 s133 s134 s135 s136 s137 s138 s139 s140 s141 s142 s143 s144 s145 s146 s147 s148 s149 s150 s151 s152 s153 s154 s155 s156 s157 s158 s159 s160 s161 s162 s163 s164 s165 s166 s167 s168 s169 s170 s171 s172 s173 s174 s175 s176 s177 s178 s179 s180 s181 s182 s183 s184 s185 s186 s187 s188 s189 s190 s191 s192 s193 s194 s195 s196 s197 s198 s199 s200 s201 s202 s203 s204=>zkw a b w wc ha hb hfa hfb h0 h1 av an ac hcut s0 s1 s4 s5 s6 s7 s8 s10 s11 s12 s13 s14 s15 s16 s17 s18 s19 s20 s21 s22 s23 s24 s25 s26 s27 s28 s29 s30 s31 s32 s33 s34 s35 s36 s37 s38 s39 s40 s41 s42 s43 s44 s45 s46 s47 s48 s49 s50 s51 s52 s53 s54 s55 s56 s57 s58 s59 s60 s61 s62 s63 s64 s65 s66 s67 s68 s69 s70 s71 s72 s73 s74 s75 s76 s77 s78 s79 s80 s81 s82 s83 s84 s85 s86 s87 s88 s89 s90 s91 s92 s93 s94 s95 s96 s97 s98 s99 s100 s101 s102 s103 s104 s105 s106 s107 s108 s109 s110 s111 s112 s113 s114 s115 s116 s117 s118 s119 s120 s121 s122 s123 s124 s125 s126 s127 s128 s129 s130 s131 s132 s133 s134 s135 s136 s137 s138 s139 s140 s141 s142 s143 s144 s145 s146 s147 s148 s149 s150 s151 s152 s153 s154 s155 s156 s157 s158 s159 s160 s161 s162 s163 s164 s165 s166 s167 s168 s169 s170 s171 s172 s173 s174 s175 s176 s177 s178 s179 s180 s181 s182 s183 s184 s185 s186 s187 s188 s189 s190 s191 s192 s193 s194 s195 s196 s197 s198 s199 s200 s201 s202 s203 s204)
 rw [h0] at HCA
 rw [h1] at HCB
 have HHA:=h_ (fun w1=>dt a w1)
 have HHB:=h_ (fun w1=>dt b w1)
 have HKR:=h_ (fun(w1:e_) (h:fj w.heap.size w w1)=>zcX Flat.keeps a.ra b.ra a.rc b.rc a.rG b.rG w1 (ha.1.later h) (hb.1.later h) hfa.2.2.2.2.2.2.1 hfb.2.2.2.2.2.2.1)
 have HKE:=h_ (fun(w1:e_) (h:fj w.heap.size w w1)=>zcW Ev.keeps a.ea b.ea a.ec b.ec a.evs b.evs w1 (ha.2.1.later h) (hb.2.1.later h) hfa.2.2.2.2.2.2.2.2.1 hfb.2.2.2.2.2.2.2.2.1)
 have HKC:=h_ (fun(w1:e_) (h:fj w.heap.size w w1)=>zcV Flat.keeps a.ca b.ca a.cc b.cc a.cms b.cms w1 (ha.2.2.later h) (hb.2.2.later h) hfa.2.2.2.2.2.2.2.2.2.2 hfb.2.2.2.2.2.2.2.2.2.2)
 have HFA:=h_ (fun(k:ByteArray) (w1:e_) (h:fj w.heap.size w w1)=>dM Flat.keeps a.ra a.rc a.rG k w1 (ha.1.later h) (by have:=hfa.2.2.2.2.2.2.1;omega))
 have HFB:=h_ (fun(k:ByteArray) (w1:e_) (h:fj w.heap.size w w1)=>dM Flat.keeps b.ra b.rc b.rG k w1 (hb.1.later h) (by have:=hfb.2.2.2.2.2.2.1;omega))
 have HGA:=h_ (fun(k:Int) (w1:e_) (h:fj w.heap.size w w1)=>dL Ev.keeps a.ea a.ec a.evs k w1 (ha.2.1.later h) (by have:=hfa.2.2.2.2.2.2.2.2.1;omega))
 have HGB:=h_ (fun(k:Int) (w1:e_) (h:fj w.heap.size w w1)=>dL Ev.keeps b.ea b.ec b.evs k w1 (hb.2.1.later h) (by have:=hfb.2.2.2.2.2.2.2.2.1;omega))
 have HEVA:=h_ (fun(p:Ev→Bool)=>zhv ha.2.1 hfa.2.2.2.2.2.2.2.1 p)
 have HEVB:=h_ (fun(p:Ev→Bool)=>zhv hb.2.1 hfb.2.2.2.2.2.2.2.1 p)
 have HMA:=h_ (fun(k:Int) (w1:e_) (h:fj w.heap.size w w1)=>dK Flat.keeps a.ca a.cc a.cms k w1 (ha.2.2.later h) (by have:=hfa.2.2.2.2.2.2.2.2.2.2;omega))
 have HMB:=h_ (fun(k:Int) (w1:e_) (h:fj w.heap.size w w1)=>dK Flat.keeps b.ca b.cc b.cms k w1 (hb.2.2.later h) (by have:=hfb.2.2.2.2.2.2.2.2.2.2;omega))
 have HCH:=h_ (show((eP a.hd b.hd++(fp (c_ ((a.rG++b.rG).map (fun x:Reg=>x.name.data.toList)))).flatMap (fun l=>bt a.rG b.rG ⟨l.toArray⟩))++(fp (bn ((a.evs++b.evs).map (fun x:Ev=>x.id)))).flatMap (eu a.evs b.evs))++(fp (bn ((a.cms++b.cms).map (fun x:Cm=>x.id)))).flatMap (za2 a.cms b.cms)=chgs a b by
  unfold chgs zfx zaA zc4 zc9
  rw [List.flatMap_map,fJ,fJ])
 have hll:(fp (c_ ((a.rG++b.rG).map (fun x:Reg=>x.name.data.toList)))).length≤8000000:=cj _ _ (by unfold c_;rw [fz,fx,fu];have:=hfa.2.2.2.2.2.2.1;have:=hfb.2.2.2.2.2.2.1;omega)
 have hel:(fp (bn ((a.evs++b.evs).map (fun x:Ev=>x.id)))).length≤8000000:=cj _ _ (by unfold bn;rw [fz,fx,fu];have:=hfa.2.2.2.2.2.2.2.2.1;have:=hfb.2.2.2.2.2.2.2.2.1;omega)
 have hcl:(fp (bn ((a.cms++b.cms).map (fun x:Cm=>x.id)))).length≤8000000:=cj _ _ (by unfold bn;rw [fz,fx,fu];have:=hfa.2.2.2.2.2.2.2.2.2.2;have:=hfb.2.2.2.2.2.2.2.2.2.2;omega)
 generalize fp (c_ ((a.rG++b.rG).map (fun x:Reg=>x.name.data.toList)))=ls at *
 generalize fp (bn ((a.evs++b.evs).map (fun x:Ev=>x.id)))=es at *
 generalize fp (bn ((a.cms++b.cms).map (fun x:Cm=>x.id)))=cs at *
 generalize chgs a b=CHG at *
 generalize hhd:a.hd=hd1 at *
 generalize hhd':b.hd=hd2 at *
 generalize bm a b w=Q at *
 obtain⟨title,lA,rate,drop,last,ra,rc,rG,ea,ec,evs,ca,cc,cms⟩:=a
 obtain⟨title',lang',rate',drop',last',ra',rc',regs',ea',ec',evs',ca',cc',cms'⟩:=b
 simp only [Doc.enc,Doc.hd] at *
 generalize hds:#[fP title,.string lA,.int .u8 rate,.bool drop,.int .i64 last,.slice ra rG.length rc,.slice ea evs.length ec,.slice ca cms.length cc]=ds
 generalize hqs:#[fP title',.string lang',.int .u8 rate',.bool drop',.int .i64 last',.slice ra' regs'.length rc',.slice ea' evs'.length ec',.slice ca' cms'.length cc']=qs
 have f0:=ah w ds qs 27 27 0 (.string title) (by rw [←hds];rfl)
 have f1:=ah w ds qs 27 27 1 (.string lA) (by rw [←hds];rfl)
 have f2:=ah w ds qs 27 27 2 (.int .u8 rate) (by rw [←hds];rfl)
 have f3:=ah w ds qs 27 27 3 (.bool drop) (by rw [←hds];rfl)
 have f4:=ah w ds qs 27 27 4 (.int .i64 last) (by rw [←hds];rfl)
 have f5:=ah w ds qs 27 27 5 (.slice ra rG.length rc) (by rw [←hds];rfl)
 have f6:=ah w ds qs 27 27 6 (.slice ea evs.length ec) (by rw [←hds];rfl)
 have f7:=ah w ds qs 27 27 7 (.slice ca cms.length cc) (by rw [←hds];rfl)
 have g0:=aj w ds qs 27 27 0 (.string title') (by rw [←hqs];rfl)
 have g1:=aj w ds qs 27 27 1 (.string lang') (by rw [←hqs];rfl)
 have g2:=aj w ds qs 27 27 2 (.int .u8 rate') (by rw [←hqs];rfl)
 have g3:=aj w ds qs 27 27 3 (.bool drop') (by rw [←hqs];rfl)
 have g4:=aj w ds qs 27 27 4 (.int .i64 last') (by rw [←hqs];rfl)
 have g5:=aj w ds qs 27 27 5 (.slice ra' regs'.length rc') (by rw [←hqs];rfl)
 have g6:=aj w ds qs 27 27 6 (.slice ea' evs'.length ec') (by rw [←hqs];rfl)
 have g7:=aj w ds qs 27 27 7 (.slice ca' cms'.length cc') (by rw [←hqs];rfl)
 have HB:=h_ (fun(w1:e_) (h:fj (w.heap.size+2) ((w.alloc (.cells ds 27)).alloc (.cells qs 27)) w1)=>aR h)
 have hb0:fj (w.heap.size+2) ((w.alloc (.cells ds 27)).alloc (.cells qs 27)) ((w.alloc (.cells ds 27)).alloc (.cells qs 27)):=fj.refl _ _
 have hsz:((w.alloc (.cells ds 27)).alloc (.cells qs 27)).heap.size=w.heap.size+2:=by simp
 generalize hW0:(w.alloc (.cells ds 27)).alloc (.cells qs 27)=W0 at *
 have HW0:=h_ hW0
 have HSZ:=h_ hsz
 have HT0:=h_ (fun(w2 w3:e_) (h:fj (w.heap.size+2) W0 w2) (h3:fj w2.heap.size w2 w3)=>(h.trans (h3.mono (by have:=h.size;rw [HSZ.out] at this;exact this)):fj (w.heap.size+2) W0 w3))
 have HLT:=h_ (fun(w2:e_) (h:fj (w.heap.size+2) W0 w2)=>(show w.heap.size+2≤w2.heap.size by have:=h.size;rw [HSZ.out] at this;exact this))
 have HKS:=h_ (fun(o o':Array fb) (w1:e_) (h:fj ((W0.alloc (.cells o 27)).alloc (.cells o' 27)).heap.size ((W0.alloc (.cells o 27)).alloc (.cells o' 27)) w1) (j:Nat)=>(show w1.cell? ⟨w.heap.size+1+1,j,none⟩=o[j]? by
  rw [show w.heap.size+1+1=W0.heap.size from HSZ.out.symm]
  have hk:w1.heap[W0.heap.size]? =some (.cells o 27 (0,0)):=by
   rw [h.block _ (by simp;omega),fj.heap_alloc _ _ _ (by simp)]
   exact fe W0 _
  exact ff _ _ j o 27 (0,0) hk))
 have ka:∀ (o:Array fb) (j:Nat),(W0.alloc (.cells o 27)).cell? ⟨w.heap.size+1+1,j,none⟩=o[j]?:=fun o j=>by
  rw [show w.heap.size+1+1=W0.heap.size from HSZ.out.symm]
  exact ff _ _ j o 27 (0,0) (fe W0 _)
 have HL2:=h_ (fun o o'=>((hb0.alloc (by rw [HSZ.out];omega) o).alloc (by rw [e_.size_alloc,HSZ.out];omega) o':fj (w.heap.size+2) W0 ((W0.alloc o).alloc o')))
 have HWW:=h_ (HB.out _ hb0)
 have hBW:w.heap.size+2≤W0.heap.size:=by rw [HSZ.out];exact fk _
 obtain⟨j0,jz,hj,hy0,hy1,hy2,hy3⟩:=zkE
 have JI:=h_ hj;have J0:=h_ hy0;have J1:=h_ hy1;have J2:=h_ hy2;have J3:=h_ hy3
 clear hW0 hsz ha hb hE hfa hfb h0 h1 hj hy0 hy1 hy2 hy3
 go_enter Tryz.func11,Tryz.ntmps11
 subst hds
 subst hqs
 go_wp2_with fail
 rw [HW0.out]
 refine wp_loop_rounds 3 ?_
 rw [fi]
 go_wp2_with fail
 refine(HCA.out _ (HB.out _ (HL2.out _ _))).mono ?_
 rintro e w1 ⟨rfl,hb1⟩
 have hc1:=HT0.out _ _ (HL2.out _ _) hb1
 have k0:=HKS.out _ _ _ hb1
 clear hb1 HCA
 go_wp2_with fail
 have HL1:=h_ (fun o=>(hc1.alloc (HLT.out _ hc1) o:fj (w.heap.size+2) W0 (w1.alloc o)))
 rw [fi]
 go_wp2_with fail
 refine(HCB.out _ (HB.out _ (HL1.out _))).mono ?_
 rintro e w2 ⟨rfl,hb2⟩
 have hc2:=HT0.out _ _ (HL1.out _) hb2
 clear hb2 HCB k0
 clear ka
 go_wp2_with fail
 rw [fi]
 go_upto_region 9 with fail
 go_cut [10,11] (fun s10 s11 wx=>∃ g h:Nat,s10=.pointer (some ⟨g,0,none⟩)∧s11=.pointer (some ⟨h,0,none⟩)∧HdAt g hd1 wx∧HdAt h hd2 wx∧fj (w.heap.size+2) W0 wx)
 case first =>
  have HF1:=h_ (fun(w1:e_) (h:fj (w.heap.size+2) W0 w1)=>(HHA.out w1).mono (fun e w' (p:e=.returned (.agg hd1.enc.toArray)∧fj w1.heap.size w1 w')=>(show e=.returned (.agg hd1.enc.toArray)∧fj (w.heap.size+2) W0 w'∧fj w1.heap.size w1 w' from⟨p.1,HT0.out _ _ h p.2,p.2⟩)))
  have HF2:=h_ (fun(w1:e_) (h:fj (w.heap.size+2) W0 w1)=>(HHB.out w1).mono (fun e w' (p:e=.returned (.agg hd2.enc.toArray)∧fj w1.heap.size w1 w')=>(show e=.returned (.agg hd2.enc.toArray)∧fj (w.heap.size+2) W0 w'∧fj w1.heap.size w1 w' from⟨p.1,HT0.out _ _ h p.2,p.2⟩)))
  have hc2d:fj (w.heap.size+2) W0 w2.drew:=hc2.drew
  have hw2:=HLT.out _ hc2
  subst hhd
  subst hhd'
  simp only [Hd.enc] at HF1 HF2
  clear HHA HHB
  go_region_held3 (fun w'=>fj (w.heap.size+2) W0 w') (repeat (first|with_reducible assumption|with_reducible exact hc2d|with_reducible refine fj.setCell ?_ (by dsimp only;first|omega|(simp;omega)) _|with_reducible refine below_alloc1 ?_ hBW _|with_reducible refine fj.drew ?_)) (first|(go_at_call 33;(first|((with_reducible refine(HF1.out _ ?_).mono ?_);assumption)|((with_reducible refine(HF2.out _ ?_).mono ?_);assumption));rintro e w3 ⟨rfl,hb1,hr1⟩;have hs1:=HLT.out _ hb1;(first|(have hZ:=zmu (g:=w2.heap.size) (g':=w2.heap.size+1) (w:=w2.drew) hr1 rfl rfl;have HZP:=h_ hZ;obtain⟨⟨l,c0,c1,c2,c3,c4,z0,z1,z2,z3,z4⟩,⟨l',c0',c1',c2',c3',c4',z0',z1',z2',z3',z4'⟩⟩:=hZ)|(have hZ:=hbox (g:=w2.heap.size) (w:=w2.drew) hr1 rfl;have HZK:=h_ hZ;obtain⟨l,c0,c1,c2,c3,c4,z0,z1,z2,z3,z4⟩:=hZ)|(have hZ:=zmu hr1 rfl rfl;obtain⟨⟨l,c0,c1,c2,c3,c4,z0,z1,z2,z3,z4⟩,⟨l',c0',c1',c2',c3',c4',z0',z1',z2',z3',z4'⟩⟩:=hZ)|(have hY:=HZK.out.later ((fj.refl _ _).alloc (fk _) (.cells zhd 41));have hZ:=hY.later hr1;have hZ2:=hbox hr1 rfl;obtain⟨l,c0,c1,c2,c3,c4,z0,z1,z2,z3,z4⟩:=hZ;obtain⟨l',c0',c1',c2',c3',c4',z0',z1',z2',z3',z4'⟩:=hZ2)|(have hZ:=HZP.out.1.later hr1;have hZ2:=HZP.out.2.later hr1;obtain⟨l,c0,c1,c2,c3,c4,z0,z1,z2,z3,z4⟩:=hZ;obtain⟨l',c0',c1',c2',c3',c4',z0',z1',z2',z3',z4'⟩:=hZ2)|(have hZ:=HZK.out.later hr1;obtain⟨l,c0,c1,c2,c3,c4,z0,z1,z2,z3,z4⟩:=hZ)|(have hZ:=hbox hr1 rfl;have HZK:=h_ hZ;obtain⟨l,c0,c1,c2,c3,c4,z0,z1,z2,z3,z4⟩:=hZ)|skip);clear hr1))
  all_goals
   go_wp2_with fail
   go_meet
   refine⟨_,_,rfl,rfl,?hx,?hy,by first|assumption|exact below_alloc1 (below_alloc1 (by assumption) hBW _) hBW _⟩
   case hx=>(repeat (first|with_reducible exact⟨l,c0,c1,c2,c3,c4,z0,z1,z2,z3,z4⟩|with_reducible exact⟨l',c0',c1',c2',c3',c4',z0',z1',z2',z3',z4'⟩|with_reducible exact HdAt.new (x:=⟨title,lA,rate,drop,last⟩) (by simp;done)|with_reducible exact HdAt.new (x:=aP) (by simp;done)|with_reducible refine HdAt.set (x:=⟨title,lA,rate,drop,last⟩) ?_|with_reducible refine HdAt.other (y:=⟨title',lang',rate',drop',last'⟩) (by omega) ?_|with_reducible refine HdAt.alloc ?_ _))
   case hy=>(repeat (first|with_reducible exact⟨l,c0,c1,c2,c3,c4,z0,z1,z2,z3,z4⟩|with_reducible exact⟨l',c0',c1',c2',c3',c4',z0',z1',z2',z3',z4'⟩|with_reducible exact HdAt.new (x:=⟨title',lang',rate',drop',last'⟩) (by simp;done)|with_reducible exact HdAt.new (x:=aP) (by simp;done)|with_reducible refine HdAt.set (x:=⟨title',lang',rate',drop',last'⟩) ?_|with_reducible refine HdAt.other (y:=⟨title,lA,rate,drop,last⟩) (by omega) ?_|with_reducible refine HdAt.alloc ?_ _))
 case rest =>
  obtain⟨g,h,rfl,rfl,hbx,hby,hbc⟩:=hcut
  have HX:=h_ hbx
  have HY:=h_ hby
  obtain⟨l,c0,c1,c2,c3,c4,z0,z1,z2,z3,z4⟩:=hbx
  obtain⟨l',c0',c1',c2',c3',c4',z0',z1',z2',z3',z4'⟩:=hby
  clear z0 z1 z2 z3 z4 z0' z1' z2' z3' z4'
  have r1:=fun wx=>zdw hd1 hd2 wx
  have HPRE:=h_ (show eP hd1 hd2=if hdEq hd1 hd2=true then [] else [⟨1,0,⟨#[]⟩,false,false,hd1,hd2,aw,aw,aY,aY,aL,aL⟩] from rfl)
  have hpl:=zcq hd1 hd2
  subst hhd
  subst hhd'
  simp only [Hd.enc] at r1 c0 c1 c2 c3 c4 c0' c1' c2' c3' c4'
  generalize hdEq _ _=HE at *
  generalize eP _ _=P0 at *
  go_upto_if 56 with fail
  go_cut [9] (fun s9 wx=>DRel P0 (w.heap.size+2) W0 s9 wx)
  case first =>
   cases HE with
   | true =>
     go_wp2_with fail
     go_meet
     rw [HPRE.out]
     exact⟨[],cM.start hbc,rfl⟩
   | false =>
     obtain⟨zs,hzl,hO,hP⟩:=DRel.owns (show DRel [] (w.heap.size+2) W0 (.slice none 0 0) wc from⟨[],cM.start hbc,rfl⟩)
     have HP:=h_ hP
     have hs:=HLT.out _ hbc
     replace hzl:zs.length≤5:=by rw [hzl];simp
     generalize zs.flatMap Chg.enc=zf at *
     generalize zs.length=zn at *
     clear hP
     go_wp2_with (at_builtin;refine ak _ _ rfl (.tmp 57) (.tmp 61) 29 rfl (w.heap.size+2) 54 j0 _ 59 568 Tryz.underlying29 JI.out J0.out J1.out J2.out J3.out (by decide) _ _ _ rfl hO _ rfl rfl ?hsz ?h1 ?h63 ?hb ?hbase ?_)
     case hsz=>rfl
     case h1=>first|exact fun u hu=>Chg.one (⟨1,0,⟨#[]⟩,false,false,⟨title,lA,rate,drop,last⟩,⟨title',lang',rate',drop',last'⟩,aw,aw,aQ,aQ,aL,aL⟩:Chg) u hu|((repeat' apply And.intro)<;>rfl)
     case h63=>unfold maxLen;omega
     case hb=>omega
     case hbase=>omega
     intro v' w2' hown hgrow hat
     have R:=h_ (HP.out (⟨1,0,⟨#[]⟩,false,false,⟨title,lA,rate,drop,last⟩,⟨title',lang',rate',drop',last'⟩,aw,aw,aQ,aQ,aL,aL⟩:Chg) _ v' w2' rfl hown hgrow hat (zaW _ rfl rfl _).1 (fun b hu=>((zaW _ rfl rfl wc).2 b hu).elim) hBW)
     clear hown hgrow hat
     go_wp2_with fail
     go_meet
     rw [HPRE.out]
     exact R.out
  case rest =>
  clear HX HY l l' c0 c1 c2 c3 c4 c0' c1' c2' c3' c4' hbc
  have hbc:=hcut.below
  obtain⟨av,an,ac,rfl⟩:=hcut.slice
  have HD:=h_ hcut
  clear hcut
  go_wp2_with fail
  refine(HKR.out _ (HB.out _ hbc)).mono ?_
  rintro e w3 ⟨kv,rfl,ho,hb3⟩
  obtain⟨ka,kc,rfl,hKA⟩:=zav.of (v:=.slice av an ac) ho HD.out.lt
  have HL0:=h_ (show LRel (P0) (fun l=>bt rG regs' ⟨l.toArray⟩) encStr ls ka (w.heap.size+2) W0 0 (.slice av an ac) w3 from⟨by simpa using HD.out.later hBW hb3,hKA⟩)
  clear ho hb3 hKA HD hbc
  go_upto_block 2 with fail
  go_cut [9] (fun s9 wx=>DRel (P0++ls.flatMap (fun l=>bt rG regs' ⟨l.toArray⟩)) (w.heap.size+2) W0 s9 wx)
  case first =>
   go_wp2_with fail
   go_loopw [9,69] (fun s9 i wr=>∃ k:Nat,k≤ls.length∧i=.int .i64 k∧LRel (P0) (fun l=>bt rG regs' ⟨l.toArray⟩) encStr ls ka (w.heap.size+2) W0 k s9 wr) (fun _ i _=>ls.length-(intOf i).toNat)
   case atStart=>exact⟨0,by omega,rfl,HL0.out⟩
   case round =>
    clear HL0
    obtain⟨k,hk,rfl,hR⟩:=hrel
    have hbr:=hR.1.below
    obtain⟨av,an,ac,rfl⟩:=hR.1.slice
    by_cases hlt:k<ls.length
    · obtain⟨kb,ko,l,rfl,hkl,hlk,hkc,_⟩:=hR.2.1.at_ hlt
      have q0:=hkc 0 _ rfl
      obtain⟨kn,hkn⟩:∃ kn:ByteArray,kn=⟨l.toArray⟩:=⟨_,rfl⟩
      have HPU:=h_ (fun(w1:e_) (hb:fj wr.heap.size wr w1)=>LRel.push hR hlk hBW hb (fun x=>zb0 _ _ _))
      have HSK:=h_ (fun(w1:e_) (hb:fj wr.heap.size wr w1) (hf:bt rG regs' kn=[])=>LRel.skip hR hlk hBW hb (hkn▸hf))
      obtain⟨x,i1,t1,hv1,hx1,ht1⟩:=zfv (first (fun x:Reg=>x.name.toList==kn.toList) rG)
      obtain⟨y,i2,t2,hv2,hx2,ht2⟩:=zfv (first (fun x:Reg=>x.name.toList==kn.toList) regs')
      have HCH:=h_ (show bt rG regs' kn=if (t1 != t2||!eF x y)=true then [⟨2,0,kn,!t1,!t2,aP,aP,x,y,aY,aY,aL,aL⟩] else [] by rw [zkD,hx1,hx2,ht1,ht2])
      have HF1:=h_ (fun(w1:e_) (h:fj (w.heap.size+2) W0 w1)=>(show Calls Tryz.prog 36 #[.slice ra rG.length rc,.func (.func 35) #[] #[],.string kn] w1 (fun e w'=>e=.returned (.tuple #[.agg x.enc.toArray,.int .i64 i1,.bool t1])∧fj w1.heap.size w1 w') from(HFA.out kn w1 (HB.out _ h)).mono (fun e w' p=>⟨by rw [←hv1];exact p.1,p.2⟩)))
      have HF2:=h_ (fun(w1:e_) (h:fj (w.heap.size+2) W0 w1)=>(show Calls Tryz.prog 36 #[.slice ra' regs'.length rc',.func (.func 35) #[] #[],.string kn] w1 (fun e w'=>e=.returned (.tuple #[.agg y.enc.toArray,.int .i64 i2,.bool t2])∧fj w1.heap.size w1 w') from(HFB.out kn w1 (HB.out _ h)).mono (fun e w' p=>⟨by rw [←hv2];exact p.1,p.2⟩)))
      have hpre:P0.length≤1:=hpl
      simp only [encStr,←hkn,Nat.add_zero,Nat.mul_one] at q0 HPU
      have HROW:=h_ hR.1.lt
      have HBR:=h_ hbr
      have hbs:=HLT.out _ hbr
      clear hR hkc hlk hkn hv1 hv2 hx1 hx2 ht1 ht2
      have r1:=fun wx=>zdL x y wx
      generalize hEQ:eF x y=EQ at HCH r1
      clear hEQ
      obtain⟨xnm,xtop,xheight,xleft,xwidth,xalign,xbottom⟩:=x
      obtain⟨ynm,ytop,yheight,yleft,ywidth,yalign,ybottom⟩:=y
      simp only [Reg.enc] at r1 HF1 HF2
      go_upto_block 3 with fail
      go_cut [9] (fun s9 wx=>LRel (P0) (fun l=>bt rG regs' ⟨l.toArray⟩) encStr ls (some ⟨kb,ko,none⟩) (w.heap.size+2) W0 (k+1) s9 wx)
      case first =>
       go_wp2_with fail
       refine(HF1.out _ hbr).mono ?_
       rintro e w3 ⟨rfl,hb3⟩
       have hc3:=HT0.out _ _ hbr hb3
       have ha3:∀ o,fj (w.heap.size+2) W0 (w3.alloc o):=fun o=>hc3.alloc (HLT.out _ hc3) o
       have H3:=h_ hb3
       clear hb3 HF1 q0
       go_wp2_with fail
       refine(HF2.out _ (ha3 _)).mono ?_
       rintro e w4 ⟨rfl,hb4⟩
       have hc4:=HT0.out _ _ (ha3 _) hb4
       have hs4:w3.heap.size+1≤w4.heap.size:=by have:=hb4.size;simpa using this
       have hk4:w4.heap[w3.heap.size]? =some (.cells #[.string xnm,.int .i64 xtop,.int .i64 xheight,.int .i64 xleft,.int .i64 xwidth,.int .u8 xalign,.bool xbottom] 44 (0,0)):=(hb4.block _ (by simp)).trans (fe w3 _)
       have HBX:=h_ (fun(o:Obj)=>(show fj wr.heap.size wr (w4.alloc o) from((H3.out.alloc H3.out.size _).trans (hb4.mono (by have:=H3.out.size;simp;omega))).alloc (by have:=H3.out.size;omega) o))
       obtain⟨wq,hwq⟩:∃ wq,wq=w4.alloc (.cells #[.string ynm,.int .i64 ytop,.int .i64 yheight,.int .i64 yleft,.int .i64 ywidth,.int .u8 yalign,.bool ybottom] 44):=⟨_,rfl⟩
       have cq3:∀ (j:Nat),wq.cell? ⟨w3.heap.size,j,none⟩=_:=fun j=>ff _ _ j _ 44 (0,0) (show wq.heap[w3.heap.size]? =_ from hwq▸zaZ hk4)
       have cq4:∀ (j:Nat),wq.cell? ⟨w4.heap.size,j,none⟩=_:=fun j=>ff _ _ j _ 44 (0,0) (show wq.heap[w4.heap.size]? =_ from hwq▸fe w4 _)
       have HBQ:=h_ (show fj wr.heap.size wr wq from hwq▸HBX.out _)
       have HBS:=h_ (show w.heap.size+2≤wq.heap.size from by have:=HBQ.out.size;omega)
       have HWQ:=h_ hwq
       clear hb4 HF2 hk4 H3 hc3 ha3 HBX hwq
       go_upto_region 17 with fail
       rw [←HWQ.out]
       go_cut [96] (fun sb wx=>sb=.bool (t1 != t2||!EQ)∧wx=wq)
       case first =>
        rcases Classical.em (t1=t2) with hne|hne
        · subst hne
          go_wp2_with fail
          go_meet
          exact⟨by simp,rfl⟩
        · go_wp2_with fail
          go_meet
          exact⟨by simp [hne],rfl⟩
       case rest =>
        obtain⟨rfl,rfl⟩:=hcut
        clear HWQ r1
        generalize (t1 != t2||!EQ)=TB at *
        cases TB with
        | false =>
          have HS:=h_ (HSK.out _ HBQ.out (by rw [HCH.out];rfl))
          clear HSK HCH HPU
          skip
          go_wp2_with fail
          go_meet
          exact HS.out
        | true =>
          have HC2:=h_ (show bt rG regs' kn=[⟨2,0,kn,!t1,!t2,aP,aP,⟨xnm,xtop,xheight,xleft,xwidth,xalign,xbottom⟩,⟨ynm,ytop,yheight,yleft,ywidth,yalign,ybottom⟩,aY,aY,aL,aL⟩] by rw [HCH.out];rfl)
          obtain⟨zn,zf,hzn,hO,hP⟩:=HPU.out _ HBQ.out
          have HP:=h_ hP
          clear hP HPU HCH HSK
          go_wp2_with (at_builtin;refine ak _ _ rfl (.tmp 97) (.tmp 106) 29 rfl (w.heap.size+2) 54 j0 _ 59 568 Tryz.underlying29 JI.out J0.out J1.out J2.out J3.out (by decide) _ _ _ rfl hO _ rfl rfl ?hszReg ?h1Reg ?h63Reg ?hbReg ?hbaseReg ?_)
          try (case hszReg=>rfl)
          case h1Reg=>first|exact fun u hu=>Chg.one (⟨2,0,kn,!t1,!t2,aP,aP,⟨xnm,xtop,xheight,xleft,xwidth,xalign,xbottom⟩,⟨ynm,ytop,yheight,yleft,ywidth,yalign,ybottom⟩,aQ,aQ,aL,aL⟩:Chg) u hu|((repeat' apply And.intro)<;>rfl)
          case h63Reg=>unfold maxLen;omega
          case hbReg=>omega
          try (case hbaseReg=>exact HBS.out)
          intro v' w2' hown hgrow hat
          have R:=h_ (HP.out (⟨2,0,kn,!t1,!t2,aP,aP,⟨xnm,xtop,xheight,xleft,xwidth,xalign,xbottom⟩,⟨ynm,ytop,yheight,yleft,ywidth,yalign,ybottom⟩,aQ,aQ,aL,aL⟩:Chg) _ v' w2' HC2.out rfl hown hgrow hat (zaW _ rfl rfl _).1 (fun b hu=>((zaW _ rfl rfl wr).2 b hu).elim))
          clear hown hgrow hat HP hO HC2
          go_wp2_with fail
          go_meet
          exact R.out
      case rest =>
       clear HPU HSK HCH HF1 HF2 q0 r1
       obtain⟨av',an',ac',rfl⟩:=hcut.1.slice
       have HC:=h_ hcut
       clear hcut
       go_wp2_with fail
       go_roundw
       case rel=>exact⟨k+1,by omega,by go_num,HC.out⟩
       all_goals first|(simp [intOf];done)|(simp [intOf];omega)
    · obtain rfl:k=ls.length:=by omega
      have HN:=h_ (show DRel (P0++ls.flatMap (fun l=>bt rG regs' ⟨l.toArray⟩)) (w.heap.size+2) W0 (.slice av an ac) wr from by
       have:=hR.1
       rwa [fK] at this)
      clear hR
      go_wp2_with fail
      go_meet
      exact HN.out
  case rest =>
  clear HL0
  have hbc:=hcut.below
  obtain⟨av,an,ac,rfl⟩:=hcut.slice
  have HRR:=HREST.out wc av an ac (by rw [HW0.out];exact hcut)
  rename_i K0 hK0
  refine hK0 _ _ ?_
  exact HRR _ _ _ _ _ _ _ _ _ _ _ _ _ _ _ _ _ _ _ _ _ _ _ _ _ _ _ _ _ _ _ _ _ _ _ _ _ _ _ _ _ _ _ _ _ _ _ _ _ _ _ _ _ _ _ _ _ _ _ _ _ _ _ _ _ _ _ _ _ _ _ _ _ _ _ _ _ _ _ _ _ _ _ _ _ _ _ _ _ _ _ _ _ _ _ _ _ _ _ _ _ _ _ _ _ _ _ _ _ _ _ _ _ _ _ _ _ _ _ _ _ _ _ _ _ _ _ _ _ _ _ _ _ _ _ _ _ _ _ _ _ _ _ _ _ _ _ _ _ _ _ _ _ _ _ _ _ _ _ _ _ _ _ _ _ _ _ _ _ _ _ _ _ _ _ _ _ _ _ _ _ _ _ _ _ _ _ _ _ _ _ _ _ _ _ _ _ _ _ _ _ _
end Go.Proofs.YtnlnmbcaongehaaGreatDoor
namespace Go.Proofs.YtnlnmbcaongehaaGreatDoor
open Go.RowKit
def Dis (evs:List Ev)(k:Nat):Prop:=∀ j x,j<k→evs[j]? =some x→(aT evs j x.id).isSome=false
theorem Dis.step {evs:List Ev} {k:Nat} {x:Ev} (h:Dis evs k)(hx:evs[k]? =some x)(hs:(aT evs k x.id).isSome=false):Dis evs (k+1):=by
 intro j y hj hy
 by_cases hk:j=k
 · subst hk
   obtain rfl:x=y:=Option.some.inj (hx.symm.trans hy)
   exact hs
 · exact h j y (by omega) hy
def putL:List Int→Int→List Int
 | [],id=>[id]
 | z::l,id=>if z<id then z::putL l id else if z=id then z::l else id::z::l
theorem Ints.cells {w:e_} {b off:Nat} {zs:List Int} (h:Ints w (some ⟨b,off,none⟩) zs):∀ (j:Nat)(u:fb),(zs.map (fQ .i64))[j]? =some u→w.cell? ⟨b,off+j,none⟩=some u:=by
 intro j u hu
 rw [List.getElem?_map] at hu
 obtain⟨z,hz,rfl⟩:=Option.map_eq_some_iff.1 hu
 rcases h with rfl|⟨b',off',he,_,hcc⟩
 · simp at hz
 · simp only [Option.some.injEq,Addr.mk.injEq,and_true] at he
   obtain⟨rfl,rfl⟩:=he
   have:=(hcc j z hz).1 0 _ rfl
   rw [show off+j*1+0=off+j by omega] at this
   exact this
def zgB (w:e_)(v:fb)(zs:List Int):Prop:=(v=.slice none 0 0∧zs=[])∨∃ b off cap,v=.slice (some ⟨b,off,none⟩) zs.length cap∧b<w.heap.size∧zs.length≤cap∧cap≤9223372036854775807∧Ints w (some ⟨b,off,none⟩) zs
theorem zgB.later {w w':e_} {v:fb} {zs:List Int} (h:zgB w v zs)(hb:fj w.heap.size w w'):zgB w' v zs:=by
 rcases h with h|⟨b,off,cap,h1,h2,h3,h5,h4⟩
 · exact .inl h
 · exact .inr ⟨b,off,cap,h1,fm h2 hb.size,h3,h5,h4.later hb⟩
theorem zgB.of_owns {w:e_} {base:Nat} {v:fb} {zs:List Int} (h:w.ownsRow base 2 1 v zs.length (zs.map (fQ .i64))):zgB w v zs:=by
 have h':=h
 rcases h.2 with⟨rfl,h0⟩|⟨g,cap,cur,rfl,hb,hg,hc,hm,_⟩
 · exact .inl ⟨rfl,fF h0⟩
 · obtain⟨a,c,he,hI⟩:=Ints.of_owns h'
   simp only [fR] at he
   obtain⟨rfl,_,rfl⟩:=he
   exact .inr ⟨g,0,cap,rfl,(fS.1 hg).1,hc,by simp only [maxLen] at hm;omega,hI⟩
def ziy (B:Nat)(w:e_)(v:fb)(zs:List Int):Prop:=zgB w v zs∧∀ b,v.ownBlock=some b→B≤b
theorem ziy.later {B:Nat} {w w':e_} {v:fb} {zs:List Int} (h:ziy B w v zs)(hb:fj w.heap.size w w'):ziy B w' v zs:=⟨h.1.later hb,h.2⟩
theorem ziy.of_owns {w:e_} {B base:Nat} {v:fb} {zs:List Int} (hB:B≤base)(h:w.ownsRow base 2 1 v zs.length (zs.map (fQ .i64))):ziy B w v zs:=⟨zgB.of_owns h,fun b hb=>fo hB (h.lt b hb).1⟩
def zd7:List Int→List Ev→List Int
 | zs,[]=>zs
 | zs,x::l=>zd7 (putL zs x.id) l
def zbp:List Int→List Cm→List Int
 | zs,[]=>zs
 | zs,x::l=>zbp (putL zs x.id) l
theorem zdx (id x:Int):∀ zs:List Int,x∈putL zs id↔x=id∨x∈zs
 | []=>by simp [putL]
 | z::l=>by
   have ih:=zdx id x l
   unfold putL
   split
   · rw [fw,ih,fw]
     constructor
     · rintro (h|h|h)
       · exact .inr (.inl h)
       · exact .inl h
       · exact .inr (.inr h)
     · rintro (h|h|h)
       · exact .inr (.inl h)
       · exact .inl h
       · exact .inr (.inr h)
   · split
     · rename_i h
       subst h
       rw [fw]
       constructor
       · exact fun h=>.inr h
       · rintro (h|h)
         · exact .inl h
         · exact h
     · rw [fw]
theorem zf2 (id:Int):∀ zs:List Int,zs.Pairwise (·<·)→(putL zs id).Pairwise (·<·)
 | [],_=>by simp [putL]
 | z::l,h=>by
   rw [ft] at h
   unfold putL
   split
   · rename_i hz
     rw [ft]
     refine⟨fun y hy=>?_,zf2 id l h.2⟩
     rcases(zdx id y l).1 hy with rfl|hy
     · exact hz
     · exact h.1 y hy
   · split
     · rw [ft];exact h
     · rename_i h1 h2
       rw [ft,ft]
       refine⟨fun y hy=>?_,h⟩
       rcases fw.1 hy with rfl|hy
       · omega
       · have:=h.1 y hy;omega
theorem zcl:∀ (evs:List Ev)(zs:List Int),zs.Pairwise (·<·)→(zd7 zs evs).Pairwise (·<·)
 | [],zs,h=>h
 | x::l,zs,h=>zcl l _ (zf2 x.id zs h)
theorem zck (y:Int):∀ (evs:List Ev)(zs:List Int),y∈zd7 zs evs↔y∈zs∨y∈evs.map (fun x:Ev=>x.id)
 | [],zs=>by simp [zd7]
 | x::l,zs=>by
   rw [zd7,zck y l,zdx,fD,fw]
   constructor
   · rintro ((h|h)|h)
     · exact .inr (.inl h)
     · exact .inl h
     · exact .inr (.inr h)
   · rintro (h|h|h)
     · exact .inl (.inr h)
     · exact .inl (.inl h)
     · exact .inr h
theorem zbo:∀ (cms:List Cm)(zs:List Int),zs.Pairwise (·<·)→(zbp zs cms).Pairwise (·<·)
 | [],zs,h=>h
 | x::l,zs,h=>zbo l _ (zf2 x.id zs h)
theorem zbn (y:Int):∀ (cms:List Cm)(zs:List Int),y∈zbp zs cms↔y∈zs∨y∈cms.map (fun x:Cm=>x.id)
 | [],zs=>by simp [zbp]
 | x::l,zs=>by
   rw [zbp,zbn y l,zdx,fD,fw]
   constructor
   · rintro ((h|h)|h)
     · exact .inr (.inl h)
     · exact .inl h
     · exact .inr (.inr h)
   · rintro (h|h|h)
     · exact .inl (.inr h)
     · exact .inl (.inl h)
     · exact .inr h
theorem zbz (zs:List Int):(fp (bn zs)).Pairwise (·<·)∧∀ x,x∈fp (bn zs)↔x∈zs:=by
 have hs:(bn zs).Pairwise (·≤·):=by
  have:=fG (le:=fun x y:Int=>decide (x≤y)) (fun a b c h1 h2=>by simp at *;omega) (fun a b=>by simp;omega) zs
  exact this.imp fun h=>by simpa using h
 obtain⟨h1,h2⟩:=zbc (α:=Int) (·≤·) (·<·) (fun a b h hn=>by omega) (fun a b c h h'=>by omega) (bn zs) hs
 refine⟨h1,fun x=>?_⟩
 rw [h2]
 exact fI
theorem zjB (a b:Doc):zd7 (zd7 [] a.evs) b.evs=zc4 a b:=by
 refine zgu (·<·) (fun a h=>by omega) (fun a b h h'=>by omega) _ _ (zcl _ _ (zcl _ _ fT)) (zbz _).1 fun x=>?_
 unfold zc4
 rw [zck,zck,(zbz _).2,fC,fA]
 simp
theorem zjG (a b:Doc):zbp (zbp [] a.cms) b.cms=zc9 a b:=by
 refine zgu (·<·) (fun a h=>by omega) (fun a b h h'=>by omega) _ _ (zbo _ _ (zbo _ _ fT)) (zbz _).1 fun x=>?_
 unfold zc9
 rw [zbn,zbn,(zbz _).2,fC,fA]
 simp
def putS:List ByteArray→ByteArray→List ByteArray
 | [],s=>[s]
 | z::l,s=>if Op.bytesLess z.toList s.toList=true then z::putS l s else if (z.toList==s.toList)=true then z::l else s::z::l
def dY:List ByteArray→List Reg→List ByteArray
 | zs,[]=>zs
 | zs,x::l=>dY (putS zs x.name) l
theorem ziU {a b:ByteArray} (h:a.toList=b.toList):a=b:=by
 rw [fq,fq] at h
 cases a;cases b
 congr 1
 exact Array.toList_inj.1 h
theorem zhF (a b:ByteArray):Op.bytesLess a.toList b.toList=true↔a.data.toList<b.data.toList:=by
 rw [bytesLess_eq,fq,fq]
 simp
theorem ziF (s:ByteArray):∀ zs:List ByteArray,zs.length≤(putS zs s).length∧(putS zs s).length≤zs.length+1
 | []=>by simp [putS]
 | z::l=>by
   have:=ziF s l
   unfold putS
   repeat' split
   all_goals simp only [fL];omega
def baLt (a b:ByteArray):Prop:=a.data.toList<b.data.toList
theorem zf1 (s x:ByteArray):∀ zs:List ByteArray,x∈putS zs s↔x=s∨x∈zs
 | []=>by simp [putS]
 | z::l=>by
   have ih:=zf1 s x l
   unfold putS
   split
   · rw [fw,ih,fw]
     constructor
     · rintro (h|h|h)
       · exact .inr (.inl h)
       · exact .inl h
       · exact .inr (.inr h)
     · rintro (h|h|h)
       · exact .inr (.inl h)
       · exact .inl h
       · exact .inr (.inr h)
   · split
     · rename_i h
       have h:=ziU (by simpa using h)
       subst h
       rw [fw]
       constructor
       · exact fun h=>.inr h
       · rintro (h|h)
         · exact .inl h
         · exact h
     · rw [fw]
theorem zgq {a b:List UInt8} (h1:¬ a<b)(h2:¬ a=b):b<a:=by
 rcases Classical.em (b<a) with h|h
 · exact h
 · exact absurd (List.le_antisymm (fH.1 h) (fH.1 h1)) h2
theorem ziG (s:ByteArray):∀ zs:List ByteArray,zs.Pairwise baLt→(putS zs s).Pairwise baLt
 | [],_=>by simp [putS]
 | z::l,h=>by
   rw [ft] at h
   unfold putS
   split
   · rename_i hz
     rw [ft]
     refine⟨fun y hy=>?_,ziG s l h.2⟩
     rcases(zf1 s y l).1 hy with rfl|hy
     · exact(zhF _ _).1 hz
     · exact h.1 y hy
   · split
     · rw [ft];exact h
     · rename_i h1 h2
       have hsz:baLt s z:=zgq (fun h=>h1 ((zhF _ _).2 h)) (fun h=>h2 (by rw [fq,fq,h];simp))
       rw [ft,ft]
       refine⟨fun y hy=>?_,h⟩
       rcases fw.1 hy with rfl|hy
       · exact hsz
       · exact fO hsz (h.1 y hy)
theorem zc0:∀ (rs:List Reg)(zs:List ByteArray),zs.Pairwise baLt→(dY zs rs).Pairwise baLt
 | [],zs,h=>h
 | x::l,zs,h=>zc0 l _ (ziG x.name zs h)
theorem zcY (y:ByteArray):∀ (rs:List Reg)(zs:List ByteArray),y∈dY zs rs↔y∈zs∨y∈rs.map (fun x:Reg=>x.name)
 | [],zs=>by simp [dY]
 | x::l,zs=>by
   rw [dY,zcY y l,zf1,fD,fw]
   constructor
   · rintro ((h|h)|h)
     · exact .inr (.inl h)
     · exact .inl h
     · exact .inr (.inr h)
   · rintro (h|h|h)
     · exact .inl (.inr h)
     · exact .inl (.inl h)
     · exact .inr h
theorem zcZ:∀ (rs:List Reg)(zs:List ByteArray),(dY zs rs).length≤zs.length+rs.length
 | [],zs=>by simp [dY]
 | x::l,zs=>by
   have h1:=zcZ l (putS zs x.name)
   have h2:=(ziF x.name zs).2
   rw [dY,fL]
   omega
theorem zdI (zs:List (List UInt8)):(fp (c_ zs)).Pairwise (·<·)∧∀ x,x∈fp (c_ zs)↔x∈zs:=by
 have hs:(c_ zs).Pairwise (·≤·):=by
  have:=fG (le:=fun x y:List UInt8=>decide (x≤y)) (fun a b c h1 h2=>by simp at *;exact List.le_trans h1 h2) (fun a b=>by simp;exact List.le_total a b) zs
  exact this.imp fun h=>by simpa using h
 obtain⟨h1,h2⟩:=zbc (α:=List UInt8) (·≤·) (·<·) (fun a b h hn=>zgq (fun h'=>absurd h' (fH.2 h)) (fun e=>hn e.symm)) (fun a b c h h'=>List.lt_of_le_of_lt h h') (c_ zs) hs
 refine⟨h1,fun x=>?_⟩
 rw [h2]
 exact fI
theorem zdN (a b:Doc):dY [] (a.rG++b.rG)=zaA a b:=by
 refine zgu baLt (fun a h=>fN _ h) (fun a b h h'=>fN _ (fO h h')) _ _ (zc0 _ _ fT) ?_ fun x=>?_
 · unfold zaA
   rw [List.pairwise_map]
   exact(zdI _).1.imp fun h=>by simpa [baLt] using h
 · unfold zaA
   rw [zcY]
   constructor
   · rintro (h|h)
     · simp at h
     · obtain⟨r,hr,rfl⟩:=fy.1 h
       exact fy.2 ⟨r.name.data.toList,((zdI _).2 _).2 (fy.2 ⟨r,hr,rfl⟩),by simp⟩
   · intro h
     obtain⟨l,hl,rfl⟩:=fy.1 h
     obtain⟨r,hr,rfl⟩:=fy.1 (((zdI _).2 _).1 hl)
     exact .inr (fy.2 ⟨r,hr,by simp⟩)
def encN (s:ByteArray):List fb:=[.string s]
abbrev Strs (w:e_)(a:Option Addr)(zs:List ByteArray):Prop:=ab 1 encN Flat w a zs
theorem ziQ (zs:List ByteArray):zs.flatMap encN=zs.map fP:=by
 induction zs with
 | nil=>rfl
 | cons z l ih=>rw [List.flatMap_cons,ih];rfl
theorem Strs.cells {w:e_} {b off:Nat} {zs:List ByteArray} (h:Strs w (some ⟨b,off,none⟩) zs):∀ (j:Nat)(u:fb),(zs.map fP)[j]? =some u→w.cell? ⟨b,off+j,none⟩=some u:=by
 intro j u hu
 rw [←ziQ] at hu
 exact cn (Ok:=Flat) (k:=1) (enc:=encN) (fun _=>rfl) h j u hu
def zix (B:Nat)(w:e_)(v:fb)(zs:List ByteArray):Prop:=((v=.slice none 0 0∧zs=[])∨∃ b off cap,v=.slice (some ⟨b,off,none⟩) zs.length cap∧b<w.heap.size∧zs.length≤cap∧cap≤9223372036854775807∧Strs w (some ⟨b,off,none⟩) zs)∧∀ b,v.ownBlock=some b→B≤b
theorem zix.later {B:Nat} {w w':e_} {v:fb} {zs:List ByteArray} (h:zix B w v zs)(hb:fj w.heap.size w w'):zix B w' v zs:=by
 refine⟨?_,h.2⟩
 rcases h.1 with h|⟨b,off,cap,h1,h2,h3,h5,h4⟩
 · exact .inl h
 · exact .inr ⟨b,off,cap,h1,fm h2 hb.size,h3,h5,ab.keeps Flat.keeps _ _ _ _ hb h4⟩
theorem zix.of_owns {w:e_} {B base:Nat} {v:fb} {zs:List ByteArray} (hB:B≤base)(h:w.ownsRow base 9 1 v zs.length (zs.map fP)):zix B w v zs:=by
 refine⟨?_,fun b hb=>fo hB (h.lt b hb).1⟩
 rw [←ziQ] at h
 obtain⟨a,c,he,hI⟩:=ax (k:=1) (enc:=encN) (Ok:=Flat) (fun _=>rfl) h (fun _ _=>trivial)
 rcases h.2 with⟨rfl,h0⟩|⟨g,cap,cur,rfl,hb,hg,hc,hm,_⟩
 · exact .inl ⟨rfl,fF h0⟩
 · simp only [fR] at he
   obtain⟨rfl,_,rfl⟩:=he
   exact .inr ⟨g,0,cap,rfl,(fS.1 hg).1,hc,by simp only [maxLen] at hm;omega,hI⟩
abbrev zmb:=cM 78 1 Row.enc Row.lies Row.uses
theorem Row.deep:Deep Row.lies Row.uses:=⟨fun x w w' h hs hb=>Row.frame h hs hb,fun x w b h hu=>Row.uses_lt h hu⟩
def eC (rows:List Row)(w:e_)(v:fb)(k:Nat)(wr:e_):Prop:=∃ zs:List Row,zs.length=k∧zs.map Row.runs=(rows.take k).map Row.runs∧zmb w.heap.size w v zs wr
theorem eC.done {rows:List Row} {w wr:e_} {v:fb} (h:eC rows w v rows.length wr):za0 rows w (.returned v) wr:=by
 obtain⟨zs,h1,h2,h3⟩:=h
 obtain⟨a,c,rfl,hS⟩:=cM.slice (k:=1) (enc:=Row.enc) (fun _=>rfl) h3
 refine⟨a,c,zs,rfl,hS,by rw [h2,fK],fun b hu=>?_,h3.2.2⟩
 rcases hu with⟨hne,ad,rfl,rfl⟩|⟨r,hr,hu⟩
 · exact(h3.1.lt _ rfl).1
 · exact((h3.2.1 r hr).2 b hu).2
theorem zi1 {α:Type} (xs:List α)(k:Nat)(x:α)(h:xs[k]? =some x):xs.take (k+1)=xs.take k++[x]:=by
 rw [List.take_add_one,h]
 rfl
theorem eC.push {rows:List Row} {w wr w1:e_} {v:fb} {k:Nat} {r:Row} {a2:Option Addr} {c2:Nat} (h:eC rows w v k wr)(hk:rows[k]? =some r)(hb:fj wr.heap.size wr w1)(hS:w1.ownsRow (wr.heap.size+1) 75 5 (.slice a2 r.runs.length c2) r.runs.length (r.runs.flatMap Run.enc)) :
 ∃ zs:List Row,zs.length=k∧w1.ownsRow w.heap.size 78 1 v k (zs.flatMap Row.enc)∧(∀ v' w2,w2.ownsRow w.heap.size 78 1 v' (k+1) (zs.flatMap Row.enc++[.slice a2 r.runs.length c2])→(w1.alloc (.cells #[.slice a2 r.runs.length c2] 78)).grownBy w2 v.ownBlock→(v'.ownBlock=v.ownBlock∨v'.ownBlock=some (w1.heap.size+1))→eC rows w v' (k+1) w2):=by
 obtain⟨zs,h1,h2,h3⟩:=h
 have h4:=cM.later Row.deep h3 (fk _) hb
 refine⟨zs,h1,h1▸h4.1,fun v' w2 hown hg hat=>⟨zs++[⟨a2,c2,r.runs⟩],by rw [fu,h1];rfl,?_,cM.push Row.deep h4 (fk _) rfl (by rw [h1];exact hown) hg hat ?_ ?_⟩⟩
 · rw [zi1 rows k r hk,fC,fC,h2]
   rfl
 · obtain⟨a3,c3,he,hS'⟩:=ax (k:=5) (enc:=Run.enc) (Ok:=Flat) (fun _=>rfl) hS (fun _ _=>trivial)
   simp only [fR] at he
   obtain⟨rfl,_,_⟩:=he
   exact hS'
 · rintro b ⟨hne,ad,had,rfl⟩
   have had:a2=some ad:=had
   subst had
   have h5:=(hS.lt ad.block rfl).1
   have h6:=h3.2.2.size
   refine⟨fun e=>?_,by omega⟩
   have:=(h3.1.lt _ e).2
   omega
end Go.Proofs.YtnlnmbcaongehaaGreatDoor
namespace Go.Proofs.YtnlnmbcaongehaaGreatDoor
open Go.RowKit
attribute [local go_sem ↓] fg fh
theorem zgd {x:Ev} {c:EvC} (h:x.c=c)(hc:c.rows.length≤4000000∧∀ r∈c.rows,r.length≤4000000):x.rows.length≤4000000∧∀ r∈x.rows,r.runs.length≤4000000:=by
 subst h
 simp only [Ev.c,fx,fy,forall_exists_index,and_imp] at hc
 exact⟨hc.1,fun r hr=>hc.2 _ r hr rfl⟩
theorem zih {xs:List Ev} (hf:∀ x∈xs,x.rows.length≤4000000∧∀ r∈x.rows,r.runs.length≤4000000)(p:Ev→Bool):((xs.find? p).getD aQ).c.rows.length≤4000000∧∀ r∈((xs.find? p).getD aQ).c.rows,r.length≤4000000:=by
 cases h:xs.find? p with
 | none=>exact⟨by simp [aQ,Ev.c],fun r hr=>by simp [aQ,Ev.c] at hr⟩
 | some x =>
   have:=hf x (List.mem_of_find?_eq_some h)
   simp only [Option.getD_some,Ev.c,fx,fy,forall_exists_index,and_imp]
   exact⟨this.1,fun r y hy e=>e▸this.2 y hy⟩
theorem zfk {a b:Doc} (hfa:a.fits)(hfb:b.fits):(zc4 a b).length≤8000000∧(zc9 a b).length≤8000000 :=
 ⟨cj _ _ (by unfold bn;rw [fz,fx,fu];have:=hfa.2.2.2.2.2.2.2.2.1;have:=hfb.2.2.2.2.2.2.2.2.1;omega),cj _ _ (by unfold bn;rw [fz,fx,fu];have:=hfa.2.2.2.2.2.2.2.2.2.2;have:=hfb.2.2.2.2.2.2.2.2.2.2;omega)⟩
end Go.Proofs.YtnlnmbcaongehaaGreatDoor
namespace Go.Proofs.YtnlnmbcaongehaaGreatDoor
open Go.RowKit
attribute [local go_sem ↓] fg fh
theorem zfC {α:Type} (eq:α→α→Bool)(h:∀ x,eq x x=true):∀ xs:List α,fr eq xs xs=true
 | []=>by rw [fr]
 | x::l=>by rw [fr,h x,zfC eq h l];rfl
theorem zja (x:Run):eM x x=true:=by simp [eM]
theorem zcc:∀ xs ys:List Row,xs.map Row.runs=ys.map Row.runs→cP xs ys=true
 | [],[],_=>by unfold cP;rw [fr]
 | [],y::l,h=>by simp at h
 | x::l,[],h=>by simp at h
 | x::l,y::m,h=>by
   simp only [fD,List.cons.injEq] at h
   have ih:=zcc l m h.2
   unfold cP at ih ⊢
   rw [fr,ih,eN,h.1,zfC eM zja]
   rfl
theorem zks (x y:Ev)(h:x.c=y.c):evEq x y=true:=by
 simp only [Ev.c,EvC.mk.injEq] at h
 obtain⟨h1,h2,h3,h4,h5,h6,h7⟩:=h
 unfold evEq
 rw [h1,h2,h3,h4,h5,h6,zcc _ _ h7]
 simp
theorem zho (x:Hd):hdEq x x=true:=by simp [hdEq]
theorem zfj (x:Reg):eF x x=true:=by simp [eF]
theorem zhB (x:Cm):cmEq x x=true:=by simp [cmEq]
def Chg.fits (x:Chg):Prop:=(x.oe.rows.length≤4000000∧∀ r∈x.oe.rows,r.runs.length≤4000000)∧(x.ne.rows.length≤4000000∧∀ r∈x.ne.rows,r.runs.length≤4000000)
abbrev zez (w:e_)(a:Option Addr)(xs:List Chg):Prop:=ab 59 Chg.enc Chg.lies w a xs
end Go.Proofs.YtnlnmbcaongehaaGreatDoor
namespace Go.Proofs.YtnlnmbcaongehaaGreatDoor
open Go.RowKit
theorem zjF (a b:Doc)(w:e_)(hE:Env w)(ha:a.lies w)(hb:b.lies w)(hfa:a.fits)(hfb:b.fits):Calls Tryz.prog 11 #[.agg a.enc.toArray,.agg b.enc.toArray] w (bm a b w):=by
 by_cases h0:az a=0
 · by_cases h1:az b=0
   · exact zl1 a b w hE ha hb hfa hfb h0 h1
   · exact zkx a b w hE ha hb hfa hfb h0 h1
 · exact zky a b w hE ha hb hfa hfb h0
def zeh (a b:Doc):Int:=if az a≠0 then az a else az b
def cV (a b:Doc):List ChgC:=if az a≠0 then [] else if az b≠0 then [] else chgs a b
def zb8 (a b:Doc)(w:e_)(e:Ending)(w':e_):Prop:=∃ (A:Option Addr) (xs:List Chg) (c:Nat),e=.returned (.tuple #[.slice A xs.length c,.int .i64 (zeh a b)])∧zez w' A xs∧xs.map Chg.c=cV a b∧fj w.heap.size w w'
theorem zb8.of {a b:Doc} {w:e_} (e:Ending)(w':e_)(h:bm a b w e w'):zb8 a b w e w':=by
 unfold bm at h
 unfold zb8 zeh cV
 by_cases h0:az a≠0
 · rw [if_pos h0] at h
   rw [if_pos h0,if_pos h0]
   exact⟨none,[],0,h.1,.inl rfl,rfl,h.2⟩
 · rw [if_neg h0] at h
   rw [if_neg h0,if_neg h0]
   by_cases h1:az b≠0
   · rw [if_pos h1] at h
     rw [if_pos h1]
     exact⟨none,[],0,h.1,.inl rfl,rfl,h.2⟩
   · rw [if_neg h1] at h
     rw [if_neg h1]
     obtain⟨v,xs,rfl,hG,hc⟩:=h
     obtain⟨A,c,rfl,hS⟩:=cM.slice (k:=59) (enc:=Chg.enc) Chg.len hG
     have h2:az b=0:=by simpa using h1
     exact⟨A,xs,c,by rw [h2],hS,hc,hG.2.2⟩
def EvOk (e:EvC):Prop:=e.rows.length≤4000000∧∀ r∈e.rows,r.length≤4000000
theorem eU:EvOk aY:=⟨by decide,fun r hr=>by simp [aY,aQ,Ev.c] at hr⟩
theorem zdB {a:Doc} (hfa:a.fits):∀ x∈a.evs,x.rows.length≤4000000∧∀ r∈x.rows,r.runs.length≤4000000:=fun x hx=>⟨(hfa.2.2.2.2.2.2.2.1 x hx).2.2.2.2.2.2.2.2,fun r hr=>((hfa.2.2.2.2.2.2.2.1 x hx).2.2.2.2.2.2.2.1 r hr).2.1⟩
theorem zl4 {a b:Doc} (hfa:a.fits)(hfb:b.fits):∀ c∈chgs a b,EvOk c.oe∧EvOk c.ne:=by
 intro c hc
 unfold chgs zfx at hc
 rcases fA.1 hc with hc|hc
 · unfold eP at hc
   split at hc
   · simp at hc
   · obtain rfl:=fB.1 hc
     exact⟨eU,eU⟩
 · rcases fA.1 hc with hc|hc
   · obtain⟨k,_,hc⟩:=fE.1 hc
     unfold bt at hc
     split at hc
     · obtain rfl:=fB.1 hc
       exact⟨eU,eU⟩
     · simp at hc
   · rcases fA.1 hc with hc|hc
     · obtain⟨k,_,hc⟩:=fE.1 hc
       unfold eu at hc
       split at hc
       · obtain rfl:=fB.1 hc
         exact⟨zih (zdB hfa) _,zih (zdB hfb) _⟩
       · simp at hc
     · obtain⟨k,_,hc⟩:=fE.1 hc
       unfold za2 at hc
       split at hc
       · obtain rfl:=fB.1 hc
         exact⟨eU,eU⟩
       · simp at hc
theorem zlu {a b:Doc} (hfa:a.fits)(hfb:b.fits):(chgs a b).length≤40000000:=by
 unfold chgs zfx
 rw [fu,fu,fu]
 have h1:=zcq a.hd b.hd
 have h2:=zaG (bt a.rG b.rG) (fun x=>zb0 _ _ _) (zaA a b)
 have h3:=zaG (eu a.evs b.evs) (fun x=>zgm _ _ _) (zc4 a b)
 have h4:=zaG (za2 a.cms b.cms) (fun x=>ziS _ _ _) (zc9 a b)
 have h5:=zcZ (a.rG++b.rG) []
 rw [zdN,fu,fM] at h5
 have h6:=(zfk hfa hfb).1
 have h7:=(zfk hfa hfb).2
 have:=hfa.2.2.2.2.2.2.1
 have:=hfb.2.2.2.2.2.2.1
 omega
theorem zlR {a b:Doc} (hfa:a.fits)(hfb:b.fits) {xs:List Chg} (h:xs.map Chg.c=cV a b):(∀ x∈xs,x.fits)∧xs.length≤40000000:=by
 have hs:cV a b=[]∨cV a b=chgs a b:=by
  unfold cV
  split
  · exact .inl rfl
  · split
    · exact .inl rfl
    · exact .inr rfl
 refine⟨fun x hx=>?_,?_⟩
 · have hm:x.c∈cV a b:=h▸fy.2 ⟨x,hx,rfl⟩
   rcases hs with hs|hs
   · rw [hs] at hm
     simp at hm
   · rw [hs] at hm
     obtain⟨h1,h2⟩:=zl4 hfa hfb _ hm
     exact⟨zgd (x:=x.oe) rfl h1,zgd (x:=x.ne) rfl h2⟩
 · have hl:=congrArg List.length h
   rw [fx] at hl
   rcases hs with hs|hs
   · rw [hs,fM] at hl
     omega
   · rw [hs] at hl
     have:=zlu hfa hfb
     omega
end Go.Proofs.YtnlnmbcaongehaaGreatDoor
