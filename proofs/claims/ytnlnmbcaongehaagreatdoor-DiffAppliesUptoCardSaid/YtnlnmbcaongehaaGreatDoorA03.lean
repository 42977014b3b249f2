/- The contract of the reference's checkComment, the comments behind the first one. The contract of the reference's Check of documents: the same specification as the program's. The contracts of the reference's put and Events: the IDs of two documents, ascending. The contract of the reference's Names: the names of the regions of two documents, ascending. (printed by gen_names.py) -/
import Derived.Test.YtnlnmbcaongehaaGreatDoorA02
import Derived.Test.YtnlnmbcaongehaaGreatDoorB09
set_option linter.unusedVariables false
set_option linter.unusedSimpArgs false
set_option maxRecDepth 100000
set_option maxHeartbeats 12800000
open Go.Lib renaming hid→h_
open Go renaming World→e_,Value→fb
open Go.Proofs.Tryz renaming ntmps103→fe,ntmps44→ff,func103→fg,func44→fh,prog→fi
open Go.RowKit renaming Below→fj
open List renaming mem_of_getElem?→fk,getElem?_eq_some_iff→fm
open Option.some renaming inj→fo
open Nat renaming add_zero→fp,le_refl→fq,zero_le→fr
namespace Go.Proofs.YtnlnmbcaongehaaGreatDoor
open Go.RowKit
theorem zdi (d:Doc)(k:Nat)(c:Cm)(w:e_)(hE:Env w)(hd:d.lies w)(hfd:d.fits)(hk:d.cms[k]? =some c)(p:Cm)(hk0:1≤k)(hpk:d.cms[k-1]? =some p)(hnb:bT (aA d.cms k) c=decide (c.id≤p.id)) :
 Calls fi 103 #[.agg d.enc.toArray,.int .i64 k] w fun e w'=>e=.returned (.int .i64 (di d.last (posF d.evs) d.evs (aA d.cms k) c))∧fj w.heap.size w w':=by
 have hcs:=zgl d.last (posF d.evs) d.evs (aA d.cms k) c _ rfl
 have has:=zcu d.last (posF d.evs) d.evs c (zj3 d.evs)
 have hkl:k<d.cms.length:=(fm.1 hk).1
 have hfc:=hfd.2.2.2.2.2.2.2.2.2.1 c (fk hk)
 have hlc:=hfd.2.2.2.2.2.2.2.2.2.2
 have hle:=hfd.2.2.2.2.2.2.2.2.1
 have hfe:=hfd.2.2.2.2.2.2.2.1
 have hF:=fun(id:Int) (w1:e_) (h:fj w.heap.size w w1)=>cK d id w1 (hd.2.1.later h) hle
 generalize di d.last (posF d.evs) d.evs (aA d.cms k) c=G at *
 generalize bw d.last (posF d.evs) d.evs c=A at *
 obtain⟨bb,off,c',hca,hbl,hc',hcc,_⟩:=hd.2.2.at_ hkl
 obtain rfl:c'=c:=fo (hc'.symm.trans hk)
 have hkd:decide (0<k)=true:=by simp;omega
 have hk1:(k:Int)-1<(d.cms.length:Int):=by omega
 have hkz:(1:Int)≤(k:Int):=by omega
 have hwr:IntKind.i64.wrap ((k:Int)-1)=(k:Int)-1:=IntWalk.i64_in _ (by omega)
 have hkn:((k:Int)-1).toNat=k-1:=by omega
 obtain⟨bb',off',p',hca',_,hp',hpc,_⟩:=hd.2.2.at_ (show k-1<d.cms.length by omega)
 obtain rfl:p'=p:=fo (hp'.symm.trans hpk)
 obtain⟨rfl,rfl⟩:bb=bb'∧off=off':=by rw [hca] at hca';simpa using hca'
 have pid:=hpc 0 _ rfl
 simp only [fp] at pid
 generalize p'.id=PID at *
 clear hpc hp' hpk hca' 
 have HEV:=h_ hd.2.1
 obtain⟨title,lA,rate,drop,last,ra,rc,rG,ea,ec,evs,ca,cc,cms⟩:=d
 simp only at hca
 subst hca
 obtain⟨_,hi2,hi3,hi4,hs1,hs2⟩:=hfc
 obtain⟨id,ev,frm,til,author,text,done,lost⟩:=c'
 simp only at hcs has hi2 hi3 hi4 hs1 hs2 hle hlc hfe hkl HEV
 have d0:=hcc 0 _ rfl;have d1:=hcc 1 _ rfl;have d2:=hcc 2 _ rfl;have d3:=hcc 3 _ rfl;have d4:=hcc 4 _ rfl;have d5:=hcc 5 _ rfl;have d6:=hcc 6 _ rfl;have d7:=hcc 7 _ rfl
 simp only [fp] at d0 d1 d2 d3 d4 d5 d6 d7
 simp only [Doc.enc] at hF ⊢
 generalize hds:#[fb.string title,.string lA,.int .u8 rate,.bool drop,.int .i64 last,.slice ra rG.length rc,.slice ea evs.length ec,.slice (some ⟨bb,off,none⟩) cms.length cc]=ds at *
 generalize hqs:#[fb.int .i64 id,.int .i64 ev,.int .i64 frm,.int .i64 til,.string author,.string text,.bool done,.bool lost]=qs
 have f0:=ah w ds qs 27 52 0 (.string title) (by rw [←hds];rfl)
 have f1:=ah w ds qs 27 52 1 (.string lA) (by rw [←hds];rfl)
 have f2:=ah w ds qs 27 52 2 (.int .u8 rate) (by rw [←hds];rfl)
 have f3:=ah w ds qs 27 52 3 (.bool drop) (by rw [←hds];rfl)
 have f4:=ah w ds qs 27 52 4 (.int .i64 last) (by rw [←hds];rfl)
 have f5:=ah w ds qs 27 52 5 (.slice ra rG.length rc) (by rw [←hds];rfl)
 have f6:=ah w ds qs 27 52 6 (.slice ea evs.length ec) (by rw [←hds];rfl)
 have f7:=ah w ds qs 27 52 7 (.slice (some ⟨bb,off,none⟩) cms.length cc) (by rw [←hds];rfl)
 have g0:=aj w ds qs 27 52 0 (.int .i64 id) (by rw [←hqs];rfl)
 have g1:=aj w ds qs 27 52 1 (.int .i64 ev) (by rw [←hqs];rfl)
 have g2:=aj w ds qs 27 52 2 (.int .i64 frm) (by rw [←hqs];rfl)
 have g3:=aj w ds qs 27 52 3 (.int .i64 til) (by rw [←hqs];rfl)
 have g4:=aj w ds qs 27 52 4 (.string author) (by rw [←hqs];rfl)
 have g5:=aj w ds qs 27 52 5 (.string text) (by rw [←hqs];rfl)
 have g7:=aj w ds qs 27 52 7 (.bool lost) (by rw [←hqs];rfl)
 have HB:=h_ (fun(w1:e_) (h:fj (w.heap.size+2) ((w.alloc (.cells ds 27)).alloc (.cells qs 52)) w1)=>aR h)
 have hb0:fj (w.heap.size+2) ((w.alloc (.cells ds 27)).alloc (.cells qs 52)) ((w.alloc (.cells ds 27)).alloc (.cells qs 52)):=fj.refl _ _
 have hsz:((w.alloc (.cells ds 27)).alloc (.cells qs 52)).heap.size=w.heap.size+2:=by simp
 have p0:∀ w1,fj (w.heap.size+2) ((w.alloc (.cells ds 27)).alloc (.cells qs 52)) w1→w1.cell? ⟨bb,off+(k-1)*8,none⟩=some (.int .i64 PID):=fun w1 h=>((aR h).cell (p:=⟨bb,off+(k-1)*8,none⟩) hbl).trans pid
 generalize hW0:(w.alloc (.cells ds 27)).alloc (.cells qs 52)=W0 at *
 have HW0:=h_ hW0
 have HSZ:=h_ hsz
 have HT0:=h_ (fun(w2 w3:e_) (h:fj (w.heap.size+2) W0 w2) (h3:fj w2.heap.size w2 w3)=>h.trans (h3.mono (by have:=h.size;rw [hsz] at this;exact this)))
 have HF:=h_ hF
 have HFE:=h_ hfe
 have HAS:=h_ has
 have HEN:=h_ (fun(w1:e_) (h:fj (w.heap.size+2) W0 w1)=>hE.below (HB.out _ h) (fq _))
 have HNM:=h_ (fun w1=>cQ author w1 hs1)
 have HVA:=h_ (fun w1=>cD text w1 hs2)
 have HCS:=h_ hcs
 clear hW0 hsz hF hfe hd hfd hE hcc hc' hk has hcs
 generalize bW author=NB at *
 generalize bf text=VB at *
 rcases HCS.out with⟨rfl,h1⟩|⟨rfl,h1,h2⟩|⟨h1,h2,hcs⟩
 · clear HCS HAS
   go_enter fg,fe
   subst hds
   subst hqs
   go_wp2_with fail
   rw [HW0.out]
   go_ret
   exact⟨rfl,HB.out _ hb0⟩
 · clear HCS HAS
   go_enter fg,fe
   subst hds
   subst hqs
   go_wp2_with fail
   rw [HW0.out]
   go_ret
   exact⟨rfl,HB.out _ hb0⟩
 · have HCS2:=h_ hcs
   clear HCS hcs
   rcases HCS2.out with⟨hb,rfl⟩|⟨hb,hcs⟩
   · rw [hnb] at hb
     have hlt:decide (id≤PID)=true:=hb
     clear HCS2 hnb HAS
     go_enter fg,fe
     subst hds
     subst hqs
     go_wp2_with fail
     rw [HW0.out]
     go_quiet (fail)
     go_wp2_with fail
     go_ret
     exact⟨rfl,HB.out _ (below_drewN hb0 _)⟩
   · rw [hnb] at hb
     have hlt:decide (id≤PID)=false:=hb
     clear HCS2 hnb hb
     go_enter fg,fe
     subst hds
     subst hqs
     go_wp2_with fail
     rw [HW0.out]
     go_quiet (fail)
     go_wp2_with fail
     have hq0:=below_drewN hb0
     clear p0
     refine(HF.out id _ (HB.out _ (hq0 _))).mono ?_
     rintro e w1 ⟨rfl,hb1⟩
     have hc1:=HT0.out _ _ (hq0 _) hb1
     clear hb1
     rcases hcs with⟨hs,rfl⟩|⟨hs,hcs⟩
     · have hp1:decide (0≤posOf (bl id) evs)=true:=by rw [←zae];exact hs
       clear hs HAS
       go_wp2_with fail
       go_ret
       exact⟨rfl,HB.out _ hc1⟩
     · have hp1:decide (0≤posOf (bl id) evs)=false:=by rw [←zae];exact hs
       clear hs
       rcases HAS.out with⟨rfl,a1⟩|⟨rfl,a1,a2⟩|⟨a1,a2,⟨rfl,⟨rfl,a3⟩|⟨rfl,rfl,a3⟩|⟨rfl,rfl,rfl⟩⟩|⟨rfl,⟨hq,rfl⟩|⟨i,x,hq,hi,hx,hcx⟩⟩⟩
       · obtain rfl:G=2:=by rcases hcs with⟨_,h⟩|⟨h,_⟩;exact h;cases h
         clear HAS hcs
         go_wp2_with fail
         go_ret
         exact⟨rfl,HB.out _ hc1⟩
       · obtain rfl:G=2:=by rcases hcs with⟨_,h⟩|⟨h,_⟩;exact h;cases h
         clear HAS hcs
         go_wp2_with fail
         go_ret
         exact⟨rfl,HB.out _ hc1⟩
       · obtain rfl:G=2:=by rcases hcs with⟨_,h⟩|⟨h,_⟩;exact h;cases h
         have a3d:(frm != 0)=true:=by simpa using a3
         clear HAS hcs a3
         go_wp2_with fail
         go_ret
         exact⟨rfl,HB.out _ hc1⟩
       · obtain rfl:G=2:=by rcases hcs with⟨_,h⟩|⟨h,_⟩;exact h;cases h
         have a3d:(til != 0)=true:=by simpa using a3
         clear HAS hcs a3
         go_wp2_with fail
         go_ret
         exact⟨rfl,HB.out _ hc1⟩
       · obtain⟨_,htail⟩:_∧_:=by rcases hcs with⟨h,_⟩|h;cases h;exact h
         clear HAS hcs
         have hcx:=hc1
         clear f0 f1 f2 f3 f5 f6 f7
         rcases htail with⟨rfl,rfl⟩|⟨rfl,⟨rfl,rfl⟩|⟨rfl,⟨he,rfl⟩|⟨he,⟨hz,rfl⟩|⟨hz,rfl⟩⟩⟩⟩
         · go_wp2_with (first
            | (go_at_call 171;refine(HNM.out _).mono ?_;rintro e w8 ⟨rfl,rfl⟩)
            | (go_at_call 170;refine(HVA.out _).mono ?_;rintro e w9 ⟨rfl,hb9⟩;have hc9:=HT0.out _ _ hcx hb9;clear hb9))
           go_ret
           exact⟨rfl,HB.out _ hc1⟩
         · go_wp2_with (first
            | (go_at_call 171;refine(HNM.out _).mono ?_;rintro e w8 ⟨rfl,rfl⟩)
            | (go_at_call 170;refine(HVA.out _).mono ?_;rintro e w9 ⟨rfl,hb9⟩;have hc9:=HT0.out _ _ hcx hb9;clear hb9))
           go_ret
           exact⟨rfl,HB.out _ hc9⟩
         · have he2:text.toList.isEmpty=true:=by simpa using he
           go_wp2_with (first
            | (go_at_call 171;refine(HNM.out _).mono ?_;rintro e w8 ⟨rfl,rfl⟩)
            | (go_at_call 170;refine(HVA.out _).mono ?_;rintro e w9 ⟨rfl,hb9⟩;have hc9:=HT0.out _ _ hcx hb9;clear hb9))
           go_ret
           exact⟨rfl,HB.out _ hc9⟩
         · have he2:text.toList.isEmpty=false:=by simpa using he
           go_wp2_with (first
            | (go_at_call 171;refine(HNM.out _).mono ?_;rintro e w8 ⟨rfl,rfl⟩)
            | (go_at_call 170;refine(HVA.out _).mono ?_;rintro e w9 ⟨rfl,hb9⟩;have hc9:=HT0.out _ _ hcx hb9;clear hb9))
           go_ret
           exact⟨rfl,HB.out _ hc9⟩
         · have he2:text.toList.isEmpty=false:=by simpa using he
           have hz2:decide ((400:Int)<(text.size:Int))=false:=by simp;omega
           go_wp2_with (first
            | (go_at_call 171;refine(HNM.out _).mono ?_;rintro e w8 ⟨rfl,rfl⟩)
            | (go_at_call 170;refine(HVA.out _).mono ?_;rintro e w9 ⟨rfl,hb9⟩;have hc9:=HT0.out _ _ hcx hb9;clear hb9))
           go_ret
           exact⟨rfl,HB.out _ hc9⟩
       · obtain rfl:G=6:=by rcases hcs with⟨_,h⟩|⟨h,_⟩;exact h;cases h
         have hp2:=zg2 hq
         clear HAS hcs hq
         go_wp2_with fail
         refine(HF.out ev _ (HB.out _ hc1)).mono ?_
         rintro e w2 ⟨rfl,hb2⟩
         have hc2:=HT0.out _ _ hc1 hb2
         clear hb2
         go_wp2_with fail
         go_ret
         exact⟨rfl,HB.out _ hc2⟩
       · have hp2:=zg1 hq
         have HF2:=h_ (HF.out ev)
         rw [hp2] at HF2
         clear HAS hq hp2
         obtain⟨eb,eo,x',hea,hebl,hx',hxc,hok⟩:=HEV.out.at_ hi
         subst hea
         obtain rfl:x'=x:=fo (hx'.symm.trans hx)
         have hfx:=HFE.out x' (fk hx)
         have HLen:=h_ (fun(w3:e_) (h:fj (w.heap.size+2) W0 w3)=>(za9 x' w3 (HEN.out _ h) (Ev.keeps _ _ _ (HB.out _ h) hok) hfx).mono (fun e w' (q:e=.returned (.int .i64 (eG x'.rows))∧fj w3.heap.size w3 w')=>(show e=.returned (.int .i64 (eG x'.rows))∧fj (w.heap.size+2) W0 w' from⟨q.1,HT0.out _ _ h q.2⟩)))
         have hxd:∀ j v,x'.enc[j]? =some v→∀ w3,fj (w.heap.size+2) W0 w3→w3.cell? ⟨eb,eo+i*7+j,none⟩=some v:=fun j v hv w3 h=>by
          rw [(HB.out _ h).cell (p:=⟨eb,eo+i*7+j,none⟩) hebl]
          exact hxc j v hv
         clear hx hx' hxc hok hfx
         obtain⟨xid,xin,xout,xreg,xkind,xsp,xa,xc,xrows⟩:=x'
         have e0:=hxd 0 _ rfl;have e1:=hxd 1 _ rfl;have e2:=hxd 2 _ rfl;have e3:=hxd 3 _ rfl;have e4:=hxd 4 _ rfl;have e5:=hxd 5 _ rfl;have e6:=hxd 6 _ rfl
         simp only [fp] at e0
         simp only [Ev.enc] at HLen hcx
         generalize eG xrows=L at *
         clear hxd
         rcases hcx with⟨rfl,h3⟩|⟨rfl,h3,h4⟩|⟨h3,h4,⟨rfl,h5⟩|⟨rfl,h5⟩⟩
         · obtain rfl:G=2:=by rcases hcs with⟨_,h⟩|⟨h,_⟩;exact h;cases h
           have h3d:decide (frm<0)=true:=by simp;omega
           clear HLen hcs
           go_wp2_with fail
           refine(HF2.out _ (HB.out _ hc1)).mono ?_
           rintro e w2 ⟨rfl,hb2⟩
           have hc2:=HT0.out _ _ hc1 hb2
           clear hb2
           go_wp2_with fail
           go_quiet (fail)
           go_wp2_with fail
           go_ret
           exact⟨rfl,HB.out _ (below_drewN hc2 _)⟩
         · obtain rfl:G=2:=by rcases hcs with⟨_,h⟩|⟨h,_⟩;exact h;cases h
           have h3d:decide (frm<0)=false:=by simp;omega
           have h4d:decide (til≤frm)=true:=by simp;omega
           clear HLen hcs
           go_wp2_with fail
           refine(HF2.out _ (HB.out _ hc1)).mono ?_
           rintro e w2 ⟨rfl,hb2⟩
           have hc2:=HT0.out _ _ hc1 hb2
           clear hb2
           go_wp2_with fail
           go_quiet (fail)
           go_wp2_with fail
           go_ret
           exact⟨rfl,HB.out _ (below_drewN hc2 _)⟩
         · obtain rfl:G=2:=by rcases hcs with⟨_,h⟩|⟨h,_⟩;exact h;cases h
           have h3d:decide (frm<0)=false:=by simp;omega
           have h4d:decide (til≤frm)=false:=by simp;omega
           have h5d:decide (L<til)=true:=by simp;omega
           clear hcs
           go_wp2_with fail
           refine(HF2.out _ (HB.out _ hc1)).mono ?_
           rintro e w2 ⟨rfl,hb2⟩
           have hc2:=HT0.out _ _ hc1 hb2
           clear hb2
           go_wp2_with fail
           have hb0d:fj (w.heap.size+2) W0 w2.drew:=hc2.drew
           go_region_held3 (fun w'=>fj (w.heap.size+2) W0 w') (first|assumption|exact hb0d) (first|(go_at_call 182;((with_reducible refine(HLen.out _ ?_).mono ?_);assumption);rintro e w3 ⟨rfl,hb3⟩))
           all_goals
            go_wp2_with fail
            go_ret
            exact⟨rfl,HB.out _ (by assumption)⟩
         · obtain⟨_,htail⟩:_∧_:=by rcases hcs with⟨h,_⟩|h;cases h;exact h
           have h3d:decide (frm<0)=false:=by simp;omega
           have h4d:decide (til≤frm)=false:=by simp;omega
           have h5d:decide (L<til)=false:=by simp;omega
           clear hcs
           go_wp2_with fail
           refine(HF2.out _ (HB.out _ hc1)).mono ?_
           rintro e w2 ⟨rfl,hb2⟩
           have hc2:=HT0.out _ _ hc1 hb2
           clear hb2
           go_wp2_with fail
           have hb0d:fj (w.heap.size+2) W0 w2.drew:=hc2.drew
           go_region_held3 (fun w'=>fj (w.heap.size+2) W0 w') (first|assumption|exact hb0d) (first|(go_at_call 182;((with_reducible refine(HLen.out _ ?_).mono ?_);assumption);rintro e w3 ⟨rfl,hb3⟩))
           all_goals
            clear e0 e1 e2 e3 e4 e5 e6 f0 f1 f2 f3 f4 f5 f6 f7 g0 g1 g2 g3 g7
            rcases htail with⟨rfl,rfl⟩|⟨rfl,⟨rfl,rfl⟩|⟨rfl,⟨he,rfl⟩|⟨he,⟨hz,rfl⟩|⟨hz,rfl⟩⟩⟩⟩
            · go_wp2_with (first
               | (go_at_call 171;refine(HNM.out _).mono ?_;rintro e w8 ⟨rfl,rfl⟩)
               | (go_at_call 170;refine(HVA.out _).mono ?_;rintro e w9 ⟨rfl,hb9⟩;have hc9:=HT0.out _ _ (by assumption) hb9;clear hb9))
              go_ret
              exact⟨rfl,HB.out _ (by assumption)⟩
            · go_wp2_with (first
               | (go_at_call 171;refine(HNM.out _).mono ?_;rintro e w8 ⟨rfl,rfl⟩)
               | (go_at_call 170;refine(HVA.out _).mono ?_;rintro e w9 ⟨rfl,hb9⟩;have hc9:=HT0.out _ _ (by assumption) hb9;clear hb9))
              go_ret
              exact⟨rfl,HB.out _ hc9⟩
            · have he2:text.toList.isEmpty=true:=by simpa using he
              go_wp2_with (first
               | (go_at_call 171;refine(HNM.out _).mono ?_;rintro e w8 ⟨rfl,rfl⟩)
               | (go_at_call 170;refine(HVA.out _).mono ?_;rintro e w9 ⟨rfl,hb9⟩;have hc9:=HT0.out _ _ (by assumption) hb9;clear hb9))
              go_ret
              exact⟨rfl,HB.out _ hc9⟩
            · have he2:text.toList.isEmpty=false:=by simpa using he
              go_wp2_with (first
               | (go_at_call 171;refine(HNM.out _).mono ?_;rintro e w8 ⟨rfl,rfl⟩)
               | (go_at_call 170;refine(HVA.out _).mono ?_;rintro e w9 ⟨rfl,hb9⟩;have hc9:=HT0.out _ _ (by assumption) hb9;clear hb9))
              go_ret
              exact⟨rfl,HB.out _ hc9⟩
            · have he2:text.toList.isEmpty=false:=by simpa using he
              have hz2:decide ((400:Int)<(text.size:Int))=false:=by simp;omega
              go_wp2_with (first
               | (go_at_call 171;refine(HNM.out _).mono ?_;rintro e w8 ⟨rfl,rfl⟩)
               | (go_at_call 170;refine(HVA.out _).mono ?_;rintro e w9 ⟨rfl,hb9⟩;have hc9:=HT0.out _ _ (by assumption) hb9;clear hb9))
              go_ret
              exact⟨rfl,HB.out _ hc9⟩
theorem zdk (d:Doc)(k:Nat)(c:Cm)(w:e_)(hE:Env w)(hd:d.lies w)(hfd:d.fits)(hk:d.cms[k]? =some c) :
 Calls fi 103 #[.agg d.enc.toArray,.int .i64 k] w fun e w'=>e=.returned (.int .i64 (di d.last (posF d.evs) d.evs (aA d.cms k) c))∧fj w.heap.size w w':=by
 rcases zdY d.cms k c (fm.1 hk).1 with⟨h0,hn⟩|⟨h0,p,hp,hn⟩
 · exact zdj d k c w hE hd hfd hk h0 hn
 · exact zdi d k c w hE hd hfd hk p h0 hp hn
theorem zad {α:Type} (p:α→Bool):∀ (xs:List α)(i k:Nat),bj p xs i=(k:Int)→∀ j y,i+j<k→xs[j]? =some y→p y=false
 | [],i,k,h,j,y,_,hy=>by simp at hy
 | z::l,i,k,h,j,y,hj,hy=>by
   unfold bj at h
   split at h
   · omega
   · rename_i hz
     cases j with
     | zero =>
       obtain rfl:z=y:=by simpa using hy
       simpa using hz
     | succ j=>exact zad p l (i+1) k h j y (by omega) (by simpa using hy)
theorem zac {α:Type} (p:α→Bool):∀ (xs:List α)(i k:Nat),bj p xs i=(k:Int)→i≤k→∃ x,xs[k-i]? =some x∧p x=true
 | [],i,k,h,_=>by simp only [bj] at h;omega
 | y::l,i,k,h,hk=>by
   unfold bj at h
   split at h
   · rename_i hp
     obtain rfl:i=k:=by omega
     exact⟨y,by simp,hp⟩
   · rcases zcg p l (i+1) with hb|hb
     · omega
     · obtain⟨x,hx,hp⟩:=zac p l (i+1) k h (by omega)
       refine⟨x,?_,hp⟩
       rw [show k-i=(k-(i+1))+1 by omega]
       simpa using hx
theorem zaE {α:Type} (p:α→Bool):∀ (xs:List α)(i:Nat),bj p xs i<0→∀ (j:Nat)(y:α),xs[j]? =some y→p y=false
 | [],i,h,j,y,hy=>by simp at hy
 | z::l,i,h,j,y,hy=>by
   unfold bj at h
   split at h
   · omega
   · rename_i hz
     cases j with
     | zero =>
       obtain rfl:z=y:=by simpa using hy
       simpa using hz
     | succ j=>exact zaE p l (i+1) h j y (by simpa using hy)
theorem zdv (evs:List Ev):∀ k y i,aT evs k y=some i→i<k∧∃ x,evs[i]? =some x∧x.id=y
 | 0,y,i,h=>by simp [aT] at h
 | k+1,y,i,h=>by
   simp only [aT] at h
   split at h
   · have:=zdv evs k y i h
     exact⟨by omega,this.2⟩
   · rename_i x hx
     split at h
     · rename_i hy
       obtain rfl:k=i:=by simpa using h
       exact⟨by omega,x,hx,hy.symm⟩
     · have:=zdv evs k y i h
       exact⟨by omega,this.2⟩
theorem zaR (evs:List Ev):∀ k y j x,j<k→evs[j]? =some x→x.id=y→(aT evs k y).isSome=true
 | 0,y,j,x,h,_,_=>by omega
 | k+1,y,j,x,h,hx,hy=>by
   simp only [aT]
   by_cases hj:j=k
   · subst hj
     rw [hx]
     simp [hy]
   · split
     · exact zaR evs k y j x (by omega) hx hy
     · split
       · rfl
       · exact zaR evs k y j x (by omega) hx hy
theorem zle (evs:List Ev)(k:Nat)(x:Ev)(hx:evs[k]? =some x):(posOf (bl x.id) evs != (k:Int))=(aT evs k x.id).isSome:=by
 have h0:0≤posOf (bl x.id) evs:=by
  rcases zdy (bl x.id) evs with hb|hb
  · have:=zaE (bl x.id) evs 0 (show bj (bl x.id) evs 0<0 by unfold posOf at hb;omega) k x hx
    simp [bl] at this
  · exact hb.1
 obtain⟨n,hn⟩:∃ n:Nat,posOf (bl x.id) evs=(n:Int):=⟨(posOf (bl x.id) evs).toNat,by omega⟩
 obtain⟨y,hy,hp⟩:=zac (bl x.id) evs 0 n hn (fr _)
 have hyid:y.id=x.id:=by simpa [bl] using hp
 have hfst:=zad (bl x.id) evs 0 n hn
 have hnk:n≤k:=by
  by_cases hlt:k<n
  · have:=hfst k x (by omega) hx
    simp [bl] at this
  · omega
 rw [hn]
 cases hs:aT evs k x.id with
 | none =>
   have:n=k:=by
    by_cases hlt:n<k
    · have:=zaR evs k x.id n y hlt (by simpa using hy) hyid
      rw [hs] at this
      cases this
    · omega
   subst this
   simp
 | some i =>
   obtain⟨hi,z,hz,hzid⟩:=zdv evs k x.id i hs
   have:¬ n=k:=by
    rintro rfl
    have:=hfst i z (by omega) hz
    simp [bl,hzid] at this
   simp only [Option.isSome_some,bne_iff_ne,ne_eq]
   omega
theorem zj2 (evs:List Ev)(h:Dis evs evs.length):posF evs=aT evs evs.length:=by
 funext y
 cases hs:aT evs evs.length y with
 | none =>
   unfold posF
   rw [if_pos]
   rcases zdy (bl y) evs with hb|hb
   · omega
   · obtain⟨n,hn⟩:∃ n:Nat,posOf (bl y) evs=(n:Int):=⟨(posOf (bl y) evs).toNat,by omega⟩
     obtain⟨x,hx,hp⟩:=zac (bl y) evs 0 n hn (fr _)
     have:=zaR evs evs.length y n x (by omega) (by simpa using hx) (by simpa [bl] using hp)
     rw [hs] at this
     cases this
 | some i =>
   obtain⟨hi,z,hz,hzid⟩:=zdv evs evs.length y i hs
   have h0:0≤posOf (bl y) evs:=by
    rcases zdy (bl y) evs with hb|hb
    · have:=zaE (bl y) evs 0 (show bj (bl y) evs 0<0 by unfold posOf at hb;omega) i z hz
      simp [bl,hzid] at this
    · exact hb.1
   obtain⟨n,hn⟩:∃ n:Nat,posOf (bl y) evs=(n:Int):=⟨(posOf (bl y) evs).toNat,by omega⟩
   obtain⟨x,hx,hp⟩:=zac (bl y) evs 0 n hn (fr _)
   have hxid:x.id=y:=by simpa [bl] using hp
   have hfst:=zad (bl y) evs 0 n hn
   have e:n=i:=by
    rcases Nat.lt_trichotomy n i with hlt|heq|hgt
    · have h1:=zaR evs i z.id n x hlt (by simpa using hx) (by rw [hxid,hzid])
      rw [h i z hi hz] at h1
      cases h1
    · exact heq
    · have:=hfst i z (by omega) hz
      simp [bl,hzid] at this
   unfold posF
   rw [if_neg (by omega),hn,e]
   simp
theorem dm (d:Doc)(w:e_)(hE:Env w)(hd:d.lies w)(hfd:d.fits) :
 Calls fi 44 #[.agg d.enc.toArray] w fun e w'=>e=.returned (.int .i64 (az d))∧fj w.heap.size w w':=by
 have HCM0:=h_ (fun(k:Nat) (c:Cm) (w1:e_) (h:fj w.heap.size w w1) (hk:d.cms[k]? =some c)=>zdk d k c w1 (hE.below h (fq _)) (Doc.later hd h) hfd hk)
 have HFI0:=h_ (fun(id:Int) (w1:e_) (h:fj w.heap.size w w1)=>cK d id w1 (hd.2.1.later h) hfd.2.2.2.2.2.2.2.2.1)
 have HHD:=h_ (fun(w1:e_)=>zfY d.title d.lA d.rate d.drop d.last d.ra d.ea d.ca d.rG.length d.evs.length d.cms.length d.rc d.ec d.cc w1 hfd.1 hfd.2.1 hfd.2.2.1 hfd.2.2.2.1)
 have HLS:=h_ (fun(w1:e_) (h1:Regs w1 d.ra d.rG)=>zfX d.ra d.rc d.rG w1 h1 hfd.2.2.2.2.2.1)
 have HCK0:=h_ (fun(x:Ev) (w1:e_) (h1:Env w1) (h2:x.lies w1) (h3:x.fits) (h4:Regs w1 d.ra d.rG)=>zdh x d.ra d.rc d.rG w1 h1 h2 h3 h4 hfd.2.2.2.2.2.1 hfd.2.2.2.2.2.2.1)
 obtain⟨_,_,_,_,hi5,hfr,hlr,hfe,hle,_,hlc⟩:=hfd
 generalize hG:az d=G
 unfold az at hG
 obtain⟨title,lA,rate,drop,last,ra,rc,rG,ea,ec,evs,ca,cc,cms⟩:=d
 obtain⟨hdr,hde,_⟩:=hd
 simp only at hde hdr hi5 hfr hlr hfe hle hlc hG
 simp only [Doc.enc] at HCM0 HFI0 HHD HLS HCK0 ⊢
 have HCME:=h_ (zdM rG last evs cms)
 generalize hHE:ep title lA rate drop last=HE at *
 generalize hLE:ch rG=LE at *
 generalize hds:#[fb.string title,.string lA,.int .u8 rate,.bool drop,.int .i64 last,.slice ra rG.length rc,.slice ea evs.length ec,.slice ca cms.length cc]=ds at HCM0 HFI0 HHD ⊢
 have f0:=aa w ds 27 0 (.string title) (by rw [←hds];rfl)
 have f1:=aa w ds 27 1 (.string lA) (by rw [←hds];rfl)
 have f2:=aa w ds 27 2 (.int .u8 rate) (by rw [←hds];rfl)
 have f3:=aa w ds 27 3 (.bool drop) (by rw [←hds];rfl)
 have f4:=aa w ds 27 4 (.int .i64 last) (by rw [←hds];rfl)
 have f5:=aa w ds 27 5 (.slice ra rG.length rc) (by rw [←hds];rfl)
 have f6:=aa w ds 27 6 (.slice ea evs.length ec) (by rw [←hds];rfl)
 have f7:=aa w ds 27 7 (.slice ca cms.length cc) (by rw [←hds];rfl)
 have HB:=h_ (fun(w1:e_) (h:fj (w.heap.size+1) (w.alloc (.cells ds 27)) w1)=>aq h)
 have hb0:fj (w.heap.size+1) (w.alloc (.cells ds 27)) (w.alloc (.cells ds 27)):=fj.refl _ _
 have hsz:(w.alloc (.cells ds 27)).heap.size=w.heap.size+1:=e_.size_alloc _ _
 generalize hW0:w.alloc (.cells ds 27)=W0 at *
 have HW0:=h_ hW0
 have HSZ:=h_ hsz
 have HT0:=h_ (fun(w2 w3:e_) (h:fj (w.heap.size+1) W0 w2) (h3:fj w2.heap.size w2 w3)=>h.trans (h3.mono (by have:=h.size;rw [hsz] at this;exact this)))
 have HFE:=h_ hfe
 have HDE:=h_ hde
 have HDR:=h_ hdr
 have HG:=h_ hG
 clear hW0 hsz hfe hG hde hdr hHE hLE hfr
 rcases(show(HE != 0)=true∨(HE=0∧((LE != 0)=true∨(LE=0∧(400<evs.length∨evs.length≤400)))) by
  by_cases h1:HE=0<;>by_cases h2:LE=0<;>simp [h1,h2]<;>omega) with h1|⟨rfl,h2|⟨rfl,h3⟩⟩
 · have HV:=h_ (show HE=G by rw [←HG.out,if_pos h1])
   clear HG
   go_enter fh,ff
   subst hds
   go_wp2_with fail
   rw [HW0.out]
   refine(HHD.out _).mono ?_
   rintro e w1 ⟨rfl,hb1⟩
   have hc1:=HT0.out _ _ hb0 hb1
   clear hb1
   go_wp2_with fail
   go_ret
   exact⟨ag HV.out,HB.out _ hc1⟩
 · have HV:=h_ (show LE=G by rw [←HG.out,if_neg (by decide),if_pos h2])
   clear HG
   go_enter fh,ff
   subst hds
   go_wp2_with fail
   rw [HW0.out]
   refine(HHD.out _).mono ?_
   rintro e w1 ⟨rfl,hb1⟩
   have hc1:=HT0.out _ _ hb0 hb1
   clear hb1
   go_wp2_with fail
   refine(HLS.out _ (HDR.out.later (HB.out _ hc1))).mono ?_
   rintro e w2 ⟨rfl,hb2⟩
   have hc2:=HT0.out _ _ hc1 hb2
   clear hb2
   go_wp2_with fail
   go_ret
   exact⟨ag HV.out,HB.out _ hc2⟩
 · rcases h3 with h3|h3
   · have HV:=h_ (show 9=G by rw [←HG.out,if_neg (by decide),if_neg (by decide),if_pos h3])
     have h3d:decide ((400:Int)<(evs.length:Int))=true:=by simp;omega
     clear HG
     go_enter fh,ff
     subst hds
     go_wp2_with fail
     rw [HW0.out]
     refine(HHD.out _).mono ?_
     rintro e w1 ⟨rfl,hb1⟩
     have hc1:=HT0.out _ _ hb0 hb1
     clear hb1
     go_wp2_with fail
     refine(HLS.out _ (HDR.out.later (HB.out _ hc1))).mono ?_
     rintro e w2 ⟨rfl,hb2⟩
     have hc2:=HT0.out _ _ hc1 hb2
     clear hb2
     go_wp2_with fail
     go_ret
     exact⟨ag HV.out,HB.out _ hc2⟩
   · have h3d:decide ((400:Int)<(evs.length:Int))=false:=by simp;omega
     have HV:=h_ (show cw rG last evs cms 0=G by rw [←HG.out,if_neg (by decide),if_neg (by decide),if_neg (by omega)])
     clear HG
     go_enter fh,ff
     subst hds
     go_wp2_with fail
     rw [HW0.out]
     refine(HHD.out _).mono ?_
     rintro e w1 ⟨rfl,hb1⟩
     have hc1:=HT0.out _ _ hb0 hb1
     clear hb1
     go_wp2_with fail
     refine(HLS.out _ (HDR.out.later (HB.out _ hc1))).mono ?_
     rintro e w2 ⟨rfl,hb2⟩
     have hc2:=HT0.out _ _ hc1 hb2
     clear hb2
     clear HHD HLS
     go_wp2_with fail
     go_loopw [28] (fun i wr=>∃ k:Nat,k≤evs.length∧i=.int .i64 k∧cw rG last evs cms k=G∧Dis evs k∧fj (w.heap.size+1) W0 wr) (fun i _=>evs.length-(intOf i).toNat)
     case atStart=>exact⟨0,by omega,rfl,HV.out,fun j x hj=>by omega,hc2⟩
     case round =>
      obtain⟨k,hk,rfl,hp,hdis,hb⟩:=hrel
      have hbw:=HB.out _ hb
      clear HV hc1 hc2
      by_cases hlt:k<evs.length
      · obtain⟨b,off,x,rfl,hbl,hx,hc,hok⟩:=(HDE.out.later hbw).at_ hlt
        have hft:=HFE.out x (fk hx)
        have hRr:=HDE.out.later hbw
        have hpv:(k=0∧aA evs k=none)∨(∃ y:Ev,1≤k∧aA evs k=some y∧∀ j v,y.enc[j]? =some v→∀ w1,fj wr.heap.size wr w1→w1.cell? ⟨b,off+(k-1)*7+j,none⟩=some v):=by
         rcases Nat.eq_zero_or_pos k with rfl|hk0
         · exact .inl ⟨rfl,rfl⟩
         · obtain⟨b'',off',y,hab,_,hy,hcy,_⟩:=hRr.at_ (show k-1<evs.length by omega)
           simp only [Option.some.injEq,Addr.mk.injEq,and_true] at hab
           obtain⟨rfl,rfl⟩:=hab
           refine .inr ⟨y,hk0,?_,fun j v hv w1 h=>?_⟩
           · obtain⟨j,rfl⟩:∃ j,k=j+1:=⟨k-1,by omega⟩
             simpa [aA] using hy
           · rw [h.cell (p:=⟨b,off+(k-1)*7+j,none⟩) hbl]
             exact hcy j v hv
        have hwsz:=hb.size
        rw [HSZ.out] at hwsz
        have HN:=h_ (zcK rG last evs cms k x hx)
        have HS:=h_ (zcJ rG last evs cms k x hx)
        have HDS:=h_ (fun hs=>hdis.step hx hs)
        have HPS:=h_ (zle evs k x hx)
        have HP:=h_ hp
        have hcs:=zaI rG last (aT evs k) (aA evs k) x _ rfl
        have hgx:=fun j v h=>aa wr x.enc.toArray 50 j v h
        have HBW:=h_ (fun w1 (h:fj (wr.heap.size+1) (wr.alloc (.cells x.enc.toArray 50)) w1)=>(hb.alloc hwsz _).trans (h.mono (by omega)))
        have HBR:=h_ (fun w1 (h:fj (wr.heap.size+1) (wr.alloc (.cells x.enc.toArray 50)) w1)=>(((fj.refl wr.heap.size wr).alloc (fq _) _).trans (h.mono (by omega))))
        have hq0:fj (wr.heap.size+1) (wr.alloc (.cells x.enc.toArray 50)) (wr.alloc (.cells x.enc.toArray 50)):=fj.refl _ _
        have HCHN:=h_ (fun(w2 w3:e_) (h:fj (wr.heap.size+1) (wr.alloc (.cells x.enc.toArray 50)) w2) (h3:fj w2.heap.size w2 w3)=>h.trans (h3.mono (by have:=h.size;rw [e_.size_alloc] at this;exact this)))
        have HCK:=h_ (fun w1 (h:fj (wr.heap.size+1) (wr.alloc (.cells x.enc.toArray 50)) w1)=>(HCK0.out x w1 (hE.below (HB.out _ (HBW.out _ h)) (fq _)) (Ev.keeps _ _ _ (HBR.out _ h) hok) hft (HDR.out.later (HB.out _ (HBW.out _ h)))).mono (fun e w' (q:e=.returned (.int .i64 (zaK x rG))∧fj w1.heap.size w1 w')=>(show e=.returned (.int .i64 (zaK x rG))∧fj (wr.heap.size+1) (wr.alloc (.cells x.enc.toArray 50)) w' from⟨q.1,HCHN.out _ _ h q.2⟩)))
        have HFI:=h_ (fun w1 (h:fj (wr.heap.size+1) (wr.alloc (.cells x.enc.toArray 50)) w1)=>(HFI0.out x.id w1 (HB.out _ (HBW.out _ h))).mono (fun e w' (q:e=.returned (.int .i64 (posOf (bl x.id) evs))∧fj w1.heap.size w1 w')=>(show e=.returned (.int .i64 (posOf (bl x.id) evs))∧fj (wr.heap.size+1) (wr.alloc (.cells x.enc.toArray 50)) w' from⟨q.1,HCHN.out _ _ h q.2⟩)))
        have HLE0:=h_ (fun(y:Ev) w1 (h:fj (wr.heap.size+1) (wr.alloc (.cells x.enc.toArray 50)) w1)=>(zbK y x w1).mono (fun e w' (q:e=.returned (.bool (dh y x))∧fj w1.heap.size w1 w')=>(show e=.returned (.bool (dh y x))∧fj (wr.heap.size+1) (wr.alloc (.cells x.enc.toArray 50)) w' from⟨q.1,HCHN.out _ _ h q.2⟩)))
        have hLT:∀ y,dN (some y) x=!dh y x:=fun y=>rfl
        have hLN:dN none x=false:=rfl
        generalize aA evs k=pv at *
        generalize hEE0:dj rG last (aT evs k) pv x=E at *
        generalize zaK x rG=A at *
        generalize hLT0:dN pv x=LT at *
        obtain⟨xid,xin,xout,xreg,xkind,xsp,xa,xc,xrows⟩:=x
        have d0:=hc 0 _ rfl;have d1:=hc 1 _ rfl;have d2:=hc 2 _ rfl;have d3:=hc 3 _ rfl;have d4:=hc 4 _ rfl;have d5:=hc 5 _ rfl;have d6:=hc 6 _ rfl
        have g0:=hgx 0 _ rfl;have g1:=hgx 1 _ rfl;have g2:=hgx 2 _ rfl;have g3:=hgx 3 _ rfl;have g4:=hgx 4 _ rfl;have g5:=hgx 5 _ rfl;have g6:=hgx 6 _ rfl
        have q0:=fun w1 h=>f0 w1 (HBW.out w1 h);have q1:=fun w1 h=>f1 w1 (HBW.out w1 h);have q2:=fun w1 h=>f2 w1 (HBW.out w1 h);have q3:=fun w1 h=>f3 w1 (HBW.out w1 h)
        have q4:=fun w1 h=>f4 w1 (HBW.out w1 h);have q5:=fun w1 h=>f5 w1 (HBW.out w1 h);have q6:=fun w1 h=>f6 w1 (HBW.out w1 h);have q7:=fun w1 h=>f7 w1 (HBW.out w1 h)
        simp only [fp,Ev.enc] at d0 d1 d2 d3 d4 d5 d6 g0 g1 g2 g3 g4 g5 g6 q0 q1 q2 q3 q4 q5 q6 q7 HBW HBR hq0 HCK hcs HLE0 HFI HPS HDS
        have hbLit:∀ o,fj (w.heap.size+1) W0 (wr.alloc o):=fun o=>hb.alloc hwsz o
        generalize hW1:wr.alloc (.cells #[.int .i64 xid,.int .i64 xin,.int .i64 xout,.string xreg,.int .u8 xkind,.string xsp,.slice xa xrows.length xc] 50)=W1 at g0 g1 g2 g3 g4 g5 g6 q0 q1 q2 q3 q4 q5 q6 q7 HBW HBR hq0 HCK HLE0 HFI
        have HW1:=h_ hW1
        have hprev:(LT=false∧decide (0<k)=false)∨(∃ y:Ev,LT=(!dh y ⟨xid,xin,xout,xreg,xkind,xsp,xa,xc,xrows⟩)∧1≤k∧decide (0<k)=true∧(1:Int)≤(k:Int)∧(k:Int)-1<(evs.length:Int)∧IntKind.i64.wrap ((k:Int)-1)=(k:Int)-1∧((k:Int)-1).toNat=k-1∧∀ j v,y.enc[j]? =some v→∀ w1,fj (wr.heap.size+1) W1 w1→w1.cell? ⟨b,off+(k-1)*7+j,none⟩=some v):=by
         rcases hpv with⟨h1,rfl⟩|⟨y,h1,rfl,h3⟩
         · exact .inl ⟨hLT0.symm.trans hLN,by simp;omega⟩
         · exact .inr ⟨y,hLT0.symm.trans (hLT y),h1,by simp;omega,by omega,by omega,IntWalk.i64_in _ (by omega),by omega,fun j v hv w1 h=>h3 j v hv w1 (HBR.out _ h)⟩
        generalize posOf (bl xid) evs=N at *
        clear hEE0
        clear hpv hc hgx hW1 hRr hp hx hft hok hLT hLN hLT0 HCME HCM0 hdis HCHN
        rcases hcs with⟨hA,he⟩|⟨rfl,hcs⟩
        · have HEE:=h_ he
          clear he hprev
          go_wp2_with fail
          rw [HW1.out]
          refine(HCK.out _ hq0).mono ?_
          rintro e w3 ⟨rfl,hc3⟩
          go_wp2_with fail
          go_ret
          exact⟨ag (by rw [←HP.out,HS.out _ HEE.out hA]),HB.out _ (HBW.out _ hc3)⟩
        rcases hcs with⟨h1,he⟩|⟨h1,hcs⟩
        · have HEE:=h_ he
          clear he hprev
          go_wp2_with fail
          rw [HW1.out]
          refine(HCK.out _ hq0).mono ?_
          rintro e w3 ⟨rfl,hc3⟩
          go_wp2_with fail
          go_ret
          exact⟨ag (by rw [←HP.out,HS.out _ HEE.out rfl]),HB.out _ (HBW.out _ hc3)⟩
        have h1d:decide (last<xid)=false:=by simp;omega
        rcases hprev with⟨rfl,hkd⟩|⟨y,hly,hk1,hkd,hkz,hkl,hwr,hkn,hpy⟩
        · rcases hcs with⟨h2,he⟩|⟨_,⟨ht,he⟩|⟨ht,he⟩⟩
          · cases h2
          · have HEE:=h_ he
            have hNk:=HPS.out
            rw [ht] at hNk
            clear he ht HDS HPS
            go_wp2_with fail
            rw [HW1.out]
            refine(HCK.out _ hq0).mono ?_
            rintro e w3 ⟨rfl,hc3⟩
            go_wp2_with fail
            go_quiet (fail)
            go_wp2_with fail
            refine(HFI.out _ (below_drewN hc3 _)).mono ?_
            rintro e w4 ⟨rfl,hc4⟩
            go_wp2_with fail
            go_ret
            exact⟨ag (by rw [←HP.out,HS.out _ HEE.out rfl]),HB.out _ (HBW.out _ hc4)⟩
          · have HEE:=h_ he
            have hNk:=HPS.out
            rw [ht] at hNk
            have HDN:=h_ (HDS.out ht)
            clear he ht HDS HPS
            go_wp2_with fail
            rw [HW1.out]
            refine(HCK.out _ hq0).mono ?_
            rintro e w3 ⟨rfl,hc3⟩
            go_wp2_with fail
            go_quiet (fail)
            go_wp2_with fail
            refine(HFI.out _ (below_drewN hc3 _)).mono ?_
            rintro e w4 ⟨rfl,hc4⟩
            go_wp2_with fail
            go_roundw
            case rel=>exact⟨k+1,by omega,by go_num,by rw [←HN.out HEE.out];exact HP.out,HDN.out,HBW.out _ hc4⟩
            case measure=>simp [intOf];omega
        · have p0:=hpy 0 _ rfl;have p1:=hpy 1 _ rfl;have p2:=hpy 2 _ rfl;have p3:=hpy 3 _ rfl;have p4:=hpy 4 _ rfl;have p5:=hpy 5 _ rfl;have p6:=hpy 6 _ rfl
          have hly2:=HLE0.out y
          have HLY:=h_ hly2
          clear hpy hly2 HLE0
          obtain⟨yid,yin,yout,yreg,ykind,ysp,ya,yc,yrows⟩:=y
          simp only [fp] at p0
          generalize dh ⟨yid,yin,yout,yreg,ykind,ysp,ya,yc,yrows⟩ ⟨xid,xin,xout,xreg,xkind,xsp,xa,xc,xrows⟩=LB at *
          cases LB
          · obtain rfl:LT=true:=hly
            rcases hcs with⟨_,he⟩|⟨h2,_⟩
            · have HEE:=h_ he
              clear he HDS HPS
              go_wp2_with fail
              rw [HW1.out]
              refine(HCK.out _ hq0).mono ?_
              rintro e w3 ⟨rfl,hc3⟩
              go_wp2_with fail
              have hb0d:fj (wr.heap.size+1) W1 w3.drew:=hc3.drew
              go_region_held3 (fun w'=>fj (wr.heap.size+1) W1 w') (first|assumption|exact hb0d) (first|(go_at_call 101;((with_reducible refine(HLY.out _ ?_).mono ?_);assumption);rintro e w4 ⟨rfl,hc4⟩))
              all_goals
               go_wp2_with fail
               go_ret
               exact⟨ag (by rw [←HP.out,HS.out _ HEE.out rfl]),HB.out _ (HBW.out _ (by assumption))⟩
            · cases h2
          · obtain rfl:LT=false:=hly
            rcases hcs with⟨h2,_⟩|⟨_,⟨ht,he⟩|⟨ht,he⟩⟩
            · cases h2
            · have HEE:=h_ he
              have hNk:=HPS.out
              rw [ht] at hNk
              clear he ht HDS HPS
              go_wp2_with fail
              rw [HW1.out]
              refine(HCK.out _ hq0).mono ?_
              rintro e w3 ⟨rfl,hc3⟩
              go_wp2_with fail
              have hb0d:fj (wr.heap.size+1) W1 w3.drew:=hc3.drew
              go_region_held3 (fun w'=>fj (wr.heap.size+1) W1 w') (first|assumption|exact hb0d) (first|(go_at_call 101;((with_reducible refine(HLY.out _ ?_).mono ?_);assumption);rintro e w4 ⟨rfl,hc4⟩))
              all_goals
               clear p0 p1 p2 p3 p4 p5 p6
               go_wp2_with fail
               refine(HFI.out _ (by assumption)).mono ?_
               rintro e w5 ⟨rfl,hc5⟩
               go_wp2_with fail
               go_ret
               exact⟨ag (by rw [←HP.out,HS.out _ HEE.out rfl]),HB.out _ (HBW.out _ hc5)⟩
            · have HEE:=h_ he
              have hNk:=HPS.out
              rw [ht] at hNk
              have HDN:=h_ (HDS.out ht)
              clear he ht HDS HPS
              go_wp2_with fail
              rw [HW1.out]
              refine(HCK.out _ hq0).mono ?_
              rintro e w3 ⟨rfl,hc3⟩
              go_wp2_with fail
              have hb0d:fj (wr.heap.size+1) W1 w3.drew:=hc3.drew
              go_region_held3 (fun w'=>fj (wr.heap.size+1) W1 w') (first|assumption|exact hb0d) (first|(go_at_call 101;((with_reducible refine(HLY.out _ ?_).mono ?_);assumption);rintro e w4 ⟨rfl,hc4⟩))
              all_goals
               clear p0 p1 p2 p3 p4 p5 p6
               go_wp2_with fail
               refine(HFI.out _ (by assumption)).mono ?_
               rintro e w5 ⟨rfl,hc5⟩
               go_wp2_with fail
               go_roundw
               case rel=>exact⟨k+1,by omega,by go_num,by rw [←HN.out HEE.out];exact HP.out,HDN.out,HBW.out _ hc5⟩
               case measure=>simp [intOf];omega
      · obtain rfl:k=evs.length:=by omega
        rw [HCME.out] at hp
        have HF:=h_ (zj2 evs hdis)
        have HCM:=h_ (fun(k:Nat) (c:Cm) (w1:e_) (h:fj (w.heap.size+1) W0 w1) (hk:cms[k]? =some c)=>HCM0.out k c w1 (HB.out _ h) hk)
        rw [HF.out] at HCM
        generalize aT evs evs.length=FF at *
        clear hdis HCM0 HF HCK0 HFI0
        unfold eL at hp
        rcases(show 64<cms.length∨cms.length≤64 by omega) with h4|h4
        · rw [if_pos h4] at hp
          have HP:=h_ hp
          have h4d:decide ((64:Int)<(cms.length:Int))=true:=by simp;omega
          clear hp
          go_wp2_with fail
          go_ret
          exact⟨ag HP.out,hbw⟩
        · rw [if_neg (by omega)] at hp
          have HP0:=h_ (show bX last FF evs (aA cms 0) (cms.drop 0)=G from hp)
          have h4d:decide ((64:Int)<(cms.length:Int))=false:=by simp;omega
          have HB9:=h_ hb
          clear hp hbw
          go_wp2_with fail
          obtain⟨wo,rfl⟩:∃ wo:e_,wo=wr:=⟨_,rfl⟩
          go_loopw [72] (fun i wr=>∃ k:Nat,k≤cms.length∧i=.int .i64 k∧bX last FF evs (aA cms k) (cms.drop k)=G∧fj (w.heap.size+1) W0 wr) (fun i _=>cms.length-(intOf i).toNat)
          case atStart=>exact⟨0,by omega,rfl,HP0.out,HB9.out⟩
          case round =>
           obtain⟨k,hk',rfl,hp,hb'⟩:=hrel
           clear HP0 HB9 hb
           by_cases hlt':k<cms.length
           · have hck:cms[k]? =some cms[k]:=List.getElem?_eq_getElem hlt'
             have HN:=h_ (zc6 last FF evs cms k cms[k] hck (aA cms k))
             have HS:=h_ (zc5 last FF evs cms k cms[k] hck (aA cms k))
             have HC:=h_ (HCM.out k cms[k] wr hb' hck)
             have HP:=h_ hp
             clear hp hck
             generalize di last FF evs (aA cms k) cms[k]=E at *
             rcases(show(E != 0)=true∨E=0 by by_cases h:E=0<;>simp [h]) with hE0|rfl
             · go_wp2_with fail
               refine HC.out.mono ?_
               rintro e w4 ⟨rfl,hb4⟩
               have hc4:=HT0.out _ _ hb' hb4
               clear hb4
               go_wp2_with fail
               go_ret
               exact⟨ag (by rw [←HP.out,HS.out hE0]),HB.out _ hc4⟩
             · go_wp2_with fail
               refine HC.out.mono ?_
               rintro e w4 ⟨rfl,hb4⟩
               have hc4:=HT0.out _ _ hb' hb4
               clear hb4
               go_wp2_with fail
               go_roundw
               case rel=>exact⟨k+1,by omega,by go_num,by rw [←HN.out (by first|rfl|trivial)];exact HP.out,hc4⟩
               case measure=>simp [intOf];omega
           · obtain rfl:k=cms.length:=by omega
             rw [List.drop_length] at hp
             have HP:=h_ (show(0:Int)=G by rw [←hp];cases aA cms cms.length<;>rfl)
             clear hp
             go_wp2_with fail
             go_ret
             exact⟨ag HP.out,HB.out _ hb'⟩
def Src (w:e_)(v:fb)(m:Nat)(news:List fb):Prop:=(v=.slice none 0 0∧m=0∧news=[])∨∃ ad c,v=.slice (some ad) m c∧∀ j u,news[j]? =some u→w.cell? (ad.add j)=some u
theorem cG {P:Program} {ops:Array Oper} {o:Oper} {a:Act} {w:e_} {K:Act→e_→Prop} {Q:Exit→Act→e_→Prop} {E:Prop} (hgd:o.guard=none)(s x:Operand)(t:TypeId)
 (ho:o.op=.call { callee:=.builtin .append,args:=#[s,x],argTypes:=#[t,t] })
 (base:Nat) (e:TypeId) (i:TypeInfo) (z:fb) (size bytes:Nat) (ht:P.underlying t=some (.slice e)) (hi:P.info? e=some i) (hz:i.zero=some z)
 (hsize:i.size=size) (hby:i.bytes=bytes) (hzs:z.cells.size=size) (hsz:0<size)
 (v:fb) (n:Nat) (xs:List fb) (hs:a.eval s=v) (hown:w.ownsRow base e size v n xs)
 (src:fb) (m:Nat) (news:List fb) (hx:a.eval x=src) (hsrc:Src w src m news) (hl:news.length=m*size) (h1:∀ u∈news,u.oneCell'=true)
 (h63:n+m≤maxLen) (hbytes:(n+m)*bytes≤140737488355328) (hbase:base≤w.heap.size)
 (h:∀ v' w',w'.ownsRow base e size v' (n+m) (xs++news)→w.grownBy w' v.ownBlock→K (a.put o.dst v') w') :
 if Region.wanted o (yielded ops a.tmps)=true then Oper.wp P o a w K Q else E:=by
 have hw:Region.wanted o (yielded ops a.tmps)=true:=by simp [Region.wanted,hgd]
 rw [if_pos hw]
 rcases hsrc with⟨hn,rfl,rfl⟩|⟨ad,c,hn,hc⟩
 · subst hn
   have hr:=run_append_owned_none (P:=P) w base t o.type e i size ht hi v n xs hown
   unfold Oper.wp execOp
   simp only [ho,resolve,invoke,builtin,Sem.run_bind,Sem.run_pure,Result.andThen_ok,List.map_toArray,List.map_cons,List.map_nil,hs,hx,hr]
   exact h v w (by simpa using hown) ⟨rfl,rfl,rfl,fq _,fun _ _ _=>rfl⟩
 · exact wp_append_own w s x t ho base e i z size bytes ht hi hz hsize hby hzs hsz v n xs hs hown ad m c news (hx.trans hn) hl hc h1 h63 hbytes hbase fun v' w' h2 h3 _=>h v' w' h2 h3
theorem zgB.form {w:e_} {v:fb} {zs:List Int} (h:zgB w v zs):∃ a cap,v=.slice a zs.length cap∧Ints w a zs:=by
 rcases h with⟨rfl,rfl⟩|⟨b,off,cap,rfl,h2,h3,_,h4⟩
 · exact⟨none,0,rfl,.inl rfl⟩
 · exact⟨_,cap,rfl,h4⟩
theorem ziy.form {B:Nat} {w:e_} {v:fb} {zs:List Int} (h:ziy B w v zs):∃ a cap,v=.slice a zs.length cap∧Ints w a zs:=h.1.form
theorem zix.form {B:Nat} {w:e_} {v:fb} {zs:List ByteArray} (h:zix B w v zs):∃ a cap,v=.slice a zs.length cap∧Strs w a zs:=by
 rcases h.1 with⟨rfl,rfl⟩|⟨b,off,cap,rfl,h2,h3,_,h4⟩
 · exact⟨none,0,rfl,.inl rfl⟩
 · exact⟨_,cap,rfl,h4⟩
end Go.Proofs.YtnlnmbcaongehaaGreatDoor
