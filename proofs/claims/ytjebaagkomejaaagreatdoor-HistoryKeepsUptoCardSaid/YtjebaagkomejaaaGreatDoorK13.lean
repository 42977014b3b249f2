/- The contracts of the reference's put and Events: the IDs of two documents, ascending. slices.Grow of nil, at runs. The contract of document.Check: the first error of a document. -/
import Derived.Shelf.Spec.SlicesGrow
import Derived.Test.YtjebaagkomejaaaGreatDoorK12
import Derived.Test.YtjebaagkomejaaaGreatDoorK10
set_option linter.unusedVariables false
set_option linter.unusedSimpArgs false
set_option maxRecDepth 100000
set_option maxHeartbeats 12800000
open Go.Lib renaming hid→h_
open Go renaming World→Sj,Value→Sk,bodyPost_ret→Sl,heap_alloc_last→Sm,Calls→Sn,below_drewN→Sp,wp_at_zero→Sq,wp_at_succ→Sr
open List renaming flatMap_cons→Ss,getElem?_eq_some_iff→St,find?_cons→Su,map_cons→Sv,mem_iff_getElem?→Sw,getElem?_map→Sx
open Nat renaming le_refl→Sy,add_zero→Sz,zero_add→SA,eq_zero_or_pos→SB,succ_mul→SC
open Go.RowKit.Below renaming refl→SD
open Go.RowKit renaming Below→SF
open Bool renaming eq_false_or_eq_true→SG
open Go.Lib renaming allEq→SH
namespace Go.Proofs.YtjebaagkomejaaaGreatDoor
open Go.RowKit
theorem Ints.cells {w:Sj} {b off:Nat} {zs:List Int} (h:Ints w (some ⟨b,off,none⟩) zs):∀ (j:Nat)(u:Sk),(zs.map (Sk.int .i64))[j]? =some u→w.cell? ⟨b,off+j,none⟩=some u:=by
 intro j u hu
 rw [Sx] at hu
 obtain⟨z,hz,rfl⟩:=Option.map_eq_some_iff.1 hu
 rcases h with rfl|⟨b',off',he,_,hcc⟩
 · simp at hz
 · simp only [Option.some.injEq,Addr.mk.injEq,and_true] at he
   obtain⟨rfl,rfl⟩:=he
   have:=(hcc j z hz).1 0 _ rfl
   rw [show off+j*1+0=off+j by omega] at this
   exact this
end Go.Proofs.YtjebaagkomejaaaGreatDoor
namespace Go.Proofs
open Go.Shelf
def Tryz.grow227_ren:Go.Shelf.Ren:=⟨fun|4=>227|n=>n,fun|22=>73|25=>77|3=>3|4=>4|9=>9|20=>20|0=>0|n=>n,fun|n=>n⟩
theorem Tryz.grow227:Go.Proofs.Lays8.n4 Tryz.prog Tryz.grow227_ren:={
 mixed:=by kernel_rfl
 f4:=⟨Tryz.f227.name,by decide,Tryz.func227.trans (congrArg some (by kernel_rfl))⟩
 t0:=Tryz.underlying0
 a0:=Tryz.isAgg0
 z0:=Tryz.sizeOf0
 v0:=Tryz.zeroValue0
 t3:=Tryz.underlying3
 a3:=Tryz.isAgg3
 z3:=Tryz.sizeOf3
 v3:=Tryz.zeroValue3
 t4:=Tryz.underlying4
 a4:=Tryz.isAgg4
 z4:=Tryz.sizeOf4
 v4:=Tryz.zeroValue4
 t9:=Tryz.underlying9
 a9:=Tryz.isAgg9
 z9:=Tryz.sizeOf9
 v9:=Tryz.zeroValue9
 t20:=Tryz.underlying20
 a20:=Tryz.isAgg20
 z20:=Tryz.sizeOf20
 v20:=Tryz.zeroValue20
 t22:=Tryz.underlying73
 a22:=Tryz.isAgg73
 z22:=Tryz.sizeOf73
 v22:=Tryz.zeroValue73 }
end Go.Proofs
namespace Go.Proofs.YtjebaagkomejaaaGreatDoor
open Go.RowKit
theorem yo (n:Nat)(w:Sj)(hn:n≤80000000):Sn Tryz.prog 227 #[.slice none 0 0,.int .i64 n] w (bF (α:=Run) 77 5 Run.enc [] w):=by
 rcases SB n with rfl|h0
 · exact(Any8.slices_Grow_room Tryz.grow227 none 0 0 0 w (Sy _) (by omega) (by omega) (by omega)).mono fun e w' ⟨he,hw⟩=>⟨_,he,Sj.ownsRow_nil _ _ _ _,hw▸SD _ _⟩
 · obtain⟨j0,hj,hy0,hy1,hy2⟩:=info_parts Tryz.info77
   have h:=Any8.slices_Grow_grow Tryz.grow227 j0 _ hj hy0 (by rw [hy1];decide) none 0 0 n [] w (Sy _) (by omega) (by rw [hy2];omega) (by omega) (by simp) (fun _=>rfl) (fun a ha=>by cases ha)
   refine h.mono fun e w' ⟨he,hw⟩=>⟨_,he,?_,?_⟩
   · subst hw
     have hG:=grownCap_ge w (0+n) 0 (Tryz.grow227_ren.t 25)
     have hM:=grownCap_le_maxLen w (0+n) 0 (Tryz.grow227_ren.t 25) (by unfold maxLen;omega)
     refine⟨rfl,.inr ⟨_,_,_,rfl,Sy _,heap_alloc_new w.drew _,Nat.zero_le _,hM,?_,by simp⟩⟩
     simp only [SA] at hG hM ⊢
     generalize grownCap w n 0 (Tryz.grow227_ren.t 25)=G at *
     simp only [Array.size_append,List.size_toArray,size_zeroCells,Sk.cells,List.length_nil]
     simp
     omega
   · subst hw
     exact((SD _ _).drew).alloc (Sy _) _
theorem b_ (d:Doc)(w:Sj)(hE:Env w)(hd:d.lies w)(eo:d.fits) :
 Sn Tryz.prog 25 #[.agg d.enc.toArray] w fun e w'=>e=.returned (.int .i64 (a_ d))∧SF w.heap.size w w':=by
 have HCM:=h_ (fun(b:Nat) (w1:Sj) (h1:Env w1) (h2:d.lies w1) (h4:IMap w1 b d.eV.length (cq d.eV d.eV.length))=>oB d b _ _ w1 h1 h2 eo h4 (mq d.eV d.eV.length))
 have Lp:=h_ hd
 have Bn:=h_ (fun(w1:Sj) (h1:Env w1)=>sO d.title d.lA d.rate d.drop d.last d.ra d.ea d.ca d.rG.length d.eV.length d.cM.length d.rc d.ec d.cc w1 h1 eo.1 eo.2.1 eo.2.2.1 eo.2.2.2.1)
 have FD:=h_ (fun(w1:Sj) (h1:Regs w1 d.ra d.rG)=>xN d.ra d.rc d.rG w1 h1 eo.2.2.2.2.2.1)
 have I0:=h_ (fun(x:Ev) (w1:Sj) (h1:Env w1) (h2:x.lies w1) (h3:x.fits) (h4:Regs w1 d.ra d.rG)=>fw x d.ra d.rc d.rG w1 h1 h2 h3 h4 eo.2.2.2.2.2.1 eo.2.2.2.2.2.2.1)
 obtain⟨_,_,_,_,hi5,hfr,hlr,hfe,hle,_,_⟩:=eo
 generalize hG:a_ d=G
 unfold a_ at hG
 obtain⟨title,lA,rate,drop,last,ra,rc,rG,ea,ec,eV,ca,cc,cM⟩:=d
 obtain⟨hdr,hde,_⟩:=hd
 simp only at hde hdr hi5 hfr hlr hfe hle hG
 simp only [Doc.enc] at HCM Bn FD I0 ⊢
 have IZ:=h_ (uD rG last eV cM)
 generalize Ov:jP title lA rate drop last=HE at *
 generalize Mq:gA rG=LE at *
 generalize hds:#[Sk.string title,.string lA,.int .u8 rate,.bool drop,.int .i64 last,.slice ra rG.length rc,.slice ea eV.length ec,.slice ca cM.length cc]=ds at HCM Bn ⊢
 have f0:=aw w ds 27 0 (.string title) (by rw [←hds];rfl)
 have f1:=aw w ds 27 1 (.string lA) (by rw [←hds];rfl)
 have f2:=aw w ds 27 2 (.int .u8 rate) (by rw [←hds];rfl)
 have f3:=aw w ds 27 3 (.bool drop) (by rw [←hds];rfl)
 have f4:=aw w ds 27 4 (.int .i64 last) (by rw [←hds];rfl)
 have f5:=aw w ds 27 5 (.slice ra rG.length rc) (by rw [←hds];rfl)
 have f6:=aw w ds 27 6 (.slice ea eV.length ec) (by rw [←hds];rfl)
 have f7:=aw w ds 27 7 (.slice ca cM.length cc) (by rw [←hds];rfl)
 have HB:=h_ (fun(w1:Sj) (h:SF (w.heap.size+1) (w.alloc (.cells ds 27)) w1)=>bL h)
 have hb0:SF (w.heap.size+1) (w.alloc (.cells ds 27)) (w.alloc (.cells ds 27)):=SD _ _
 have hsz:(w.alloc (.cells ds 27)).heap.size=w.heap.size+1:=Sj.size_alloc _ _
 generalize hW0:w.alloc (.cells ds 27)=W0 at *
 have HW0:=h_ hW0
 have dI:=h_ hsz
 have HT0:=h_ (fun(w2 w3:Sj) (h:SF (w.heap.size+1) W0 w2) (h3:SF w2.heap.size w2 w3)=>h.trans (h3.mono (by have:=h.size;rw [hsz] at this;exact this)))
 have rz:=h_ hfe
 have vN:=h_ hde
 have HDR:=h_ hdr
 have HG:=h_ hG
 have hmm:=@run_makeMap Tryz.prog
 clear hW0 hsz hfe hG hde hdr Ov Mq hfr
 rcases(show(HE != 0)=true∨(HE=0∧((LE != 0)=true∨(LE=0∧(400<eV.length∨eV.length≤400)))) by
  by_cases h1:HE=0<;>by_cases h2:LE=0<;>simp [h1,h2]<;>omega) with h1|⟨rfl,h2|⟨rfl,h3⟩⟩
 · have HV:=h_ (show HE=G by rw [←HG.out,if_pos h1])
   have H1:=h_ h1
   clear HG h1
   have h1:=H1.out
   go_enter Tryz.func25,Tryz.ntmps25
   subst hds
   go_wp2_with fail
   rw [HW0.out]
   refine(Bn.out _ (hE.below (HB.out _ hb0) (Sy _))).mono ?_
   rintro e w1 ⟨rfl,hb1⟩
   have hc1:=HT0.out _ _ hb0 hb1
   go_wp2_with fail
   go_ret
   exact⟨aG HV.out,HB.out _ hc1⟩
 · have HV:=h_ (show LE=G by rw [←HG.out,if_neg (by decide),if_pos h2])
   clear HG
   go_enter Tryz.func25,Tryz.ntmps25
   subst hds
   go_wp2_with fail
   rw [HW0.out]
   refine(Bn.out _ (hE.below (HB.out _ hb0) (Sy _))).mono ?_
   rintro e w1 ⟨rfl,hb1⟩
   have hc1:=HT0.out _ _ hb0 hb1
   clear hb1
   go_wp2_with fail
   refine(FD.out _ (HDR.out.later (HB.out _ hc1))).mono ?_
   rintro e w2 ⟨rfl,hb2⟩
   have hc2:=HT0.out _ _ hc1 hb2
   clear hb2
   go_wp2_with fail
   go_ret
   exact⟨aG HV.out,HB.out _ hc2⟩
 · rcases h3 with h3|h3
   all_goals
    go_enter Tryz.func25,Tryz.ntmps25
    subst hds
    go_wp2_with fail
    rw [HW0.out]
    refine(Bn.out _ (hE.below (HB.out _ hb0) (Sy _))).mono ?_
    rintro e w1 ⟨rfl,hb1⟩
    have hc1:=HT0.out _ _ hb0 hb1
    clear hb1
    go_wp2_with fail
    refine(FD.out _ (HDR.out.later (HB.out _ hc1))).mono ?_
    rintro e w2 ⟨rfl,hb2⟩
    have hc2:=HT0.out _ _ hc1 hb2
    clear hb2
   · have HV:=h_ (show 9=G by rw [←HG.out,if_neg (by decide),if_neg (by decide),if_pos h3])
     have vl:decide ((400:Int)<(eV.length:Int))=true:=by simp;omega
     go_wp2_with fail
     go_ret
     exact⟨aG HV.out,HB.out _ hc2⟩
   · have vl:decide ((400:Int)<(eV.length:Int))=false:=by simp;omega
     have HV:=h_ (show ed rG last eV cM 0=G by rw [←HG.out,if_neg (by decide),if_neg (by decide),if_neg (by omega)])
     have hz2:=hc2.size
     rw [dI.out] at hz2
     have Jm:SF (w.heap.size+1) W0 (w2.alloc (.map #[] 0)):=hc2.alloc hz2 _
     have hm0:=h_ (IMap.made w2)
     clear HG Bn FD
     go_wp2_with fail
     generalize w2.heap.size=mb at *
     go_loopw [30] (fun i wr=>∃ k:Nat,k≤eV.length∧i=.int .i64 k∧ed rG last eV cM k=G∧Jg eV (w.heap.size+1) W0 mb k wr) (fun i _=>eV.length-(intOf i).toNat)
     case atStart=>exact⟨0,by omega,rfl,HV.out,hm0.out,Jm⟩
     case round =>
      obtain⟨k,hk,rfl,hp,hM,hb⟩:=hrel
      have hbw:=HB.out _ hb
      clear Jm hm0 HV hc1 hc2 hmm
      by_cases hlt:k<eV.length
      · obtain⟨b,off,x,rfl,hbl,hx,hc,hok⟩:=(vN.out.later hbw).at_ hlt
        have hft:=rz.out x (List.mem_of_getElem? hx)
        have hRr:=vN.out.later hbw
        have hpv:(k=0∧bM eV k=none)∨(∃ y:Ev,1≤k∧bM eV k=some y∧∀ j v,y.enc[j]? =some v→∀ w1,SF wr.heap.size wr w1→w1.cell? ⟨b,off+(k-1)*7+j,none⟩=some v):=by
         rcases SB k with rfl|hk0
         · exact .inl ⟨rfl,rfl⟩
         · obtain⟨b'',off',y,hab,_,hy,hcy,_⟩:=hRr.at_ (show k-1<eV.length by omega)
           simp only [Option.some.injEq,Addr.mk.injEq,and_true] at hab
           obtain⟨rfl,rfl⟩:=hab
           refine .inr ⟨y,hk0,?_,fun j v hv w1 h=>?_⟩
           · obtain⟨j,rfl⟩:∃ j,k=j+1:=⟨k-1,by omega⟩
             simpa [bM] using hy
           · rw [h.cell (p:=⟨b,off+(k-1)*7+j,none⟩) hbl]
             exact hcy j v hv
        have u_:=hb.size
        rw [dI.out] at u_
        have HN:=h_ (sk rG last eV cM k x hx)
        have HS:=h_ (sj rG last eV cM k x hx)
        have zh:=h_ (xx eV k x hx)
        have HP:=h_ hp
        have hcs:=lC rG last (cq eV k) (bM eV k) x _ rfl
        have hgx:=fun j v h=>aw wr x.enc.toArray 72 j v h
        have bE:=h_ (fun w1 (h:SF (wr.heap.size+1) (wr.alloc (.cells x.enc.toArray 72)) w1)=>(hb.alloc u_ _).trans (h.mono (by omega)))
        have jt:=h_ (fun w1 (h:SF (wr.heap.size+1) (wr.alloc (.cells x.enc.toArray 72)) w1)=>(((SD wr.heap.size wr).alloc (Sy _) _).trans (h.mono (by omega))))
        have hq0:SF (wr.heap.size+1) (wr.alloc (.cells x.enc.toArray 72)) (wr.alloc (.cells x.enc.toArray 72)):=SD _ _
        have AF:=hb.alloc u_ (.cells x.enc.toArray 72)
        have FC:=h_ (fun w1 (h:SF (wr.heap.size+1) (wr.alloc (.cells x.enc.toArray 72)) w1)=>hM.below (jt.out _ h) hM.lt)
        have gG:=h_ (fun w1 (h:SF (wr.heap.size+1) (wr.alloc (.cells x.enc.toArray 72)) w1)=>(FC.out w1 h).look hft.1)
        have jb:=h_ (fun w1 (h:SF (wr.heap.size+1) (wr.alloc (.cells x.enc.toArray 72)) w1)=>I0.out x w1 (hE.below (HB.out _ (bE.out _ h)) (Sy _)) (Ev.keeps _ _ _ (jt.out _ h) hok) hft (HDR.out.later (HB.out _ (bE.out _ h))))
        have FF:=h_ (fun(y:Ev) w1=>ph y x w1)
        have DA:=h_ hft.1
        have NR:=hM.lt
        have Jo:∀ y,gj (some y) x=!kJ y x:=fun y=>rfl
        have Mp:gj none x=false:=rfl
        generalize bM eV k=pv at *
        generalize K2:eT rG last (cq eV k) pv x=E at *
        generalize fK x rG=A at *
        generalize E8:gj pv x=LT at *
        obtain⟨xid,xin,xout,xreg,xkind,xsp,xa,xc,xrows⟩:=x
        have d0:=hc 0 _ rfl;have d1:=hc 1 _ rfl;have d2:=hc 2 _ rfl;have d3:=hc 3 _ rfl;have d4:=hc 4 _ rfl;have d5:=hc 5 _ rfl;have d6:=hc 6 _ rfl
        have g0:=hgx 0 _ rfl;have g1:=hgx 1 _ rfl;have g2:=hgx 2 _ rfl;have g3:=hgx 3 _ rfl;have g4:=hgx 4 _ rfl;have g5:=hgx 5 _ rfl;have g6:=hgx 6 _ rfl
        simp only [Sz,Ev.enc] at d0 d1 d2 d3 d4 d5 d6 g0 g1 g2 g3 g4 g5 g6 bE jt hq0 gG jb hcs FF DA AF FC zh
        have hsz1:(wr.alloc (.cells #[.int .i64 xid,.int .i64 xin,.int .i64 xout,.string xreg,.int .u8 xkind,.string xsp,.slice xa xrows.length xc] 72)).heap.size=wr.heap.size+1:=Sj.size_alloc _ _
        generalize hW1:wr.alloc (.cells #[.int .i64 xid,.int .i64 xin,.int .i64 xout,.string xreg,.int .u8 xkind,.string xsp,.slice xa xrows.length xc] 72)=W1 at g0 g1 g2 g3 g4 g5 g6 bE jt hq0 gG jb hsz1 FC
        have HW1:=h_ hW1
        have Ft:=h_ hsz1
        have Oi:=bE.out _ hq0
        have HT:=h_ (fun(w2 w3:Sj) (h:SF (wr.heap.size+1) W1 w2) (h3:SF w2.heap.size w2 w3)=>h.trans (h3.mono (by have:=h.size;rw [Ft.out] at this;exact this)))
        have iS:(LT=false∧decide (0<k)=false)∨(∃ y:Ev,LT=(!kJ y ⟨xid,xin,xout,xreg,xkind,xsp,xa,xc,xrows⟩)∧1≤k∧decide (0<k)=true∧(1:Int)≤(k:Int)∧(k:Int)-1<(eV.length:Int)∧IntKind.i64.wrap ((k:Int)-1)=(k:Int)-1∧((k:Int)-1).toNat=k-1∧∀ j v,y.enc[j]? =some v→∀ w1,SF (wr.heap.size+1) W1 w1→w1.cell? ⟨b,off+(k-1)*7+j,none⟩=some v):=by
         rcases hpv with⟨h1,rfl⟩|⟨y,h1,rfl,h3⟩
         · exact .inl ⟨E8.symm.trans Mp,by simp;omega⟩
         · exact .inr ⟨y,E8.symm.trans (Jo y),h1,by simp;omega,by omega,by omega,IntWalk.i64_in _ (by omega),by omega,fun j v hv w1 h=>h3 j v hv w1 (jt.out _ h)⟩
        clear K2
        clear hpv hc hgx hW1 hsz1 hRr hp hx hft hok Jo Mp E8 IZ HCM hM
        rcases hcs with⟨hA,he⟩|⟨rfl,hcs⟩
        · have dV:=h_ he
          clear he iS
          have O_:=h_ hA
          go_wp2_with fail
          rw [HW1.out]
          refine(jb.out _ hq0).mono ?_
          rintro e w3 ⟨rfl,hb3⟩
          have hc3:=HT.out _ _ hq0 hb3
          have hd3:=bE.out _ hc3
          have hr3:=jt.out _ hc3
          clear hb3
          go_wp2_with fail
          go_ret
          exact⟨aG (by rw [←HP.out,HS.out _ dV.out O_.out]),HB.out _ hd3⟩
        rcases hcs with⟨h1,he⟩|⟨h1,hcs⟩
        · have dV:=h_ he
          clear he iS
          go_wp2_with fail
          rw [HW1.out]
          refine(jb.out _ hq0).mono ?_
          rintro e w3 ⟨rfl,hb3⟩
          have hc3:=HT.out _ _ hq0 hb3
          have hd3:=bE.out _ hc3
          have hr3:=jt.out _ hc3
          clear hb3
          go_wp2_with (at_lookup;refine ay _ rfl _ _ _ _ rfl _ _ _ rfl rfl (gG.out _ hc3) ?_)
          go_ret
          exact⟨aG (by rw [←HP.out,HS.out _ dV.out rfl]),HB.out _ hd3⟩
        rcases iS with⟨rfl,hkd⟩|⟨y,NW,hk1,hkd,hkz,hkl,hwr,hkn,hpy⟩
        · rcases hcs with⟨h2,he⟩|⟨_,⟨ht,he⟩|⟨ht,he⟩⟩
          · cases h2
          · have dV:=h_ he
            rw [ht] at gG
            clear he ht
            go_wp2_with fail
            rw [HW1.out]
            refine(jb.out _ hq0).mono ?_
            rintro e w3 ⟨rfl,hb3⟩
            have hc3:=HT.out _ _ hq0 hb3
            have hd3:=bE.out _ hc3
            have hr3:=jt.out _ hc3
            clear hb3
            go_wp2_with (at_lookup;refine ay _ rfl _ _ _ _ rfl _ _ _ rfl rfl (gG.out _ hc3) ?_)
            go_quiet (fail)
            go_wp2_with fail
            go_ret
            exact⟨aG (by rw [←HP.out,HS.out _ dV.out rfl]),HB.out _ (Sp hd3 _)⟩
          · have dV:=h_ he
            rw [ht] at gG
            clear he ht
            go_wp2_with fail
            rw [HW1.out]
            refine(jb.out _ hq0).mono ?_
            rintro e w3 ⟨rfl,hb3⟩
            have hc3:=HT.out _ _ hq0 hb3
            have hd3:=bE.out _ hc3
            have hr3:=jt.out _ hc3
            clear hb3
            go_wp2_with (at_lookup;refine ay _ rfl _ _ _ _ rfl _ _ _ rfl rfl (gG.out _ hc3) ?_)
            have OV:=h_ (fun q=>(FC.out _ hc3).drewN q)
            go_quiet (fail)
            go_wp2_with (at_mapUpdate;refine oT _ rfl _ _ _ rfl mb k _ (OV.out _) rfl xid DA.out rfl k rfl (by constructor<;>omega) (by unfold maxLen;omega) ?_;intro w5 Hn hg5)
            have Hm:=Hn
            rw [zh.out] at Hm
            have hb6:=(Sp hd3 _).grown hg5 (by have:=hd3.size;rw [dI.out] at this;simp;omega) (fun j hj=>by simp at hj;omega)
            clear Hn hg5
            go_wp2_with fail
            go_roundw
            case rel=>exact⟨k+1,by omega,by go_num,by rw [←HN.out dV.out];exact HP.out,Hm,hb6⟩
            case measure=>simp [intOf];omega
        · have n9:=h_ hpy
          have pH:=h_ (fun w1=>FF.out y w1)
          obtain⟨yid,yin,yout,yreg,ykind,ysp,ya,yc,yrows⟩:=y
          simp only [Ev.enc] at n9 pH
          clear hpy FF
          generalize kJ ⟨yid,yin,yout,yreg,ykind,ysp,ya,yc,yrows⟩ ⟨xid,xin,xout,xreg,xkind,xsp,xa,xc,xrows⟩=LS at *
          subst NW
          rcases hcs with⟨h2,he⟩|⟨h2,⟨ht,he⟩|⟨ht,he⟩⟩
          · have dV:=h_ he
            obtain rfl:LS=false:=by simpa using h2
            clear he h2
            go_wp2_with fail
            rw [HW1.out]
            refine(jb.out _ hq0).mono ?_
            rintro e w3 ⟨rfl,hb3⟩
            have hc3:=HT.out _ _ hq0 hb3
            have hd3:=bE.out _ hc3
            have hr3:=jt.out _ hc3
            clear hb3
            go_wp2_with (at_lookup;refine ay _ rfl _ _ _ _ rfl _ _ _ rfl rfl (gG.out _ hc3) ?_)
            have AD:SF (wr.heap.size+1) W1 w3.drew:=hc3.drew
            have Hf:SF (w.heap.size+1) W0 w3.drew:=hd3.drew
            have p0:=n9.out 0 _ rfl;have p1:=n9.out 1 _ rfl;have p2:=n9.out 2 _ rfl;have p3:=n9.out 3 _ rfl;have p4:=n9.out 4 _ rfl;have p5:=n9.out 5 _ rfl;have p6:=n9.out 6 _ rfl
            simp only [Sz] at p0
            go_region_with (go_at_call 66;refine(pH.out _).mono ?_;rintro e w4 ⟨rfl,hb4⟩;have hc4:=HT.out _ _ AD hb4;have hd4:=bE.out _ hc4;clear hb4)
            all_goals
             go_wp2_with fail
             go_ret
             exact⟨aG (by rw [←HP.out,HS.out _ dV.out rfl]),HB.out _ hd4⟩
          · have dV:=h_ he
            obtain rfl:LS=true:=by simpa using h2
            rw [ht] at gG
            clear he h2 ht
            go_wp2_with fail
            rw [HW1.out]
            refine(jb.out _ hq0).mono ?_
            rintro e w3 ⟨rfl,hb3⟩
            have hc3:=HT.out _ _ hq0 hb3
            have hd3:=bE.out _ hc3
            have hr3:=jt.out _ hc3
            clear hb3
            go_wp2_with (at_lookup;refine ay _ rfl _ _ _ _ rfl _ _ _ rfl rfl (gG.out _ hc3) ?_)
            have AD:SF (wr.heap.size+1) W1 w3.drew:=hc3.drew
            have Hf:SF (w.heap.size+1) W0 w3.drew:=hd3.drew
            have p0:=n9.out 0 _ rfl;have p1:=n9.out 1 _ rfl;have p2:=n9.out 2 _ rfl;have p3:=n9.out 3 _ rfl;have p4:=n9.out 4 _ rfl;have p5:=n9.out 5 _ rfl;have p6:=n9.out 6 _ rfl
            simp only [Sz] at p0
            go_region_with (go_at_call 66;refine(pH.out _).mono ?_;rintro e w4 ⟨rfl,hb4⟩;have hc4:=HT.out _ _ AD hb4;have hd4:=bE.out _ hc4;clear hb4)
            all_goals
             go_wp2_with fail
             go_ret
             exact⟨aG (by rw [←HP.out,HS.out _ dV.out rfl]),HB.out _ hd4⟩
          · have dV:=h_ he
            obtain rfl:LS=true:=by simpa using h2
            rw [ht] at gG
            clear he h2 ht
            go_wp2_with fail
            rw [HW1.out]
            refine(jb.out _ hq0).mono ?_
            rintro e w3 ⟨rfl,hb3⟩
            have hc3:=HT.out _ _ hq0 hb3
            have hd3:=bE.out _ hc3
            have hr3:=jt.out _ hc3
            clear hb3
            go_wp2_with (at_lookup;refine ay _ rfl _ _ _ _ rfl _ _ _ rfl rfl (gG.out _ hc3) ?_)
            have AD:SF (wr.heap.size+1) W1 w3.drew:=hc3.drew
            have Hf:SF (w.heap.size+1) W0 w3.drew:=hd3.drew
            have p0:=n9.out 0 _ rfl;have p1:=n9.out 1 _ rfl;have p2:=n9.out 2 _ rfl;have p3:=n9.out 3 _ rfl;have p4:=n9.out 4 _ rfl;have p5:=n9.out 5 _ rfl;have p6:=n9.out 6 _ rfl
            simp only [Sz] at p0
            go_region_with (go_at_call 66;refine(pH.out _).mono ?_;rintro e w4 ⟨rfl,hb4⟩;have hc4:=HT.out _ _ AD hb4;have hd4:=bE.out _ hc4;clear hb4)
            all_goals
             go_wp2_with (at_mapUpdate;refine oT _ rfl _ _ _ rfl mb k _ (FC.out _ hc4) rfl xid DA.out rfl k rfl (by constructor<;>omega) (by unfold maxLen;omega) ?_;intro w5 Hn hg5)
             have Hm:=Hn
             rw [zh.out] at Hm
             have hb6:=hd4.grown hg5 (by have:=hd4.size;rw [dI.out] at this;omega) (fun j hj=>by simp at hj;omega)
             clear Hn hg5
             go_wp2_with fail
             go_roundw
             case rel=>exact⟨k+1,by omega,by go_num,by rw [←HN.out dV.out];exact HP.out,Hm,hb6⟩
             case measure=>simp [intOf];omega
      · obtain rfl:k=eV.length:=by omega
        rw [IZ.out] at hp
        have HC:=HCM.out mb wr (hE.below hbw (Sy _)) (Doc.later Lp.out hbw) hM
        rw [hp] at HC
        have jc:=h_ HC
        clear hp HC HCM
        go_wp2_with fail
        refine jc.out.mono ?_
        rintro e w5 ⟨rfl,hb5⟩
        have Cy:=HT0.out _ _ hb hb5
        go_wp2_with fail
        go_ret
        exact⟨rfl,HB.out _ Cy⟩
theorem mC (x y:Ev)(w:Sj)(h:x.lies w)(h':y.lies w)(hf:∀ r∈x.rows,r.runs.length≤4000000)(hl:x.rows.length≤4000000) :
 Sn Tryz.prog 61 #[.agg x.enc.toArray,.agg y.enc.toArray] w fun e w'=>e=.returned (.bool (evEq x y))∧SF w.heap.size w w':=by
 have hb2:∀ o o',SF w.heap.size w ((w.alloc o).alloc o'):=fun o o'=>((SD _ _).alloc (Sy _) _).alloc (by simp) _
 have HC:=h_ (fun o o'=>qf x.at_ y.at_ x.cap y.cap x.rows y.rows ((w.alloc o).alloc o') (bx.later h (hb2 o o')) (bx.later h' (hb2 o o')) hf hl)
 have HB:=h_ (fun o o' w1 (h1:SF ((w.alloc o).alloc o').heap.size ((w.alloc o).alloc o') w1)=>(hb2 o o').trans (h1.mono (by simp;omega)))
 have HB0:=h_ hb2
 have hE:evEq x y=(x.id==y.id&&(x.inn==y.inn&&x.out==y.out)&&x.region.toList==y.region.toList&&x.kind==y.kind&&x.speaker.toList==y.speaker.toList&&dZ x.rows y.rows):=rfl
 generalize hQ:(fun(e:Ending) (w':Sj)=>e=.returned (.bool (evEq x y))∧SF w.heap.size w w')=Q
 generalize dZ x.rows y.rows=G at HC hE
 obtain⟨id,inn,out,reg,kind,sp,xa,xc,xr⟩:=x
 obtain⟨id',inn',out',reg',kind',sp',ya,yc,yr⟩:=y
 simp only [Ev.enc] at *
 have hsp:=o0 inn out inn' out'
 rcases SG (id==id') with h1|h1
 rotate_left
 · rw [h1] at hE
   have HQ:=h_ (fun w' (hb:SF w.heap.size w w')=>show Q (.returned (.bool false)) w' from hQ▸⟨by rw [hE];rfl,hb⟩)
   clear hQ hE hb2 h h' hf hsp
   go_enter Tryz.func61,Tryz.ntmps61
   go_wp2_with fail
   exact HQ.out _ (HB0.out _ _)
 rcases SG (inn==inn'&&out==out') with h2|h2
 rotate_left
 · rw [h1,h2] at hE
   rw [h2] at hsp
   have HQ:=h_ (fun w' (hb:SF w.heap.size w w')=>show Q (.returned (.bool false)) w' from hQ▸⟨by rw [hE];rfl,hb⟩)
   clear hQ hE hb2 h h' hf h2
   go_enter Tryz.func61,Tryz.ntmps61
   go_wp2_with fail
   exact HQ.out _ (HB0.out _ _)
 rcases SG (reg.toList==reg'.toList) with h3|h3
 rotate_left
 · rw [h1,h2,h3] at hE
   rw [h2] at hsp
   have HQ:=h_ (fun w' (hb:SF w.heap.size w w')=>show Q (.returned (.bool false)) w' from hQ▸⟨by rw [hE];rfl,hb⟩)
   clear hQ hE hb2 h h' hf h2
   go_enter Tryz.func61,Tryz.ntmps61
   go_wp2_with fail
   exact HQ.out _ (HB0.out _ _)
 rcases SG (kind==kind') with h4|h4
 rotate_left
 · rw [h1,h2,h3,h4] at hE
   rw [h2] at hsp
   have HQ:=h_ (fun w' (hb:SF w.heap.size w w')=>show Q (.returned (.bool false)) w' from hQ▸⟨by rw [hE];rfl,hb⟩)
   clear hQ hE hb2 h h' hf h2
   go_enter Tryz.func61,Tryz.ntmps61
   go_wp2_with fail
   exact HQ.out _ (HB0.out _ _)
 rcases SG (sp.toList==sp'.toList) with h5|h5
 rotate_left
 · rw [h1,h2,h3,h4,h5] at hE
   rw [h2] at hsp
   have HQ:=h_ (fun w' (hb:SF w.heap.size w w')=>show Q (.returned (.bool false)) w' from hQ▸⟨by rw [hE];rfl,hb⟩)
   clear hQ hE hb2 h h' hf h2
   go_enter Tryz.func61,Tryz.ntmps61
   go_wp2_with fail
   exact HQ.out _ (HB0.out _ _)
 rw [h1,h2,h3,h4,h5] at hE
 rw [h2] at hsp
 have HQ:=h_ (fun w' (hb:SF w.heap.size w w')=>show Q (.returned (.bool G)) w' from hQ▸⟨by rw [hE];rfl,hb⟩)
 clear hQ hE hb2 h h' hf h2
 go_enter Tryz.func61,Tryz.ntmps61
 go_wp2_with fail
 refine(HC.out _ _).mono ?_
 rintro e w1 ⟨rfl,hb⟩
 have bE:=h_ (HB.out _ _ _ hb)
 clear hb
 go_wp2_with fail
 exact HQ.out _ bE.out
theorem Row.deep:Deep Row.lies Row.uses:=⟨fun x w w' h hs hb=>Row.frame h hs hb,fun x w b h hu=>Row.uses_lt h hu⟩
end Go.Proofs.YtjebaagkomejaaaGreatDoor
namespace Go.Proofs.YtjebaagkomejaaaGreatDoor
open Go.RowKit
attribute [local go_sem ↓] Sq Sr
theorem pD {α:Type} (eq:α→α→Bool)(h:∀ x,eq x x=true):∀ xs:List α,SH eq xs xs=true
 | []=>by rw [SH]
 | x::l=>by rw [SH,h x,pD eq h l];rfl
theorem xB (x:Run):gL x x=true:=by simp [gL]
theorem o5:∀ xs ys:List Row,xs.map Row.runs=ys.map Row.runs→dZ xs ys=true
 | [],[],_=>by unfold dZ;rw [SH]
 | [],y::l,h=>by simp at h
 | x::l,[],h=>by simp at h
 | x::l,y::m,h=>by
   simp only [Sv,List.cons.injEq] at h
   have ih:=o5 l m h.2
   unfold dZ at ih ⊢
   rw [SH,ih,gN,h.1,pD gL xB]
   rfl
theorem Dl (x y:Ev)(h:x.c=y.c):evEq x y=true:=by
 simp only [Ev.c,EvC.mk.injEq] at h
 obtain⟨h1,h2,h3,h4,h5,h6,h7⟩:=h
 unfold evEq
 rw [h1,h2,h3,h4,h5,h6,o5 _ _ h7]
 simp
theorem sQ (x:Hd):hdEq x x=true:=by simp [hdEq]
theorem pb (x:Reg):gO x x=true:=by simp [gO]
theorem tu (x:Cm):cmEq x x=true:=by simp [cmEq]
end Go.Proofs.YtjebaagkomejaaaGreatDoor
namespace Go.Proofs.YtjebaagkomejaaaGreatDoor
open Go.RowKit
def uN:ByteArray:=⟨#[]⟩
def aT (l:List EvC)(z:Int):Option EvC:=l.find? (evAt z)
def cU (l:List Cm)(z:Int):Option Cm:=l.find? (cmAt z)
def eZ (l:List Reg)(n:ByteArray):Option Reg:=l.find? (eD n)
def bT (rG:List Reg)(x:EvC):Int:=fK x.rep rG
def kG:List Run→List UInt8
 | []=>[]
 | x::l=>x.text.data.toList++kG l
def dj:List (List Run)→List UInt8
 | []=>[]
 | [r]=>kG r
 | r::l=>kG r++10::dj l
def ek (x:Option EvC):ByteArray:=⟨(dj ((x.map EvC.rows).getD [])).toArray⟩
def alike:List Nat→List Nat→Nat
 | x::l,y::m=>if x=y then alike l m+1 else 0
 | _,_=>0
def f_ (n m p s:Int)(frm til:Int):Int × Int :=
 (if n-s≤frm then frm+(m-n) else if p≤frm then m-s else frm,if til≤p then til else if n-s<til then til+(m-n) else p)
def nl (c:Cm)(a b:List Nat):Cm :=
 let p:=alike a b
 let s:=alike (a.drop p).reverse (b.drop p).reverse
 let q:=f_ a.length b.length p s c.frm c.til
 if q.2≤q.1 then { c with frm:=0,til:=0,lost:=true } else { c with frm:=q.1,til:=q.2 }
theorem vD {t:DocC} (h:cErr t=0):∀ e∈t.eV,e.id≤t.hd.last:=by
 intro e he
 have hp:=kl (d:=t.rep) h
 obtain⟨j,hj⟩:=Sw.1 he
 have:=hp.2.2.2.1 j e.rep (by simp [DocC.rep,hj])
 exact(iv this).2.1
theorem dL {P:Program} {ops:Array Oper} {rest:List Oper} {op:Oper} {a:Act} {w:Sj} {Q:Exit→Act→Sj→Prop} (x:Operand)(t:TypeId)(ho:op.op=.call { callee:=.builtin .len,args:=#[x],argTypes:=#[t] })
 (base:Option Addr) (n c:Nat) (hx:a.eval x=.slice base n c) (ht:P.underlying t=some (.slice (P.elem t))) (hw:Region.wanted op (yielded ops a.tmps)=true)
 (h:wpList P ops Q rest (a.put op.dst (.int .i64 n)) w):wpList P ops Q (op::rest) a w :=
 BigFrame.wpList_want hw fun K hK=>by
  have h2:=hK _ _ h
  obtain⟨dst,o,ty,pos,after,guard⟩:=op
  simp only at ho
  subst ho
  unfold Oper.wp
  rw [BigFrame.execOp_builtin,BigFrame.builtin_len]
  have e:#[x].map a.eval=#[Sk.slice base n c]:=by simp [hx]
  rw [show(#[x].map a.eval)=_ from e]
  simp only [Sem.run_bind,run_len_slice _ _ _ _ _ _ ht,Result.andThen_ok,Sem.run_pure]
  exact h2
theorem iy {t:DocC} (h:cErr t=0):Jf t:=by
 have:=K7 (d:=t.rep) h
 rwa [DocC.rep_c] at this
theorem Ff {t:DocC} (h:cErr t=0):∀ e∈t.eV,bT t.rG e=0:=by
 intro e he
 have hp:=kl (d:=t.rep) h
 obtain⟨j,hj⟩:=Sw.1 he
 have:=hp.2.2.2.1 j e.rep (by simp [DocC.rep,hj])
 exact(iv this).1
theorem lE (last:Int)(f:Int→Option Nat)(eV:List Ev):∀ (xs:List Cm)(p:Option Cm),di last f eV p xs=0→∀ c∈xs,cw last f eV c=0
 | [],_,_=>fun c hc=>by simp at hc
 | x::l,p,h=>by
   rw [di] at h
   split at h
   · rename_i hne;rw [h] at hne;cases hne
   · rename_i hne
     have h0:fA last f eV p x=0:=by simpa using hne
     intro c hc
     rcases List.mem_cons.1 hc with rfl|hc
     · unfold fA at h0
       split at h0
       · cases h0
       · split at h0
         · cases h0
         · split at h0
           · cases h0
           · split at h0
             · exact h0
             · rename_i hn
               simpa using hn
     · exact lE last f eV l _ h c hc
def dQ (id:Int)(c:Cm):Cm:=if c.ev=id then { c with frm:=0,til:=0,lost:=true } else c
def br (d:DocC)(id:Int):Int × DocC :=
 if cErr d≠0 then (cErr d,aU) else if (aT d.eV id).isNone=true then (6,aU)
 else (0,{ d with eV:=d.eV.filter fun x=>!(x.id==id),cM:=d.cM.map (dQ id) })
def fZ (c:Cm)(a b:ByteArray):Cm:=if c.lost=true then c else nl c (runes a) (runes b)
def putC (d:DocC)(e:EvC):Int × DocC :=
 if cErr d≠0 then (cErr d,aU) else match aT d.eV e.id with
  | none=>(6,aU)
  | some o=>if bT d.rG e≠0 then (bT d.rG e,aU) else
    (0,{ d with eV:=oY d.eV e.id (some e),cM:=d.cM.map fun c=>if c.ev=e.id then fZ c (ek (some o)) (ek (some e)) else c })
def pT (fr n:Int)(x:EvC):EvC:=if x.inn<fr then x else { x with inn:=x.inn+n,out:=x.out+n }
def eB (fr n:Int)(x:EvC):Bool:=decide (x.inn<fr)||(decide (0≤x.inn+n)&&decide (x.out+n≤5184000))
def dY (d:DocC)(fr n:Int):Int × DocC :=
 if cErr d≠0 then (cErr d,aU) else if n < -5184000∨5184000<n then (2,aU)
 else if d.eV.all (eB fr n)=true then (0,{ d with eV:=de (d.eV.map (pT fr n)) }) else (2,aU)
def aQ (d:DocC)(e:EvC):Int :=
 if cErr d≠0 then cErr d else
 let q:Int:=if e.id=0 then (if 1099511627776≤d.hd.last then 9 else 0) else if e.id<1∨d.hd.last<e.id then 2 else if (aT d.eV e.id).isSome=true∨(cU d.cM e.id).isSome=true then 7 else 0
 if q≠0 then q else
 let e':EvC:=if e.id=0 then { e with id:=d.hd.last+1 } else e
 if bT d.rG e'≠0 then bT d.rG e' else if 400≤d.eV.length then 9 else 0
def insertC (d:DocC)(e:EvC):Int × DocC :=
 if aQ d e≠0 then (aQ d e,aU) else
 if e.id=0 then (0,{ d with hd:={ d.hd with last:=d.hd.last+1 },eV:=de (d.eV++[{ e with id:=d.hd.last+1 }]) })
 else (0,{ d with eV:=de (d.eV++[e]) })
def bg (e:EvC)(fr row id:Int):Int :=
 if row<1∨e.rows.length≤row then 1 else if fr≤e.inn∨e.out≤fr∨id<1∨1099511627776<id then 2 else if id=e.id then 7 else 0
def fS (e:EvC)(fr row:Int):EvC:={ e with out:=fr,rows:=e.rows.take row.toNat }
def iI (e:EvC)(fr row id:Int):EvC:={ e with id:=id,inn:=fr,rows:=e.rows.drop row.toNat }
def evLt (a b:EvC):Bool:=decide (a.inn<b.inn∨(a.inn=b.inn∧a.id<b.id))
def bS (a b:EvC):Int:=if evLt a b=false then 8 else if 4<a.rows.length+b.rows.length then 9 else 0
def og (a b:EvC):EvC:={ a with inn:=min a.inn b.inn,out:=max a.out b.out,rows:=a.rows++b.rows }
def A0 (e:EvC):Int:=gC e.rep.rows
def bN (d:DocC)(id fr til:Int)(au tx:ByteArray):Int :=
 if cErr d≠0 then cErr d else match aT d.eV id with
  | none=>6
  | some e=>if fr<0∨til≤fr∨A0 e<til then 2 else if da au=false then 5 else if bw tx=false then 10 else if tx.size=0 then 4
    else if 400<tx.size∨64≤d.cM.length∨1099511627776≤d.hd.last then 9 else 0
def fL (d:DocC)(id fr til:Int)(au tx:ByteArray):Int × DocC :=
 if bN d id fr til au tx≠0 then (bN d id fr til au tx,aU)
 else (0,{ d with hd:={ d.hd with last:=d.hd.last+1 },cM:=d.cM++[⟨d.hd.last+1,id,fr,til,au,tx,false,false⟩] })
def bZ (d:DocC)(id:Int):Int × DocC :=
 if cErr d≠0 then (cErr d,aU) else match cU d.cM id with
  | none=>(6,aU)
  | some c=>if c.done=true then (17,aU) else (0,{ d with cM:=d.cM.map fun c=>if c.id=id then { c with done:=true } else c })
def bX (d:DocC)(id:Int):Int × DocC :=
 if cErr d≠0 then (cErr d,aU) else if (cU d.cM id).isNone=true then (6,aU) else (0,{ d with cM:=d.cM.filter fun c=>!(c.id==id) })
def dN (out:List Run)(x:Run):List Run :=
 if x.text.size=0 then out else match out.getLast? with
  | some l=>if eu l x=true then out.dropLast++[{ l with text:=l.text++x.text }] else out++[x]
  | none=>[x]
def cN (l:List Run):List Run:=l.foldl dN []
def limA (n i:Int):Int:=min (max i 0) n
def limB (n i j:Int):Int:=min (max j (limA n i)) n
def fM (l:List Nat):ByteArray:=⟨(l.flatMap fun(r:Nat)=>Lib.encodeRune r).toArray⟩
def dO (s:ByteArray)(i j:Int):ByteArray :=
 let l:=if bw s=true then runes s else []
 fM (((l.take (limB l.length i j).toNat).drop (limA l.length i).toNat))
def sliceAt (i j:Int):Int→List Run→List Run
 | _,[]=>[]
 | at_,x::l =>
   let n:=lenB x.text
   let a:=limA n (i-at_)
   let b:=limB n (i-at_) (j-at_)
   { x with text:=dO x.text a b,ruby:=if b-a<n then uN else x.ruby }::sliceAt i j (at_+n) l
def bR (r:List Run)(i j:Int):List Run:=if rowLen r<0 then [] else cN (sliceAt (limA (rowLen r) i) (limB (rowLen r) i j) 0 r)
def cZ (a b:List Run):List Run:=cN (a++b)
def gw (r:List Run)(i j:Int)(color:Int)(it un:Bool):List Run :=
 if rowLen r<0 then [] else
 let a:=limA (rowLen r) i
 let b:=limB (rowLen r) i j
 cZ (cZ (bR r 0 a) ((bR r a b).map fun x=>{ x with color:=color,it:=it,un:=un })) (bR r b (rowLen r))
structure EdC where
 op:Int
 id:Int
 other:Int
 inn:Int
 out:Int
 frame:Int
 row:Int
 frm:Int
 til:Int
 kind:Int
 color:Int
 it:Bool
 un:Bool
 name:ByteArray
 text:ByteArray
 reg:Reg
 rows:List (List Run)
def aN (op:Int):Nat :=
 match op.toNat with
 | 1=>4+256+4096+64+512+2048
 | 2=>1
 | 3=>1+4
 | 4=>1+2048
 | 5=>1+256+4096
 | 6=>1+64
 | 7=>1+256+4096
 | 8=>1+16+32+128
 | 9=>1+8+16
 | 10=>1+2
 | 11=>8+2
 | 12=>1024
 | 13=>1024
 | 14=>256
 | 15=>512
 | 16=>256+4096
 | 17=>1+32+256+512
 | 18=>1
 | 19=>1
 | _=>0
def el (x:EdC)(k:Nat):Bool:=(aN x.op).testBit k
def vq (x:EdC):Bool :=
 (el x 0||x.id==0)&&(el x 1||x.other==0)&&(el x 2||(x.inn==0&&x.out==0))&&(el x 3||x.frame==0)&&(el x 4||x.row==0)&&(el x 5||(x.frm==0&&x.til==0))&&(el x 6||x.kind==0) &&
 (el x 7||(x.color==0&&x.it==false&&x.un==false))&&(el x 8||x.name.toList.isEmpty)&&(el x 9||x.text.toList.isEmpty)&&(el x 10||gO x.reg gn)&&(el x 11||x.rows.isEmpty)
def kk (x:EdC):Bool :=
 (!el x 0||inB x.id 1 1099511627776)&&(!el x 1||(if x.op=11 then inB x.other (-5184000) 5184000 else inB x.other 1 1099511627776))&&(!el x 2||cQ x.inn x.out)&&(!el x 3||inB x.frame 0 5184000) &&
 (!el x 4||inB x.row 0 3)&&(!el x 5||(inB x.frm 0 262144&&inB x.til 0 262144))
def dF (x:EdC):Int :=
 if x.op=1 then (if x.text.size=0∨da x.text=true then 0 else 5) else if bw x.text=false then 10 else if x.op=17∧x.text.size=0 then 4 else if x.text.size≤400 then 0 else 9
def dg:List (List Run)→Int
 | []=>0
 | r::l=>if fT r≠0 then fT r else dg l
def dw (l:List (List Run)):Int:=if l.length<1∨4<l.length then 9 else dg l
def gE (x:EdC):Int :=
 if x.op<1∨19<x.op then 3 else if vq x=false then 1 else if kk x=false then 2
 else if el x 6=true∧(kindName x.kind).size=0 then 3 else if el x 7=true∧¬ x.color≤6 then 12
 else if el x 8=true∧da x.name=false∧(x.name.size≠0∨el x 12=false) then 5
 else if el x 9=true∧dF x≠0 then dF x
 else if el x 10=true then fj x.reg
 else if el x 11=true then dw x.rows else 0
def aF (d:DocC)(id:Int)(f:EvC→Int × EvC):Int × DocC :=
 match aT d.eV id with
 | none=>(6,aU)
 | some e=>if (f e).1≠0 then ((f e).1,aU) else putC d (f e).2
def restyle (x:EdC)(e:EvC):Int × EvC :=
 match e.rows[x.row.toNat]? with
 | none=>(2,e)
 | some r=>if x.frm<0∨x.til≤x.frm∨rowLen r<x.til then (2,e) else (0,{ e with rows:=e.rows.set x.row.toNat (gw r x.frm x.til x.color x.it x.un) })
def et (d:DocC)(x:EdC):Int × DocC :=
 match aT d.eV x.id with
 | none=>(6,aU)
 | some e=>if 1099511627776≤d.hd.last then (9,aU) else if bg e x.frame x.row (d.hd.last+1)≠0 then (bg e x.frame x.row (d.hd.last+1),aU)
   else if (putC d (fS e x.frame x.row)).1≠0 then ((putC d (fS e x.frame x.row)).1,aU)
   else insertC (putC d (fS e x.frame x.row)).2 (iI e x.frame x.row 0)
def gR (d:DocC)(x:EdC):Int × DocC :=
 match aT d.eV x.id,aT d.eV x.other with
 | some a,some b=>if x.id=x.other then (1,aU) else if bS a b≠0 then (bS a b,aU)
   else if (br d x.other).1≠0 then ((br d x.other).1,aU) else putC (br d x.other).2 (og a b)
 | _,_=>(6,aU)
def fo (d:DocC)(x:EdC):Int × DocC :=
 let name:=if x.op=14 then x.name else x.reg.name
 if x.op=12 then (if (eZ d.rG name).isSome=true then (7,aU) else if 16≤d.rG.length then (9,aU) else (0,{ d with rG:=d.rG.filter (dM name)++x.reg::d.rG.filter fun r=>!(dM name r) }))
 else if (eZ d.rG name).isNone=true then (6,aU)
 else if x.op=13 then
  let rs:=d.rG.map fun r=>if eD name r=true then x.reg else r
  (match d.eV.find? (fun e=>bT rs e != 0) with
   | some e=>(bT rs e,aU)
   | none=>(0,{ d with rG:=rs }))
 else if d.eV.any (fun e=>e.region.toList==name.toList)=true then (17,aU)
 else (0,{ d with rG:=d.rG.filter fun r=>!(eD name r) })
def cj (d:DocC)(x:EdC):Int × DocC :=
 if cErr d≠0 then (cErr d,aU) else if gE x≠0 then (gE x,aU) else match x.op.toNat with
 | 1=>insertC d ⟨0,x.inn,x.out,x.name,x.kind,x.text,x.rows⟩
 | 2=>br d x.id
 | 3=>aF d x.id fun e=>(0,{ e with inn:=x.inn,out:=x.out })
 | 4=>aF d x.id fun e=>(0,{ e with rows:=x.rows })
 | 5=>aF d x.id fun e=>(0,{ e with region:=x.name })
 | 6=>aF d x.id fun e=>(0,{ e with kind:=x.kind })
 | 7=>aF d x.id fun e=>(0,{ e with speaker:=x.name })
 | 8=>aF d x.id (restyle x)
 | 9=>et d x
 | 10=>gR d x
 | 11=>dY d x.frame x.other
 | 15=>(0,{ d with hd:={ d.hd with title:=x.text } })
 | 16=>(0,{ d with hd:={ d.hd with lA:=x.name } })
 | 17=>fL d x.id x.frm x.til x.name x.text
 | 18=>bZ d x.id
 | 19=>bX d x.id
 | _=>fo d x
theorem jk:∀ a b:List Nat,alike a b≤a.length∧alike a b≤b.length
 | [],_=>by simp [alike]
 | x::l,[]=>by simp [alike]
 | x::l,y::m=>by
   have ih:=jk l m
   simp only [alike,List.length_cons]
   split<;>omega
theorem wP:∀ (a b:List Nat)(i:Nat),i<alike a b→a[i]? =b[i]?
 | [],_,i,h=>by simp [alike] at h
 | x::l,[],i,h=>by simp [alike] at h
 | x::l,y::m,i,h=>by
   simp only [alike] at h
   split at h
   · rename_i hxy
     subst hxy
     cases i with
     | zero=>rfl
     | succ j=>simpa using wP l m j (by omega)
   · omega
theorem wO:∀ (a b:List Nat),alike a b<a.length→alike a b<b.length→a[alike a b]?≠b[alike a b]?
 | [],_,h,_=>by simp at h
 | x::l,[],_,h=>by simp at h
 | x::l,y::m,h1,h2=>by
   simp only [alike] at h1 h2 ⊢
   split
   · rename_i hxy
     rw [if_pos hxy] at h1 h2
     simpa using wO l m (by simpa using h1) (by simpa using h2)
   · rename_i hxy
     simpa using hxy
theorem pE {a b:List Nat} {p x y:Nat} (h:p≤alike a b)(hx:a[p]? =some x)(hy:b[p]? =some y):(x=y→p+1≤alike a b)∧(x≠y→p=alike a b):=by
 refine⟨fun e=>?_,fun e=>?_⟩
 · refine Decidable.byContradiction fun hn=>?_
   obtain rfl:p=alike a b:=by omega
   refine wO a b (St.1 hx).1 (St.1 hy).1 ?_
   rw [hx,hy,e]
 · refine Decidable.byContradiction fun hn=>e ?_
   have:=wP a b p (by omega)
   rw [hx,hy] at this
   exact Option.some.inj this
theorem tE {a b:List Nat} {p:Nat} (h:p≤alike a b)(hp:a.length≤p∨b.length≤p):p=alike a b:=by
 have:=jk a b
 omega
def fN (a b:List Nat)(p:Nat):Nat:=alike (a.drop p).reverse (b.drop p).reverse
theorem rev_at {a:List Nat} {p s x:Nat} (hs:s<a.length-p)(hx:a[a.length-1-s]? =some x):(a.drop p).reverse[s]? =some x:=by
 rw [List.getElem?_reverse (by simpa using hs),List.getElem?_drop,List.length_drop]
 rw [←hx]
 congr 1
 omega
theorem vI {a b:List Nat} {p s x y:Nat} (h:s≤fN a b p)(h1:s<a.length-p)(h2:s<b.length-p)(hx:a[a.length-1-s]? =some x)(hy:b[b.length-1-s]? =some y):(x=y→s+1≤fN a b p)∧(x≠y→s=fN a b p) :=
 pE h (rev_at h1 hx) (rev_at h2 hy)
theorem yL {a b:List Nat} {p s:Nat} (h:s≤fN a b p)(hp:a.length-p≤s∨b.length-p≤s):s=fN a b p :=
 tE h (by simpa using hp)
theorem nJ (a b:List Nat)(p:Nat):fN a b p≤a.length-p∧fN a b p≤b.length-p:=by
 have:=jk (a.drop p).reverse (b.drop p).reverse
 simpa [fN] using this
abbrev zeD:Array Sk:=#[Sk.string ⟨#[]⟩,.string ⟨#[]⟩,.int .u8 0,.bool false,.int .i64 0,.slice none 0 0,.slice none 0 0,.slice none 0 0]
abbrev zeE:Array Sk:=#[Sk.int .i64 0,.int .i64 0,.int .i64 0,.string ⟨#[]⟩,.int .u8 0,.string ⟨#[]⟩,.slice none 0 0]
theorem cL (v:Sj)(o:Obj):∃ (v':Sj)(g:Nat),v.alloc o=v'∧v.heap.size=g∧v'.heap[g]? =some o∧SF v.heap.size v v'∧g<v'.heap.size∧(v.heap.size≤g∧g≤v.heap.size) :=
 ⟨_,_,rfl,rfl,Sm v o,(SD _ _).alloc (Sy _) _,by simp,Sy _,Sy _⟩
theorem jY (b n:Nat):zDoc.uses b→n≤b:=by
 rintro (⟨h,_⟩|(⟨h,_⟩|⟨x,hx,_⟩)|⟨h,_⟩)
 · exact absurd rfl h
 · exact absurd rfl h
 · cases hx
 · exact absurd rfl h
theorem ag:(Tryz.prog.info? 27).map (·.size)=some 8:=by kernel_rfl
theorem aO {a b:ByteArray} {c:Int} {d:Bool} {e:Int} {f1 f2 f3:Option Addr} {n1 n2 n3 m1 m2 m3:Nat}:(#[Sk.string a,.string b,.int .u8 c,.bool d,.int .i64 e,.slice f1 n1 m1,.slice f2 n2 m2,.slice f3 n3 m3].all (·.oneCell'))=true:=by simp [Sk.oneCell']
theorem size_setRow (w:Sj)(g:Nat)(cs:Array Sk):(w.setRow g cs).heap.size=w.heap.size:=by unfold Sj.setRow;simp
theorem aK (w:Sj)(p b:Nat)(cs:Array Sk)(hb:b≠p):(w.setRow p cs).heap[b]? =w.heap[b]?:=by
 unfold Sj.setRow
 show(w.heap.modify _ _)[b]? =w.heap[b]?
 rw [Array.getElem?_modify,if_neg (fun e=>hb e.symm)]
theorem te {α:Type} {K:Nat} {enc:α→List Sk} (hk:∀ x,(enc x).length=K) {x y:α} {j:Nat} {v:Sk} (hy:enc y=(enc x).set j v)(hj:j<K):∀ (zs:List α)(k:Nat),zs[k]? =some x→(zs.set k y).flatMap enc=(zs.flatMap enc).set (k*K+j) v
 | [],k,h=>by simp at h
 | z::l,0,h=>by
   obtain rfl:z=x:=by simpa using h
   rw [List.set_cons_zero,Ss,Ss,hy,Nat.zero_mul,SA,List.set_append_left _ _ (by rw [hk];exact hj)]
 | z::l,k+1,h=>by
   have ih:=te hk hy hj l k (by simpa using h)
   rw [List.set_cons_succ,Ss,Ss,ih,List.set_append_right _ _ (by rw [hk,SC];omega),hk]
   congr 2
   rw [SC];omega
def dK {α:Type} (f:α→α)(xs zs:List α)(k:Nat):Prop:=zs.length=xs.length∧∀ i,zs[i]? =(xs[i]?).map (if i<k then f else id)
theorem dK.start {α:Type} (f:α→α)(xs:List α):dK f xs xs 0:=⟨rfl,fun i=>by rw [if_neg (by omega)];simp⟩
theorem dK.step {α:Type} {f:α→α} {xs zs:List α} {k:Nat} {x:α} (h:dK f xs zs k)(hx:xs[k]? =some x):dK f xs (zs.set k (f x)) (k+1):=by
 refine⟨by simpa using h.1,fun i=>?_⟩
 have hk:k<zs.length:=by rw [h.1];exact(St.1 hx).1
 rw [List.getElem?_set]
 split
 · rename_i e
   subst e
   rw [hx,if_pos (by omega)]
   simp [hk]
 · rename_i e
   rw [h.2 i]
   by_cases hi:i<k
   · rw [if_pos hi,if_pos (by omega)]
   · rw [if_neg hi,if_neg (by omega)]
theorem dK.at_ {α:Type} {f:α→α} {xs zs:List α} {k:Nat} {x:α} (h:dK f xs zs k)(hx:xs[k]? =some x):zs[k]? =some x:=by
 rw [h.2 k,hx,if_neg (by omega)]
 rfl
theorem dK.all {α:Type} {f:α→α} {xs zs:List α} (h:dK f xs zs xs.length):zs=xs.map f:=by
 apply List.ext_getElem?
 intro i
 rw [h.2 i,Sx]
 by_cases hi:i<xs.length
 · rw [if_pos hi]
 · rw [if_neg hi,List.getElem?_eq_none (by omega)]
   rfl
theorem aj {P:Program} {ops:Array Oper} {rest:List Oper} {op:Oper} {a:Act} {w:Sj} {Q:Exit→Act→Sj→Prop} (ty:TypeId)(x:Operand)(ho:op.op=.load ty x)
 (b o:Nat) (hx:a.eval x=.pointer (some ⟨b,o,none⟩)) (cs:List Sk) (d:TypeDesc) (hc:w.rangeAt b o cs) (hu:P.underlying ty=some d) (hd:d.isRow=true) (hi:(P.info? ty).map (·.size)=some cs.length) (hw:Region.wanted op (yielded ops a.tmps)=true)
 (h:wpList P ops Q rest (a.put op.dst (.agg cs.toArray)) w):wpList P ops Q (op::rest) a w :=
 BigFrame.wpList_want hw fun _ hK=>wp_load_mid ty x ho b o hx cs d hc hu hd hi (hK _ _ h)
theorem ai {w:Sj} {g:Nat} {l:List Sk} {t:TypeId} (h:w.heap[g]? =some (.cells l.toArray t (0,0))):w.rangeAt g 0 l:=fun j v hv=>by
 rw [cell_of_row _ _ (0+j) _ t (0,0) h]
 simpa using hv
theorem bj (w:Sj)(g:Nat)(cs:Array Sk):Kept (fun b=>b=g) w (w.setRow g cs):=⟨rfl,rfl,rfl,by rw [size_setRow];exact Sy _,fun k _ hn=>aK _ _ _ _ hn⟩
theorem bn {d d':Doc} (h:d'.c=d.c)(hf:d.fits):d'.fits:=by
 have:=Doc.fits.c (n:=4000000) hf hf.2.2.2.2.2.2.1 hf.2.2.2.2.2.2.2.2.1 hf.2.2.2.2.2.2.2.2.2.2
 rw [←h] at this
 exact this.doc (Sy _)
theorem mT (k:Int):∀ (l:List Ev)(i:Nat),(bV (iu k) l i=-1∧aT (l.map Ev.c) k=none)∨∃ (j:Nat)(x:Ev),bV (iu k) l i=((i+j:Nat):Int)∧l[j]? =some x∧aT (l.map Ev.c) k=some x.c
 | [],i=>.inl ⟨rfl,rfl⟩
 | x::l,i=>by
   by_cases h:x.id=k
   · have h1:iu k x=true:=by simp [iu,h]
     have h2:evAt k x.c=true:=by simp [evAt,Ev.c,h]
     refine .inr ⟨0,x,?_,rfl,?_⟩
     · simp only [bV,h1,if_true,Sz]
     · unfold aT
       rw [Sv,Su,h2]
   · have h1:iu k x=false:=by simp [iu,h]
     have h2:evAt k x.c=false:=by simp [evAt,Ev.c,h]
     have e1:bV (iu k) (x::l) i=bV (iu k) l (i+1):=by simp [bV,h1]
     have e2:aT ((x::l).map Ev.c) k=aT (l.map Ev.c) k:=by
      unfold aT
      rw [Sv,Su,h2]
     rw [e1,e2]
     rcases mT k l (i+1) with h|⟨j,y,h3,h4,h5⟩
     · exact .inl h
     · exact .inr ⟨j+1,y,by rw [h3];congr 1;omega,by simpa using h4,h5⟩
theorem fU (d:Doc)(k:Int):(posOf (iu k) d.eV=-1∧aT d.c.eV k=none)∨∃ (j:Nat)(x:Ev),posOf (iu k) d.eV=(j:Int)∧d.eV[j]? =some x∧aT d.c.eV k=some x.c:=by
 have h:=mT k d.eV 0
 simp only [SA] at h
 exact h
def aS (r:Int × DocC)(w:Sj)(e:Ending)(w':Sj):Prop:=∃ d:Doc,e=.returned (.tuple #[.agg d.enc.toArray,.int .i64 r.1])∧d.c=r.2∧d.lies w'∧(∀ b,d.uses b→w.heap.size≤b)∧SF w.heap.size w w'
theorem aS.zero {w w':Sj} (q:Int)(h:SF w.heap.size w w'):aS (q,aU) w (.returned (.tuple #[.agg zDoc.enc.toArray,.int .i64 q])) w':=⟨zDoc,rfl,rfl,jZ w',fun b=>jY b _,h⟩
theorem bG {g:Nat} {a w:Sj} (h:Kept (fun b=>b=g) a w)(j:Nat)(u:Sk):Kept (fun b=>b=g) a (w.setCell ⟨g,j,none⟩ u):=h.setCell (p:=⟨g,j,none⟩) (.inr rfl) u
theorem fH {α:Type} {K T B g cap n k j:Nat} {enc:α→List Sk} (hk:∀ x,(enc x).length=K) {w:Sj} {zs:List α} {x y:α} {v:Sk} (h:w.ownsRow B T K (.slice (some ⟨g,0,none⟩) n cap) n (zs.flatMap enc))(hx:zs[k]? =some x)(hy:enc y=(enc x).set j v)(hj:j<K) :
 (w.setCell ⟨g,k*K+j,none⟩ v).ownsRow B T K (.slice (some ⟨g,0,none⟩) n cap) n ((zs.set k y).flatMap enc):=by
 rw [te hk hy hj zs k hx]
 exact(h.stored (k*K+j) v).1
end Go.Proofs.YtjebaagkomejaaaGreatDoor
namespace Go.Proofs.YtjebaagkomejaaaGreatDoor
open Go.RowKit
attribute [local go_sem ↓] Sq Sr
theorem Fg {α:Type} {K T:Nat} {enc:α→List Sk} (hk:∀ x,(enc x).length=K) {w:Sj} {g:Nat} {x:α} (h:w.heap[g]? =some (.cells (enc x).toArray T (0,0))):ah K enc Flat w (some ⟨g,0,none⟩) [x]:=by
 refine iJ hk (Array.getElem?_eq_some_iff.1 h).1 fun j u hu=>?_
 simp only [Ss,List.flatMap_nil,List.append_nil] at hu
 rw [SA,cell_of_row w g j _ T (0,0) h]
 simpa using hu
theorem iE (base:Nat)(v:Sk)(xs:List Reg)(i:Nat)(x:Reg)(g vc:Nat)(w:Sj)(h:w.ownsRow base 37 7 v xs.length (xs.flatMap Reg.enc))(hv:w.heap[g]? =some (.cells x.enc.toArray 37 (0,0)))(hgb:v.ownBlock≠some g)(hi:i≤xs.length)(hl:xs.length≤8000000)(hbw:base≤w.heap.size) :
 Sn Tryz.prog 97 #[v,.int .i64 i,.slice (some ⟨g,0,none⟩) 1 vc] w (dB 7 Reg.enc base v.ownBlock (fc xs i x) w):=by
 have h1:=Fg (K:=7) (enc:=Reg.enc) (fun _=>rfl) hv
 rcases h.2 with⟨rfl,h0⟩|⟨b,cap,cur,rfl,hb',hg',hc,hm,_⟩
 · obtain rfl:=List.eq_nil_of_length_eq_zero h0
   obtain rfl:i=0:=by simpa using hi
   exact qo base x g vc w h1 hbw
 · by_cases hi':i<xs.length
   · by_cases hr:xs.length+1≤cap
     · exact mU base b i g cap vc xs x w h hv hi' hr (fun e=>hgb (by rw [e];rfl)) hl hbw
     · exact oh base b i g cap vc xs x w h hv hi' (by omega) hl hbw
   · obtain rfl:i=xs.length:=by omega
     rw [Aj]
     exact qp base b cap xs x g vc w h h1 hl hbw
end Go.Proofs.YtjebaagkomejaaaGreatDoor
namespace Go.Proofs.YtjebaagkomejaaaGreatDoor
open Go.RowKit
theorem aL {fn:Func} {Q:Ending→Sj→Prop} {p u:Tmp} {a:Act} {w:Sj} {g:Nat} {cs:Array Sk} (h:fn.results=#[.cell p 27,.tmp u])(hd:a.defers=[])(hp:a.tmps.getD p undef=.pointer (some ⟨g,0,none⟩))(r:w.heap[g]? =some (.cells cs 27 (0,0)))(hs:cs.size=8)(hQ:Q (.returned (.tuple #[.agg cs,a.tmps.getD u undef])) w):bodyPost Tryz.prog fn Q .ret a w:=by
 refine Sl (v:=.tuple #[.agg cs,a.tmps.getD u undef]) ?_ hd hQ
 rw [results_cell_tmp h,hp]
 simp [asAddr,run_loadVar_row w g 27 27 cs (0,0) _ r Tryz.underlying27 rfl (by rw [hs];exact ag)]
def isCm (id:Int)(x:Cm):Bool:=x.id==id
instance:Inhabited Cm:=⟨⟨0,0,0,0,⟨#[]⟩,⟨#[]⟩,false,false⟩⟩
theorem pB (k:Int):∀ (xs:List Cm)(i:Nat),(bV (isCm k) xs i=-1∧cU xs k=none)∨∃ (j:Nat)(x:Cm),bV (isCm k) xs i=((i+j:Nat):Int)∧xs[j]? =some x∧cU xs k=some x
 | [],i=>.inl ⟨rfl,rfl⟩
 | x::l,i=>by
   by_cases h:x.id=k
   · have h1:isCm k x=true:=by simp [isCm,h]
     have h2:cmAt k x=true:=by simp [cmAt,h]
     refine .inr ⟨0,x,?_,rfl,?_⟩
     · simp only [bV,h1,if_true,Sz]
     · unfold cU
       rw [Su,h2]
   · have h1:isCm k x=false:=by simp [isCm,h]
     have h2:cmAt k x=false:=by simp [cmAt,h]
     have e1:bV (isCm k) (x::l) i=bV (isCm k) l (i+1):=by simp [bV,h1]
     have e2:cU (x::l) k=cU l k:=by
      unfold cU
      rw [Su,h2]
     rw [e1,e2]
     rcases pB k l (i+1) with h|⟨j,y,h3,h4,h5⟩
     · exact .inl h
     · exact .inr ⟨j+1,y,by rw [h3];congr 1;omega,by simpa using h4,h5⟩
theorem A8 (xs:List Cm)(k:Int):(posOf (isCm k) xs=-1∧cU xs k=none)∨∃ (j:Nat)(x:Cm),posOf (isCm k) xs=(j:Int)∧xs[j]? =some x∧cU xs k=some x:=by
 have h:=pB k xs 0
 simp only [SA] at h
 exact h
theorem xU (x:Cm)(g:Nat)(id:Int)(w:Sj)(hg:w.cell? ⟨g,0,none⟩=some (.int .i64 id))(hl:g<w.heap.size) :
 Sn Tryz.prog 194 #[.agg x.enc.toArray,.pointer (some ⟨g,0,none⟩)] w fun e w'=>e=.returned (.bool (x.id==id))∧SF w.heap.size w w':=by
 obtain⟨id',ev,frm,til,au,tx,dn,lo⟩:=x
 simp only [Cm.enc]
 have hg2:∀ o,(w.alloc o).cell? ⟨g,0,none⟩=some (.int .i64 id):=fun o=>(Sj.cell?_alloc_lt _ _ _ (by simpa using hl)).trans hg
 go_enter Tryz.func194,Tryz.ntmps194
 go_wp2_with fail
 go_ret
 exact⟨rfl,(SD _ _).alloc (Sy _) _⟩
theorem mX (a:Option Addr)(cap:Nat)(v:Sk)(w:Sj):Sn Tryz.prog 186 #[.slice a 0 cap,v] w fun e w'=>e=.returned (.int .i64 (-1))∧w=w':=by
 go_enter Tryz.func186,Tryz.ntmps186
 go_wp2_with fail
 refine wp_loop_rounds 1 ?_
 rw [rounds_succ]
 go_wp2_with fail
 go_ret
 exact⟨rfl,rfl⟩
theorem sF (a:Option Addr)(cap:Nat)(xs:List Cm)(g:Nat)(id:Int)(w:Sj)(hr:ah 8 Cm.enc Flat w a xs)(hl:xs.length≤4000000)(hg:w.cell? ⟨g,0,none⟩=some (.int .i64 id))(hgl:g<w.heap.size) :
 Sn Tryz.prog 186 #[.slice a xs.length cap,.func (.func 194) #[] #[.pointer (some ⟨g,0,none⟩)]] w fun e w'=>e=.returned (.int .i64 (posOf (isCm id) xs))∧SF w.heap.size w w':=by
 rcases hr with rfl|⟨b,off,rfl,hb,hc⟩
 · exact(mX a cap _ w).mono fun e w' ⟨he,hw⟩=>⟨he,hw▸SD _ _⟩
 · have h:=Tryz.slices_IndexFunc_f186 8 (fun w=>by kernel_rfl) (fun w=>by kernel_rfl) Cm.enc (fun _=>rfl) (isCm id) 194 #[.pointer (some ⟨g,0,none⟩)] (fun args w=>by kernel_rfl) b off xs.length cap xs w
    (fun W x hW=>(xU x g id W ((hW.cell (p:=⟨g,0,none⟩) hgl).trans hg) (Nat.lt_of_lt_of_le hgl hW.size)).mono fun e w' ⟨he,hw⟩=>⟨he,hW.trans (hw.mono hW.size)⟩)
    (Sy _) (by omega) hb (fun j hj i v hv=>(hc j _ (jR xs j hj)).1 i v hv)
   rw [List.take_length,mH] at h
   exact h
theorem tt (d:Doc)(id:Int)(w:Sj)(hr:ah 8 Cm.enc Flat w d.ca d.cM)(hl:d.cM.length≤4000000) :
 Sn Tryz.prog 141 #[.agg d.enc.toArray,.int .i64 id] w fun e w'=>e=.returned (.int .i64 (posOf (isCm id) d.cM))∧SF w.heap.size w w':=by
 have HC:=h_ (sF d.ca d.cc d.cM (w.heap.size+1) id ((w.alloc (.cells d.enc.toArray 27)).alloc (.cells #[.int .i64 id] 2)) (ah.keeps Flat.keeps _ _ _ _ (((SD _ _).alloc (Sy _) _).alloc (by simp) _) hr) hl (bB w d.enc.toArray #[.int .i64 id] 27 2 0 _ rfl _ (SD _ _)) (by simp))
 obtain⟨title,lA,rate,drop,last,ra,rc,rG,ea,ec,eV,ca,cc,cM⟩:=d
 simp only [Doc.enc] at HC ⊢
 go_enter Tryz.func141,Tryz.ntmps141
 go_wp2_with fail
 refine HC.out.mono ?_
 rintro e w1 ⟨rfl,hb⟩
 have hb':=dU (hb.mono (by simp))
 go_wp2_with fail
 go_ret
 exact⟨rfl,hb'⟩
def bK (d:DocC)(id:Int):Int:=if cErr d≠0 then cErr d else if (cU d.cM id).isNone=true then 6 else 0
def gl (d:DocC)(id:Int):Int:=if bK d id=0 then posOf (isCm id) d.cM else 0
theorem lG (d:Doc)(id:Int)(w:Sj)(hE:Env w)(hd:d.lies w)(hf:d.fits):Sn Tryz.prog 94 #[.agg d.enc.toArray,.int .i64 id] w fun e w'=>e=.returned (.tuple #[.int .i64 (gl d.c id),.int .i64 (bK d.c id)])∧SF w.heap.size w w':=by
 have jb:=h_ (fun(w1:Sj) (h:SF w.heap.size w w1)=>b_ d w1 (hE.below h (Sy _)) (Doc.later hd h) hf)
 have eP:=h_ (fun(w1:Sj) (h:SF w.heap.size w w1)=>tt d id w1 (Doc.later hd h).2.2 hf.2.2.2.2.2.2.2.2.2.2)
 have hr0:(w.alloc (.cells d.enc.toArray 27)).rangeAt w.heap.size 0 d.enc:=ai (Sm _ _)
 have hb1:SF w.heap.size w (w.alloc (.cells d.enc.toArray 27)):=(SD _ _).alloc (Sy _) _
 have HR:=h_ (Sm w (.cells d.enc.toArray 27))
 have AA:=bA d
 have kC:=h_ (A8 d.cM id)
 have hbd:=BX (isCm id) d.cM
 have hl:d.cM.length≤4000000:=hf.2.2.2.2.2.2.2.2.2.2
 have e3:d.c.cM=d.cM:=rfl
 generalize hI:gl d.c id=I
 generalize hF:bK d.c id=F
 unfold bK at hF
 unfold gl bK at hI
 rw [e3,←AA] at hF hI
 clear hd hf hE AA
 generalize a_ d=DE at *
 have HI:=h_ hI
 have HF:=h_ hF
 clear hI hF
 go_enter Tryz.func94,Tryz.ntmps94
 go_wp2_with (refine aj 27 (.tmp 2) rfl w.heap.size 0 rfl d.enc _ hr0 Tryz.underlying27 rfl ag (by rfl) ?_)
 refine(jb.out _ hb1).mono ?_
 rintro e w1 ⟨rfl,hb2⟩
 have aM:=hb1.trans (hb2.mono hb1.size)
 have hr1:=ai ((hb2.block w.heap.size (by simp)).trans HR.out)
 clear hb2 hr0 jb hb1 HR
 by_cases h0:DE=0
 · subst h0
   go_wp2_with (refine aj 27 (.tmp 2) rfl w.heap.size 0 rfl d.enc _ hr1 Tryz.underlying27 rfl ag (by rfl) ?_)
   refine(eP.out _ aM).mono ?_
   rintro e w2 ⟨rfl,hb3⟩
   have hbw2:=aM.trans (hb3.mono aM.size)
   clear hb3 hr1 aM eP
   rcases kC.out with⟨hp,hn⟩|⟨j,x,hp,hx,hn⟩
   · have hi:=HI.out
     have hf:=HF.out
     rw [hp,hn] at hi
     rw [hn] at hf
     simp at hi hf
     have HI2:=h_ hi
     have C9:=h_ hf
     clear hi hf
     rw [hp]
     go_wp2_with fail
     refine Sl (v:=.tuple #[.int .i64 0,.int .i64 6]) (by simp [results,Tryz.results94,go_sem]) rfl ?_
     exact⟨by rw [←HI2.out,←C9.out],hbw2⟩
   · have hi:=HI.out
     have hf:=HF.out
     rw [hp,hn] at hi
     rw [hn] at hf
     simp at hi hf
     have HI2:=h_ hi
     have C9:=h_ hf
     clear hi hf
     rw [hp]
     have hj:(0:Int)≤(j:Int):=by omega
     go_wp2_with fail
     refine Sl (v:=.tuple #[.int .i64 j,.int .i64 0]) (by simp [results,Tryz.results94,go_sem]) rfl ?_
     exact⟨by rw [←HI2.out,←C9.out],hbw2⟩
 · have hi:=HI.out
   have hf:=HF.out
   have hne:(DE != 0)=true:=by simpa using h0
   rw [if_pos h0] at hf
   rw [if_pos h0,if_neg h0] at hi
   have HI2:=h_ hi
   have C9:=h_ hf
   clear hi hf
   go_wp2_with fail
   refine Sl (v:=.tuple #[.int .i64 0,.int .i64 DE]) (by simp [results,Tryz.results94,go_sem]) rfl ?_
   exact⟨by rw [←HI2.out,←C9.out],aM⟩
end Go.Proofs.YtjebaagkomejaaaGreatDoor
