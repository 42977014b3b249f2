/- The contract of document.Check: the first error of a document. The contract of document.Clone: the copy's lists lie apart from one another. -/
import Derived.Test.YtjebaagkomejaaaGreatDoorH10
import Derived.Test.YtjebaagkomejaaaGreatDoorH11
set_option linter.unusedVariables false
set_option linter.unusedSimpArgs false
set_option maxRecDepth 100000
set_option maxHeartbeats 12800000
open Go.Lib renaming hid→h_
open Go renaming World→Sh,Value→Si,heap_alloc_last→Sj,bodyPost_ret→Sk,Calls→Sl
open Go.RowKit renaming Below→Sm
open Go.Value renaming ownBlock→Sn,slice→Sp,string→Sq
open Go.RowKit.Below renaming refl→Sr
open Nat renaming le_refl→Ss,add_zero→St,zero_add→Su,succ_mul→Sv
open Option.some renaming inj→Sw
open List renaming getElem?_eq_getElem→Sx,getElem_of_mem→Sy,flatMap_cons→Sz,find?_cons→SA,map_cons→SB
namespace Go.Proofs.YtjebaagkomejaaaGreatDoor
open Go.RowKit
theorem bR (d:Doc)(w:Sh)(hE:Env w)(hd:d.lies w)(eu:d.fits) :
 Sl Tryz.prog 25 #[.agg d.enc.toArray] w fun e w'=>e=.returned (.int .i64 (a_ d))∧Sm w.heap.size w w':=by
 have HCM:=h_ (fun(b:Nat) (w1:Sh) (h1:Env w1) (h2:d.lies w1) (h4:IMap w1 b d.eV.length (cn d.eV d.eV.length))=>ot d b _ _ w1 h1 h2 eu h4 (mq d.eV d.eV.length))
 have LG:=h_ hd
 have F4:=h_ (fun(w1:Sh) (h1:Env w1)=>sw d.title d.lA d.rate d.drop d.last d.ra d.ea d.ca d.rG.length d.eV.length d.cM.length d.rc d.ec d.cc w1 h1 eu.1 eu.2.1 eu.2.2.1 eu.2.2.2.1)
 have FA:=h_ (fun(w1:Sh) (h1:Regs w1 d.ra d.rG)=>xf d.ra d.rc d.rG w1 h1 eu.2.2.2.2.2.1)
 have Ji:=h_ (fun(x:Ev) (w1:Sh) (h1:Env w1) (h2:x.lies w1) (h3:x.fits) (h4:Regs w1 d.ra d.rG)=>fC x d.ra d.rc d.rG w1 h1 h2 h3 h4 eu.2.2.2.2.2.1 eu.2.2.2.2.2.2.1)
 obtain⟨_,_,_,_,hi5,hfr,hlr,hfe,hle,_,_⟩:=eu
 generalize hG:a_ d=G
 unfold a_ at hG
 obtain⟨title,lA,rate,drop,last,ra,rc,rG,ea,ec,eV,ca,cc,cM⟩:=d
 obtain⟨hdr,hde,_⟩:=hd
 simp only at hde hdr hi5 hfr hlr hfe hle hG
 simp only [Doc.enc] at HCM F4 FA Ji ⊢
 have Jh:=h_ (tZ rG last eV cM)
 generalize On:jM title lA rate drop last=HE at *
 generalize MD:gI rG=LE at *
 generalize hds:#[Sq title,.string lA,.int .u8 rate,.bool drop,.int .i64 last,.slice ra rG.length rc,.slice ea eV.length ec,.slice ca cM.length cc]=ds at HCM F4 ⊢
 have f0:=ax w ds 27 0 (.string title) (by rw [←hds];rfl)
 have f1:=ax w ds 27 1 (.string lA) (by rw [←hds];rfl)
 have f2:=ax w ds 27 2 (.int .u8 rate) (by rw [←hds];rfl)
 have f3:=ax w ds 27 3 (.bool drop) (by rw [←hds];rfl)
 have f4:=ax w ds 27 4 (.int .i64 last) (by rw [←hds];rfl)
 have f5:=ax w ds 27 5 (.slice ra rG.length rc) (by rw [←hds];rfl)
 have f6:=ax w ds 27 6 (.slice ea eV.length ec) (by rw [←hds];rfl)
 have f7:=ax w ds 27 7 (.slice ca cM.length cc) (by rw [←hds];rfl)
 have HB:=h_ (fun(w1:Sh) (h:Sm (w.heap.size+1) (w.alloc (.cells ds 27)) w1)=>bK h)
 have hb0:Sm (w.heap.size+1) (w.alloc (.cells ds 27)) (w.alloc (.cells ds 27)):=Sr _ _
 have hsz:(w.alloc (.cells ds 27)).heap.size=w.heap.size+1:=Sh.size_alloc _ _
 generalize hW0:w.alloc (.cells ds 27)=W0 at *
 have HW0:=h_ hW0
 have dV:=h_ hsz
 have HT0:=h_ (fun(w2 w3:Sh) (h:Sm (w.heap.size+1) W0 w2) (h3:Sm w2.heap.size w2 w3)=>h.trans (h3.mono (by have:=h.size;rw [hsz] at this;exact this)))
 have pr:=h_ hfe
 have vo:=h_ hde
 have HDR:=h_ hdr
 have HG:=h_ hG
 have hmm:=@run_makeMap Tryz.prog
 clear hW0 hsz hfe hG hde hdr On MD hfr
 rcases(show(HE != 0)=true∨(HE=0∧((LE != 0)=true∨(LE=0∧(400<eV.length∨eV.length≤400)))) by
  by_cases h1:HE=0<;>by_cases h2:LE=0<;>simp [h1,h2]<;>omega) with h1|⟨rfl,h2|⟨rfl,h3⟩⟩
 · have HV:=h_ (show HE=G by rw [←HG.out,if_pos h1])
   have H1:=h_ h1
   clear HG h1
   have h1:=H1.out
   go_enter Tryz.func25,Tryz.ntmps25
   subst hds
   go_wp2_with fail
   rw [HW0.out]
   refine(F4.out _ (hE.below (HB.out _ hb0) (Ss _))).mono ?_
   rintro e w1 ⟨rfl,hb1⟩
   have hc1:=HT0.out _ _ hb0 hb1
   go_wp2_with fail
   go_ret
   exact⟨aG HV.out,HB.out _ hc1⟩
 · have HV:=h_ (show LE=G by rw [←HG.out,if_neg (by decide),if_pos h2])
   clear HG
   go_enter Tryz.func25,Tryz.ntmps25
   subst hds
   go_wp2_with fail
   rw [HW0.out]
   refine(F4.out _ (hE.below (HB.out _ hb0) (Ss _))).mono ?_
   rintro e w1 ⟨rfl,hb1⟩
   have hc1:=HT0.out _ _ hb0 hb1
   clear hb1
   go_wp2_with fail
   refine(FA.out _ (HDR.out.later (HB.out _ hc1))).mono ?_
   rintro e w2 ⟨rfl,hb2⟩
   have hc2:=HT0.out _ _ hc1 hb2
   clear hb2
   go_wp2_with fail
   go_ret
   exact⟨aG HV.out,HB.out _ hc2⟩
 · rcases h3 with h3|h3
   all_goals
    go_enter Tryz.func25,Tryz.ntmps25
    subst hds
    go_wp2_with fail
    rw [HW0.out]
    refine(F4.out _ (hE.below (HB.out _ hb0) (Ss _))).mono ?_
    rintro e w1 ⟨rfl,hb1⟩
    have hc1:=HT0.out _ _ hb0 hb1
    clear hb1
    go_wp2_with fail
    refine(FA.out _ (HDR.out.later (HB.out _ hc1))).mono ?_
    rintro e w2 ⟨rfl,hb2⟩
    have hc2:=HT0.out _ _ hc1 hb2
    clear hb2
   · have HV:=h_ (show 9=G by rw [←HG.out,if_neg (by decide),if_neg (by decide),if_pos h3])
     have uL:decide ((400:Int)<(eV.length:Int))=true:=by simp;omega
     go_wp2_with fail
     go_ret
     exact⟨aG HV.out,HB.out _ hc2⟩
   · have uL:decide ((400:Int)<(eV.length:Int))=false:=by simp;omega
     have HV:=h_ (show ef rG last eV cM 0=G by rw [←HG.out,if_neg (by decide),if_neg (by decide),if_neg (by omega)])
     have hz2:=hc2.size
     rw [dV.out] at hz2
     have JH:Sm (w.heap.size+1) W0 (w2.alloc (.map #[] 0)):=hc2.alloc hz2 _
     have hm0:=h_ (IMap.made w2)
     clear HG F4 FA
     go_wp2_with fail
     generalize w2.heap.size=mb at *
     go_loopw [30] (fun i wr=>∃ k:Nat,k≤eV.length∧i=.int .i64 k∧ef rG last eV cM k=G∧Jz eV (w.heap.size+1) W0 mb k wr) (fun i _=>eV.length-(intOf i).toNat)
     case atStart=>exact⟨0,by omega,rfl,HV.out,hm0.out,JH⟩
     case round =>
      obtain⟨k,hk,rfl,hp,hM,hb⟩:=hrel
      have hbw:=HB.out _ hb
      clear JH hm0 HV hc1 hc2 hmm
      by_cases hlt:k<eV.length
      · obtain⟨b,off,x,rfl,hbl,hx,hc,hok⟩:=(vo.out.later hbw).at_ hlt
        have hft:=pr.out x (List.mem_of_getElem? hx)
        have hRr:=vo.out.later hbw
        have hpv:(k=0∧bL eV k=none)∨(∃ y:Ev,1≤k∧bL eV k=some y∧∀ j v,y.enc[j]? =some v→∀ w1,Sm wr.heap.size wr w1→w1.cell? ⟨b,off+(k-1)*7+j,none⟩=some v):=by
         rcases Nat.eq_zero_or_pos k with rfl|hk0
         · exact .inl ⟨rfl,rfl⟩
         · obtain⟨b'',off',y,hab,_,hy,hcy,_⟩:=hRr.at_ (show k-1<eV.length by omega)
           simp only [Option.some.injEq,Addr.mk.injEq,and_true] at hab
           obtain⟨rfl,rfl⟩:=hab
           refine .inr ⟨y,hk0,?_,fun j v hv w1 h=>?_⟩
           · obtain⟨j,rfl⟩:∃ j,k=j+1:=⟨k-1,by omega⟩
             simpa [bL] using hy
           · rw [h.cell (p:=⟨b,off+(k-1)*7+j,none⟩) hbl]
             exact hcy j v hv
        have uB:=hb.size
        rw [dV.out] at uB
        have HN:=h_ (rQ rG last eV cM k x hx)
        have HS:=h_ (rP rG last eV cM k x hx)
        have tz:=h_ (wK eV k x hx)
        have HP:=h_ hp
        have hcs:=lE rG last (cn eV k) (bL eV k) x _ rfl
        have hgx:=fun j v h=>ax wr x.enc.toArray 72 j v h
        have bA:=h_ (fun w1 (h:Sm (wr.heap.size+1) (wr.alloc (.cells x.enc.toArray 72)) w1)=>(hb.alloc uB _).trans (h.mono (by omega)))
        have jT:=h_ (fun w1 (h:Sm (wr.heap.size+1) (wr.alloc (.cells x.enc.toArray 72)) w1)=>(((Sr wr.heap.size wr).alloc (Ss _) _).trans (h.mono (by omega))))
        have hq0:Sm (wr.heap.size+1) (wr.alloc (.cells x.enc.toArray 72)) (wr.alloc (.cells x.enc.toArray 72)):=Sr _ _
        have Au:=hb.alloc uB (.cells x.enc.toArray 72)
        have Fz:=h_ (fun w1 (h:Sm (wr.heap.size+1) (wr.alloc (.cells x.enc.toArray 72)) w1)=>hM.below (jT.out _ h) hM.lt)
        have gO:=h_ (fun w1 (h:Sm (wr.heap.size+1) (wr.alloc (.cells x.enc.toArray 72)) w1)=>(Fz.out w1 h).look hft.1)
        have iK:=h_ (fun w1 (h:Sm (wr.heap.size+1) (wr.alloc (.cells x.enc.toArray 72)) w1)=>Ji.out x w1 (hE.below (HB.out _ (bA.out _ h)) (Ss _)) (Ev.keeps _ _ _ (jT.out _ h) hok) hft (HDR.out.later (HB.out _ (bA.out _ h))))
        have FB:=h_ (fun(y:Ev) w1=>oW y x w1)
        have Dz:=h_ hft.1
        have NR:=hM.lt
        have JK:∀ y,gv (some y) x=!kN y x:=fun y=>rfl
        have MC:gv none x=false:=rfl
        generalize bL eV k=pv at *
        generalize Lh:fc rG last (cn eV k) pv x=E at *
        generalize fS x rG=A at *
        generalize E1:gv pv x=LT at *
        obtain⟨xid,xin,xout,xreg,xkind,xsp,xa,xc,xrows⟩:=x
        have d0:=hc 0 _ rfl;have d1:=hc 1 _ rfl;have d2:=hc 2 _ rfl;have d3:=hc 3 _ rfl;have d4:=hc 4 _ rfl;have d5:=hc 5 _ rfl;have d6:=hc 6 _ rfl
        have g0:=hgx 0 _ rfl;have g1:=hgx 1 _ rfl;have g2:=hgx 2 _ rfl;have g3:=hgx 3 _ rfl;have g4:=hgx 4 _ rfl;have g5:=hgx 5 _ rfl;have g6:=hgx 6 _ rfl
        simp only [St,Ev.enc] at d0 d1 d2 d3 d4 d5 d6 g0 g1 g2 g3 g4 g5 g6 bA jT hq0 gO iK hcs FB Dz Au Fz tz
        have hsz1:(wr.alloc (.cells #[.int .i64 xid,.int .i64 xin,.int .i64 xout,.string xreg,.int .u8 xkind,.string xsp,.slice xa xrows.length xc] 72)).heap.size=wr.heap.size+1:=Sh.size_alloc _ _
        generalize hW1:wr.alloc (.cells #[.int .i64 xid,.int .i64 xin,.int .i64 xout,.string xreg,.int .u8 xkind,.string xsp,.slice xa xrows.length xc] 72)=W1 at g0 g1 g2 g3 g4 g5 g6 bA jT hq0 gO iK hsz1 Fz
        have HW1:=h_ hW1
        have Fs:=h_ hsz1
        have Od:=bA.out _ hq0
        have HT:=h_ (fun(w2 w3:Sh) (h:Sm (wr.heap.size+1) W1 w2) (h3:Sm w2.heap.size w2 w3)=>h.trans (h3.mono (by have:=h.size;rw [Fs.out] at this;exact this)))
        have i6:(LT=false∧decide (0<k)=false)∨(∃ y:Ev,LT=(!kN y ⟨xid,xin,xout,xreg,xkind,xsp,xa,xc,xrows⟩)∧1≤k∧decide (0<k)=true∧(1:Int)≤(k:Int)∧(k:Int)-1<(eV.length:Int)∧IntKind.i64.wrap ((k:Int)-1)=(k:Int)-1∧((k:Int)-1).toNat=k-1∧∀ j v,y.enc[j]? =some v→∀ w1,Sm (wr.heap.size+1) W1 w1→w1.cell? ⟨b,off+(k-1)*7+j,none⟩=some v):=by
         rcases hpv with⟨h1,rfl⟩|⟨y,h1,rfl,h3⟩
         · exact .inl ⟨E1.symm.trans MC,by simp;omega⟩
         · exact .inr ⟨y,E1.symm.trans (JK y),h1,by simp;omega,by omega,by omega,IntWalk.i64_in _ (by omega),by omega,fun j v hv w1 h=>h3 j v hv w1 (jT.out _ h)⟩
        clear Lh
        clear hpv hc hgx hW1 hsz1 hRr hp hx hft hok JK MC E1 Jh HCM hM
        rcases hcs with⟨hA,he⟩|⟨rfl,hcs⟩
        · have dY:=h_ he
          clear he i6
          have O3:=h_ hA
          go_wp2_with fail
          rw [HW1.out]
          refine(iK.out _ hq0).mono ?_
          rintro e w3 ⟨rfl,hb3⟩
          have hc3:=HT.out _ _ hq0 hb3
          have hd3:=bA.out _ hc3
          have hr3:=jT.out _ hc3
          clear hb3
          go_wp2_with fail
          go_ret
          exact⟨aG (by rw [←HP.out,HS.out _ dY.out O3.out]),HB.out _ hd3⟩
        rcases hcs with⟨h1,he⟩|⟨h1,hcs⟩
        · have dY:=h_ he
          clear he i6
          go_wp2_with fail
          rw [HW1.out]
          refine(iK.out _ hq0).mono ?_
          rintro e w3 ⟨rfl,hb3⟩
          have hc3:=HT.out _ _ hq0 hb3
          have hd3:=bA.out _ hc3
          have hr3:=jT.out _ hc3
          clear hb3
          go_wp2_with (at_lookup;refine ay _ rfl _ _ _ _ rfl _ _ _ rfl rfl (gO.out _ hc3) ?_)
          go_ret
          exact⟨aG (by rw [←HP.out,HS.out _ dY.out rfl]),HB.out _ hd3⟩
        rcases i6 with⟨rfl,hkd⟩|⟨y,NV,hk1,hkd,hkz,hkl,hwr,hkn,hpy⟩
        · rcases hcs with⟨h2,he⟩|⟨_,⟨ht,he⟩|⟨ht,he⟩⟩
          · cases h2
          · have dY:=h_ he
            rw [ht] at gO
            clear he ht
            go_wp2_with fail
            rw [HW1.out]
            refine(iK.out _ hq0).mono ?_
            rintro e w3 ⟨rfl,hb3⟩
            have hc3:=HT.out _ _ hq0 hb3
            have hd3:=bA.out _ hc3
            have hr3:=jT.out _ hc3
            clear hb3
            go_wp2_with (at_lookup;refine ay _ rfl _ _ _ _ rfl _ _ _ rfl rfl (gO.out _ hc3) ?_)
            go_quiet (fail)
            go_wp2_with fail
            go_ret
            exact⟨aG (by rw [←HP.out,HS.out _ dY.out rfl]),HB.out _ (Go.below_drewN hd3 _)⟩
          · have dY:=h_ he
            rw [ht] at gO
            clear he ht
            go_wp2_with fail
            rw [HW1.out]
            refine(iK.out _ hq0).mono ?_
            rintro e w3 ⟨rfl,hb3⟩
            have hc3:=HT.out _ _ hq0 hb3
            have hd3:=bA.out _ hc3
            have hr3:=jT.out _ hc3
            clear hb3
            go_wp2_with (at_lookup;refine ay _ rfl _ _ _ _ rfl _ _ _ rfl rfl (gO.out _ hc3) ?_)
            have OO:=h_ (fun q=>(Fz.out _ hc3).drewN q)
            go_quiet (fail)
            go_wp2_with (at_mapUpdate;refine oJ _ rfl _ _ _ rfl mb k _ (OO.out _) rfl xid Dz.out rfl k rfl (by constructor<;>omega) (by unfold maxLen;omega) ?_;intro w5 Ho hg5)
            have Hn:=Ho
            rw [tz.out] at Hn
            have hb6:=(Go.below_drewN hd3 _).grown hg5 (by have:=hd3.size;rw [dV.out] at this;simp;omega) (fun j hj=>by simp at hj;omega)
            clear Ho hg5
            go_wp2_with fail
            go_roundw
            case rel=>exact⟨k+1,by omega,by go_num,by rw [←HN.out dY.out];exact HP.out,Hn,hb6⟩
            case measure=>simp [intOf];omega
        · have nS:=h_ hpy
          have po:=h_ (fun w1=>FB.out y w1)
          obtain⟨yid,yin,yout,yreg,ykind,ysp,ya,yc,yrows⟩:=y
          simp only [Ev.enc] at nS po
          clear hpy FB
          generalize kN ⟨yid,yin,yout,yreg,ykind,ysp,ya,yc,yrows⟩ ⟨xid,xin,xout,xreg,xkind,xsp,xa,xc,xrows⟩=LS at *
          subst NV
          rcases hcs with⟨h2,he⟩|⟨h2,⟨ht,he⟩|⟨ht,he⟩⟩
          · have dY:=h_ he
            obtain rfl:LS=false:=by simpa using h2
            clear he h2
            go_wp2_with fail
            rw [HW1.out]
            refine(iK.out _ hq0).mono ?_
            rintro e w3 ⟨rfl,hb3⟩
            have hc3:=HT.out _ _ hq0 hb3
            have hd3:=bA.out _ hc3
            have hr3:=jT.out _ hc3
            clear hb3
            go_wp2_with (at_lookup;refine ay _ rfl _ _ _ _ rfl _ _ _ rfl rfl (gO.out _ hc3) ?_)
            have Ar:Sm (wr.heap.size+1) W1 w3.drew:=hc3.drew
            have Hg:Sm (w.heap.size+1) W0 w3.drew:=hd3.drew
            have p0:=nS.out 0 _ rfl;have p1:=nS.out 1 _ rfl;have p2:=nS.out 2 _ rfl;have p3:=nS.out 3 _ rfl;have p4:=nS.out 4 _ rfl;have p5:=nS.out 5 _ rfl;have p6:=nS.out 6 _ rfl
            simp only [St] at p0
            go_region_with (go_at_call 66;refine(po.out _).mono ?_;rintro e w4 ⟨rfl,hb4⟩;have hc4:=HT.out _ _ Ar hb4;have hd4:=bA.out _ hc4;clear hb4)
            all_goals
             go_wp2_with fail
             go_ret
             exact⟨aG (by rw [←HP.out,HS.out _ dY.out rfl]),HB.out _ hd4⟩
          · have dY:=h_ he
            obtain rfl:LS=true:=by simpa using h2
            rw [ht] at gO
            clear he h2 ht
            go_wp2_with fail
            rw [HW1.out]
            refine(iK.out _ hq0).mono ?_
            rintro e w3 ⟨rfl,hb3⟩
            have hc3:=HT.out _ _ hq0 hb3
            have hd3:=bA.out _ hc3
            have hr3:=jT.out _ hc3
            clear hb3
            go_wp2_with (at_lookup;refine ay _ rfl _ _ _ _ rfl _ _ _ rfl rfl (gO.out _ hc3) ?_)
            have Ar:Sm (wr.heap.size+1) W1 w3.drew:=hc3.drew
            have Hg:Sm (w.heap.size+1) W0 w3.drew:=hd3.drew
            have p0:=nS.out 0 _ rfl;have p1:=nS.out 1 _ rfl;have p2:=nS.out 2 _ rfl;have p3:=nS.out 3 _ rfl;have p4:=nS.out 4 _ rfl;have p5:=nS.out 5 _ rfl;have p6:=nS.out 6 _ rfl
            simp only [St] at p0
            go_region_with (go_at_call 66;refine(po.out _).mono ?_;rintro e w4 ⟨rfl,hb4⟩;have hc4:=HT.out _ _ Ar hb4;have hd4:=bA.out _ hc4;clear hb4)
            all_goals
             go_wp2_with fail
             go_ret
             exact⟨aG (by rw [←HP.out,HS.out _ dY.out rfl]),HB.out _ hd4⟩
          · have dY:=h_ he
            obtain rfl:LS=true:=by simpa using h2
            rw [ht] at gO
            clear he h2 ht
            go_wp2_with fail
            rw [HW1.out]
            refine(iK.out _ hq0).mono ?_
            rintro e w3 ⟨rfl,hb3⟩
            have hc3:=HT.out _ _ hq0 hb3
            have hd3:=bA.out _ hc3
            have hr3:=jT.out _ hc3
            clear hb3
            go_wp2_with (at_lookup;refine ay _ rfl _ _ _ _ rfl _ _ _ rfl rfl (gO.out _ hc3) ?_)
            have Ar:Sm (wr.heap.size+1) W1 w3.drew:=hc3.drew
            have Hg:Sm (w.heap.size+1) W0 w3.drew:=hd3.drew
            have p0:=nS.out 0 _ rfl;have p1:=nS.out 1 _ rfl;have p2:=nS.out 2 _ rfl;have p3:=nS.out 3 _ rfl;have p4:=nS.out 4 _ rfl;have p5:=nS.out 5 _ rfl;have p6:=nS.out 6 _ rfl
            simp only [St] at p0
            go_region_with (go_at_call 66;refine(po.out _).mono ?_;rintro e w4 ⟨rfl,hb4⟩;have hc4:=HT.out _ _ Ar hb4;have hd4:=bA.out _ hc4;clear hb4)
            all_goals
             go_wp2_with (at_mapUpdate;refine oJ _ rfl _ _ _ rfl mb k _ (Fz.out _ hc4) rfl xid Dz.out rfl k rfl (by constructor<;>omega) (by unfold maxLen;omega) ?_;intro w5 Ho hg5)
             have Hn:=Ho
             rw [tz.out] at Hn
             have hb6:=hd4.grown hg5 (by have:=hd4.size;rw [dV.out] at this;omega) (fun j hj=>by simp at hj;omega)
             clear Ho hg5
             go_wp2_with fail
             go_roundw
             case rel=>exact⟨k+1,by omega,by go_num,by rw [←HN.out dY.out];exact HP.out,Hn,hb6⟩
             case measure=>simp [intOf];omega
      · obtain rfl:k=eV.length:=by omega
        rw [Jh.out] at hp
        have HC:=HCM.out mb wr (hE.below hbw (Ss _)) (Doc.later LG.out hbw) hM
        rw [hp] at HC
        have jf:=h_ HC
        clear hp HC HCM
        go_wp2_with fail
        refine jf.out.mono ?_
        rintro e w5 ⟨rfl,hb5⟩
        have Cu:=HT0.out _ _ hb hb5
        go_wp2_with fail
        go_ret
        exact⟨rfl,HB.out _ Cu⟩
end Go.Proofs.YtjebaagkomejaaaGreatDoor
namespace Go.Proofs.YtjebaagkomejaaaGreatDoor
open Go.RowKit
attribute [local go_sem ↓] Go.wp_at_zero Go.wp_at_succ
def Doc.apart (d:Doc):Prop:=∃ t:Nat→Nat,(∀ b,bt d.ra d.rG b→t b=1)∧(∀ b,bt d.ea d.eV b→t b=2)∧(∀ x∈d.eV,∀ b,x.uses b→t b=3)∧∀ b,bt d.ca d.cM b→t b=4
def Df (c:DocC)(w:Sh)(e:Ending)(w':Sh):Prop:=∃ d:Doc,e=.returned (.agg d.enc.toArray)∧d.c=c∧d.lies w'∧(∀ b,d.uses b→w.heap.size≤b)∧Sm w.heap.size w w'∧d.apart∧w'.ownsRow w.heap.size 72 7 (.slice d.ea d.eV.length d.ec) d.eV.length (d.eV.flatMap Ev.enc)∧w'.ownsRow w.heap.size 102 8 (.slice d.ca d.cM.length d.cc) d.cM.length (d.cM.flatMap Cm.enc)
def De (c:DocC)(w:Sh)(e:Ending)(w':Sh):Prop:=∃ d:Doc,e=.returned (.agg d.enc.toArray)∧d.c=c∧d.lies w'∧(∀ b,d.uses b→w.heap.size≤b)∧Sm w.heap.size w w'∧d.apart∧w'.ownsRow w.heap.size 72 7 (.slice d.ea d.eV.length d.ec) d.eV.length (d.eV.flatMap Ev.enc)∧w'.ownsRow w.heap.size 102 8 (.slice d.ca d.cM.length d.cc) d.cM.length (d.cM.flatMap Cm.enc)∧(∀ b,(Sp d.ea d.eV.length d.ec).ownBlock=some b→¬ bt d.ra d.rG b∧¬ bt d.ca d.cM b)∧∀ b,(Sp d.ca d.cM.length d.cc).ownBlock=some b→¬ bt d.ra d.rG b∧¬ iQ d.ea d.eV b
def kE (c:DocC)(w:Sh)(e:Ending)(w':Sh):Prop:=∃ d:Doc,e=.returned (.agg d.enc.toArray)∧d.c=c∧d.lies w'∧(∀ b,d.uses b→w.heap.size≤b)∧Sm w.heap.size w w'∧d.apart∧w'.ownsRow w.heap.size 72 7 (.slice d.ea d.eV.length d.ec) d.eV.length (d.eV.flatMap Ev.enc)∧w'.ownsRow w.heap.size 102 8 (.slice d.ca d.cM.length d.cc) d.cM.length (d.cM.flatMap Cm.enc)∧(∀ b,(Sp d.ea d.eV.length d.ec).ownBlock=some b→¬ bt d.ra d.rG b∧¬ bt d.ca d.cM b)∧(∀ b,(Sp d.ca d.cM.length d.cc).ownBlock=some b→¬ bt d.ra d.rG b∧¬ iQ d.ea d.eV b)∧w'.ownsRow w.heap.size 37 7 (.slice d.ra d.rG.length d.rc) d.rG.length (d.rG.flatMap Reg.enc)∧∀ b,(Sp d.ra d.rG.length d.rc).ownBlock=some b→¬ iQ d.ea d.eV b∧¬ bt d.ca d.cM b
theorem dK {w:Sh} {B B' e k n:Nat} {v:Si} {xs:List Si} (h:w.ownsRow B e k v n xs)(hB:B'≤B):w.ownsRow B' e k v n xs:=⟨h.1,h.2.imp id fun⟨g,cap,cur,q1,q2,q3⟩=>⟨g,cap,cur,q1,by omega,q3⟩⟩
open Classical in
theorem vZ {d:Doc} {n g:Nat} (h1:∀ b,bt d.ra d.rG b→b<n)(h2:∀ b,bt d.ea d.eV b→b=g)(hg:n≤g)(h3:∀ x∈d.eV,∀ b,x.uses b→n≤b∧b≠g)(h4:∀ b,bt d.ca d.cM b→b<n∧¬ bt d.ra d.rG b):d.apart:=by
 refine⟨fun b=>if b=g then 2 else if n≤b then 3 else if bt d.ra d.rG b then 1 else 4,fun b hb=>?_,fun b hb=>?_,fun x hx b hb=>?_,fun b hb=>?_⟩
 · have:=h1 b hb
   show(if b=g then 2 else if n≤b then 3 else if bt d.ra d.rG b then 1 else 4)=1
   rw [if_neg (by omega),if_neg (by omega),if_pos hb]
 · show(if b=g then 2 else if n≤b then 3 else if bt d.ra d.rG b then 1 else 4)=2
   rw [if_pos (h2 b hb)]
 · obtain⟨q1,q2⟩:=h3 x hx b hb
   show(if b=g then 2 else if n≤b then 3 else if bt d.ra d.rG b then 1 else 4)=3
   rw [if_neg q2,if_pos q1]
 · obtain⟨q1,q2⟩:=h4 b hb
   show(if b=g then 2 else if n≤b then 3 else if bt d.ra d.rG b then 1 else 4)=4
   rw [if_neg (by omega),if_neg (by omega),if_neg q2]
theorem vw {α β:Type} {a1 a3:Option Addr} {xs:List α} {ys:List β} (hne:∀ x y,a1=some x→a3=some y→x.block≠y.block) {b:Nat} (h:bt a3 ys b):¬ bt a1 xs b:=by
 rintro ⟨_,ad,h2,e⟩
 obtain⟨_,ad',h2',e'⟩:=h
 exact hne ad ad' h2 h2' (e.trans e'.symm)
theorem x_ {d:Doc} {w wc w5 wr w':Sh} {a1 a3:Option Addr} {c1 c3 g cap:Nat} (hS1:ah 7 Reg.enc Flat wc a1 d.rG)(nP:ah 8 Cm.enc Flat wc a3 d.cM)(hf1:∀ ad,a1=some ad→w.heap.size+2≤ad.block)(hf3:∀ ad,a3=some ad→w.heap.size+2≤ad.block)(hne:∀ x y,a1=some x→a3=some y→x.block≠y.block)(hws:w.heap.size+2≤wc.heap.size)(hor:wc.ownsRow (w.heap.size+2) 37 7 (.slice a1 d.rG.length c1) d.rG.length (d.rG.flatMap Reg.enc))(hoc:wc.ownsRow (w.heap.size+2) 102 8 (.slice a3 d.cM.length c3) d.cM.length (d.cM.flatMap Cm.enc))
 (h45:wc.heap.size≤w5.heap.size∧∀ b,b<wc.heap.size→b≠w.heap.size→w5.heap[b]? =wc.heap[b]?) (hg:wc.heap.size≤g) (hR:pB wc.heap.size d.eV g cap d.eV.length w5 wr) (hw':wr.heap.size≤w'.heap.size∧∀ b,b≠w.heap.size+1→w'.heap[b]? =wr.heap[b]?) (hb:Sm w.heap.size w w') :
 kE d.c w (.returned (.agg #[.string d.title,.string d.lA,.int .u8 d.rate,.bool d.drop,.int .i64 d.last,.slice a1 d.rG.length c1,.slice (some ⟨g,0,none⟩) d.eV.length cap,.slice a3 d.cM.length c3])) w':=by
 obtain⟨zs,z1,z2,z3,z4,z5,z6⟩:=hR
 have hgl:=z3.lt g rfl
 have hF:∀ b,b<wc.heap.size→w.heap.size+2≤b→w'.heap[b]? =wc.heap[b]?:=fun b h1 h2=>by
  rw [hw'.2 b (by omega),z6 b (by omega) (by omega),h45.2 b h1 (by omega)]
 refine⟨⟨d.title,d.lA,d.rate,d.drop,d.last,a1,c1,d.rG,some ⟨g,0,none⟩,cap,zs,a3,c3,d.cM⟩,by simp only [Doc.enc,z1],by simp only [Doc.c,Doc.hd,z2],⟨ah.frame hS1 (by omega) (fun b hu=>?_) (fun _ _ _=>trivial),?_,ah.frame nP (by omega) (fun b hu=>?_) (fun _ _ _=>trivial)⟩,fun b hu=>?_,hb,vZ (n:=wc.heap.size) (g:=g) (fun b hu=>aP hS1 hu) (fun b hu=>by obtain⟨_,ad,e,rfl⟩:=hu;obtain rfl:=Sw e;rfl) hg (fun z hz b hu=>?_) (fun b hu=>⟨aP nP hu,vw hne hu⟩),?_,dK (aB hoc fun b q=>hF b (hoc.lt b q).2 (hoc.lt b q).1) (by omega),?_,?_,dK (aB hor fun b q=>hF b (hor.lt b q).2 (hor.lt b q).1) (by omega),?_⟩
 · have h1:=aP hS1 hu
   obtain⟨_,ad,h2,rfl⟩:=hu
   exact hF _ h1 (hf1 ad h2)
 · rw [←z1] at z3
   obtain⟨a',c',he,hS⟩:=aA (k:=7) (enc:=Ev.enc) (Ok:=Ev.lies) (fun _=>rfl) z3 (fun z hz=>by
    obtain⟨j,hj,rfl⟩:=Sy hz
    exact(z4 j _ (Sx hj)).1)
   simp only [Sp.injEq] at he
   obtain⟨rfl,_,rfl⟩:=he
   refine dG.frame hS hw'.1 fun b hu=>hw'.2 b ?_
   rcases hu with⟨_,ad,e,rfl⟩|⟨z,hz,hu⟩
   · obtain rfl:=Sw e
     simp only
     omega
   · obtain⟨j,hj,rfl⟩:=Sy hz
     have:=((z4 j _ (Sx hj)).2 b hu).2 (by rw [←z1];exact hj)
     omega
 · have h1:=aP nP hu
   obtain⟨_,ad,h2,rfl⟩:=hu
   exact hF _ h1 (hf3 ad h2)
 · rcases hu with⟨_,ad,h2,rfl⟩|(⟨_,ad,e,rfl⟩|⟨z,hz,hu⟩)|⟨_,ad,h2,rfl⟩
   · have:=hf1 ad h2
     omega
   · obtain rfl:=Sw e
     simp only
     omega
   · obtain⟨j,hj,rfl⟩:=Sy hz
     have:=((z4 j _ (Sx hj)).2 b hu).2 (by rw [←z1];exact hj)
     omega
   · have:=hf3 ad h2
     omega
 · obtain⟨j,hj,rfl⟩:=Sy hz
   have q:=(z4 j _ (Sx hj)).2 b hu
   exact⟨q.2 (by rw [←z1];exact hj),q.1⟩
 · show w'.ownsRow w.heap.size 72 7 (.slice (some ⟨g,0,none⟩) zs.length cap) zs.length (zs.flatMap Ev.enc)
   rw [z1]
   exact dK (aB z3 fun b q=>hw'.2 b (by have:=(z3.lt b q).1;omega)) (by omega)
 · intro b q
   obtain rfl:g=b:=by simpa [Sn] using q
   exact⟨fun u=>by have:=aP hS1 u;omega,fun u=>by have:=aP nP u;omega⟩
 · intro b q
   have hq:∃ y,a3=some y∧y.block=b:=by
    cases a3 with
    | none=>simp [Sn] at q
    | some y=>exact⟨y,rfl,by simpa [Sn] using q⟩
   obtain⟨y,hy,hyb⟩:=hq
   have hlt:=(hoc.lt b q).2
   refine⟨fun u=>?_,fun u=>?_⟩
   · obtain⟨_,x,hx,hxb⟩:=u
     exact hne x y hx hy (hxb.trans hyb.symm)
   · rcases u with⟨_,ad,e,hb'⟩|⟨z,hz,hu⟩
     · obtain rfl:=Sw e
       simp only at hb'
       omega
     · obtain⟨j,hj,rfl⟩:=Sy hz
       have:=((z4 j _ (Sx hj)).2 b hu).2 (by rw [←z1];exact hj)
       omega
 · intro b q
   have hq:∃ y,a1=some y∧y.block=b:=by
    cases a1 with
    | none=>simp [Sn] at q
    | some y=>exact⟨y,rfl,by simpa [Sn] using q⟩
   obtain⟨y,hy,hyb⟩:=hq
   have hlt:=(hor.lt b q).2
   refine⟨fun u=>?_,fun u=>?_⟩
   · rcases u with⟨_,ad,e,hb'⟩|⟨z,hz,hu⟩
     · obtain rfl:=Sw e
       simp only at hb'
       omega
     · obtain⟨j,hj,rfl⟩:=Sy hz
       have:=((z4 j _ (Sx hj)).2 b hu).2 (by rw [←z1];exact hj)
       omega
   · obtain⟨_,x,hx,hxb⟩:=u
     exact hne y x hy hx (hyb.trans hxb.symm)
theorem u_ {d:Doc} {w wc w':Sh} {a1 a2 a3:Option Addr} {c1 c2 c3:Nat} (hS1:ah 7 Reg.enc Flat wc a1 d.rG)(nP:ah 8 Cm.enc Flat wc a3 d.cM)(hf1:∀ ad,a1=some ad→w.heap.size+2≤ad.block)(hf3:∀ ad,a3=some ad→w.heap.size+2≤ad.block)(hne:∀ x y,a1=some x→a3=some y→x.block≠y.block)(hor:wc.ownsRow (w.heap.size+2) 37 7 (.slice a1 d.rG.length c1) d.rG.length (d.rG.flatMap Reg.enc))(hoc:wc.ownsRow (w.heap.size+2) 102 8 (.slice a3 d.cM.length c3) d.cM.length (d.cM.flatMap Cm.enc)) {w5:Sh} (hws:w.heap.size+2≤wc.heap.size)(hoe:w5.ownsRow wc.heap.size 72 7 (.slice a2 0 c2) 0 [])(yB:∀ b,wc.heap.size≤b→b<w5.heap.size→w'.heap[b]? =w5.heap[b]?)
 (h0:d.eV=[]) (hw':wc.heap.size≤w'.heap.size∧∀ b,b<wc.heap.size→w.heap.size+2≤b→w'.heap[b]? =wc.heap[b]?) (hb:Sm w.heap.size w w') :
 kE d.c w (.returned (.agg #[.string d.title,.string d.lA,.int .u8 d.rate,.bool d.drop,.int .i64 d.last,.slice a1 d.rG.length c1,.slice a2 0 c2,.slice a3 d.cM.length c3])) w':=by
 refine⟨⟨d.title,d.lA,d.rate,d.drop,d.last,a1,c1,d.rG,a2,c2,[],a3,c3,d.cM⟩,rfl,by simp only [Doc.c,Doc.hd,h0],⟨ah.frame hS1 hw'.1 (fun b hu=>?_) (fun _ _ _=>trivial),.inl rfl,ah.frame nP hw'.1 (fun b hu=>?_) (fun _ _ _=>trivial)⟩,fun b hu=>?_,hb,vZ (n:=wc.heap.size) (g:=wc.heap.size) (fun b hu=>aP hS1 hu) (fun b hu=>absurd rfl hu.1) (Ss _) (fun z hz=>by cases hz) (fun b hu=>⟨aP nP hu,vw hne hu⟩),dK (aB hoe fun b q=>yB b (hoe.lt b q).1 (hoe.lt b q).2) (by omega),dK (aB hoc fun b q=>hw'.2 b (hoc.lt b q).2 (hoc.lt b q).1) (by omega),?_,?_,dK (aB hor fun b q=>hw'.2 b (hor.lt b q).2 (hor.lt b q).1) (by omega),?_⟩
 · have h1:=aP hS1 hu
   obtain⟨_,ad,h2,rfl⟩:=hu
   exact hw'.2 _ h1 (hf1 ad h2)
 · have h1:=aP nP hu
   obtain⟨_,ad,h2,rfl⟩:=hu
   exact hw'.2 _ h1 (hf3 ad h2)
 · rcases hu with⟨_,ad,h2,rfl⟩|(⟨h,_⟩|⟨z,hz,hu⟩)|⟨_,ad,h2,rfl⟩
   · have:=hf1 ad h2
     omega
   · exact absurd rfl h
   · simp at hz
   · have:=hf3 ad h2
     omega
 · intro b q
   have h1:=(hoe.lt b q).1
   exact⟨fun u=>by have:=aP hS1 u;omega,fun u=>by have:=aP nP u;omega⟩
 · intro b q
   have hq:∃ y,a3=some y∧y.block=b:=by
    cases a3 with
    | none=>simp [Sn] at q
    | some y=>exact⟨y,rfl,by simpa [Sn] using q⟩
   obtain⟨y,hy,hyb⟩:=hq
   have hlt:=(hoc.lt b q).2
   refine⟨fun u=>?_,fun u=>?_⟩
   · obtain⟨_,x,hx,hxb⟩:=u
     exact hne x y hx hy (hxb.trans hyb.symm)
   · rcases u with⟨h,_⟩|⟨z,hz,_⟩
     · exact h rfl
     · cases hz
 · intro b q
   have hq:∃ y,a1=some y∧y.block=b:=by
    cases a1 with
    | none=>simp [Sn] at q
    | some y=>exact⟨y,rfl,by simpa [Sn] using q⟩
   obtain⟨y,hy,hyb⟩:=hq
   have hlt:=(hor.lt b q).2
   refine⟨fun u=>?_,fun u=>?_⟩
   · rcases u with⟨h,_⟩|⟨z,hz,_⟩
     · exact h rfl
     · cases hz
   · obtain⟨_,x,hx,hxb⟩:=u
     exact hne y x hy hx (hyb.trans hxb.symm)
end Go.Proofs.YtjebaagkomejaaaGreatDoor
namespace Go.Proofs.YtjebaagkomejaaaGreatDoor
open Go.RowKit
abbrev zeD:Array Si:=#[Sq ⟨#[]⟩,.string ⟨#[]⟩,.int .u8 0,.bool false,.int .i64 0,.slice none 0 0,.slice none 0 0,.slice none 0 0]
abbrev zeE:Array Si:=#[Si.int .i64 0,.int .i64 0,.int .i64 0,.string ⟨#[]⟩,.int .u8 0,.string ⟨#[]⟩,.slice none 0 0]
theorem cE (v:Sh)(o:Obj):∃ (v':Sh)(g:Nat),v.alloc o=v'∧v.heap.size=g∧v'.heap[g]? =some o∧Sm v.heap.size v v'∧g<v'.heap.size∧(v.heap.size≤g∧g≤v.heap.size) :=
 ⟨_,_,rfl,rfl,Sj v o,(Sr _ _).alloc (Ss _) _,by simp,Ss _,Ss _⟩
theorem jW (b n:Nat):zDoc.uses b→n≤b:=by
 rintro (⟨h,_⟩|(⟨h,_⟩|⟨x,hx,_⟩)|⟨h,_⟩)
 · exact absurd rfl h
 · exact absurd rfl h
 · cases hx
 · exact absurd rfl h
theorem ag:(Tryz.prog.info? 27).map (·.size)=some 8:=by kernel_rfl
theorem aO {a b:ByteArray} {c:Int} {d:Bool} {e:Int} {f1 f2 f3:Option Addr} {n1 n2 n3 m1 m2 m3:Nat}:(#[Sq a,.string b,.int .u8 c,.bool d,.int .i64 e,.slice f1 n1 m1,.slice f2 n2 m2,.slice f3 n3 m3].all (·.oneCell'))=true:=by simp [Si.oneCell']
theorem size_setRow (w:Sh)(g:Nat)(cs:Array Si):(w.setRow g cs).heap.size=w.heap.size:=by unfold Sh.setRow;simp
theorem aM (w:Sh)(p b:Nat)(cs:Array Si)(hb:b≠p):(w.setRow p cs).heap[b]? =w.heap[b]?:=by
 unfold Sh.setRow
 show(w.heap.modify _ _)[b]? =w.heap[b]?
 rw [Array.getElem?_modify,if_neg (fun e=>hb e.symm)]
theorem sF {α:Type} {K:Nat} {enc:α→List Si} (hk:∀ x,(enc x).length=K) {x y:α} {j:Nat} {v:Si} (hy:enc y=(enc x).set j v)(hj:j<K):∀ (zs:List α)(k:Nat),zs[k]? =some x→(zs.set k y).flatMap enc=(zs.flatMap enc).set (k*K+j) v
 | [],k,h=>by simp at h
 | z::l,0,h=>by
   obtain rfl:z=x:=by simpa using h
   rw [List.set_cons_zero,Sz,Sz,hy,Nat.zero_mul,Su,List.set_append_left _ _ (by rw [hk];exact hj)]
 | z::l,k+1,h=>by
   have ih:=sF hk hy hj l k (by simpa using h)
   rw [List.set_cons_succ,Sz,Sz,ih,List.set_append_right _ _ (by rw [hk,Sv];omega),hk]
   congr 2
   rw [Sv];omega
def dN {α:Type} (f:α→α)(xs zs:List α)(k:Nat):Prop:=zs.length=xs.length∧∀ i,zs[i]? =(xs[i]?).map (if i<k then f else id)
theorem dN.start {α:Type} (f:α→α)(xs:List α):dN f xs xs 0:=⟨rfl,fun i=>by rw [if_neg (by omega)];simp⟩
theorem dN.step {α:Type} {f:α→α} {xs zs:List α} {k:Nat} {x:α} (h:dN f xs zs k)(hx:xs[k]? =some x):dN f xs (zs.set k (f x)) (k+1):=by
 refine⟨by simpa using h.1,fun i=>?_⟩
 have hk:k<zs.length:=by rw [h.1];exact(List.getElem?_eq_some_iff.1 hx).1
 rw [List.getElem?_set]
 split
 · rename_i e
   subst e
   rw [hx,if_pos (by omega)]
   simp [hk]
 · rename_i e
   rw [h.2 i]
   by_cases hi:i<k
   · rw [if_pos hi,if_pos (by omega)]
   · rw [if_neg hi,if_neg (by omega)]
theorem dN.at_ {α:Type} {f:α→α} {xs zs:List α} {k:Nat} {x:α} (h:dN f xs zs k)(hx:xs[k]? =some x):zs[k]? =some x:=by
 rw [h.2 k,hx,if_neg (by omega)]
 rfl
theorem dN.all {α:Type} {f:α→α} {xs zs:List α} (h:dN f xs zs xs.length):zs=xs.map f:=by
 apply List.ext_getElem?
 intro i
 rw [h.2 i,List.getElem?_map]
 by_cases hi:i<xs.length
 · rw [if_pos hi]
 · rw [if_neg hi,List.getElem?_eq_none (by omega)]
   rfl
theorem aj {P:Program} {ops:Array Oper} {rest:List Oper} {op:Oper} {a:Act} {w:Sh} {Q:Exit→Act→Sh→Prop} (ty:TypeId)(x:Operand)(ho:op.op=.load ty x)
 (b o:Nat) (hx:a.eval x=.pointer (some ⟨b,o,none⟩)) (cs:List Si) (d:TypeDesc) (hc:w.rangeAt b o cs) (hu:P.underlying ty=some d) (hd:d.isRow=true) (hi:(P.info? ty).map (·.size)=some cs.length) (hw:Region.wanted op (yielded ops a.tmps)=true)
 (h:wpList P ops Q rest (a.put op.dst (.agg cs.toArray)) w):wpList P ops Q (op::rest) a w :=
 BigFrame.wpList_want hw fun _ hK=>wp_load_mid ty x ho b o hx cs d hc hu hd hi (hK _ _ h)
theorem ai {w:Sh} {g:Nat} {l:List Si} {t:TypeId} (h:w.heap[g]? =some (.cells l.toArray t (0,0))):w.rangeAt g 0 l:=fun j v hv=>by
 rw [cell_of_row _ _ (0+j) _ t (0,0) h]
 simpa using hv
theorem bj (w:Sh)(g:Nat)(cs:Array Si):Kept (fun b=>b=g) w (w.setRow g cs):=⟨rfl,rfl,rfl,by rw [size_setRow];exact Ss _,fun k _ hn=>aM _ _ _ _ hn⟩
theorem bp {d d':Doc} (h:d'.c=d.c)(hf:d.fits):d'.fits:=by
 have:=Doc.fits.c (n:=4000000) hf hf.2.2.2.2.2.2.1 hf.2.2.2.2.2.2.2.2.1 hf.2.2.2.2.2.2.2.2.2.2
 rw [←h] at this
 exact this.doc (Ss _)
theorem mO (k:Int):∀ (l:List Ev)(i:Nat),(bX (iB k) l i=-1∧aU (l.map Ev.c) k=none)∨∃ (j:Nat)(x:Ev),bX (iB k) l i=((i+j:Nat):Int)∧l[j]? =some x∧aU (l.map Ev.c) k=some x.c
 | [],i=>.inl ⟨rfl,rfl⟩
 | x::l,i=>by
   by_cases h:x.id=k
   · have h1:iB k x=true:=by simp [iB,h]
     have h2:evAt k x.c=true:=by simp [evAt,Ev.c,h]
     refine .inr ⟨0,x,?_,rfl,?_⟩
     · simp only [bX,h1,if_true,St]
     · unfold aU
       rw [SB,SA,h2]
   · have h1:iB k x=false:=by simp [iB,h]
     have h2:evAt k x.c=false:=by simp [evAt,Ev.c,h]
     have e1:bX (iB k) (x::l) i=bX (iB k) l (i+1):=by simp [bX,h1]
     have e2:aU ((x::l).map Ev.c) k=aU (l.map Ev.c) k:=by
      unfold aU
      rw [SB,SA,h2]
     rw [e1,e2]
     rcases mO k l (i+1) with h|⟨j,y,h3,h4,h5⟩
     · exact .inl h
     · exact .inr ⟨j+1,y,by rw [h3];congr 1;omega,by simpa using h4,h5⟩
theorem gj (d:Doc)(k:Int):(posOf (iB k) d.eV=-1∧aU d.c.eV k=none)∨∃ (j:Nat)(x:Ev),posOf (iB k) d.eV=(j:Int)∧d.eV[j]? =some x∧aU d.c.eV k=some x.c:=by
 have h:=mO k d.eV 0
 simp only [Su] at h
 exact h
def aS (r:Int × DocC)(w:Sh)(e:Ending)(w':Sh):Prop:=∃ d:Doc,e=.returned (.tuple #[.agg d.enc.toArray,.int .i64 r.1])∧d.c=r.2∧d.lies w'∧(∀ b,d.uses b→w.heap.size≤b)∧Sm w.heap.size w w'
theorem aS.zero {w w':Sh} (q:Int)(h:Sm w.heap.size w w'):aS (q,aV) w (.returned (.tuple #[.agg zDoc.enc.toArray,.int .i64 q])) w':=⟨zDoc,rfl,rfl,jX w',fun b=>jW b _,h⟩
theorem bH {g:Nat} {a w:Sh} (h:Kept (fun b=>b=g) a w)(j:Nat)(u:Si):Kept (fun b=>b=g) a (w.setCell ⟨g,j,none⟩ u):=h.setCell (p:=⟨g,j,none⟩) (.inr rfl) u
theorem fN {α:Type} {K T B g cap n k j:Nat} {enc:α→List Si} (hk:∀ x,(enc x).length=K) {w:Sh} {zs:List α} {x y:α} {v:Si} (h:w.ownsRow B T K (.slice (some ⟨g,0,none⟩) n cap) n (zs.flatMap enc))(hx:zs[k]? =some x)(hy:enc y=(enc x).set j v)(hj:j<K) :
 (w.setCell ⟨g,k*K+j,none⟩ v).ownsRow B T K (.slice (some ⟨g,0,none⟩) n cap) n ((zs.set k y).flatMap enc):=by
 rw [sF hk hy hj zs k hx]
 exact(h.stored (k*K+j) v).1
def isCm (id:Int)(x:Cm):Bool:=x.id==id
instance:Inhabited Cm:=⟨⟨0,0,0,0,⟨#[]⟩,⟨#[]⟩,false,false⟩⟩
theorem pf (k:Int):∀ (xs:List Cm)(i:Nat),(bX (isCm k) xs i=-1∧cR xs k=none)∨∃ (j:Nat)(x:Cm),bX (isCm k) xs i=((i+j:Nat):Int)∧xs[j]? =some x∧cR xs k=some x
 | [],i=>.inl ⟨rfl,rfl⟩
 | x::l,i=>by
   by_cases h:x.id=k
   · have h1:isCm k x=true:=by simp [isCm,h]
     have h2:cmAt k x=true:=by simp [cmAt,h]
     refine .inr ⟨0,x,?_,rfl,?_⟩
     · simp only [bX,h1,if_true,St]
     · unfold cR
       rw [SA,h2]
   · have h1:isCm k x=false:=by simp [isCm,h]
     have h2:cmAt k x=false:=by simp [cmAt,h]
     have e1:bX (isCm k) (x::l) i=bX (isCm k) l (i+1):=by simp [bX,h1]
     have e2:cR (x::l) k=cR l k:=by
      unfold cR
      rw [SA,h2]
     rw [e1,e2]
     rcases pf k l (i+1) with h|⟨j,y,h3,h4,h5⟩
     · exact .inl h
     · exact .inr ⟨j+1,y,by rw [h3];congr 1;omega,by simpa using h4,h5⟩
theorem AV (xs:List Cm)(k:Int):(posOf (isCm k) xs=-1∧cR xs k=none)∨∃ (j:Nat)(x:Cm),posOf (isCm k) xs=(j:Int)∧xs[j]? =some x∧cR xs k=some x:=by
 have h:=pf k xs 0
 simp only [Su] at h
 exact h
theorem xu (x:Cm)(g:Nat)(id:Int)(w:Sh)(hg:w.cell? ⟨g,0,none⟩=some (.int .i64 id))(hl:g<w.heap.size) :
 Sl Tryz.prog 194 #[.agg x.enc.toArray,.pointer (some ⟨g,0,none⟩)] w fun e w'=>e=.returned (.bool (x.id==id))∧Sm w.heap.size w w':=by
 obtain⟨id',ev,frm,til,au,tx,dn,lo⟩:=x
 simp only [Cm.enc]
 have hg2:∀ o,(w.alloc o).cell? ⟨g,0,none⟩=some (.int .i64 id):=fun o=>(Sh.cell?_alloc_lt _ _ _ (by simpa using hl)).trans hg
 go_enter Tryz.func194,Tryz.ntmps194
 go_wp2_with fail
 go_ret
 exact⟨rfl,(Sr _ _).alloc (Ss _) _⟩
theorem mS (a:Option Addr)(cap:Nat)(v:Si)(w:Sh):Sl Tryz.prog 186 #[.slice a 0 cap,v] w fun e w'=>e=.returned (.int .i64 (-1))∧w=w':=by
 go_enter Tryz.func186,Tryz.ntmps186
 go_wp2_with fail
 refine wp_loop_rounds 1 ?_
 rw [rounds_succ]
 go_wp2_with fail
 go_ret
 exact⟨rfl,rfl⟩
theorem sl (a:Option Addr)(cap:Nat)(xs:List Cm)(g:Nat)(id:Int)(w:Sh)(hr:ah 8 Cm.enc Flat w a xs)(hl:xs.length≤4000000)(hg:w.cell? ⟨g,0,none⟩=some (.int .i64 id))(hgl:g<w.heap.size) :
 Sl Tryz.prog 186 #[.slice a xs.length cap,.func (.func 194) #[] #[.pointer (some ⟨g,0,none⟩)]] w fun e w'=>e=.returned (.int .i64 (posOf (isCm id) xs))∧Sm w.heap.size w w':=by
 rcases hr with rfl|⟨b,off,rfl,hb,hc⟩
 · exact(mS a cap _ w).mono fun e w' ⟨he,hw⟩=>⟨he,hw▸Sr _ _⟩
 · have h:=Tryz.slices_IndexFunc_f186 8 (fun w=>by kernel_rfl) (fun w=>by kernel_rfl) Cm.enc (fun _=>rfl) (isCm id) 194 #[.pointer (some ⟨g,0,none⟩)] (fun args w=>by kernel_rfl) b off xs.length cap xs w
    (fun W x hW=>(xu x g id W ((hW.cell (p:=⟨g,0,none⟩) hgl).trans hg) (Nat.lt_of_lt_of_le hgl hW.size)).mono fun e w' ⟨he,hw⟩=>⟨he,hW.trans (hw.mono hW.size)⟩)
    (Ss _) (by omega) hb (fun j hj i v hv=>(hc j _ (jN xs j hj)).1 i v hv)
   rw [List.take_length,mE] at h
   exact h
theorem sV (d:Doc)(id:Int)(w:Sh)(hr:ah 8 Cm.enc Flat w d.ca d.cM)(hl:d.cM.length≤4000000) :
 Sl Tryz.prog 141 #[.agg d.enc.toArray,.int .i64 id] w fun e w'=>e=.returned (.int .i64 (posOf (isCm id) d.cM))∧Sm w.heap.size w w':=by
 have HC:=h_ (sl d.ca d.cc d.cM (w.heap.size+1) id ((w.alloc (.cells d.enc.toArray 27)).alloc (.cells #[.int .i64 id] 2)) (ah.keeps Flat.keeps _ _ _ _ (((Sr _ _).alloc (Ss _) _).alloc (by simp) _) hr) hl (cW w d.enc.toArray #[.int .i64 id] 27 2 0 _ rfl _ (Sr _ _)) (by simp))
 obtain⟨title,lA,rate,drop,last,ra,rc,rG,ea,ec,eV,ca,cc,cM⟩:=d
 simp only [Doc.enc] at HC ⊢
 go_enter Tryz.func141,Tryz.ntmps141
 go_wp2_with fail
 refine HC.out.mono ?_
 rintro e w1 ⟨rfl,hb⟩
 have hb':=fH (hb.mono (by simp))
 go_wp2_with fail
 go_ret
 exact⟨rfl,hb'⟩
def bJ (d:DocC)(id:Int):Int:=if cErr d≠0 then cErr d else if (cR d.cM id).isNone=true then 6 else 0
def gA (d:DocC)(id:Int):Int:=if bJ d id=0 then posOf (isCm id) d.cM else 0
theorem lI (d:Doc)(id:Int)(w:Sh)(hE:Env w)(hd:d.lies w)(hf:d.fits):Sl Tryz.prog 94 #[.agg d.enc.toArray,.int .i64 id] w fun e w'=>e=.returned (.tuple #[.int .i64 (gA d.c id),.int .i64 (bJ d.c id)])∧Sm w.heap.size w w':=by
 have iK:=h_ (fun(w1:Sh) (h:Sm w.heap.size w w1)=>bR d w1 (hE.below h (Ss _)) (Doc.later hd h) hf)
 have ew:=h_ (fun(w1:Sh) (h:Sm w.heap.size w w1)=>sV d id w1 (Doc.later hd h).2.2 hf.2.2.2.2.2.2.2.2.2.2)
 have hr0:(w.alloc (.cells d.enc.toArray 27)).rangeAt w.heap.size 0 d.enc:=ai (Sj _ _)
 have hb1:Sm w.heap.size w (w.alloc (.cells d.enc.toArray 27)):=(Sr _ _).alloc (Ss _) _
 have HR:=h_ (Sj w (.cells d.enc.toArray 27))
 have Ao:=bw d
 have kF:=h_ (AV d.cM id)
 have hbd:=BS (isCm id) d.cM
 have hl:d.cM.length≤4000000:=hf.2.2.2.2.2.2.2.2.2.2
 have e3:d.c.cM=d.cM:=rfl
 generalize hI:gA d.c id=I
 generalize hF:bJ d.c id=F
 unfold bJ at hF
 unfold gA bJ at hI
 rw [e3,←Ao] at hF hI
 clear hd hf hE Ao
 generalize a_ d=DE at *
 have HI:=h_ hI
 have HF:=h_ hF
 clear hI hF
 go_enter Tryz.func94,Tryz.ntmps94
 go_wp2_with (refine aj 27 (.tmp 2) rfl w.heap.size 0 rfl d.enc _ hr0 Tryz.underlying27 rfl ag (by rfl) ?_)
 refine(iK.out _ hb1).mono ?_
 rintro e w1 ⟨rfl,hb2⟩
 have aK:=hb1.trans (hb2.mono hb1.size)
 have hr1:=ai ((hb2.block w.heap.size (by simp)).trans HR.out)
 clear hb2 hr0 iK hb1 HR
 by_cases h0:DE=0
 · subst h0
   go_wp2_with (refine aj 27 (.tmp 2) rfl w.heap.size 0 rfl d.enc _ hr1 Tryz.underlying27 rfl ag (by rfl) ?_)
   refine(ew.out _ aK).mono ?_
   rintro e w2 ⟨rfl,hb3⟩
   have hbw2:=aK.trans (hb3.mono aK.size)
   clear hb3 hr1 aK ew
   rcases kF.out with⟨hp,hn⟩|⟨j,x,hp,hx,hn⟩
   · have hi:=HI.out
     have hf:=HF.out
     rw [hp,hn] at hi
     rw [hn] at hf
     simp at hi hf
     have HI2:=h_ hi
     have Da:=h_ hf
     clear hi hf
     rw [hp]
     go_wp2_with fail
     refine Sk (v:=.tuple #[.int .i64 0,.int .i64 6]) (by simp [results,Tryz.results94,go_sem]) rfl ?_
     exact⟨by rw [←HI2.out,←Da.out],hbw2⟩
   · have hi:=HI.out
     have hf:=HF.out
     rw [hp,hn] at hi
     rw [hn] at hf
     simp at hi hf
     have HI2:=h_ hi
     have Da:=h_ hf
     clear hi hf
     rw [hp]
     have hj:(0:Int)≤(j:Int):=by omega
     go_wp2_with fail
     refine Sk (v:=.tuple #[.int .i64 j,.int .i64 0]) (by simp [results,Tryz.results94,go_sem]) rfl ?_
     exact⟨by rw [←HI2.out,←Da.out],hbw2⟩
 · have hi:=HI.out
   have hf:=HF.out
   have hne:(DE != 0)=true:=by simpa using h0
   rw [if_pos h0] at hf
   rw [if_pos h0,if_neg h0] at hi
   have HI2:=h_ hi
   have Da:=h_ hf
   clear hi hf
   go_wp2_with fail
   refine Sk (v:=.tuple #[.int .i64 0,.int .i64 DE]) (by simp [results,Tryz.results94,go_sem]) rfl ?_
   exact⟨by rw [←HI2.out,←Da.out],aK⟩
end Go.Proofs.YtjebaagkomejaaaGreatDoor
