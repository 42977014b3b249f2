/- The reference's lists of keys, built by insertion, are the program's ones, sorted and compacted. The contract of document.comments: the first error of the comments of a document. The contracts of style.Clone and event.Clone. -/
import Derived.Lib.SlBuf
import Derived.Shelf.Spec.SlicesInsertGrow
import Derived.Laws.CopyOwn
import Derived.Test.YtjebaagkomejaaaGreatDoorH07
import Derived.Test.YtjebaagkomejaaaGreatDoorH06
import Derived.Test.YtjebaagkomejaaaGreatDoorH08
set_option linter.unusedVariables false
set_option linter.unusedSimpArgs false
set_option maxRecDepth 100000
set_option maxHeartbeats 12800000
open Go.Lib renaming hid→h_
open Go.Lib renaming toList_data→Sh,allEq→Si
open List renaming getElem?_eq_getElem→Sj,getElem?_eq_some_iff→Sk,getElem_of_mem→Sl,mem_cons→Sm,mem_of_getElem?→Sn,set_cons_succ→Sp,pairwise_cons→Sq,flatMap_cons→Sr,map_cons→Ss,pairwise_map→St,getElem?_map→Su,not_mem_nil→Sv,cons_append→Sw,mem_map→Sx,not_lt→Sy
open Go renaming World→Sz,Value→SA,heap_alloc_last→SB
open Go.RowKit renaming Below→SC
open Go.RowKit.Below renaming heap_setCell→SD,refl→SF
open Go.World renaming size_alloc→SG,frozen?→SH
open Option.some renaming inj→SI,injEq→SJ
open Nat renaming le_refl→SK
open Go.Value.slice renaming injEq→SL
open Bool renaming and_eq_true→SM
open List.Pairwise renaming nil→SN
namespace Go.Proofs.YtjebaagkomejaaaGreatDoor
open Go.RowKit
theorem ib {a b:ByteArray} (h:a.toList=b.toList):a=b:=by
 rw [Sh,Sh] at h
 cases a;cases b
 congr 1
 exact Array.toList_inj.1 h
theorem Fe (a b:ByteArray):Op.bytesLess a.toList b.toList=true↔a.data.toList<b.data.toList:=by
 rw [bytesLess_eq,Sh,Sh]
 simp
def baLt (a b:ByteArray):Prop:=a.data.toList<b.data.toList
theorem CK {a b:List UInt8} (h1:¬ a<b)(h2:¬ a=b):b<a:=by
 rcases Classical.em (b<a) with h|h
 · exact h
 · exact absurd (List.le_antisymm (Sy.1 h) (Sy.1 h1)) h2
theorem sQ (d:Doc)(b n:Nat)(f:Int→Option Nat)(w:Sz)(hE:Env w)(hd:d.lies w)(eu:d.fits)(hM:IMap w b n f)(hf:∀ z i,f z=some i→i<d.eV.length)(hn:d.cM.length≤64) :
 Calls Tryz.prog 67 #[.agg d.enc.toArray,.map (some b)] w fun e w'=>e=.returned (.int .i64 (ia d.last f d.eV d.cM))∧SC w.heap.size w w':=by
 rw [ia,if_neg (by omega)]
 have DI:=h_ (fun(c:Cm) (w1:Sz) (h1:Env w1) (h2:dG w1 d.ea d.eV) (h3:c.fits) (h4:IMap w1 b n f)=>oF d c b n f w1 h1 h2 eu.2.2.2.2.2.2.2.1 eu.2.2.2.2.2.2.2.2.1 h3 h4 hf)
 obtain⟨title,lA,rate,drop,last,ra,rc,rG,ea,ec,eV,ca,cc,cM⟩:=d
 obtain⟨_,hde,K1⟩:=hd
 obtain⟨_,_,_,_,hi5,_,_,_,_,hfc,_⟩:=eu
 simp only at hde K1 hfc hn hi5
 simp only [Doc.enc] at DI ⊢
 generalize hG:di last f eV none cM=G
 have H0:=h_ (show di last f eV (bL cM 0) (cM.drop 0)=G by rw [List.drop_zero];exact hG)
 have hn2:decide ((64:Int)<(cM.length:Int))=false:=by simp;omega
 generalize hds:#[SA.string title,.string lA,.int .u8 rate,.bool drop,.int .i64 last,.slice ra rG.length rc,.slice ea eV.length ec,.slice ca cM.length cc]=ds at DI ⊢
 have f0:=ax w ds 27 0 (.string title) (by rw [←hds];rfl)
 have f1:=ax w ds 27 1 (.string lA) (by rw [←hds];rfl)
 have f2:=ax w ds 27 2 (.int .u8 rate) (by rw [←hds];rfl)
 have f3:=ax w ds 27 3 (.bool drop) (by rw [←hds];rfl)
 have f4:=ax w ds 27 4 (.int .i64 last) (by rw [←hds];rfl)
 have f5:=ax w ds 27 5 (.slice ra rG.length rc) (by rw [←hds];rfl)
 have f6:=ax w ds 27 6 (.slice ea eV.length ec) (by rw [←hds];rfl)
 have f7:=ax w ds 27 7 (.slice ca cM.length cc) (by rw [←hds];rfl)
 have HB:=h_ (fun(w1:Sz) (h:SC (w.heap.size+1) (w.alloc (.cells ds 27)) w1)=>bK h)
 have hb0:SC (w.heap.size+1) (w.alloc (.cells ds 27)) (w.alloc (.cells ds 27)):=SF _ _
 have hsz:(w.alloc (.cells ds 27)).heap.size=w.heap.size+1:=SG _ _
 generalize hW0:w.alloc (.cells ds 27)=W0 at *
 have HW0:=h_ hW0
 have dV:=h_ hsz
 have LP:=h_ hfc
 have HM:=h_ hM
 have vo:=h_ hde
 have yO:=h_ K1
 clear hW0 hsz hfc hf hG hM hde K1
 go_enter Tryz.func67,Tryz.ntmps67
 subst hds
 go_wp2_with fail
 rw [HW0.out]
 go_loopw [17] (fun i wr=>∃ k:Nat,k≤cM.length∧i=.int .i64 k∧di last f eV (bL cM k) (cM.drop k)=G∧SC (w.heap.size+1) W0 wr) (fun i _=>cM.length-(intOf i).toNat)
 case atStart=>exact⟨0,by omega,rfl,H0.out,hb0⟩
 case round =>
  obtain⟨k,hk,rfl,hp,hb⟩:=hrel
  have hbw:=HB.out _ hb
  by_cases hlt:k<cM.length
  · have hRr:=yO.out.later hbw
    obtain⟨b',off,c,rfl,hbl,hx,hc,_⟩:=hRr.at_ hlt
    have hft:=LP.out c (Sn hx)
    have hpv:(k=0∧bL cM k=none)∨(∃ y,1≤k∧bL cM k=some y∧∀ w1,SC wr.heap.size wr w1→w1.cell? ⟨b',off+(k-1)*8,none⟩=some (.int .i64 y.id)):=by
     rcases Nat.eq_zero_or_pos k with rfl|hk0
     · exact .inl ⟨rfl,rfl⟩
     · obtain⟨b'',off',y,hab,_,hy,hcy,_⟩:=hRr.at_ (show k-1<cM.length by omega)
       simp only [SJ,Addr.mk.injEq,and_true] at hab
       obtain⟨rfl,rfl⟩:=hab
       refine .inr ⟨y,hk0,?_,fun w1 h=>?_⟩
       · obtain⟨j,rfl⟩:∃ j,k=j+1:=⟨k-1,by omega⟩
         simpa [bL] using hy
       · rw [h.cell (p:=⟨b',off+(k-1)*8,none⟩) hbl]
         exact hcy 0 _ rfl
    have uB:=hb.size
    rw [dV.out] at uB
    have HN:=h_ (sS last f eV cM k c hx (bL cM k))
    have HS:=h_ (sR last f eV cM k c hx (bL cM k))
    have HP:=h_ hp
    have hcs:=CI last f eV (bL cM k) c _ rfl
    have hgx:=fun j v h=>ax wr c.enc.toArray 102 j v h
    have bA:=h_ (fun w1 (h:SC (wr.heap.size+1) (wr.alloc (.cells c.enc.toArray 102)) w1)=>(hb.alloc uB _).trans (h.mono (by omega)))
    have jT:=h_ (fun w1 (h:SC (wr.heap.size+1) (wr.alloc (.cells c.enc.toArray 102)) w1)=>(((SF wr.heap.size wr).alloc (SK _) _).trans (h.mono (by omega))))
    have hq0:SC (wr.heap.size+1) (wr.alloc (.cells c.enc.toArray 102)) (wr.alloc (.cells c.enc.toArray 102)):=SF _ _
    have Au:=hb.alloc uB (.cells c.enc.toArray 102)
    have gO:=h_ ((HM.out.below (HB.out _ (bA.out _ hq0)) HM.out.lt).look hft.1)
    have DH:=h_ (fun w1 (h:SC (wr.heap.size+1) (wr.alloc (.cells c.enc.toArray 102)) w1)=>DI.out c w1 (hE.below (HB.out _ (bA.out _ h)) (SK _)) (vo.out.later (HB.out _ (bA.out _ h))) hft (HM.out.below (HB.out _ (bA.out _ h)) HM.out.lt))
    have nG:=h_ (fun w1 (h:SC (wr.heap.size+1) (wr.alloc (.cells c.enc.toArray 102)) w1)=>dM c.text w1 hft.2.2.2.2.2 (hE.below (HB.out _ (bA.out _ h)) (SK _)))
    have jd:=h_ (fun w1=>eK c.author w1 hft.2.2.2.2.1)
    have KZ:=hft.2.2.2.2.2
    generalize fD last f eV (bL cM k) c=E at *
    generalize ct last f eV c=A at *
    generalize bL cM k=pv at *
    obtain⟨id,ev,frm,til,author,text,done,lost⟩:=c
    have d0:=hc 0 _ rfl;have d1:=hc 1 _ rfl;have d2:=hc 2 _ rfl;have d3:=hc 3 _ rfl;have d4:=hc 4 _ rfl;have d5:=hc 5 _ rfl;have d6:=hc 6 _ rfl;have d7:=hc 7 _ rfl
    have g0:=hgx 0 _ rfl;have g1:=hgx 1 _ rfl;have g2:=hgx 2 _ rfl;have g3:=hgx 3 _ rfl;have g4:=hgx 4 _ rfl;have g5:=hgx 5 _ rfl;have g6:=hgx 6 _ rfl;have g7:=hgx 7 _ rfl
    have KV:=hft.1
    simp only [Nat.add_zero,Cm.enc] at d0 d1 d2 d3 d4 d5 d6 d7 g0 g1 g2 g3 g4 g5 g6 g7 bA jT hq0 gO DH nG jd hcs KZ KV Au
    have hsz1:(wr.alloc (.cells #[.int .i64 id,.int .i64 ev,.int .i64 frm,.int .i64 til,.string author,.string text,.bool done,.bool lost] 102)).heap.size=wr.heap.size+1:=SG _ _
    have IL:=gO
    generalize hW1:wr.alloc (.cells #[.int .i64 id,.int .i64 ev,.int .i64 frm,.int .i64 til,.string author,.string text,.bool done,.bool lost] 102)=W1 at g0 g1 g2 g3 g4 g5 g6 g7 bA jT hq0 DH nG hsz1 IL
    have HW1:=h_ hW1
    have Fs:=h_ hsz1
    have hqq:∀ q,SC (wr.heap.size+1) W1 (W1.drewN q):=fun q=>Go.below_drewN hq0 q
    have Od:=bA.out _ hq0
    have Oc:=fun q=>bA.out _ (hqq q)
    have HT:=h_ (fun(w2 w3:Sz) (h:SC (wr.heap.size+1) W1 w2) (h3:SC w2.heap.size w2 w3)=>h.trans (h3.mono (by have:=h.size;rw [Fs.out] at this;exact this)))
    have hcell:(pv=none∧decide (0<k)=false)∨(∃ y,1≤k∧pv=some y∧decide (0<k)=true∧(1:Int)≤(k:Int)∧(k:Int)-1<(cM.length:Int)∧IntKind.i64.wrap ((k:Int)-1)=(k:Int)-1∧((k:Int)-1).toNat=k-1∧∀ w1,SC (wr.heap.size+1) W1 w1→w1.cell? ⟨b',off+(k-1)*8,none⟩=some (.int .i64 y.id)):=by
     rcases hpv with⟨h1,h2⟩|⟨y,h1,h2,h3⟩
     · exact .inl ⟨h2,by simp;omega⟩
     · exact .inr ⟨y,h1,h2,by simp;omega,by omega,by omega,IntWalk.i64_in _ (by omega),by omega,fun w1 h=>h3 w1 (jT.out _ h)⟩
    clear hpv hc hgx hW1 hsz1 H0 hRr hp hx DI hft IL
    rcases hcs with⟨he,h1⟩|⟨he,h1,h2⟩|⟨h1,h2,⟨h3,he⟩|⟨h3,hcs⟩⟩
    · have dY:=h_ he
      clear he hcell
      go_wp2_with (at_lookup;refine ay _ rfl _ _ _ _ rfl _ _ _ rfl rfl gO.out ?_)
      rw [HW1.out]
      go_ret
      exact⟨aG (by rw [←HP.out,HS.out (by rw [dY.out];rfl),dY.out]),HB.out _ (bA.out _ hq0)⟩
    · have dY:=h_ he
      clear he hcell
      go_wp2_with (at_lookup;refine ay _ rfl _ _ _ _ rfl _ _ _ rfl rfl gO.out ?_)
      rw [HW1.out]
      go_ret
      exact⟨aG (by rw [←HP.out,HS.out (by rw [dY.out];rfl),dY.out]),HB.out _ (bA.out _ hq0)⟩
    · have dY:=h_ he
      rcases hcell with⟨rfl,hkd⟩|⟨y,hk1,rfl,hkd,hkz,hkl,hwr,hkn,p0⟩
      · simp [eY] at h3
      have uL:decide (id≤y.id)=true:=by simpa [eY] using h3
      generalize y.id=yi at *
      clear he h3
      go_wp2_with (at_lookup;refine ay _ rfl _ _ _ _ rfl _ _ _ rfl rfl gO.out ?_)
      rw [HW1.out]
      go_quiet (fail)
      go_wp2_with fail
      go_ret
      exact⟨aG (by rw [←HP.out,HS.out (by rw [dY.out];rfl),dY.out]),HB.out _ (bA.out _ (hqq _))⟩
    have i6:(decide (0<k)=false)∨(∃ yi:Int,(decide (id≤yi)=false)∧1≤k∧decide (0<k)=true∧(1:Int)≤(k:Int)∧(k:Int)-1<(cM.length:Int)∧IntKind.i64.wrap ((k:Int)-1)=(k:Int)-1∧((k:Int)-1).toNat=k-1∧∀ w1,SC (wr.heap.size+1) W1 w1→w1.cell? ⟨b',off+(k-1)*8,none⟩=some (.int .i64 yi)):=by
     rcases hcell with⟨rfl,hkd⟩|⟨y,hk1,rfl,hkd,hkz,hkl,hwr,hkn,p0⟩
     · exact .inl hkd
     · exact .inr ⟨y.id,by simpa [eY] using h3,hk1,hkd,hkz,hkl,hwr,hkn,p0⟩
    clear hcell h3
    rcases hcs with⟨ht,he⟩|⟨ht,hcs⟩
    · have dY:=h_ he
      rw [ht] at gO
      clear he ht
      rcases i6 with hkd|⟨yi,uL,hk1,hkd,hkz,hkl,hwr,hkn,p0⟩
      all_goals
       go_wp2_with (at_lookup;refine ay _ rfl _ _ _ _ rfl _ _ _ rfl rfl gO.out ?_)
       rw [HW1.out]
       go_quiet (fail)
       go_wp2_with fail
       go_ret
       exact⟨aG (by rw [←HP.out,HS.out (by rw [dY.out];rfl),dY.out]),HB.out _ (Oc _)⟩
    rw [ht] at gO
    clear ht
    rcases hcs with⟨ha,he⟩|⟨rfl,hcs⟩
    · have dY:=h_ he
      have OV:=h_ ha
      clear he
      rcases i6 with hkd|⟨yi,uL,hk1,hkd,hkz,hkl,hwr,hkn,p0⟩
      all_goals
       go_wp2_with (at_lookup;refine ay _ rfl _ _ _ _ rfl _ _ _ rfl rfl gO.out ?_)
       rw [HW1.out]
       go_quiet (fail)
       go_wp2_with fail
       refine(DH.out _ (hqq _)).mono ?_
       rintro e w2 ⟨rfl,hb2⟩
       have hc2:=HT.out _ _ (hqq _) hb2
       have hd2:=bA.out _ hc2
       clear hb2
       go_wp2_with fail
       go_ret
       exact⟨aG (by rw [←HP.out,HS.out (by rw [dY.out];exact OV.out),dY.out]),HB.out _ hd2⟩
    rcases hcs with⟨hnm,he⟩|⟨hnm,hcs⟩
    · have dY:=h_ he
      rw [hnm] at jd
      clear he hnm
      rcases i6 with hkd|⟨yi,uL,hk1,hkd,hkz,hkl,hwr,hkn,p0⟩
      all_goals
       go_wp2_with (at_lookup;refine ay _ rfl _ _ _ _ rfl _ _ _ rfl rfl gO.out ?_)
       rw [HW1.out]
       go_quiet (fail)
       go_wp2_with fail
       refine(DH.out _ (hqq _)).mono ?_
       rintro e w2 ⟨rfl,hb2⟩
       have hc2:=HT.out _ _ (hqq _) hb2
       have hd2:=bA.out _ hc2
       clear hb2
       go_wp2_with fail
       refine(jd.out _).mono ?_
       rintro e w3 ⟨rfl,rfl⟩
       go_wp2_with fail
       go_ret
       exact⟨aG (by rw [←HP.out,HS.out (by rw [dY.out];rfl),dY.out]),HB.out _ hd2⟩
    rw [hnm] at jd
    clear hnm
    rcases hcs with⟨hv,he⟩|⟨hv,hcs⟩
    · have dY:=h_ he
      rw [hv] at nG
      clear he hv
      rcases i6 with hkd|⟨yi,uL,hk1,hkd,hkz,hkl,hwr,hkn,p0⟩
      all_goals
       go_wp2_with (at_lookup;refine ay _ rfl _ _ _ _ rfl _ _ _ rfl rfl gO.out ?_)
       rw [HW1.out]
       go_quiet (fail)
       go_wp2_with fail
       refine(DH.out _ (hqq _)).mono ?_
       rintro e w2 ⟨rfl,hb2⟩
       have hc2:=HT.out _ _ (hqq _) hb2
       have hd2:=bA.out _ hc2
       clear hb2
       go_wp2_with fail
       refine(jd.out _).mono ?_
       rintro e w3 ⟨rfl,rfl⟩
       go_wp2_with fail
       refine(nG.out _ hc2).mono ?_
       rintro e w4 ⟨rfl,hb4⟩
       have hc4:=HT.out _ _ hc2 hb4
       have hd4:=bA.out _ hc4
       clear hb4
       go_wp2_with fail
       go_ret
       exact⟨aG (by rw [←HP.out,HS.out (by rw [dY.out];rfl),dY.out]),HB.out _ hd4⟩
    rw [hv] at nG
    clear hv
    rcases hcs with⟨hz,he⟩|⟨hz,⟨hm,he⟩|⟨hm,he⟩⟩
    · have dY:=h_ he
      have hz2:text.toList.isEmpty=true:=by simpa using hz
      clear he
      rcases i6 with hkd|⟨yi,uL,hk1,hkd,hkz,hkl,hwr,hkn,p0⟩
      all_goals
       go_wp2_with (at_lookup;refine ay _ rfl _ _ _ _ rfl _ _ _ rfl rfl gO.out ?_)
       rw [HW1.out]
       go_quiet (fail)
       go_wp2_with fail
       refine(DH.out _ (hqq _)).mono ?_
       rintro e w2 ⟨rfl,hb2⟩
       have hc2:=HT.out _ _ (hqq _) hb2
       have hd2:=bA.out _ hc2
       clear hb2
       go_wp2_with fail
       refine(jd.out _).mono ?_
       rintro e w3 ⟨rfl,rfl⟩
       go_wp2_with fail
       refine(nG.out _ hc2).mono ?_
       rintro e w4 ⟨rfl,hb4⟩
       have hc4:=HT.out _ _ hc2 hb4
       have hd4:=bA.out _ hc4
       clear hb4
       go_wp2_with fail
       go_ret
       exact⟨aG (by rw [←HP.out,HS.out (by rw [dY.out];rfl),dY.out]),HB.out _ hd4⟩
    · have dY:=h_ he
      have hz2:text.toList.isEmpty=false:=by simpa using hz
      clear he
      rcases i6 with hkd|⟨yi,uL,hk1,hkd,hkz,hkl,hwr,hkn,p0⟩
      all_goals
       go_wp2_with (at_lookup;refine ay _ rfl _ _ _ _ rfl _ _ _ rfl rfl gO.out ?_)
       rw [HW1.out]
       go_quiet (fail)
       go_wp2_with fail
       refine(DH.out _ (hqq _)).mono ?_
       rintro e w2 ⟨rfl,hb2⟩
       have hc2:=HT.out _ _ (hqq _) hb2
       have hd2:=bA.out _ hc2
       clear hb2
       go_wp2_with fail
       refine(jd.out _).mono ?_
       rintro e w3 ⟨rfl,rfl⟩
       go_wp2_with fail
       refine(nG.out _ hc2).mono ?_
       rintro e w4 ⟨rfl,hb4⟩
       have hc4:=HT.out _ _ hc2 hb4
       have hd4:=bA.out _ hc4
       clear hb4
       go_wp2_with fail
       go_ret
       exact⟨aG (by rw [←HP.out,HS.out (by rw [dY.out];rfl),dY.out]),HB.out _ hd4⟩
    · have dY:=h_ he
      have hz2:text.toList.isEmpty=false:=by simpa using hz
      clear he
      rcases i6 with hkd|⟨yi,uL,hk1,hkd,hkz,hkl,hwr,hkn,p0⟩
      all_goals
       go_wp2_with (at_lookup;refine ay _ rfl _ _ _ _ rfl _ _ _ rfl rfl gO.out ?_)
       rw [HW1.out]
       go_quiet (fail)
       go_wp2_with fail
       refine(DH.out _ (hqq _)).mono ?_
       rintro e w2 ⟨rfl,hb2⟩
       have hc2:=HT.out _ _ (hqq _) hb2
       have hd2:=bA.out _ hc2
       clear hb2
       go_wp2_with fail
       refine(jd.out _).mono ?_
       rintro e w3 ⟨rfl,rfl⟩
       go_wp2_with fail
       refine(nG.out _ hc2).mono ?_
       rintro e w4 ⟨rfl,hb4⟩
       have hc4:=HT.out _ _ hc2 hb4
       have hd4:=bA.out _ hc4
       clear hb4
       go_wp2_with fail
       go_roundw
       case rel=>exact⟨k+1,by omega,by go_num,by rw [←HN.out dY.out];exact HP.out,hd4⟩
       case measure=>simp [intOf];omega
  · obtain rfl:k=cM.length:=by omega
    rw [List.drop_length] at hp
    have HP:=h_ hp
    clear hp H0
    go_wp2_with fail
    go_ret
    exact⟨aG (by rw [←HP.out];cases bL cM cM.length<;>rfl),HB.out _ hb⟩
def Row.uses (r:Row)(b:Nat):Prop:=bt r.at_ r.runs b
theorem Row.frame {r:Row} {w w':Sz} (h:r.lies w)(hs:w.heap.size≤w'.heap.size)(hb:∀ b,r.uses b→w'.heap[b]? =w.heap[b]?):r.lies w':=ah.frame h hs hb fun _ _ _=>trivial
theorem Row.uses_lt {r:Row} {w:Sz} (h:r.lies w) {b:Nat} (hu:r.uses b):b<w.heap.size:=aP h hu
def dh (a:Option Addr)(rows:List Row)(b:Nat):Prop:=bt a rows b∨∃ r∈rows,r.uses b
theorem mu {w:Sz} {a:Option Addr} {rows:List Row} (h:bN w a rows) {r:Row} (hr:r∈rows):r.lies w:=by
 obtain⟨i,hi,rfl⟩:=Sl hr
 obtain⟨b,off,x,_,_,hx,_,hl⟩:=h.at_ hi
 obtain rfl:rows[i]=x:=SI ((Sj hi).symm.trans hx)
 exact hl
theorem bN.frame {a:Option Addr} {rows:List Row} {w w':Sz} (h:bN w a rows)(hs:w.heap.size≤w'.heap.size)(hb:∀ b,dh a rows b→w'.heap[b]? =w.heap[b]?):bN w' a rows :=
 ah.frame h hs (fun b hu=>hb b (.inl hu)) fun r hr hl=>Row.frame hl hs fun b hu=>hb b (.inr ⟨r,hr,hu⟩)
theorem gU {w:Sz} {a:Option Addr} {rows:List Row} (h:bN w a rows) {b:Nat} (hu:dh a rows b):b<w.heap.size:=by
 rcases hu with hu|⟨r,hr,hu⟩
 · exact aP h hu
 · exact Row.uses_lt (mu h hr) hu
def cK (rows:List Row)(w:Sz)(v:SA)(k:Nat)(wr:Sz):Prop :=
 ∃ rows':List Row,rows'.length=rows.length∧rows'.map Row.runs=rows.map Row.runs∧wr.ownsRow w.heap.size 75 1 v rows.length (rows'.flatMap Row.enc)∧(∀ j r,rows'[j]? =some r→r.lies wr∧(∀ b,r.uses b→v.ownBlock≠some b)∧(j<k→∀ b,r.uses b→w.heap.size≤b))∧SC w.heap.size w wr
theorem cK.start {rows:List Row} {w w1:Sz} {a:Option Addr} {v:SA} (h:bN w a rows)(ho:w1.ownsRow w.heap.size 75 1 v rows.length (rows.flatMap Row.enc))(hb:SC w.heap.size w w1):cK rows w v 0 w1:=by
 refine⟨rows,rfl,rfl,ho,fun j r hr=>?_,hb⟩
 have hl:=mu h (Sn hr)
 refine⟨Row.keeps _ _ _ hb hl,fun b hu hv=>?_,fun hj=>by omega⟩
 have:=(ho.lt _ hv).1
 have:=Row.uses_lt hl hu
 omega
theorem j2:∀ (xs:List Row)(k:Nat)(y:Row),k<xs.length→(xs.set k y).flatMap Row.enc=(xs.flatMap Row.enc).set k (.slice y.at_ y.runs.length y.cap)
 | [],k,y,h=>by simp at h
 | x::xs,0,y,h=>by simp [Row.enc]
 | x::xs,k+1,y,h=>by
   have:=j2 xs k y (by simpa using h)
   simp only [Sp,Sr,this,Row.enc,Sw,List.nil_append]
theorem lr:∀ (xs:List Row)(k:Nat)(r y:Row),xs[k]? =some r→y.runs=r.runs→(xs.set k y).map Row.runs=xs.map Row.runs
 | [],k,r,y,h,_=>by simp at h
 | x::xs,0,r,y,h,hy=>by
   obtain rfl:x=r:=by simpa using h
   simp [hy]
 | x::xs,k+1,r,y,h,hy=>by
   have:=lr xs k r y (by simpa using h) hy
   simp [this]
theorem cK.step {rows rows':List Row} {w wr w2:Sz} {g cv k:Nat} {r:Row} {a2:Option Addr} {c2:Nat} (hk:rows'[k]? =some r)(h1:rows'.length=rows.length)(h2:rows'.map Row.runs=rows.map Row.runs)
 (h3:wr.ownsRow w.heap.size 75 1 (.slice (some ⟨g,0,none⟩) rows.length cv) rows.length (rows'.flatMap Row.enc)) (h4:∀ j r,rows'[j]? =some r→r.lies wr∧(∀ b,r.uses b→(SA.slice (some ⟨g,0,none⟩) rows.length cv).ownBlock≠some b)∧(j<k→∀ b,r.uses b→w.heap.size≤b)) (h5:SC w.heap.size w wr)
 (hb:SC wr.heap.size wr w2) (ho:w2.ownsRow wr.heap.size 77 5 (.slice a2 r.runs.length c2) r.runs.length (r.runs.flatMap Run.enc)) :
 cK rows w (.slice (some ⟨g,0,none⟩) rows.length cv) (k+1) (w2.setCell ⟨g,k,none⟩ (.slice a2 r.runs.length c2)):=by
 have hkl:k<rows'.length:=(Sk.1 hk).1
 have hg:=h3.lt g rfl
 have h3':=(aJ h3 hb).stored k (.slice a2 r.runs.length c2)
 refine⟨rows'.set k ⟨a2,c2,r.runs⟩,by simpa using h1,(lr rows' k r ⟨a2,c2,r.runs⟩ hk rfl).trans h2,?_,fun j x hx=>?_,?_⟩
 · rw [j2 rows' k _ hkl]
   exact h3'.1
 · rw [List.getElem?_set] at hx
   by_cases hjk:k=j
   · rw [if_pos hjk,if_pos hkl] at hx
     obtain rfl:=SI hx
     obtain⟨a3,c3,he,hS⟩:=aA (k:=5) (enc:=Run.enc) (Ok:=Flat) (fun _=>rfl) ho (fun _ _=>trivial)
     simp only [SL] at he
     obtain⟨rfl,_,_⟩:=he
     have hfr:∀ b,Row.uses ⟨a2,c2,r.runs⟩ b→wr.heap.size≤b:=fun b ⟨_,ad,had,hbb⟩=>by
      have had:a2=some ad:=had
      subst had
      rw [←hbb]
      exact(ho.lt ad.block rfl).1
     refine⟨Row.frame hS (by simp) (fun b hu=>?_),fun b hu e=>?_,fun _ b hu=>Nat.le_trans h5.size (hfr b hu)⟩
     · have:=hfr b hu
       exact SD w2 ⟨g,k,none⟩ _ b (by simp only;omega)
     · have:=hfr b hu
       simp only [SA.ownBlock,SJ] at e
       omega
   · rw [if_neg hjk] at hx
     obtain⟨hl,hap,hfr⟩:=h4 j x hx
     refine⟨Row.frame (Row.keeps _ _ _ hb hl) (by simp) (fun b hu=>?_),hap,fun hj=>hfr (by omega)⟩
     refine SD w2 ⟨g,k,none⟩ _ b (fun e=>hap b hu ?_)
     rw [e];rfl
 · exact(h5.trans (hb.mono h5.size)).setCell hg.1 _
def qH (rows:List Row)(w:Sz)(e:Ending)(w':Sz):Prop:=∃ a' cap' rows',e=.returned (.slice a' rows'.length cap')∧bN w' a' rows'∧rows'.map Row.runs=rows.map Row.runs∧(∀ b,dh a' rows' b→w.heap.size≤b)∧SC w.heap.size w w'
theorem cK.done {rows:List Row} {w wr:Sz} {a:Option Addr} {c:Nat} (h:cK rows w (.slice a rows.length c) rows.length wr):qH rows w (.returned (.slice a rows.length c)) wr:=by
 obtain⟨rows',h1,h2,h3,h4,h5⟩:=h
 have h3':=h3
 rw [←h1] at h3
 obtain⟨a',c',he,hS⟩:=aA (k:=1) (enc:=Row.enc) (Ok:=Row.lies) (fun _=>rfl) h3 (fun r hr=>by
  obtain⟨j,hj,rfl⟩:=Sl hr
  exact(h4 j _ (Sj hj)).1)
 simp only [SL] at he
 obtain⟨rfl,_,rfl⟩:=he
 refine⟨a,c,rows',by rw [h1],hS,h2,fun b hu=>?_,h5⟩
 rcases hu with⟨_,ad,rfl,rfl⟩|⟨r,hr,hu⟩
 · exact(h3'.lt _ rfl).1
 · obtain⟨j,hj,rfl⟩:=Sl hr
   exact(h4 j _ (Sj hj)).2.2 (by omega) b hu
theorem lS (a:Option Addr)(cap:Nat)(rows:List Row)(w:Sz)(h:bN w a rows)(hf:∀ r∈rows,r.runs.length≤4000000)(hl:rows.length≤4000000) :
 Calls Tryz.prog 121 #[.slice a rows.length cap] w (qH rows w):=by
 have HC:=h_ (jD a cap rows w h hl)
 have HS:=h_ (fun(w1:Sz) (v:SA) (ho:w1.ownsRow w.heap.size 75 1 v rows.length (rows.flatMap Row.enc)) (hb:SC w.heap.size w w1)=>cK.start h ho hb)
 have HD:=h_ (fun(wr:Sz) (a:Option Addr) (c:Nat) (h:cK rows w (.slice a rows.length c) rows.length wr)=>h.done)
 have HF:=h_ (fun(rows':List Row) (e:rows'.map Row.runs=rows.map Row.runs) (r:Row) (hr:r∈rows')=>(show r.runs.length≤4000000 by
  have:r.runs∈rows.map Row.runs:=by rw [←e];exact Sx.2 ⟨r,hr,rfl⟩
  obtain⟨r0,h0,he⟩:=Sx.1 this
  rw [←he];exact hf r0 h0))
 clear h hf
 generalize qH rows w=Q at *
 go_enter Tryz.func121,Tryz.ntmps121
 go_wp2_with fail
 refine HC.out.mono ?_
 rintro e w1 ⟨v,rfl,hown,hb1⟩
 obtain⟨av,cv,rfl⟩:∃ av cv,v=.slice av rows.length cv:=by
  rcases hown.2 with⟨rfl,h0⟩|⟨g,cap,_,rfl,_⟩
  · exact⟨none,0,by rw [h0]⟩
  · exact⟨_,_,rfl⟩
 have HR:=h_ (HS.out _ _ hown hb1)
 clear hown hb1 HC HS
 go_wp2_with fail
 go_loopw [9] (fun i wr=>∃ k:Nat,k≤rows.length∧i=.int .i64 k∧cK rows w (.slice av rows.length cv) k wr) (fun i _=>rows.length-(intOf i).toNat)
 case atStart=>exact⟨0,by omega,rfl,HR.out⟩
 case round =>
  clear HR
  obtain⟨k,hk,rfl,hrel⟩:=hrel
  by_cases hlt:k<rows.length
  · obtain⟨rows',h1,h2,h3,h4,h5⟩:=hrel
    obtain⟨g,c',he⟩:=dw h3 (by omega)
    simp only [SL,true_and] at he
    obtain⟨rfl,rfl⟩:=he
    have hk':rows'[k]? =some rows'[k]:=Sj (by omega)
    generalize rows'[k]=r at hk'
    have hmem:=Sn hk'
    have hc0:wr.cell? ⟨g,k,none⟩=some (.slice r.at_ r.runs.length r.cap):=by
     rw [h3.cellAt k (by omega)]
     have:=cD Row.enc 1 (fun _=>rfl) rows' k r 0 _ hk' rfl
     rw [show k*1+0=k by omega] at this
     exact this
    have lQ:=h_ (jC (Ok:=Flat) r.at_ r.cap r.runs wr (h4 k r hk').1 (HF.out _ h2 r hmem))
    have HK:=h_ (fun(w2:Sz) (hb:SC wr.heap.size wr w2)=>(show w2.cell? ⟨g,k,none⟩=some (.slice r.at_ r.runs.length r.cap)∧w2.frozen? ⟨g,k,none⟩=false from
     ⟨(hb.cell (p:=⟨g,k,none⟩) (h3.lt g rfl).2).trans hc0,(aJ h3 hb).frozenAt k⟩))
    have HST:=h_ (fun(w2:Sz) (a2:Option Addr) (c2:Nat) (hb:SC wr.heap.size wr w2) (ho:w2.ownsRow wr.heap.size 77 5 (.slice a2 r.runs.length c2) r.runs.length (r.runs.flatMap Run.enc))=>cK.step hk' h1 h2 h3 h4 h5 hb ho)
    clear h1 h2 h3 h4 h5 hk' hmem
    obtain⟨ra,rc,rr⟩:=r
    simp only at *
    go_wp2_with fail
    refine lQ.out.mono ?_
    rintro e w2 ⟨v2,rfl,hown2,hb2⟩
    obtain⟨a2,c2,rfl⟩:∃ av cv,v2=.slice av rr.length cv:=by
     rcases hown2.2 with⟨rfl,h0⟩|⟨g,cap,_,rfl,_⟩
     · exact⟨none,0,by rw [h0]⟩
     · exact⟨_,_,rfl⟩
    obtain⟨k1,k2⟩:=HK.out _ hb2
    have HN:=h_ (HST.out _ _ _ hb2 hown2)
    clear hown2 hb2 lQ HK HST hc0
    go_wp2_with fail
    go_roundw
    case rel=>exact⟨k+1,by omega,by go_num,HN.out⟩
    case measure=>simp [intOf];omega
  · obtain rfl:k=rows.length:=by omega
    have HN:=h_ hrel
    clear hrel
    go_wp2_with fail
    exact HD.out _ _ _ HN.out
structure EvC where
 id:Int
 inn:Int
 out:Int
 region:ByteArray
 kind:Int
 speaker:ByteArray
 rows:List (List Run)
def Ev.c (x:Ev):EvC:=⟨x.id,x.inn,x.out,x.region,x.kind,x.speaker,x.rows.map Row.runs⟩
def Ev.uses (x:Ev)(b:Nat):Prop:=dh x.at_ x.rows b
theorem Ev.frame {x:Ev} {w w':Sz} (h:x.lies w)(hs:w.heap.size≤w'.heap.size)(hb:∀ b,x.uses b→w'.heap[b]? =w.heap[b]?):x.lies w':=bN.frame h hs hb
theorem Ev.uses_lt {x:Ev} {w:Sz} (h:x.lies w) {b:Nat} (hu:x.uses b):b<w.heap.size:=gU h hu
def Bp (c:EvC)(w:Sz)(e:Ending)(w':Sz):Prop:=∃ y:Ev,e=.returned (.agg y.enc.toArray)∧y.c=c∧y.lies w'∧(∀ b,y.uses b→w.heap.size≤b)∧SC w.heap.size w w'
theorem kh (x:Ev)(w:Sz)(h:x.lies w)(hf:∀ r∈x.rows,r.runs.length≤4000000)(hl:x.rows.length≤4000000) :
 Calls Tryz.prog 71 #[.agg x.enc.toArray] w (Bp x.c w):=by
 generalize hcs:x.enc.toArray=cs
 have HC:=h_ (fun(o:Obj)=>lS x.at_ x.cap x.rows ((w.alloc (.cells cs 72)).alloc o) (bN.later h (((SF _ _).alloc (SK _) _).alloc (by simp) _)) hf hl)
 have HQ:=h_ (fun(a:Option Addr) (c:Nat) (rows:List Row) (w':Sz) (e:rows.map Row.runs=x.rows.map Row.runs) (h:bN w' a rows) (hu:∀ b,dh a rows b→w.heap.size≤b) (hb:SC w.heap.size w w')=>(show Bp x.c w (.returned (.agg #[.int .i64 x.id,.int .i64 x.inn,.int .i64 x.out,.string x.region,.int .u8 x.kind,.string x.speaker,.slice a rows.length c])) w' from
  ⟨⟨x.id,x.inn,x.out,x.region,x.kind,x.speaker,a,c,rows⟩,rfl,by simp only [Ev.c,e],h,hu,hb⟩))
 have HB:=h_ (fun(o o':Obj) (w1:Sz) (hb:SC ((w.alloc o).alloc o').heap.size ((w.alloc o).alloc o') w1)=>(show SC w.heap.size w w1 from(((SF _ _).alloc (SK _) _).alloc (by simp) _).trans (hb.mono (by simp;omega))))
 have HK:=h_ (fun(o:Array SA) (w1:Sz) (hb:SC ((w.alloc (.cells cs 72)).alloc (.cells o 72)).heap.size ((w.alloc (.cells cs 72)).alloc (.cells o 72)) w1)=>(show(w1.heap[w.heap.size]? =some (.cells cs 72 (0,0))∧w1.heap[w.heap.size+1]? =some (.cells o 72 (0,0))) by
  refine⟨?_,?_⟩
  · rw [hb.block _ (by simp;omega),SC.heap_alloc _ _ _ (by simp)]
    exact SB w _
  · rw [hb.block _ (by simp)]
    have:=SB (w.alloc (.cells cs 72)) (.cells o 72)
    rwa [SG] at this))
 obtain⟨id,inn,out,reg,kind,sp,a,c,rows⟩:=x
 simp only at *
 generalize Bp _ w=Q at *
 clear h hf
 simp only [Ev.enc] at hcs
 go_enter Tryz.func71,Tryz.ntmps71
 subst hcs
 go_wp2_with fail
 refine(HC.out _).mono ?_
 rintro e w1 ⟨a',c',rows',rfl,hr,hm,hu,hb⟩
 obtain⟨hk1,hk2⟩:=HK.out _ _ hb
 have bA:=h_ (HB.out _ _ _ hb)
 have HR:=h_ hr
 have HM:=h_ hm
 have HU:=h_ hu
 clear hb hr hm hu HC HB HK
 have c1:∀ j,w1.cell? ⟨w.heap.size,j,none⟩=_:=fun j=>cell_of_row _ _ j _ 72 (0,0) hk1
 have c2:∀ j,w1.cell? ⟨w.heap.size+1,j,none⟩=_:=fun j=>cell_of_row _ _ j _ 72 (0,0) hk2
 have z1:∀ j,w1.frozen? ⟨w.heap.size,j,none⟩=false:=fun j=>by simp [SH,hk1]
 have z2:∀ j,w1.frozen? ⟨w.heap.size+1,j,none⟩=false:=fun j=>by simp [SH,hk2]
 clear hk1 hk2
 go_wp2_with fail
 refine bodyPost_ret (v:=.agg #[.int .i64 id,.int .i64 inn,.int .i64 out,.string reg,.int .u8 kind,.string sp,.slice a' rows'.length c']) (by simp [results,Tryz.results71,go_sem,c2]) rfl ?_
 have HF:=h_ (fun(b:Nat) (u u0 u1 u2 u3 u4 u5 u6:SA) (hb:w.heap.size+2≤b)=>(show((((((((w1.setCell ⟨w.heap.size,6,none⟩ u).setCell ⟨w.heap.size+1,0,none⟩ u0).setCell ⟨w.heap.size+1,1,none⟩ u1).setCell ⟨w.heap.size+1,2,none⟩ u2).setCell ⟨w.heap.size+1,3,none⟩ u3).setCell ⟨w.heap.size+1,4,none⟩ u4).setCell ⟨w.heap.size+1,5,none⟩ u5).setCell ⟨w.heap.size+1,6,none⟩ u6).heap[b]? =w1.heap[b]? by
  repeat rw [SD _ _ _ _ (by simp only;omega)]))
 have Il:∀ b,dh a' rows' b→w.heap.size+2≤b:=fun b hu=>by
  have:=HU.out b hu
  simp at this
  omega
 refine HQ.out _ _ _ _ HM.out (bN.frame HR.out (by simp) fun b hu=>HF.out b _ _ _ _ _ _ _ _ (Il b hu)) (fun b hu=>by have:=Il b hu;omega) ?_
 repeat refine SC.setCell ?_ (by simp only;omega) _
 exact bA.out
theorem ot (d:Doc)(b n:Nat)(f:Int→Option Nat)(w:Sz)(hE:Env w)(hd:d.lies w)(eu:d.fits)(hM:IMap w b n f)(hf:∀ z i,f z=some i→i<d.eV.length) :
 Calls Tryz.prog 67 #[.agg d.enc.toArray,.map (some b)] w fun e w'=>e=.returned (.int .i64 (ia d.last f d.eV d.cM))∧SC w.heap.size w w':=by
 by_cases hn:64<d.cM.length
 · exact qx d b f w hn
 · exact sQ d b n f w hE hd eu hM hf (by omega)
def cn (eV:List Ev):Nat→Int→Option Nat
 | 0=>fun _=>none
 | k+1=>fun y=>match eV[k]? with
   | none=>cn eV k y
   | some x=>if y=x.id then some k else cn eV k y
theorem wK (eV:List Ev)(k:Nat)(x:Ev)(h:eV[k]? =some x):(fun y=>if y=x.id then some k else cn eV k y)=cn eV (k+1):=by
 funext y
 simp only [cn,h]
theorem mq (eV:List Ev):∀ k z i,cn eV k z=some i→i<eV.length
 | 0,z,i,h=>by simp [cn] at h
 | k+1,z,i,h=>by
   simp only [cn] at h
   split at h
   · exact mq eV k z i h
   · rename_i x hx
     split at h
     · obtain rfl:k=i:=by simpa using h
       exact(Sk.1 hx).1
     · exact mq eV k z i h
def gv (prev:Option Ev)(x:Ev):Bool:=match prev with
 | none=>false
 | some p=>!kN p x
def fc (rG:List Reg)(last:Int)(f:Int→Option Nat)(prev:Option Ev)(x:Ev):Int :=
 if (fS x rG != 0)=true then fS x rG else if last<x.id then 2 else if gv prev x=true then 8 else if (f x.id).isSome=true then 7 else 0
def nh (rG:List Reg)(last:Int)(eV:List Ev)(k:Nat):Nat→Int
 | 0=>0
 | n+1=>match eV[k]? with
   | none=>0
   | some x=>if (fc rG last (cn eV k) (bL eV k) x != 0)=true then fc rG last (cn eV k) (bL eV k) x else nh rG last eV (k+1) n
def ef (rG:List Reg)(last:Int)(eV:List Ev)(cM:List Cm)(k:Nat):Int :=
 if (nh rG last eV k (eV.length-k) != 0)=true then nh rG last eV k (eV.length-k) else ia last (cn eV eV.length) eV cM
def a_ (d:Doc):Int:=if (jM d.title d.lA d.rate d.drop d.last != 0)=true then jM d.title d.lA d.rate d.drop d.last else
 if (gI d.rG != 0)=true then gI d.rG else if 400<d.eV.length then 9 else ef d.rG d.last d.eV d.cM 0
theorem rQ (rG:List Reg)(last:Int)(eV:List Ev)(cM:List Cm)(k:Nat)(x:Ev)(h:eV[k]? =some x)(h0:fc rG last (cn eV k) (bL eV k) x=0):ef rG last eV cM k=ef rG last eV cM (k+1):=by
 have hk:k<eV.length:=(Sk.1 h).1
 unfold ef
 rw [show eV.length-k=(eV.length-(k+1))+1 by omega,nh,h]
 simp only [h0]
 rfl
theorem rP (rG:List Reg)(last:Int)(eV:List Ev)(cM:List Cm)(k:Nat)(x:Ev)(h:eV[k]? =some x)(E:Int)(h0:fc rG last (cn eV k) (bL eV k) x=E)(hE:(E != 0)=true):ef rG last eV cM k=E:=by
 have hk:k<eV.length:=(Sk.1 h).1
 unfold ef
 rw [show eV.length-k=(eV.length-(k+1))+1 by omega,nh,h]
 simp only [h0,if_pos hE]
theorem tZ (rG:List Reg)(last:Int)(eV:List Ev)(cM:List Cm):ef rG last eV cM eV.length=ia last (cn eV eV.length) eV cM:=by
 unfold ef
 rw [Nat.sub_self]
 rfl
theorem lE (rG:List Reg)(last:Int)(f:Int→Option Nat)(prev:Option Ev)(x:Ev)(A:Int)(hA:fS x rG=A) :
 ((A != 0)=true∧fc rG last f prev x=A)∨(A=0∧((last<x.id∧fc rG last f prev x=2)∨(x.id≤last∧((gv prev x=true∧fc rG last f prev x=8)∨(gv prev x=false ∧
  (((f x.id).isSome=true∧fc rG last f prev x=7)∨((f x.id).isSome=false∧fc rG last f prev x=0))))))):=by
 unfold fc
 rw [hA]
 by_cases h0:A=0
 · subst h0
   right
   refine⟨rfl,?_⟩
   rw [if_neg (by decide)]
   by_cases h1:last<x.id
   · left;rw [if_pos h1];exact⟨h1,rfl⟩
   · right
     refine⟨by omega,?_⟩
     rw [if_neg h1]
     cases h2:gv prev x<;>cases h3:(f x.id).isSome<;>simp
 · left
   have h0':(A != 0)=true:=by simpa using h0
   rw [if_pos h0']
   exact⟨h0',rfl⟩
theorem oJ {ops:Array Oper} {rest:List Oper} {o:Oper} {a:Act} {Q:Exit→Act→Sz→Prop} (w:Sz)(hg:o.guard=none)(m x v:Operand)(hop:o.op=Op.mapUpdate 111 m x v)
 (b n:Nat) (f:Int→Option Nat) (hM:IMap w b n f) (hm:a.eval m=.map (some b)) (z:Int) (hz:i64 z) (hx:a.eval x=.int .i64 z) (val:Nat) (hv:a.eval v=.int .i64 val) (hi:i64 val) (hn:n<maxLen)
 (hK:∀ w',IMap w' b (n+1) (fun y=>if y=z then some val else f y)→w.grownBy w' (some b)→wpList Tryz.prog ops Q rest (a.put o.dst undef) w'):wpList Tryz.prog ops Q (o::rest) a w:=by
 refine wpList_plain hg fun K' hK'=>?_
 obtain⟨w',hrun,r1,r2⟩:=hM.put hz hn val hi
 unfold Oper.wp
 simp [execOp,hop,hm,hx,hv,hrun,Result.andThen]
 exact hK' _ _ (hK w' r1 r2)
theorem IMap.drewN {w:Sz} {b n:Nat} {f:Int→Option Nat} (h:IMap w b n f)(q:Nat):IMap (w.drewN q) b n f:=h.below (Go.below_drewN (SF w.heap.size _) q) h.lt
def Jz (eV:List Ev)(B:Nat)(W0:Sz)(mb k:Nat)(wr:Sz):Prop:=IMap wr mb k (cn eV k)∧SC B W0 wr
theorem pL (eV:List Ev):∀ k y j x,j<k→eV[j]? =some x→x.id=y→(cn eV k y).isSome=true
 | 0,y,j,x,h,_,_=>by omega
 | k+1,y,j,x,h,hx,hy=>by
   simp only [cn]
   by_cases hj:j=k
   · subst hj
     rw [hx]
     simp [hy]
   · split
     · exact pL eV k y j x (by omega) hx hy
     · split
       · rfl
       · exact pL eV k y j x (by omega) hx hy
theorem Hd.one:∀ (x:Hd)(v:SA),v∈x.enc→v.oneCell'=true:=by
 intro x v hv
 simp only [Hd.enc,Sm,Sv,or_false] at hv
 rcases hv with rfl|rfl|rfl|rfl|rfl<;>rfl
def F5:Hd:=⟨⟨#[]⟩,⟨#[]⟩,0,false,0⟩
theorem jF (w:Sz):oI.lies w:=.inl rfl
theorem jE (b:Nat):¬ oI.uses b:=by
 rintro (⟨h,_⟩|⟨r,hr,_⟩)
 · exact h rfl
 · simp [oI] at hr
def gV (a b:Reg):Bool:=a.name.toList==b.name.toList&&a.top==b.top&&a.bm==b.bm&&a.left==b.left&&a.width==b.width&&a.align==b.align&&a.bottom==b.bottom
def cmEq (a b:Cm):Bool:=a.id==b.id&&a.ev==b.ev&&a.frm==b.frm&&a.til==b.til&&a.author.toList==b.author.toList&&a.text.toList==b.text.toList&&a.done==b.done&&a.lost==b.lost
theorem zh (a b:Reg)(w:Sz):(binOp .neq 37 (.agg a.enc.toArray) (.agg b.enc.toArray)).run Tryz.prog w=.ok (.bool (!gV a b)) w:=by
 simp [go_sem,Reg.enc,gV]
 repeat' split
 all_goals simp_all
theorem BI (a b:Cm)(w:Sz):(binOp .neq 102 (.agg a.enc.toArray) (.agg b.enc.toArray)).run Tryz.prog w=.ok (.bool (!cmEq a b)) w:=by
 simp [go_sem,Cm.enc,cmEq]
 repeat' split
 all_goals simp_all
def iQ (a:Option Addr)(xs:List Ev)(b:Nat):Prop:=bt a xs b∨∃ x∈xs,x.uses b
theorem gu {w:Sz} {a:Option Addr} {xs:List Ev} (h:dG w a xs) {x:Ev} (hx:x∈xs):x.lies w:=by
 obtain⟨i,hi,rfl⟩:=Sl hx
 obtain⟨b,off,y,_,_,hy,_,hl⟩:=h.at_ hi
 obtain rfl:xs[i]=y:=SI ((Sj hi).symm.trans hy)
 exact hl
theorem dG.frame {a:Option Addr} {xs:List Ev} {w w':Sz} (h:dG w a xs)(hs:w.heap.size≤w'.heap.size)(hb:∀ b,iQ a xs b→w'.heap[b]? =w.heap[b]?):dG w' a xs :=
 ah.frame h hs (fun b hu=>hb b (.inl hu)) fun x hx hl=>Ev.frame hl hs fun b hu=>hb b (.inr ⟨x,hx,hu⟩)
theorem el {w:Sz} {a:Option Addr} {xs:List Ev} (h:dG w a xs) {b:Nat} (hu:iQ a xs b):b<w.heap.size:=by
 rcases hu with hu|⟨x,hx,hu⟩
 · exact aP h hu
 · exact Ev.uses_lt (gu h hx) hu
def Doc.uses (d:Doc)(b:Nat):Prop:=bt d.ra d.rG b∨iQ d.ea d.eV b∨bt d.ca d.cM b
theorem Doc.frame {d:Doc} {w w':Sz} (h:d.lies w)(hs:w.heap.size≤w'.heap.size)(hb:∀ b,d.uses b→w'.heap[b]? =w.heap[b]?):d.lies w' :=
 ⟨ah.frame h.1 hs (fun b hu=>hb b (.inl hu)) (fun _ _ _=>trivial),dG.frame h.2.1 hs fun b hu=>hb b (.inr (.inl hu)),ah.frame h.2.2 hs (fun b hu=>hb b (.inr (.inr hu))) (fun _ _ _=>trivial)⟩
theorem Doc.uses_lt {d:Doc} {w:Sz} (h:d.lies w) {b:Nat} (hu:d.uses b):b<w.heap.size:=by
 rcases hu with hu|hu|hu
 · exact aP h.1 hu
 · exact el h.2.1 hu
 · exact aP h.2.2 hu
structure DocC where
 hd:Hd
 rG:List Reg
 eV:List EvC
 cM:List Cm
def Doc.c (d:Doc):DocC:=⟨d.hd,d.rG,d.eV.map Ev.c,d.cM⟩
theorem wH {α:Type} (l1 l2:List α)(i:Nat)(v:α):(l1++l2).set (l1.length+i) v=l1++l2.set i v:=by
 induction l1 with
 | nil=>simp
 | cons x l ih =>
   rw [Sw,List.length_cons,show l.length+1+i=(l.length+i)+1 by omega,Sp,ih]
   rfl
theorem lD:∀ (xs:List Ev)(k:Nat)(y:Ev),k<xs.length→(xs.set k y).flatMap Ev.enc=(((((((xs.flatMap Ev.enc).set (k*7) (.int .i64 y.id)).set (k*7+1) (.int .i64 y.inn)).set (k*7+2) (.int .i64 y.out)).set (k*7+3) (.string y.region)).set (k*7+4) (.int .u8 y.kind)).set (k*7+5) (.string y.speaker)).set (k*7+6) (.slice y.at_ y.rows.length y.cap)
 | [],k,y,h=>by simp at h
 | x::xs,0,y,h=>by simp [Ev.enc]
 | x::xs,k+1,y,h=>by
   have:=lD xs k y (by simpa using h)
   rw [Sp,Sr,Sr,this]
   have hl:x.enc.length=7:=rfl
   rw [show(k+1)*7=x.enc.length+k*7 by rw [hl];omega]
   simp only [Nat.add_assoc,wH]
theorem AK {w:Sz} {base g n cap k:Nat} {zs:List Ev} (h:w.ownsRow base 72 7 (.slice (some ⟨g,0,none⟩) n cap) n (zs.flatMap Ev.enc))(hn:zs.length=n)(hk:k<n)(y:Ev)(w':Sz)
 (hw:w'=((((((w.setCell ⟨g,k*7,none⟩ (.int .i64 y.id)).setCell ⟨g,k*7+1,none⟩ (.int .i64 y.inn)).setCell ⟨g,k*7+2,none⟩ (.int .i64 y.out)).setCell ⟨g,k*7+3,none⟩ (.string y.region)).setCell ⟨g,k*7+4,none⟩ (.int .u8 y.kind)).setCell ⟨g,k*7+5,none⟩ (.string y.speaker)).setCell ⟨g,k*7+6,none⟩ (.slice y.at_ y.rows.length y.cap)) :
 w'.ownsRow base 72 7 (.slice (some ⟨g,0,none⟩) n cap) n ((zs.set k y).flatMap Ev.enc)∧w.heap.size=w'.heap.size∧∀ b,b≠g→w'.heap[b]? =w.heap[b]?:=by
 subst hw
 refine⟨?_,by simp,fun b hb=>?_⟩
 · rw [lD zs k y (by omega)]
   exact(((((((h.stored _ _).1.stored _ _).1.stored _ _).1.stored _ _).1.stored _ _).1.stored _ _).1.stored _ _).1
 · repeat rw [SD _ _ _ _ hb]
theorem Doc.one:∀ (x:Doc)(v:SA),v∈x.enc→v.oneCell'=true:=by
 intro x v hv
 simp only [Doc.enc,Sm,Sv,or_false] at hv
 rcases hv with rfl|rfl|rfl|rfl|rfl|rfl|rfl|rfl<;>rfl
theorem j3:∀ xs ys:List Row,xs.map Row.runs=ys.map Row.runs→eQ xs=eQ ys
 | [],[],_=>rfl
 | [],y::l,h=>by simp at h
 | x::l,[],h=>by simp at h
 | x::l,y::m,h=>by
   simp only [Ss,List.cons.injEq] at h
   rw [eQ,eQ,h.1,j3 l m h.2]
theorem mJ {xs ys:List Row} (h:xs.map Row.runs=ys.map Row.runs):da xs=da ys:=by
 have e:∀ zs:List Row,da zs=(zs.map Row.runs).map rowLen:=fun zs=>by unfold da;rw [List.map_map];rfl
 rw [e,e,h]
theorem j7 {α β:Type} {f:α→β} {xs ys:List α} (h:xs.map f=ys.map f):xs.length=ys.length:=by
 have:=congrArg List.length h
 simpa using this
theorem jk {x y:Ev} (h:x.c=y.c)(rG:List Reg):fS x rG=fS y rG:=by
 obtain⟨id,inn,out,reg,kind,sp,a,c,rows⟩:=x
 obtain⟨id',inn',out',reg',kind',sp',a',c',rows'⟩:=y
 simp only [Ev.c,EvC.mk.injEq] at h
 obtain⟨rfl,rfl,rfl,rfl,rfl,rfl,hr⟩:=h
 unfold fS gw tY
 simp only [j7 hr,j3 _ _ hr,mJ hr]
theorem xj {x y x' y':Ev} (h:x.c=x'.c)(h':y.c=y'.c):kN x y=kN x' y':=by
 have h1:x.id=x'.id:=congrArg EvC.id h
 have h2:x.inn=x'.inn:=congrArg EvC.inn h
 have h3:y.id=y'.id:=congrArg EvC.id h'
 have h4:y.inn=y'.inn:=congrArg EvC.inn h'
 unfold kN
 rw [h1,h2,h3,h4]
theorem at_like {xs ys:List Ev} (h:xs.map Ev.c=ys.map Ev.c)(k:Nat):(xs[k]? =none∧ys[k]? =none)∨∃ x y,xs[k]? =some x∧ys[k]? =some y∧x.c=y.c:=by
 have e:(xs.map Ev.c)[k]? =(ys.map Ev.c)[k]?:=by rw [h]
 rw [Su,Su] at e
 cases hx:xs[k]? with
 | none =>
   rw [hx] at e
   cases hy:ys[k]? with
   | none=>exact .inl ⟨rfl,rfl⟩
   | some y=>rw [hy] at e;simp at e
 | some x =>
   rw [hx] at e
   cases hy:ys[k]? with
   | none=>rw [hy] at e;simp at e
   | some y =>
     rw [hy] at e
     exact .inr ⟨x,y,rfl,rfl,by simpa using e⟩
theorem jJ {xs ys:List Ev} (h:xs.map Ev.c=ys.map Ev.c):∀ k,cn xs k=cn ys k
 | 0=>rfl
 | k+1=>by
   funext z
   have ih:=jJ h k
   simp only [cn]
   rcases at_like h k with⟨h1,h2⟩|⟨x,y,h1,h2,h3⟩
   · rw [h1,h2,ih]
   · have hid:x.id=y.id:=congrArg EvC.id h3
     rw [h1,h2]
     simp only [hid,ih]
theorem uO {xs ys:List Ev} (h:xs.map Ev.c=ys.map Ev.c)(k:Nat) {x y:Ev} (hxy:x.c=y.c):gv (bL xs k) x=gv (bL ys k) y:=by
 cases k with
 | zero=>rfl
 | succ k =>
   show gv xs[k]? x=gv ys[k]? y
   rcases at_like h k with⟨h1,h2⟩|⟨p,q,h1,h2,h3⟩
   · rw [h1,h2]
     rfl
   · rw [h1,h2]
     simp only [gv,xj h3 hxy]
theorem o7 {xs ys:List Ev} (h:xs.map Ev.c=ys.map Ev.c)(rG:List Reg)(last:Int):∀ n k,nh rG last xs k n=nh rG last ys k n
 | 0,k=>rfl
 | n+1,k=>by
   have ih:=o7 h rG last n (k+1)
   rw [nh,nh]
   rcases at_like h k with⟨h1,h2⟩|⟨x,y,h1,h2,h3⟩
   · rw [h1,h2]
   · have hid:x.id=y.id:=congrArg EvC.id h3
     have he:fc rG last (cn xs k) (bL xs k) x=fc rG last (cn ys k) (bL ys k) y:=by
      unfold fc
      rw [jk h3,hid,uO h k h3,jJ h k]
     rw [h1,h2]
     simp only [he,ih]
theorem pb {xs ys:List Row} (h:xs.map Row.runs=ys.map Row.runs):gK xs=gK ys:=by
 unfold gK
 rw [mJ h,j7 h]
theorem xW {xs ys:List Ev} (h:xs.map Ev.c=ys.map Ev.c)(last:Int)(f:Int→Option Nat)(p:Option Cm)(c:Cm):fD last f xs p c=fD last f ys p c:=by
 have ha:ct last f xs c=ct last f ys c:=by
  unfold ct
  cases f c.ev with
  | none=>rfl
  | some i =>
    have:gK ((xs[i]?.map Ev.rows).getD [])=gK ((ys[i]?.map Ev.rows).getD []):=by
     rcases at_like h i with⟨h1,h2⟩|⟨x,y,h1,h2,h3⟩
     · rw [h1,h2]
     · rw [h1,h2]
       exact pb (congrArg EvC.rows h3)
    simp only [this]
 unfold fD
 rw [ha]
theorem lF {xs ys:List Ev} (h:xs.map Ev.c=ys.map Ev.c)(last:Int)(f:Int→Option Nat):∀ (cM:List Cm)(p:Option Cm),di last f xs p cM=di last f ys p cM
 | [],p=>rfl
 | c::l,p=>by rw [di,di,xW h,lF h last f l]
theorem uR {a b:Doc} (h:a.c=b.c):a_ a=a_ b:=by
 obtain⟨title,lA,rate,drop,last,ra,rc,rG,ea,ec,eV,ca,cc,cM⟩:=a
 obtain⟨title',lang',rate',drop',last',ra',rc',regs',ea',ec',evs',ca',cc',cms'⟩:=b
 simp only [Doc.c,Doc.hd,DocC.mk.injEq,Hd.mk.injEq] at h
 obtain⟨⟨rfl,rfl,rfl,rfl,rfl⟩,rfl,he,rfl⟩:=h
 have hl:=j7 he
 have hc:ia last (cn eV eV.length) eV cM=ia last (cn evs' evs'.length) evs' cM:=by
  unfold ia
  rw [hl,jJ he,lF he]
 have hr:ef rG last eV cM 0=ef rG last evs' cM 0:=by
  unfold ef
  rw [o7 he,hc,hl]
 unfold a_
 simp only [hl,hr]
theorem K2 {x y:Hd} (h:hdEq x y=true):x=y:=by
 obtain⟨a,b,c,d,e⟩:=x
 obtain⟨a',b',c',d',e'⟩:=y
 simp only [hdEq,SM,beq_iff_eq] at h
 obtain⟨⟨⟨⟨h1,h2⟩,rfl⟩,rfl⟩,rfl⟩:=h
 obtain rfl:=ib h1
 obtain rfl:=ib h2
 rfl
theorem Ga {x y:Reg} (h:gV x y=true):x=y:=by
 obtain⟨a,b,c,d,e,f,g⟩:=x
 obtain⟨a',b',c',d',e',f',g'⟩:=y
 simp only [gV,SM,beq_iff_eq] at h
 obtain⟨⟨⟨⟨⟨⟨h1,rfl⟩,rfl⟩,rfl⟩,rfl⟩,rfl⟩,rfl⟩:=h
 obtain rfl:=ib h1
 rfl
theorem Lm {x y:Cm} (h:cmEq x y=true):x=y:=by
 obtain⟨a,b,c,d,e,f,g,i⟩:=x
 obtain⟨a',b',c',d',e',f',g',i'⟩:=y
 simp only [cmEq,SM,beq_iff_eq] at h
 obtain⟨⟨⟨⟨⟨⟨⟨rfl,rfl⟩,rfl⟩,rfl⟩,h1⟩,h2⟩,rfl⟩,rfl⟩:=h
 obtain rfl:=ib h1
 obtain rfl:=ib h2
 rfl
theorem run_eq {x y:Run} (h:kJ x y=true):x=y:=by
 obtain⟨a,b,c,d,e⟩:=x
 obtain⟨a',b',c',d',e'⟩:=y
 simp only [kJ,SM,beq_iff_eq] at h
 obtain⟨⟨h1,⟨rfl,rfl⟩,rfl⟩,h2⟩:=h
 obtain rfl:=ib h1
 obtain rfl:=ib h2
 rfl
theorem v_ {α:Type} (eq:α→α→Bool)(h:∀ x y,eq x y=true→x=y):∀ xs ys:List α,Si eq xs ys=true→xs=ys
 | [],[],_=>rfl
 | [],y::l,h'=>by simp [Si] at h'
 | x::l,[],h'=>by simp [Si] at h'
 | x::l,y::m,h'=>by
   simp only [Si,SM] at h'
   rw [h x y h'.1,v_ eq h l m h'.2]
theorem zl:∀ xs ys:List Row,fK xs ys=true→xs.map Row.runs=ys.map Row.runs
 | [],[],_=>rfl
 | [],y::l,h=>by simp [fK,Si] at h
 | x::l,[],h=>by simp [fK,Si] at h
 | x::l,y::m,h=>by
   unfold fK at h
   simp only [Si,SM] at h
   have h1:x.runs=y.runs:=v_ _ (fun a b=>run_eq) _ _ h.1
   rw [Ss,Ss,h1,zl l m h.2]
theorem Lk {x y:Ev} (h:evEq x y=true):x.c=y.c:=by
 obtain⟨id,inn,out,reg,kind,sp,a,c,rows⟩:=x
 obtain⟨id',inn',out',reg',kind',sp',a',c',rows'⟩:=y
 simp only [evEq,SM,beq_iff_eq] at h
 obtain⟨⟨⟨⟨⟨rfl,rfl,rfl⟩,h1⟩,rfl⟩,h2⟩,hr⟩:=h
 obtain rfl:=ib h1
 obtain rfl:=ib h2
 simp only [Ev.c,zl _ _ hr]
def EvC.lt (x y:EvC):Prop:=x.inn<y.inn∨(x.inn=y.inn∧x.id<y.id)
structure Jy (c:DocC):Prop where
 rG:c.rG.Pairwise fun x y=>baLt x.name y.name
 cM:c.cM.Pairwise fun x y=>x.id<y.id
 ids:c.eV.Pairwise fun x y=>x.id≠y.id
 ord:c.eV.Pairwise EvC.lt
theorem nz (a:ByteArray):¬ baLt a a:=List.lt_irrefl _
theorem ph {a b c:ByteArray} (h:baLt a b)(h':baLt b c):baLt a c:=List.lt_trans h h'
theorem ye {a b:ByteArray} (h1:¬ baLt a b)(h2:¬ a=b):baLt b a:=CK h1 fun h=>h2 (ib (by rw [Sh,Sh,h]))
theorem ls:∀ (xs:List Reg)(p:Option ByteArray),dL p xs=0→(∀ q,p=some q→∀ x∈xs,baLt q x.name)∧xs.Pairwise fun x y=>baLt x.name y.name
 | [],p,_=>⟨fun q _ x hx=>by simp at hx,SN⟩
 | x::l,p,h=>by
   rw [dL] at h
   split at h
   · rename_i hne
     rw [h] at hne
     cases hne
   · rename_i hne
     have h0:eE p x=0:=by simpa using hne
     have ih:=ls l _ h
     have hx:=ih.1 x.name rfl
     refine⟨fun q hq y hy=>?_,Sq.2 ⟨hx,ih.2⟩⟩
     subst hq
     have JD:baLt q x.name:=by
      unfold eE at h0
      split at h0
      · rename_i h1
        rw [h0] at h1
        cases h1
      · simp only at h0
        split at h0
        · cases h0
        · rename_i h2
          split at h0
          · cases h0
          · rename_i h3
            exact ye (fun h=>h3 ((Fe _ _).2 h)) (fun h=>h2 (by rw [h];simp))
     rcases Sm.1 hy with rfl|hy
     · exact JD
     · exact ph JD (hx y hy)
theorem nw (last:Int)(f:Int→Option Nat)(eV:List Ev):∀ (xs:List Cm)(p:Option Cm),di last f eV p xs=0→(∀ q,p=some q→∀ x∈xs,q.id<x.id)∧xs.Pairwise fun x y=>x.id<y.id
 | [],p,_=>⟨fun q _ x hx=>by simp at hx,SN⟩
 | x::l,p,h=>by
   rw [di] at h
   split at h
   · rename_i hne
     rw [h] at hne
     cases hne
   · rename_i hne
     have h0:fD last f eV p x=0:=by simpa using hne
     have ih:=nw last f eV l _ h
     have hx:=ih.1 x rfl
     refine⟨fun q hq y hy=>?_,Sq.2 ⟨hx,ih.2⟩⟩
     subst hq
     have JD:q.id<x.id:=by
      unfold fD at h0
      split at h0
      · cases h0
      · split at h0
        · cases h0
        · rename_i h2
          simp only [eY,decide_eq_true_eq] at h2
          omega
     rcases Sm.1 hy with rfl|hy
     · exact JD
     · have:=hx y hy
       omega
theorem jv {α:Type} {R:α→α→Prop} (ht:∀ a b c,R a b→R b c→R a c):∀ xs:List α,(∀ k x y,xs[k]? =some x→xs[k+1]? =some y→R x y)→xs.Pairwise R
 | [],_=>SN
 | [x],_=>by simp
 | x::y::l,h=>by
   have ih:=jv ht (y::l) fun k a b ha hb=>h (k+1) a b (by simpa using ha) (by simpa using hb)
   have hxy:=h 0 x y rfl rfl
   refine Sq.2 ⟨fun z hz=>?_,ih⟩
   rcases Sm.1 hz with rfl|hz
   · exact hxy
   · exact ht _ _ _ hxy (List.rel_of_pairwise_cons ih hz)
theorem sJ (rG:List Reg)(last:Int)(eV:List Ev):∀ n k,nh rG last eV k n=0→∀ j x,k≤j→j<k+n→eV[j]? =some x→fc rG last (cn eV j) (bL eV j) x=0
 | 0,k,_,j,x,h1,h2,_=>by omega
 | n+1,k,h,j,x,h1,h2,hx=>by
   rw [nh] at h
   have hk:k<eV.length:=by have:=(Sk.1 hx).1;omega
   rw [Sj hk] at h
   simp only at h
   split at h
   · rename_i hne
     rw [h] at hne
     cases hne
   · rename_i hne
     by_cases hj:j=k
     · subst hj
       rw [Sj hk] at hx
       obtain rfl:eV[j]=x:=by simpa using hx
       simpa using hne
     · exact sJ rG last eV n (k+1) h j x (by omega) (by omega) hx
theorem iC {rG:List Reg} {last:Int} {f:Int→Option Nat} {prev:Option Ev} {x:Ev} (h:fc rG last f prev x=0):fS x rG=0∧x.id≤last∧(f x.id).isSome=false∧gv prev x=false:=by
 rcases lE rG last f prev x _ rfl with⟨h1,h2⟩|⟨h1,⟨h2,h3⟩|⟨h2,⟨h3,h4⟩|⟨h3,⟨h4,h5⟩|⟨h4,h5⟩⟩⟩⟩
 · rw [←h2,h] at h1;cases h1
 · rw [h] at h3;cases h3
 · rw [h] at h4;cases h4
 · rw [h] at h5;cases h5
 · exact⟨h1,h2,h4,h3⟩
theorem kl {d:Doc} (h:a_ d=0):jM d.title d.lA d.rate d.drop d.last=0∧gI d.rG=0∧d.eV.length≤400∧(∀ j x,d.eV[j]? =some x→fc d.rG d.last (cn d.eV j) (bL d.eV j) x=0)∧ia d.last (cn d.eV d.eV.length) d.eV d.cM=0:=by
 unfold a_ at h
 split at h
 · rename_i hne;rw [h] at hne;cases hne
 · rename_i hhd
   split at h
   · rename_i hne;rw [h] at hne;cases hne
   · rename_i NY
     split at h
     · cases h
     · rename_i h4
       unfold ef at h
       split at h
       · rename_i hne;rw [h] at hne;cases hne
       · rename_i hne
         refine⟨by simpa using hhd,by simpa using NY,by omega,fun j x hx=>?_,h⟩
         exact sJ d.rG d.last d.eV _ 0 (by simpa using hne) j x (Nat.zero_le _) (by have:=(Sk.1 hx).1;omega) hx
theorem vJ (x y:Ev):kN x y=true↔x.c.lt y.c:=by
 show ltOf lW x y=true↔_
 rw [jb]
 simp [EvC.lt,Ev.c]
theorem Ll {d:Doc} (h:a_ d=0):Jy d.c:=by
 obtain⟨_,h2,h3,h4,h5⟩:=kl h
 refine⟨?_,?_,?_,?_⟩
 · unfold gI at h2
   split at h2
   · cases h2
   · exact(ls _ _ h2).2
 · unfold ia at h5
   split at h5
   · cases h5
   · exact(nw _ _ _ _ _ h5).2
 · show(d.eV.map Ev.c).Pairwise _
   rw [St,List.pairwise_iff_getElem]
   intro i j hi hj hij he
   have:=(iC (h4 j _ (Sj hj))).2.2.1
   rw [pL d.eV j d.eV[j].id i d.eV[i] hij (Sj hi) he] at this
   cases this
 · show(d.eV.map Ev.c).Pairwise _
   rw [St]
   refine jv (fun a b c h1 h2=>?_) _ fun k x y hx hy=>?_
   · simp only [EvC.lt] at *
     omega
   · have:=(iC (h4 (k+1) y hy)).2.2.2
     rw [bL,hx] at this
     simp only [gv,Bool.not_eq_false'] at this
     exact(vJ x y).1 this
end Go.Proofs.YtjebaagkomejaaaGreatDoor
