/- The contract of document.comments: the first error of the comments of a document. The contracts of style.Clone and event.Clone. Changes: their cells, what lies behind them, and the changes that lead from one document to another. -/
import Derived.Test.YtjebaagkomejaaaGreatDoorK06
import Derived.Test.YtjebaagkomejaaaGreatDoorK07
import Derived.Test.YtjebaagkomejaaaGreatDoorK05
set_option linter.unusedVariables false
set_option linter.unusedSimpArgs false
set_option maxRecDepth 100000
set_option maxHeartbeats 12800000
open Go.Lib renaming hid→h_
open Go renaming World→Sj,Value→Sk,heap_alloc_last→Sl
open Go.RowKit renaming Below→Sm
open Go.RowKit.Below renaming heap_setCell→Sn,refl→Sp
open Go.World renaming size_alloc→Sq,frozen?→Sr
open List renaming getElem?_eq_getElem→Ss,getElem_of_mem→St,mem_of_getElem?→Su,set_cons_succ→Sv,flatMap_cons→Sw,cons_append→Sx,mem_map→Sy
open Option.some renaming injEq→Sz,inj→SA
open Nat renaming le_refl→SB
open Go.Value.slice renaming injEq→SC
namespace Go.Proofs.YtjebaagkomejaaaGreatDoor
open Go.RowKit
theorem tp (d:Doc)(b n:Nat)(f:Int→Option Nat)(w:Sj)(hE:Env w)(hd:d.lies w)(eo:d.fits)(hM:IMap w b n f)(hf:∀ z i,f z=some i→i<d.eV.length)(hn:d.cM.length≤64) :
 Calls Tryz.prog 67 #[.agg d.enc.toArray,.map (some b)] w fun e w'=>e=.returned (.int .i64 (gU d.last f d.eV d.cM))∧Sm w.heap.size w w':=by
 rw [gU,if_neg (by omega)]
 have DM:=h_ (fun(c:Cm) (w1:Sj) (h1:Env w1) (h2:dy w1 d.ea d.eV) (h3:c.fits) (h4:IMap w1 b n f)=>oN d c b n f w1 h1 h2 eo.2.2.2.2.2.2.2.1 eo.2.2.2.2.2.2.2.2.1 h3 h4 hf)
 obtain⟨title,lA,rate,drop,last,ra,rc,rG,ea,ec,eV,ca,cc,cM⟩:=d
 obtain⟨_,hde,KM⟩:=hd
 obtain⟨_,_,_,_,hi5,_,_,_,_,hfc,_⟩:=eo
 simp only at hde KM hfc hn hi5
 simp only [Doc.enc] at DM ⊢
 generalize hG:di last f eV none cM=G
 have H0:=h_ (show di last f eV (bM cM 0) (cM.drop 0)=G by rw [List.drop_zero];exact hG)
 have hn2:decide ((64:Int)<(cM.length:Int))=false:=by simp;omega
 generalize hds:#[Sk.string title,.string lA,.int .u8 rate,.bool drop,.int .i64 last,.slice ra rG.length rc,.slice ea eV.length ec,.slice ca cM.length cc]=ds at DM ⊢
 have f0:=aw w ds 27 0 (.string title) (by rw [←hds];rfl)
 have f1:=aw w ds 27 1 (.string lA) (by rw [←hds];rfl)
 have f2:=aw w ds 27 2 (.int .u8 rate) (by rw [←hds];rfl)
 have f3:=aw w ds 27 3 (.bool drop) (by rw [←hds];rfl)
 have f4:=aw w ds 27 4 (.int .i64 last) (by rw [←hds];rfl)
 have f5:=aw w ds 27 5 (.slice ra rG.length rc) (by rw [←hds];rfl)
 have f6:=aw w ds 27 6 (.slice ea eV.length ec) (by rw [←hds];rfl)
 have f7:=aw w ds 27 7 (.slice ca cM.length cc) (by rw [←hds];rfl)
 have HB:=h_ (fun(w1:Sj) (h:Sm (w.heap.size+1) (w.alloc (.cells ds 27)) w1)=>bL h)
 have hb0:Sm (w.heap.size+1) (w.alloc (.cells ds 27)) (w.alloc (.cells ds 27)):=Sp _ _
 have hsz:(w.alloc (.cells ds 27)).heap.size=w.heap.size+1:=Sq _ _
 generalize hW0:w.alloc (.cells ds 27)=W0 at *
 have HW0:=h_ hW0
 have dI:=h_ hsz
 have Lw:=h_ hfc
 have HM:=h_ hM
 have vN:=h_ hde
 have DK:=h_ KM
 clear hW0 hsz hfc hf hG hM hde KM
 go_enter Tryz.func67,Tryz.ntmps67
 subst hds
 go_wp2_with fail
 rw [HW0.out]
 go_loopw [17] (fun i wr=>∃ k:Nat,k≤cM.length∧i=.int .i64 k∧di last f eV (bM cM k) (cM.drop k)=G∧Sm (w.heap.size+1) W0 wr) (fun i _=>cM.length-(intOf i).toNat)
 case atStart=>exact⟨0,by omega,rfl,H0.out,hb0⟩
 case round =>
  obtain⟨k,hk,rfl,hp,hb⟩:=hrel
  have hbw:=HB.out _ hb
  by_cases hlt:k<cM.length
  · have hRr:=DK.out.later hbw
    obtain⟨b',off,c,rfl,hbl,hx,hc,_⟩:=hRr.at_ hlt
    have hft:=Lw.out c (Su hx)
    have hpv:(k=0∧bM cM k=none)∨(∃ y,1≤k∧bM cM k=some y∧∀ w1,Sm wr.heap.size wr w1→w1.cell? ⟨b',off+(k-1)*8,none⟩=some (.int .i64 y.id)):=by
     rcases Nat.eq_zero_or_pos k with rfl|hk0
     · exact .inl ⟨rfl,rfl⟩
     · obtain⟨b'',off',y,hab,_,hy,hcy,_⟩:=hRr.at_ (show k-1<cM.length by omega)
       simp only [Sz,Addr.mk.injEq,and_true] at hab
       obtain⟨rfl,rfl⟩:=hab
       refine .inr ⟨y,hk0,?_,fun w1 h=>?_⟩
       · obtain⟨j,rfl⟩:∃ j,k=j+1:=⟨k-1,by omega⟩
         simpa [bM] using hy
       · rw [h.cell (p:=⟨b',off+(k-1)*8,none⟩) hbl]
         exact hcy 0 _ rfl
    have u_:=hb.size
    rw [dI.out] at u_
    have HN:=h_ (tr last f eV cM k c hx (bM cM k))
    have HS:=h_ (tq last f eV cM k c hx (bM cM k))
    have HP:=h_ hp
    have hcs:=CL last f eV (bM cM k) c _ rfl
    have hgx:=fun j v h=>aw wr c.enc.toArray 102 j v h
    have bE:=h_ (fun w1 (h:Sm (wr.heap.size+1) (wr.alloc (.cells c.enc.toArray 102)) w1)=>(hb.alloc u_ _).trans (h.mono (by omega)))
    have jt:=h_ (fun w1 (h:Sm (wr.heap.size+1) (wr.alloc (.cells c.enc.toArray 102)) w1)=>(((Sp wr.heap.size wr).alloc (SB _) _).trans (h.mono (by omega))))
    have hq0:Sm (wr.heap.size+1) (wr.alloc (.cells c.enc.toArray 102)) (wr.alloc (.cells c.enc.toArray 102)):=Sp _ _
    have AF:=hb.alloc u_ (.cells c.enc.toArray 102)
    have gG:=h_ ((HM.out.below (HB.out _ (bE.out _ hq0)) HM.out.lt).look hft.1)
    have DL:=h_ (fun w1 (h:Sm (wr.heap.size+1) (wr.alloc (.cells c.enc.toArray 102)) w1)=>DM.out c w1 (hE.below (HB.out _ (bE.out _ h)) (SB _)) (vN.out.later (HB.out _ (bE.out _ h))) hft (HM.out.below (HB.out _ (bE.out _ h)) HM.out.lt))
    have nN:=h_ (fun w1 (h:Sm (wr.heap.size+1) (wr.alloc (.cells c.enc.toArray 102)) w1)=>dJ c.text w1 hft.2.2.2.2.2 (hE.below (HB.out _ (bE.out _ h)) (SB _)))
    have i_:=h_ (fun w1=>eG c.author w1 hft.2.2.2.2.1)
    have KK:=hft.2.2.2.2.2
    generalize fA last f eV (bM cM k) c=E at *
    generalize cw last f eV c=A at *
    generalize bM cM k=pv at *
    obtain⟨id,ev,frm,til,author,text,done,lost⟩:=c
    have d0:=hc 0 _ rfl;have d1:=hc 1 _ rfl;have d2:=hc 2 _ rfl;have d3:=hc 3 _ rfl;have d4:=hc 4 _ rfl;have d5:=hc 5 _ rfl;have d6:=hc 6 _ rfl;have d7:=hc 7 _ rfl
    have g0:=hgx 0 _ rfl;have g1:=hgx 1 _ rfl;have g2:=hgx 2 _ rfl;have g3:=hgx 3 _ rfl;have g4:=hgx 4 _ rfl;have g5:=hgx 5 _ rfl;have g6:=hgx 6 _ rfl;have g7:=hgx 7 _ rfl
    have KF:=hft.1
    simp only [Nat.add_zero,Cm.enc] at d0 d1 d2 d3 d4 d5 d6 d7 g0 g1 g2 g3 g4 g5 g6 g7 bE jt hq0 gG DL nN i_ hcs KK KF AF
    have hsz1:(wr.alloc (.cells #[.int .i64 id,.int .i64 ev,.int .i64 frm,.int .i64 til,.string author,.string text,.bool done,.bool lost] 102)).heap.size=wr.heap.size+1:=Sq _ _
    have IF:=gG
    generalize hW1:wr.alloc (.cells #[.int .i64 id,.int .i64 ev,.int .i64 frm,.int .i64 til,.string author,.string text,.bool done,.bool lost] 102)=W1 at g0 g1 g2 g3 g4 g5 g6 g7 bE jt hq0 DL nN hsz1 IF
    have HW1:=h_ hW1
    have Ft:=h_ hsz1
    have hqq:∀ q,Sm (wr.heap.size+1) W1 (W1.drewN q):=fun q=>Go.below_drewN hq0 q
    have Oi:=bE.out _ hq0
    have Oh:=fun q=>bE.out _ (hqq q)
    have HT:=h_ (fun(w2 w3:Sj) (h:Sm (wr.heap.size+1) W1 w2) (h3:Sm w2.heap.size w2 w3)=>h.trans (h3.mono (by have:=h.size;rw [Ft.out] at this;exact this)))
    have hcell:(pv=none∧decide (0<k)=false)∨(∃ y,1≤k∧pv=some y∧decide (0<k)=true∧(1:Int)≤(k:Int)∧(k:Int)-1<(cM.length:Int)∧IntKind.i64.wrap ((k:Int)-1)=(k:Int)-1∧((k:Int)-1).toNat=k-1∧∀ w1,Sm (wr.heap.size+1) W1 w1→w1.cell? ⟨b',off+(k-1)*8,none⟩=some (.int .i64 y.id)):=by
     rcases hpv with⟨h1,h2⟩|⟨y,h1,h2,h3⟩
     · exact .inl ⟨h2,by simp;omega⟩
     · exact .inr ⟨y,h1,h2,by simp;omega,by omega,by omega,IntWalk.i64_in _ (by omega),by omega,fun w1 h=>h3 w1 (jt.out _ h)⟩
    clear hpv hc hgx hW1 hsz1 H0 hRr hp hx DM hft IF
    rcases hcs with⟨he,h1⟩|⟨he,h1,h2⟩|⟨h1,h2,⟨h3,he⟩|⟨h3,hcs⟩⟩
    · have dV:=h_ he
      clear he hcell
      go_wp2_with (at_lookup;refine ay _ rfl _ _ _ _ rfl _ _ _ rfl rfl gG.out ?_)
      rw [HW1.out]
      go_ret
      exact⟨aG (by rw [←HP.out,HS.out (by rw [dV.out];rfl),dV.out]),HB.out _ (bE.out _ hq0)⟩
    · have dV:=h_ he
      clear he hcell
      go_wp2_with (at_lookup;refine ay _ rfl _ _ _ _ rfl _ _ _ rfl rfl gG.out ?_)
      rw [HW1.out]
      go_ret
      exact⟨aG (by rw [←HP.out,HS.out (by rw [dV.out];rfl),dV.out]),HB.out _ (bE.out _ hq0)⟩
    · have dV:=h_ he
      rcases hcell with⟨rfl,hkd⟩|⟨y,hk1,rfl,hkd,hkz,hkl,hwr,hkn,p0⟩
      · simp [eR] at h3
      have vl:decide (id≤y.id)=true:=by simpa [eR] using h3
      generalize y.id=yi at *
      clear he h3
      go_wp2_with (at_lookup;refine ay _ rfl _ _ _ _ rfl _ _ _ rfl rfl gG.out ?_)
      rw [HW1.out]
      go_quiet (fail)
      go_wp2_with fail
      go_ret
      exact⟨aG (by rw [←HP.out,HS.out (by rw [dV.out];rfl),dV.out]),HB.out _ (bE.out _ (hqq _))⟩
    have iS:(decide (0<k)=false)∨(∃ yi:Int,(decide (id≤yi)=false)∧1≤k∧decide (0<k)=true∧(1:Int)≤(k:Int)∧(k:Int)-1<(cM.length:Int)∧IntKind.i64.wrap ((k:Int)-1)=(k:Int)-1∧((k:Int)-1).toNat=k-1∧∀ w1,Sm (wr.heap.size+1) W1 w1→w1.cell? ⟨b',off+(k-1)*8,none⟩=some (.int .i64 yi)):=by
     rcases hcell with⟨rfl,hkd⟩|⟨y,hk1,rfl,hkd,hkz,hkl,hwr,hkn,p0⟩
     · exact .inl hkd
     · exact .inr ⟨y.id,by simpa [eR] using h3,hk1,hkd,hkz,hkl,hwr,hkn,p0⟩
    clear hcell h3
    rcases hcs with⟨ht,he⟩|⟨ht,hcs⟩
    · have dV:=h_ he
      rw [ht] at gG
      clear he ht
      rcases iS with hkd|⟨yi,vl,hk1,hkd,hkz,hkl,hwr,hkn,p0⟩
      all_goals
       go_wp2_with (at_lookup;refine ay _ rfl _ _ _ _ rfl _ _ _ rfl rfl gG.out ?_)
       rw [HW1.out]
       go_quiet (fail)
       go_wp2_with fail
       go_ret
       exact⟨aG (by rw [←HP.out,HS.out (by rw [dV.out];rfl),dV.out]),HB.out _ (Oh _)⟩
    rw [ht] at gG
    clear ht
    rcases hcs with⟨ha,he⟩|⟨rfl,hcs⟩
    · have dV:=h_ he
      have JB:=h_ ha
      clear he
      rcases iS with hkd|⟨yi,vl,hk1,hkd,hkz,hkl,hwr,hkn,p0⟩
      all_goals
       go_wp2_with (at_lookup;refine ay _ rfl _ _ _ _ rfl _ _ _ rfl rfl gG.out ?_)
       rw [HW1.out]
       go_quiet (fail)
       go_wp2_with fail
       refine(DL.out _ (hqq _)).mono ?_
       rintro e w2 ⟨rfl,hb2⟩
       have hc2:=HT.out _ _ (hqq _) hb2
       have hd2:=bE.out _ hc2
       clear hb2
       go_wp2_with fail
       go_ret
       exact⟨aG (by rw [←HP.out,HS.out (by rw [dV.out];exact JB.out),dV.out]),HB.out _ hd2⟩
    rcases hcs with⟨hnm,he⟩|⟨hnm,hcs⟩
    · have dV:=h_ he
      rw [hnm] at i_
      clear he hnm
      rcases iS with hkd|⟨yi,vl,hk1,hkd,hkz,hkl,hwr,hkn,p0⟩
      all_goals
       go_wp2_with (at_lookup;refine ay _ rfl _ _ _ _ rfl _ _ _ rfl rfl gG.out ?_)
       rw [HW1.out]
       go_quiet (fail)
       go_wp2_with fail
       refine(DL.out _ (hqq _)).mono ?_
       rintro e w2 ⟨rfl,hb2⟩
       have hc2:=HT.out _ _ (hqq _) hb2
       have hd2:=bE.out _ hc2
       clear hb2
       go_wp2_with fail
       refine(i_.out _).mono ?_
       rintro e w3 ⟨rfl,rfl⟩
       go_wp2_with fail
       go_ret
       exact⟨aG (by rw [←HP.out,HS.out (by rw [dV.out];rfl),dV.out]),HB.out _ hd2⟩
    rw [hnm] at i_
    clear hnm
    rcases hcs with⟨hv,he⟩|⟨hv,hcs⟩
    · have dV:=h_ he
      rw [hv] at nN
      clear he hv
      rcases iS with hkd|⟨yi,vl,hk1,hkd,hkz,hkl,hwr,hkn,p0⟩
      all_goals
       go_wp2_with (at_lookup;refine ay _ rfl _ _ _ _ rfl _ _ _ rfl rfl gG.out ?_)
       rw [HW1.out]
       go_quiet (fail)
       go_wp2_with fail
       refine(DL.out _ (hqq _)).mono ?_
       rintro e w2 ⟨rfl,hb2⟩
       have hc2:=HT.out _ _ (hqq _) hb2
       have hd2:=bE.out _ hc2
       clear hb2
       go_wp2_with fail
       refine(i_.out _).mono ?_
       rintro e w3 ⟨rfl,rfl⟩
       go_wp2_with fail
       refine(nN.out _ hc2).mono ?_
       rintro e w4 ⟨rfl,hb4⟩
       have hc4:=HT.out _ _ hc2 hb4
       have hd4:=bE.out _ hc4
       clear hb4
       go_wp2_with fail
       go_ret
       exact⟨aG (by rw [←HP.out,HS.out (by rw [dV.out];rfl),dV.out]),HB.out _ hd4⟩
    rw [hv] at nN
    clear hv
    rcases hcs with⟨hz,he⟩|⟨hz,⟨hm,he⟩|⟨hm,he⟩⟩
    · have dV:=h_ he
      have hz2:text.toList.isEmpty=true:=by simpa using hz
      clear he
      rcases iS with hkd|⟨yi,vl,hk1,hkd,hkz,hkl,hwr,hkn,p0⟩
      all_goals
       go_wp2_with (at_lookup;refine ay _ rfl _ _ _ _ rfl _ _ _ rfl rfl gG.out ?_)
       rw [HW1.out]
       go_quiet (fail)
       go_wp2_with fail
       refine(DL.out _ (hqq _)).mono ?_
       rintro e w2 ⟨rfl,hb2⟩
       have hc2:=HT.out _ _ (hqq _) hb2
       have hd2:=bE.out _ hc2
       clear hb2
       go_wp2_with fail
       refine(i_.out _).mono ?_
       rintro e w3 ⟨rfl,rfl⟩
       go_wp2_with fail
       refine(nN.out _ hc2).mono ?_
       rintro e w4 ⟨rfl,hb4⟩
       have hc4:=HT.out _ _ hc2 hb4
       have hd4:=bE.out _ hc4
       clear hb4
       go_wp2_with fail
       go_ret
       exact⟨aG (by rw [←HP.out,HS.out (by rw [dV.out];rfl),dV.out]),HB.out _ hd4⟩
    · have dV:=h_ he
      have hz2:text.toList.isEmpty=false:=by simpa using hz
      clear he
      rcases iS with hkd|⟨yi,vl,hk1,hkd,hkz,hkl,hwr,hkn,p0⟩
      all_goals
       go_wp2_with (at_lookup;refine ay _ rfl _ _ _ _ rfl _ _ _ rfl rfl gG.out ?_)
       rw [HW1.out]
       go_quiet (fail)
       go_wp2_with fail
       refine(DL.out _ (hqq _)).mono ?_
       rintro e w2 ⟨rfl,hb2⟩
       have hc2:=HT.out _ _ (hqq _) hb2
       have hd2:=bE.out _ hc2
       clear hb2
       go_wp2_with fail
       refine(i_.out _).mono ?_
       rintro e w3 ⟨rfl,rfl⟩
       go_wp2_with fail
       refine(nN.out _ hc2).mono ?_
       rintro e w4 ⟨rfl,hb4⟩
       have hc4:=HT.out _ _ hc2 hb4
       have hd4:=bE.out _ hc4
       clear hb4
       go_wp2_with fail
       go_ret
       exact⟨aG (by rw [←HP.out,HS.out (by rw [dV.out];rfl),dV.out]),HB.out _ hd4⟩
    · have dV:=h_ he
      have hz2:text.toList.isEmpty=false:=by simpa using hz
      clear he
      rcases iS with hkd|⟨yi,vl,hk1,hkd,hkz,hkl,hwr,hkn,p0⟩
      all_goals
       go_wp2_with (at_lookup;refine ay _ rfl _ _ _ _ rfl _ _ _ rfl rfl gG.out ?_)
       rw [HW1.out]
       go_quiet (fail)
       go_wp2_with fail
       refine(DL.out _ (hqq _)).mono ?_
       rintro e w2 ⟨rfl,hb2⟩
       have hc2:=HT.out _ _ (hqq _) hb2
       have hd2:=bE.out _ hc2
       clear hb2
       go_wp2_with fail
       refine(i_.out _).mono ?_
       rintro e w3 ⟨rfl,rfl⟩
       go_wp2_with fail
       refine(nN.out _ hc2).mono ?_
       rintro e w4 ⟨rfl,hb4⟩
       have hc4:=HT.out _ _ hc2 hb4
       have hd4:=bE.out _ hc4
       clear hb4
       go_wp2_with fail
       go_roundw
       case rel=>exact⟨k+1,by omega,by go_num,by rw [←HN.out dV.out];exact HP.out,hd4⟩
       case measure=>simp [intOf];omega
  · obtain rfl:k=cM.length:=by omega
    rw [List.drop_length] at hp
    have HP:=h_ hp
    clear hp H0
    go_wp2_with fail
    go_ret
    exact⟨aG (by rw [←HP.out];cases bM cM cM.length<;>rfl),HB.out _ hb⟩
def Row.uses (r:Row)(b:Nat):Prop:=bp r.at_ r.runs b
theorem Row.frame {r:Row} {w w':Sj} (h:r.lies w)(hs:w.heap.size≤w'.heap.size)(hb:∀ b,r.uses b→w'.heap[b]? =w.heap[b]?):r.lies w':=ah.frame h hs hb fun _ _ _=>trivial
theorem Row.uses_lt {r:Row} {w:Sj} (h:r.lies w) {b:Nat} (hu:r.uses b):b<w.heap.size:=aP h hu
def dh (a:Option Addr)(rows:List Row)(b:Nat):Prop:=bp a rows b∨∃ r∈rows,r.uses b
theorem mu {w:Sj} {a:Option Addr} {rows:List Row} (h:bx w a rows) {r:Row} (hr:r∈rows):r.lies w:=by
 obtain⟨i,hi,rfl⟩:=St hr
 obtain⟨b,off,x,_,_,hx,_,hl⟩:=h.at_ hi
 obtain rfl:rows[i]=x:=SA ((Ss hi).symm.trans hx)
 exact hl
theorem bx.frame {a:Option Addr} {rows:List Row} {w w':Sj} (h:bx w a rows)(hs:w.heap.size≤w'.heap.size)(hb:∀ b,dh a rows b→w'.heap[b]? =w.heap[b]?):bx w' a rows :=
 ah.frame h hs (fun b hu=>hb b (.inl hu)) fun r hr hl=>Row.frame hl hs fun b hu=>hb b (.inr ⟨r,hr,hu⟩)
theorem gM {w:Sj} {a:Option Addr} {rows:List Row} (h:bx w a rows) {b:Nat} (hu:dh a rows b):b<w.heap.size:=by
 rcases hu with hu|⟨r,hr,hu⟩
 · exact aP h hu
 · exact Row.uses_lt (mu h hr) hu
def fk (w:Sj)(b:Nat):Prop:=∃ cs t,w.heap[b]? =some (.cells cs t (0,0))
theorem fk.kept {w w':Sj} {b:Nat} (h:fk w b)(e:w'.heap[b]? =w.heap[b]?):fk w' b:=by
 obtain⟨cs,t,h⟩:=h
 exact⟨cs,t,e.trans h⟩
def cP (rows:List Row)(w:Sj)(v:Sk)(k:Nat)(wr:Sj):Prop :=
 ∃ rows':List Row,rows'.length=rows.length∧rows'.map Row.runs=rows.map Row.runs∧wr.ownsRow w.heap.size 75 1 v rows.length (rows'.flatMap Row.enc)∧(∀ j r,rows'[j]? =some r→r.lies wr∧(∀ b,r.uses b→v.ownBlock≠some b)∧(j<k→∀ b,r.uses b→w.heap.size≤b∧fk wr b))∧Sm w.heap.size w wr
theorem cP.start {rows:List Row} {w w1:Sj} {a:Option Addr} {v:Sk} (h:bx w a rows)(ho:w1.ownsRow w.heap.size 75 1 v rows.length (rows.flatMap Row.enc))(hb:Sm w.heap.size w w1):cP rows w v 0 w1:=by
 refine⟨rows,rfl,rfl,ho,fun j r hr=>?_,hb⟩
 have hl:=mu h (Su hr)
 refine⟨Row.keeps _ _ _ hb hl,fun b hu hv=>?_,fun hj=>by omega⟩
 have:=(ho.lt _ hv).1
 have:=Row.uses_lt hl hu
 omega
theorem j4:∀ (xs:List Row)(k:Nat)(y:Row),k<xs.length→(xs.set k y).flatMap Row.enc=(xs.flatMap Row.enc).set k (.slice y.at_ y.runs.length y.cap)
 | [],k,y,h=>by simp at h
 | x::xs,0,y,h=>by simp [Row.enc]
 | x::xs,k+1,y,h=>by
   have:=j4 xs k y (by simpa using h)
   simp only [Sv,Sw,this,Row.enc,Sx,List.nil_append]
theorem ln:∀ (xs:List Row)(k:Nat)(r y:Row),xs[k]? =some r→y.runs=r.runs→(xs.set k y).map Row.runs=xs.map Row.runs
 | [],k,r,y,h,_=>by simp at h
 | x::xs,0,r,y,h,hy=>by
   obtain rfl:x=r:=by simpa using h
   simp [hy]
 | x::xs,k+1,r,y,h,hy=>by
   have:=ln xs k r y (by simpa using h) hy
   simp [this]
theorem cP.step {rows rows':List Row} {w wr w2:Sj} {g cv k:Nat} {r:Row} {a2:Option Addr} {c2:Nat} (hk:rows'[k]? =some r)(h1:rows'.length=rows.length)(h2:rows'.map Row.runs=rows.map Row.runs)
 (h3:wr.ownsRow w.heap.size 75 1 (.slice (some ⟨g,0,none⟩) rows.length cv) rows.length (rows'.flatMap Row.enc)) (h4:∀ j r,rows'[j]? =some r→r.lies wr∧(∀ b,r.uses b→(Sk.slice (some ⟨g,0,none⟩) rows.length cv).ownBlock≠some b)∧(j<k→∀ b,r.uses b→w.heap.size≤b∧fk wr b)) (h5:Sm w.heap.size w wr)
 (hb:Sm wr.heap.size wr w2) (ho:w2.ownsRow wr.heap.size 77 5 (.slice a2 r.runs.length c2) r.runs.length (r.runs.flatMap Run.enc)) :
 cP rows w (.slice (some ⟨g,0,none⟩) rows.length cv) (k+1) (w2.setCell ⟨g,k,none⟩ (.slice a2 r.runs.length c2)):=by
 have hkl:k<rows'.length:=(List.getElem?_eq_some_iff.1 hk).1
 have hg:=h3.lt g rfl
 have h3':=(aI h3 hb).stored k (.slice a2 r.runs.length c2)
 refine⟨rows'.set k ⟨a2,c2,r.runs⟩,by simpa using h1,(ln rows' k r ⟨a2,c2,r.runs⟩ hk rfl).trans h2,?_,fun j x hx=>?_,?_⟩
 · rw [j4 rows' k _ hkl]
   exact h3'.1
 · rw [List.getElem?_set] at hx
   by_cases hjk:k=j
   · rw [if_pos hjk,if_pos hkl] at hx
     obtain rfl:=SA hx
     obtain⟨a3,c3,he,hS⟩:=aA (k:=5) (enc:=Run.enc) (Ok:=Flat) (fun _=>rfl) ho (fun _ _=>trivial)
     simp only [SC] at he
     obtain⟨rfl,_,_⟩:=he
     have hfr:∀ b,Row.uses ⟨a2,c2,r.runs⟩ b→wr.heap.size≤b:=fun b ⟨_,ad,had,hbb⟩=>by
      have had:a2=some ad:=had
      subst had
      rw [←hbb]
      exact(ho.lt ad.block rfl).1
     have Oa:∀ b,Row.uses ⟨a2,c2,r.runs⟩ b→fk w2 b:=fun b ⟨_,ad,had,hbb⟩=>by
      have had:a2=some ad:=had
      rcases ho.2 with⟨q,_⟩|⟨g',cap,cur,q,_,hq,_⟩
      · rw [had] at q;cases q
      · rw [had] at q
        simp only [SC,Sz] at q
        rw [←hbb,q.1]
        exact⟨cur,77,hq⟩
     refine⟨Row.frame hS (by simp) (fun b hu=>?_),fun b hu e=>?_,fun _ b hu=>⟨Nat.le_trans h5.size (hfr b hu),(Oa b hu).kept (Sn w2 ⟨g,k,none⟩ _ b (by have:=hfr b hu;simp only;omega))⟩⟩
     · have:=hfr b hu
       exact Sn w2 ⟨g,k,none⟩ _ b (by simp only;omega)
     · have:=hfr b hu
       simp only [Sk.ownBlock,Sz] at e
       omega
   · rw [if_neg hjk] at hx
     obtain⟨hl,hap,hfr⟩:=h4 j x hx
     have hst:∀ b,x.uses b→(w2.setCell ⟨g,k,none⟩ (.slice a2 r.runs.length c2)).heap[b]? =w2.heap[b]?:=fun b hu=>Sn w2 ⟨g,k,none⟩ _ b (fun e=>hap b hu (by rw [e];rfl))
     exact⟨Row.frame (Row.keeps _ _ _ hb hl) (by simp) hst,hap,fun hj b hu=>⟨(hfr (by omega) b hu).1,((hfr (by omega) b hu).2.kept (hb.block b (Row.uses_lt hl hu))).kept (hst b hu)⟩⟩
 · exact(h5.trans (hb.mono h5.size)).setCell hg.1 _
def qX (rows:List Row)(w:Sj)(e:Ending)(w':Sj):Prop:=∃ a' cap' rows',e=.returned (.slice a' rows'.length cap')∧bx w' a' rows'∧rows'.map Row.runs=rows.map Row.runs∧(∀ b,dh a' rows' b→w.heap.size≤b)∧Sm w.heap.size w w'∧∀ r∈rows',∀ b,r.uses b→fk w' b
theorem cP.done {rows:List Row} {w wr:Sj} {a:Option Addr} {c:Nat} (h:cP rows w (.slice a rows.length c) rows.length wr):qX rows w (.returned (.slice a rows.length c)) wr:=by
 obtain⟨rows',h1,h2,h3,h4,h5⟩:=h
 have h3':=h3
 rw [←h1] at h3
 obtain⟨a',c',he,hS⟩:=aA (k:=1) (enc:=Row.enc) (Ok:=Row.lies) (fun _=>rfl) h3 (fun r hr=>by
  obtain⟨j,hj,rfl⟩:=St hr
  exact(h4 j _ (Ss hj)).1)
 simp only [SC] at he
 obtain⟨rfl,_,rfl⟩:=he
 refine⟨a,c,rows',by rw [h1],hS,h2,fun b hu=>?_,h5,fun r hr b hu=>?_⟩
 · rcases hu with⟨_,ad,rfl,rfl⟩|⟨r,hr,hu⟩
   · exact(h3'.lt _ rfl).1
   · obtain⟨j,hj,rfl⟩:=St hr
     exact((h4 j _ (Ss hj)).2.2 (by omega) b hu).1
 · obtain⟨j,hj,rfl⟩:=St hr
   exact((h4 j _ (Ss hj)).2.2 (by omega) b hu).2
theorem lP (a:Option Addr)(cap:Nat)(rows:List Row)(w:Sj)(h:bx w a rows)(hf:∀ r∈rows,r.runs.length≤4000000)(hl:rows.length≤4000000) :
 Calls Tryz.prog 121 #[.slice a rows.length cap] w (qX rows w):=by
 have HC:=h_ (jE a cap rows w h hl)
 have HS:=h_ (fun(w1:Sj) (v:Sk) (ho:w1.ownsRow w.heap.size 75 1 v rows.length (rows.flatMap Row.enc)) (hb:Sm w.heap.size w w1)=>cP.start h ho hb)
 have HD:=h_ (fun(wr:Sj) (a:Option Addr) (c:Nat) (h:cP rows w (.slice a rows.length c) rows.length wr)=>h.done)
 have HF:=h_ (fun(rows':List Row) (e:rows'.map Row.runs=rows.map Row.runs) (r:Row) (hr:r∈rows')=>(show r.runs.length≤4000000 by
  have:r.runs∈rows.map Row.runs:=by rw [←e];exact Sy.2 ⟨r,hr,rfl⟩
  obtain⟨r0,h0,he⟩:=Sy.1 this
  rw [←he];exact hf r0 h0))
 clear h hf
 generalize qX rows w=Q at *
 go_enter Tryz.func121,Tryz.ntmps121
 go_wp2_with fail
 refine HC.out.mono ?_
 rintro e w1 ⟨v,rfl,hown,hb1⟩
 obtain⟨av,cv,rfl⟩:∃ av cv,v=.slice av rows.length cv:=by
  rcases hown.2 with⟨rfl,h0⟩|⟨g,cap,_,rfl,_⟩
  · exact⟨none,0,by rw [h0]⟩
  · exact⟨_,_,rfl⟩
 have HR:=h_ (HS.out _ _ hown hb1)
 clear hown hb1 HC HS
 go_wp2_with fail
 go_loopw [9] (fun i wr=>∃ k:Nat,k≤rows.length∧i=.int .i64 k∧cP rows w (.slice av rows.length cv) k wr) (fun i _=>rows.length-(intOf i).toNat)
 case atStart=>exact⟨0,by omega,rfl,HR.out⟩
 case round =>
  clear HR
  obtain⟨k,hk,rfl,hrel⟩:=hrel
  by_cases hlt:k<rows.length
  · obtain⟨rows',h1,h2,h3,h4,h5⟩:=hrel
    obtain⟨g,c',he⟩:=dD h3 (by omega)
    simp only [SC,true_and] at he
    obtain⟨rfl,rfl⟩:=he
    have hk':rows'[k]? =some rows'[k]:=Ss (by omega)
    generalize rows'[k]=r at hk'
    have hmem:=Su hk'
    have hc0:wr.cell? ⟨g,k,none⟩=some (.slice r.at_ r.runs.length r.cap):=by
     rw [h3.cellAt k (by omega)]
     have:=cK Row.enc 1 (fun _=>rfl) rows' k r 0 _ hk' rfl
     rw [show k*1+0=k by omega] at this
     exact this
    have lN:=h_ (jD (Ok:=Flat) r.at_ r.cap r.runs wr (h4 k r hk').1 (HF.out _ h2 r hmem))
    have HK:=h_ (fun(w2:Sj) (hb:Sm wr.heap.size wr w2)=>(show w2.cell? ⟨g,k,none⟩=some (.slice r.at_ r.runs.length r.cap)∧w2.frozen? ⟨g,k,none⟩=false from
     ⟨(hb.cell (p:=⟨g,k,none⟩) (h3.lt g rfl).2).trans hc0,(aI h3 hb).frozenAt k⟩))
    have HST:=h_ (fun(w2:Sj) (a2:Option Addr) (c2:Nat) (hb:Sm wr.heap.size wr w2) (ho:w2.ownsRow wr.heap.size 77 5 (.slice a2 r.runs.length c2) r.runs.length (r.runs.flatMap Run.enc))=>cP.step hk' h1 h2 h3 h4 h5 hb ho)
    clear h1 h2 h3 h4 h5 hk' hmem
    obtain⟨ra,rc,rr⟩:=r
    simp only at *
    go_wp2_with fail
    refine lN.out.mono ?_
    rintro e w2 ⟨v2,rfl,hown2,hb2⟩
    obtain⟨a2,c2,rfl⟩:∃ av cv,v2=.slice av rr.length cv:=by
     rcases hown2.2 with⟨rfl,h0⟩|⟨g,cap,_,rfl,_⟩
     · exact⟨none,0,by rw [h0]⟩
     · exact⟨_,_,rfl⟩
    obtain⟨k1,k2⟩:=HK.out _ hb2
    have HN:=h_ (HST.out _ _ _ hb2 hown2)
    clear hown2 hb2 lN HK HST hc0
    go_wp2_with fail
    go_roundw
    case rel=>exact⟨k+1,by omega,by go_num,HN.out⟩
    case measure=>simp [intOf];omega
  · obtain rfl:k=rows.length:=by omega
    have HN:=h_ hrel
    clear hrel
    go_wp2_with fail
    exact HD.out _ _ _ HN.out
structure EvC where
 id:Int
 inn:Int
 out:Int
 region:ByteArray
 kind:Int
 speaker:ByteArray
 rows:List (List Run)
def Ev.c (x:Ev):EvC:=⟨x.id,x.inn,x.out,x.region,x.kind,x.speaker,x.rows.map Row.runs⟩
def Ev.uses (x:Ev)(b:Nat):Prop:=dh x.at_ x.rows b
theorem Ev.frame {x:Ev} {w w':Sj} (h:x.lies w)(hs:w.heap.size≤w'.heap.size)(hb:∀ b,x.uses b→w'.heap[b]? =w.heap[b]?):x.lies w':=bx.frame h hs hb
theorem Ev.uses_lt {x:Ev} {w:Sj} (h:x.lies w) {b:Nat} (hu:x.uses b):b<w.heap.size:=gM h hu
def Bw (c:EvC)(w:Sj)(e:Ending)(w':Sj):Prop:=∃ y:Ev,e=.returned (.agg y.enc.toArray)∧y.c=c∧y.lies w'∧(∀ b,y.uses b→w.heap.size≤b)∧Sm w.heap.size w w'∧∀ r∈y.rows,∀ b,r.uses b→fk w' b
theorem kh (x:Ev)(w:Sj)(h:x.lies w)(hf:∀ r∈x.rows,r.runs.length≤4000000)(hl:x.rows.length≤4000000) :
 Calls Tryz.prog 71 #[.agg x.enc.toArray] w (Bw x.c w):=by
 generalize hcs:x.enc.toArray=cs
 have HC:=h_ (fun(o:Obj)=>lP x.at_ x.cap x.rows ((w.alloc (.cells cs 72)).alloc o) (bx.later h (((Sp _ _).alloc (SB _) _).alloc (by simp) _)) hf hl)
 have HQ:=h_ (fun(a:Option Addr) (c:Nat) (rows:List Row) (w':Sj) (e:rows.map Row.runs=x.rows.map Row.runs) (h:bx w' a rows) (hu:∀ b,dh a rows b→w.heap.size≤b) (hb:Sm w.heap.size w w') (Ct:∀ r∈rows,∀ b,r.uses b→fk w' b)=>(show Bw x.c w (.returned (.agg #[.int .i64 x.id,.int .i64 x.inn,.int .i64 x.out,.string x.region,.int .u8 x.kind,.string x.speaker,.slice a rows.length c])) w' from
  ⟨⟨x.id,x.inn,x.out,x.region,x.kind,x.speaker,a,c,rows⟩,rfl,by simp only [Ev.c,e],h,hu,hb,Ct⟩))
 have HB:=h_ (fun(o o':Obj) (w1:Sj) (hb:Sm ((w.alloc o).alloc o').heap.size ((w.alloc o).alloc o') w1)=>(show Sm w.heap.size w w1 from(((Sp _ _).alloc (SB _) _).alloc (by simp) _).trans (hb.mono (by simp;omega))))
 have HK:=h_ (fun(o:Array Sk) (w1:Sj) (hb:Sm ((w.alloc (.cells cs 72)).alloc (.cells o 72)).heap.size ((w.alloc (.cells cs 72)).alloc (.cells o 72)) w1)=>(show(w1.heap[w.heap.size]? =some (.cells cs 72 (0,0))∧w1.heap[w.heap.size+1]? =some (.cells o 72 (0,0))) by
  refine⟨?_,?_⟩
  · rw [hb.block _ (by simp;omega),Sm.heap_alloc _ _ _ (by simp)]
    exact Sl w _
  · rw [hb.block _ (by simp)]
    have:=Sl (w.alloc (.cells cs 72)) (.cells o 72)
    rwa [Sq] at this))
 obtain⟨id,inn,out,reg,kind,sp,a,c,rows⟩:=x
 simp only at *
 generalize Bw _ w=Q at *
 clear h hf
 simp only [Ev.enc] at hcs
 go_enter Tryz.func71,Tryz.ntmps71
 subst hcs
 go_wp2_with fail
 refine(HC.out _).mono ?_
 rintro e w1 ⟨a',c',rows',rfl,hr,hm,hu,hb,Ct⟩
 obtain⟨hk1,hk2⟩:=HK.out _ _ hb
 have bE:=h_ (HB.out _ _ _ hb)
 have HR:=h_ hr
 have HM:=h_ hm
 have HU:=h_ hu
 have rz:=h_ Ct
 clear hb hr hm hu Ct HC HB HK
 have c1:∀ j,w1.cell? ⟨w.heap.size,j,none⟩=_:=fun j=>cell_of_row _ _ j _ 72 (0,0) hk1
 have c2:∀ j,w1.cell? ⟨w.heap.size+1,j,none⟩=_:=fun j=>cell_of_row _ _ j _ 72 (0,0) hk2
 have z1:∀ j,w1.frozen? ⟨w.heap.size,j,none⟩=false:=fun j=>by simp [Sr,hk1]
 have z2:∀ j,w1.frozen? ⟨w.heap.size+1,j,none⟩=false:=fun j=>by simp [Sr,hk2]
 clear hk1 hk2
 go_wp2_with fail
 refine bodyPost_ret (v:=.agg #[.int .i64 id,.int .i64 inn,.int .i64 out,.string reg,.int .u8 kind,.string sp,.slice a' rows'.length c']) (by simp [results,Tryz.results71,go_sem,c2]) rfl ?_
 have HF:=h_ (fun(b:Nat) (u u0 u1 u2 u3 u4 u5 u6:Sk) (hb:w.heap.size+2≤b)=>(show((((((((w1.setCell ⟨w.heap.size,6,none⟩ u).setCell ⟨w.heap.size+1,0,none⟩ u0).setCell ⟨w.heap.size+1,1,none⟩ u1).setCell ⟨w.heap.size+1,2,none⟩ u2).setCell ⟨w.heap.size+1,3,none⟩ u3).setCell ⟨w.heap.size+1,4,none⟩ u4).setCell ⟨w.heap.size+1,5,none⟩ u5).setCell ⟨w.heap.size+1,6,none⟩ u6).heap[b]? =w1.heap[b]? by
  repeat rw [Sn _ _ _ _ (by simp only;omega)]))
 have FZ:∀ b,dh a' rows' b→w.heap.size+2≤b:=fun b hu=>by
  have:=HU.out b hu
  simp at this
  omega
 refine HQ.out _ _ _ _ HM.out (bx.frame HR.out (by simp) fun b hu=>HF.out b _ _ _ _ _ _ _ _ (FZ b hu)) (fun b hu=>by have:=FZ b hu;omega) ?_ (fun r hr b hu=>(rz.out r hr b hu).kept (HF.out b _ _ _ _ _ _ _ _ (FZ b (.inr ⟨r,hr,hu⟩))))
 repeat refine Sm.setCell ?_ (by simp only;omega) _
 exact bE.out
theorem Hd.one:∀ (x:Hd)(v:Sk),v∈x.enc→v.oneCell'=true:=by
 intro x v hv
 simp only [Hd.enc,List.mem_cons,List.not_mem_nil,or_false] at hv
 rcases hv with rfl|rfl|rfl|rfl|rfl<;>rfl
def Ga:Hd:=⟨⟨#[]⟩,⟨#[]⟩,0,false,0⟩
theorem jH (w:Sj):oS.lies w:=.inl rfl
theorem jG (b:Nat):¬ oS.uses b:=by
 rintro (⟨h,_⟩|⟨r,hr,_⟩)
 · exact h rfl
 · simp [oS] at hr
def gO (a b:Reg):Bool:=a.name.toList==b.name.toList&&a.top==b.top&&a.aZ==b.aZ&&a.left==b.left&&a.width==b.width&&a.align==b.align&&a.bottom==b.bottom
def cmEq (a b:Cm):Bool:=a.id==b.id&&a.ev==b.ev&&a.frm==b.frm&&a.til==b.til&&a.author.toList==b.author.toList&&a.text.toList==b.text.toList&&a.done==b.done&&a.lost==b.lost
theorem rZ (a b:Reg)(w:Sj):(binOp .neq 37 (.agg a.enc.toArray) (.agg b.enc.toArray)).run Tryz.prog w=.ok (.bool (!gO a b)) w:=by
 simp [go_sem,Reg.enc,gO]
 repeat' split
 all_goals simp_all
theorem vW (a b:Cm)(w:Sj):(binOp .neq 102 (.agg a.enc.toArray) (.agg b.enc.toArray)).run Tryz.prog w=.ok (.bool (!cmEq a b)) w:=by
 simp [go_sem,Cm.enc,cmEq]
 repeat' split
 all_goals simp_all
def gi (a:Option Addr)(xs:List Ev)(b:Nat):Prop:=bp a xs b∨∃ x∈xs,x.uses b
theorem gh {w:Sj} {a:Option Addr} {xs:List Ev} (h:dy w a xs) {x:Ev} (hx:x∈xs):x.lies w:=by
 obtain⟨i,hi,rfl⟩:=St hx
 obtain⟨b,off,y,_,_,hy,_,hl⟩:=h.at_ hi
 obtain rfl:xs[i]=y:=SA ((Ss hi).symm.trans hy)
 exact hl
theorem dy.frame {a:Option Addr} {xs:List Ev} {w w':Sj} (h:dy w a xs)(hs:w.heap.size≤w'.heap.size)(hb:∀ b,gi a xs b→w'.heap[b]? =w.heap[b]?):dy w' a xs :=
 ah.frame h hs (fun b hu=>hb b (.inl hu)) fun x hx hl=>Ev.frame hl hs fun b hu=>hb b (.inr ⟨x,hx,hu⟩)
theorem ej {w:Sj} {a:Option Addr} {xs:List Ev} (h:dy w a xs) {b:Nat} (hu:gi a xs b):b<w.heap.size:=by
 rcases hu with hu|⟨x,hx,hu⟩
 · exact aP h hu
 · exact Ev.uses_lt (gh h hx) hu
def Doc.uses (d:Doc)(b:Nat):Prop:=bp d.ra d.rG b∨gi d.ea d.eV b∨bp d.ca d.cM b
theorem Doc.frame {d:Doc} {w w':Sj} (h:d.lies w)(hs:w.heap.size≤w'.heap.size)(hb:∀ b,d.uses b→w'.heap[b]? =w.heap[b]?):d.lies w' :=
 ⟨ah.frame h.1 hs (fun b hu=>hb b (.inl hu)) (fun _ _ _=>trivial),dy.frame h.2.1 hs fun b hu=>hb b (.inr (.inl hu)),ah.frame h.2.2 hs (fun b hu=>hb b (.inr (.inr hu))) (fun _ _ _=>trivial)⟩
theorem Doc.uses_lt {d:Doc} {w:Sj} (h:d.lies w) {b:Nat} (hu:d.uses b):b<w.heap.size:=by
 rcases hu with hu|hu|hu
 · exact aP h.1 hu
 · exact ej h.2.1 hu
 · exact aP h.2.2 hu
structure DocC where
 hd:Hd
 rG:List Reg
 eV:List EvC
 cM:List Cm
def Doc.c (d:Doc):DocC:=⟨d.hd,d.rG,d.eV.map Ev.c,d.cM⟩
theorem xq {α:Type} (l1 l2:List α)(i:Nat)(v:α):(l1++l2).set (l1.length+i) v=l1++l2.set i v:=by
 induction l1 with
 | nil=>simp
 | cons x l ih =>
   rw [Sx,List.length_cons,show l.length+1+i=(l.length+i)+1 by omega,Sv,ih]
   rfl
theorem lB:∀ (xs:List Ev)(k:Nat)(y:Ev),k<xs.length→(xs.set k y).flatMap Ev.enc=(((((((xs.flatMap Ev.enc).set (k*7) (.int .i64 y.id)).set (k*7+1) (.int .i64 y.inn)).set (k*7+2) (.int .i64 y.out)).set (k*7+3) (.string y.region)).set (k*7+4) (.int .u8 y.kind)).set (k*7+5) (.string y.speaker)).set (k*7+6) (.slice y.at_ y.rows.length y.cap)
 | [],k,y,h=>by simp at h
 | x::xs,0,y,h=>by simp [Ev.enc]
 | x::xs,k+1,y,h=>by
   have:=lB xs k y (by simpa using h)
   rw [Sv,Sw,Sw,this]
   have hl:x.enc.length=7:=rfl
   rw [show(k+1)*7=x.enc.length+k*7 by rw [hl];omega]
   simp only [Nat.add_assoc,xq]
theorem AX {w:Sj} {base g n cap k:Nat} {zs:List Ev} (h:w.ownsRow base 72 7 (.slice (some ⟨g,0,none⟩) n cap) n (zs.flatMap Ev.enc))(hn:zs.length=n)(hk:k<n)(y:Ev)(w':Sj)
 (hw:w'=((((((w.setCell ⟨g,k*7,none⟩ (.int .i64 y.id)).setCell ⟨g,k*7+1,none⟩ (.int .i64 y.inn)).setCell ⟨g,k*7+2,none⟩ (.int .i64 y.out)).setCell ⟨g,k*7+3,none⟩ (.string y.region)).setCell ⟨g,k*7+4,none⟩ (.int .u8 y.kind)).setCell ⟨g,k*7+5,none⟩ (.string y.speaker)).setCell ⟨g,k*7+6,none⟩ (.slice y.at_ y.rows.length y.cap)) :
 w'.ownsRow base 72 7 (.slice (some ⟨g,0,none⟩) n cap) n ((zs.set k y).flatMap Ev.enc)∧w.heap.size=w'.heap.size∧∀ b,b≠g→w'.heap[b]? =w.heap[b]?:=by
 subst hw
 refine⟨?_,by simp,fun b hb=>?_⟩
 · rw [lB zs k y (by omega)]
   exact(((((((h.stored _ _).1.stored _ _).1.stored _ _).1.stored _ _).1.stored _ _).1.stored _ _).1.stored _ _).1
 · repeat rw [Sn _ _ _ _ hb]
end Go.Proofs.YtjebaagkomejaaaGreatDoor
