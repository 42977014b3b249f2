/- The contract of document.comments: the first error of the comments of a document. The contract of document.Check: the first error of a document. The contract of diff.Diff. The contract of the reference's Check of documents: the same specification as the program's. The contracts of the reference's put and Events: the IDs of two documents, ascending. The reference's lists of keys, built by insertion, are the program's ones, sorted and compacted. -/
import Derived.Deep.RegionHeld3
import Derived.Deep.DrawnRows
import Derived.Test.YtnlnmbcaongehaaGreatDoorM05
set_option linter.unusedVariables false
set_option linter.unusedSimpArgs false
set_option maxRecDepth 100000
set_option maxHeartbeats 12800000
open Go.Lib renaming hid→h_
open Go renaming World→fm,below_drewN→fp,Value→ft
open Go.RowKit renaming Below→fu
open Go.RowKit.Below renaming refl→fw
open Nat renaming le_refl→fB,add_zero→fC,eq_zero_or_pos→fD
open Go.World renaming size_alloc→fE
open List renaming pairwise_cons→fF,mem_cons→fG,mem_map→fH,getElem?_eq_some_iff→fI,pairwise_mergeSort→fJ,not_lt→fK,mem_of_getElem?→fL,mem_mergeSort→fM,length_cons→fN,lt_irrefl→fO,lt_trans→fP
open Option.some renaming injEq→fQ
open Go.Lib renaming toList_data→fR,compact→fS
namespace Go.Proofs.YtnlnmbcaongehaaGreatDoor
open Go.RowKit
def di (prev:Option Cm)(c:Cm):Bool:=match prev with
 | none=>false
 | some p=>decide (c.id≤p.id)
def dw (last:Int)(f:Int→Option Nat)(evs:List Ev)(prev:Option Cm)(c:Cm):Int :=
 if c.id<1∨last<c.id then 2 else if di prev c=true then 8 else if (f c.id).isSome=true then 7 else if (aW last f evs c != 0)=true then aW last f evs c else
 if cU c.author=false then 5 else if aY c.text=false then 10 else if c.text.toList=[] then 4 else if 400<c.text.size then 9 else 0
def bF (last:Int)(f:Int→Option Nat)(evs:List Ev):Option Cm→List Cm→Int
 | _,[]=>0
 | prev,c::l=>if (dw last f evs prev c != 0)=true then dw last f evs prev c else bF last f evs (some c) l
def dW (last:Int)(f:Int→Option Nat)(evs:List Ev)(cms:List Cm):Int:=if 64<cms.length then 9 else bF last f evs none cms
theorem zfC (last:Int)(f:Int→Option Nat)(evs:List Ev)(xs:List Cm)(k:Nat)(c:Cm)(hx:xs[k]? =some c)(prev:Option Cm)(h:dw last f evs prev c=0):bF last f evs prev (xs.drop k)=bF last f evs (aL xs (k+1)) (xs.drop (k+1)):=by
 rw [aZ xs k c hx,bF,h,if_neg (by decide),aL,hx]
theorem zfB (last:Int)(f:Int→Option Nat)(evs:List Ev)(xs:List Cm)(k:Nat)(c:Cm)(hx:xs[k]? =some c)(prev:Option Cm)(h:(dw last f evs prev c != 0)=true):bF last f evs prev (xs.drop k)=dw last f evs prev c:=by
 rw [aZ xs k c hx,bF,if_pos h]
theorem zjK (last:Int)(f:Int→Option Nat)(evs:List Ev)(prev:Option Cm)(c:Cm)(A:Int)(hA:aW last f evs c=A) :
 (dw last f evs prev c=2∧c.id<1)∨(dw last f evs prev c=2∧1≤c.id∧last<c.id)∨(1≤c.id∧c.id≤last ∧
  ((di prev c=true∧dw last f evs prev c=8)∨(di prev c=false ∧
   (((f c.id).isSome=true∧dw last f evs prev c=7)∨((f c.id).isSome=false ∧
    (((A != 0)=true∧dw last f evs prev c=A)∨(A=0 ∧
     ((cU c.author=false∧dw last f evs prev c=5)∨(cU c.author=true ∧
      ((aY c.text=false∧dw last f evs prev c=10)∨(aY c.text=true ∧
       ((c.text.toList=[]∧dw last f evs prev c=4)∨(¬ c.text.toList=[] ∧
        ((400<c.text.size∧dw last f evs prev c=9)∨(c.text.size≤400∧dw last f evs prev c=0))))))))))))))):=by
 unfold dw
 rw [hA]
 by_cases h1:c.id<1
 · left;simp [h1]
 right
 by_cases h2:last<c.id
 · left;simp [h2];omega
 right
 refine⟨by omega,by omega,?_⟩
 rw [if_neg (by omega)]
 cases h3:di prev c
 · right
   refine⟨rfl,?_⟩
   rw [if_neg (by decide)]
   cases h4:(f c.id).isSome
   · right
     refine⟨rfl,?_⟩
     rw [if_neg (by decide)]
     by_cases h5:A=0
     · right
       refine⟨h5,?_⟩
       subst h5
       rw [if_neg (by decide)]
       cases h6:cU c.author
       · left;simp
       right
       refine⟨rfl,?_⟩
       rw [if_neg (by decide)]
       cases h7:aY c.text
       · left;simp
       right
       refine⟨rfl,?_⟩
       rw [if_neg (by decide)]
       by_cases h8:c.text.toList=[]
       · left;rw [if_pos h8];exact⟨h8,rfl⟩
       right
       refine⟨h8,?_⟩
       rw [if_neg h8]
       by_cases h9:400<c.text.size
       · left;rw [if_pos h9];exact⟨h9,rfl⟩
       · right;rw [if_neg h9];exact⟨by omega,rfl⟩
     · left
       rw [if_pos (by simpa using h5)]
       exact⟨by simpa using h5,rfl⟩
   · left;simp
 · left;simp
theorem zeG (d:Doc)(b:Nat)(f:Int→Option Nat)(w:fm)(hn:64<d.cms.length) :
 Calls Tryz.prog 89 #[.agg d.enc.toArray,.map (some b)] w fun e w'=>e=.returned (.int .i64 (dW d.last f d.evs d.cms))∧fu w.heap.size w w':=by
 rw [dW,if_pos hn]
 obtain⟨title,lang,rate,drop,last,ra,rc,rG,ea,ec,evs,ca,cc,cms⟩:=d
 simp only [Doc.enc]
 simp only at hn
 have hn2:decide ((64:Int)<(cms.length:Int))=true:=by simp;omega
 go_enter Tryz.func89,Tryz.ntmps89
 go_wp2_with fail
 go_ret
 exact⟨rfl,(fw _ _).alloc (fB _) _⟩
theorem zfA (d:Doc)(b n:Nat)(f:Int→Option Nat)(w:fm)(hE:Env w)(hd:d.lies w)(hfd:d.fits)(hM:IMap w b n f)(hf:∀ z i,f z=some i→i<d.evs.length)(hn:d.cms.length≤64) :
 Calls Tryz.prog 89 #[.agg d.enc.toArray,.map (some b)] w fun e w'=>e=.returned (.int .i64 (dW d.last f d.evs d.cms))∧fu w.heap.size w w':=by
 rw [dW,if_neg (by omega)]
 have HAN:=h_ (fun(c:Cm) (w1:fm) (h1:Env w1) (h2:zai w1 d.ea d.evs) (h3:c.fits) (h4:IMap w1 b n f)=>zdH d c b n f w1 h1 h2 hfd.2.2.2.2.2.2.2.1 hfd.2.2.2.2.2.2.2.2.1 h3 h4 hf)
 obtain⟨title,lang,rate,drop,last,ra,rc,rG,ea,ec,evs,ca,cc,cms⟩:=d
 obtain⟨_,hde,hdc⟩:=hd
 obtain⟨_,_,_,_,hi5,_,_,_,_,hfc,_⟩:=hfd
 simp only at hde hdc hfc hn hi5
 simp only [Doc.enc] at HAN ⊢
 generalize hG:bF last f evs none cms=G
 have H0:=h_ (show bF last f evs (aL cms 0) (cms.drop 0)=G by rw [List.drop_zero];exact hG)
 have hn2:decide ((64:Int)<(cms.length:Int))=false:=by simp;omega
 generalize hds:#[ft.string title,.string lang,.int .u8 rate,.bool drop,.int .i64 last,.slice ra rG.length rc,.slice ea evs.length ec,.slice ca cms.length cc]=ds at HAN ⊢
 have f0:=ab w ds 27 0 (.string title) (by rw [←hds];rfl)
 have f1:=ab w ds 27 1 (.string lang) (by rw [←hds];rfl)
 have f2:=ab w ds 27 2 (.int .u8 rate) (by rw [←hds];rfl)
 have f3:=ab w ds 27 3 (.bool drop) (by rw [←hds];rfl)
 have f4:=ab w ds 27 4 (.int .i64 last) (by rw [←hds];rfl)
 have f5:=ab w ds 27 5 (.slice ra rG.length rc) (by rw [←hds];rfl)
 have f6:=ab w ds 27 6 (.slice ea evs.length ec) (by rw [←hds];rfl)
 have f7:=ab w ds 27 7 (.slice ca cms.length cc) (by rw [←hds];rfl)
 have HB:=h_ (fun(w1:fm) (h:fu (w.heap.size+1) (w.alloc (.cells ds 27)) w1)=>aH h)
 have hb0:fu (w.heap.size+1) (w.alloc (.cells ds 27)) (w.alloc (.cells ds 27)):=fw _ _
 have hsz:(w.alloc (.cells ds 27)).heap.size=w.heap.size+1:=fE _ _
 generalize hW0:w.alloc (.cells ds 27)=W0 at *
 have HW0:=h_ hW0
 have HSZ:=h_ hsz
 have HFC:=h_ hfc
 have HM:=h_ hM
 have HDE:=h_ hde
 have HDC:=h_ hdc
 clear hW0 hsz hfc hf hG hM hde hdc
 go_enter Tryz.func89,Tryz.ntmps89
 subst hds
 go_wp2_with fail
 rw [HW0.out]
 go_loopw [17] (fun i wr=>∃ k:Nat,k≤cms.length∧i=.int .i64 k∧bF last f evs (aL cms k) (cms.drop k)=G∧fu (w.heap.size+1) W0 wr) (fun i _=>cms.length-(intOf i).toNat)
 case atStart=>exact⟨0,by omega,rfl,H0.out,hb0⟩
 case round =>
  obtain⟨k,hk,rfl,hp,hb⟩:=hrel
  have hbw:=HB.out _ hb
  by_cases hlt:k<cms.length
  · have hRr:=HDC.out.later hbw
    obtain⟨b',off,c,rfl,hbl,hx,hc,_⟩:=hRr.at_ hlt
    have hft:=HFC.out c (fL hx)
    have hpv:(k=0∧aL cms k=none)∨(∃ y,1≤k∧aL cms k=some y∧∀ w1,fu wr.heap.size wr w1→w1.cell? ⟨b',off+(k-1)*8,none⟩=some (.int .i64 y.id)):=by
     rcases fD k with rfl|hk0
     · exact .inl ⟨rfl,rfl⟩
     · obtain⟨b'',off',y,hab,_,hy,hcy,_⟩:=hRr.at_ (show k-1<cms.length by omega)
       simp only [fQ,Addr.mk.injEq,and_true] at hab
       obtain⟨rfl,rfl⟩:=hab
       refine .inr ⟨y,hk0,?_,fun w1 h=>?_⟩
       · obtain⟨j,rfl⟩:∃ j,k=j+1:=⟨k-1,by omega⟩
         simpa [aL] using hy
       · rw [h.cell (p:=⟨b',off+(k-1)*8,none⟩) hbl]
         exact hcy 0 _ rfl
    have hwsz:=hb.size
    rw [HSZ.out] at hwsz
    have HN:=h_ (zfC last f evs cms k c hx (aL cms k))
    have HS:=h_ (zfB last f evs cms k c hx (aL cms k))
    have HP:=h_ hp
    have hcs:=zjK last f evs (aL cms k) c _ rfl
    have hgx:=fun j v h=>ab wr c.enc.toArray 52 j v h
    have HBW:=h_ (fun w1 (h:fu (wr.heap.size+1) (wr.alloc (.cells c.enc.toArray 52)) w1)=>(hb.alloc hwsz _).trans (h.mono (by omega)))
    have HBR:=h_ (fun w1 (h:fu (wr.heap.size+1) (wr.alloc (.cells c.enc.toArray 52)) w1)=>(((fw wr.heap.size wr).alloc (fB _) _).trans (h.mono (by omega))))
    have hq0:fu (wr.heap.size+1) (wr.alloc (.cells c.enc.toArray 52)) (wr.alloc (.cells c.enc.toArray 52)):=fw _ _
    have hbLit:=hb.alloc hwsz (.cells c.enc.toArray 52)
    have HLK:=h_ ((HM.out.below (HB.out _ (HBW.out _ hq0)) HM.out.lt).look hft.1)
    have HAQ:=h_ (fun w1 (h:fu (wr.heap.size+1) (wr.alloc (.cells c.enc.toArray 52)) w1)=>HAN.out c w1 (hE.below (HB.out _ (HBW.out _ h)) (fB _)) (HDE.out.later (HB.out _ (HBW.out _ h))) hft (HM.out.below (HB.out _ (HBW.out _ h)) HM.out.lt))
    have HVL:=h_ (fun w1 (h:fu (wr.heap.size+1) (wr.alloc (.cells c.enc.toArray 52)) w1)=>dX c.text w1 hft.2.2.2.2.2 (hE.below (HB.out _ (HBW.out _ h)) (fB _)))
    have HNM:=h_ (fun w1=>fe c.author w1 hft.2.2.2.2.1)
    have hft6:=hft.2.2.2.2.2
    generalize dw last f evs (aL cms k) c=E at *
    generalize aW last f evs c=A at *
    generalize aL cms k=pv at *
    obtain⟨id,ev,frm,til,author,text,done,lost⟩:=c
    have d0:=hc 0 _ rfl;have d1:=hc 1 _ rfl;have d2:=hc 2 _ rfl;have d3:=hc 3 _ rfl;have d4:=hc 4 _ rfl;have d5:=hc 5 _ rfl;have d6:=hc 6 _ rfl;have d7:=hc 7 _ rfl
    have g0:=hgx 0 _ rfl;have g1:=hgx 1 _ rfl;have g2:=hgx 2 _ rfl;have g3:=hgx 3 _ rfl;have g4:=hgx 4 _ rfl;have g5:=hgx 5 _ rfl;have g6:=hgx 6 _ rfl;have g7:=hgx 7 _ rfl
    have hid1:=hft.1
    simp only [fC,Cm.enc] at d0 d1 d2 d3 d4 d5 d6 d7 g0 g1 g2 g3 g4 g5 g6 g7 HBW HBR hq0 HLK HAQ HVL HNM hcs hft6 hid1 hbLit
    have hsz1:(wr.alloc (.cells #[.int .i64 id,.int .i64 ev,.int .i64 frm,.int .i64 til,.string author,.string text,.bool done,.bool lost] 52)).heap.size=wr.heap.size+1:=fE _ _
    have HLK0:=HLK
    generalize hW1:wr.alloc (.cells #[.int .i64 id,.int .i64 ev,.int .i64 frm,.int .i64 til,.string author,.string text,.bool done,.bool lost] 52)=W1 at g0 g1 g2 g3 g4 g5 g6 g7 HBW HBR hq0 HAQ HVL hsz1 HLK0
    have HW1:=h_ hW1
    have HSZ1:=h_ hsz1
    have hqq:∀ q,fu (wr.heap.size+1) W1 (W1.drewN q):=fun q=>fp hq0 q
    have hWb:=HBW.out _ hq0
    have hWq:=fun q=>HBW.out _ (hqq q)
    have HT:=h_ (fun(w2 w3:fm) (h:fu (wr.heap.size+1) W1 w2) (h3:fu w2.heap.size w2 w3)=>h.trans (h3.mono (by have:=h.size;rw [HSZ1.out] at this;exact this)))
    have hcell:(pv=none∧decide (0<k)=false)∨(∃ y,1≤k∧pv=some y∧decide (0<k)=true∧(1:Int)≤(k:Int)∧(k:Int)-1<(cms.length:Int)∧IntKind.i64.wrap ((k:Int)-1)=(k:Int)-1∧((k:Int)-1).toNat=k-1∧∀ w1,fu (wr.heap.size+1) W1 w1→w1.cell? ⟨b',off+(k-1)*8,none⟩=some (.int .i64 y.id)):=by
     rcases hpv with⟨h1,h2⟩|⟨y,h1,h2,h3⟩
     · exact .inl ⟨h2,by simp;omega⟩
     · exact .inr ⟨y,h1,h2,by simp;omega,by omega,by omega,IntWalk.i64_in _ (by omega),by omega,fun w1 h=>h3 w1 (HBR.out _ h)⟩
    clear hpv hc hgx hW1 hsz1 H0 hRr hp hx HAN hft HLK0
    rcases hcs with⟨he,h1⟩|⟨he,h1,h2⟩|⟨h1,h2,⟨h3,he⟩|⟨h3,hcs⟩⟩
    · have HEE:=h_ he
      clear he hcell
      go_wp2_with (at_lookup;refine aa _ rfl _ _ _ _ rfl _ _ _ rfl rfl HLK.out ?_)
      rw [HW1.out]
      go_ret
      exact⟨ag (by rw [←HP.out,HS.out (by rw [HEE.out];rfl),HEE.out]),HB.out _ (HBW.out _ hq0)⟩
    · have HEE:=h_ he
      clear he hcell
      go_wp2_with (at_lookup;refine aa _ rfl _ _ _ _ rfl _ _ _ rfl rfl HLK.out ?_)
      rw [HW1.out]
      go_ret
      exact⟨ag (by rw [←HP.out,HS.out (by rw [HEE.out];rfl),HEE.out]),HB.out _ (HBW.out _ hq0)⟩
    · have HEE:=h_ he
      rcases hcell with⟨rfl,hkd⟩|⟨y,hk1,rfl,hkd,hkz,hkl,hwr,hkn,p0⟩
      · simp [di] at h3
      have h3d:decide (id≤y.id)=true:=by simpa [di] using h3
      generalize y.id=yi at *
      clear he h3
      go_wp2_with (at_lookup;refine aa _ rfl _ _ _ _ rfl _ _ _ rfl rfl HLK.out ?_)
      rw [HW1.out]
      go_quiet (fail)
      go_wp2_with fail
      go_ret
      exact⟨ag (by rw [←HP.out,HS.out (by rw [HEE.out];rfl),HEE.out]),HB.out _ (HBW.out _ (hqq _))⟩
    have hprev:(decide (0<k)=false)∨(∃ yi:Int,(decide (id≤yi)=false)∧1≤k∧decide (0<k)=true∧(1:Int)≤(k:Int)∧(k:Int)-1<(cms.length:Int)∧IntKind.i64.wrap ((k:Int)-1)=(k:Int)-1∧((k:Int)-1).toNat=k-1∧∀ w1,fu (wr.heap.size+1) W1 w1→w1.cell? ⟨b',off+(k-1)*8,none⟩=some (.int .i64 yi)):=by
     rcases hcell with⟨rfl,hkd⟩|⟨y,hk1,rfl,hkd,hkz,hkl,hwr,hkn,p0⟩
     · exact .inl hkd
     · exact .inr ⟨y.id,by simpa [di] using h3,hk1,hkd,hkz,hkl,hwr,hkn,p0⟩
    clear hcell h3
    rcases hcs with⟨ht,he⟩|⟨ht,hcs⟩
    · have HEE:=h_ he
      rw [ht] at HLK
      clear he ht
      rcases hprev with hkd|⟨yi,h3d,hk1,hkd,hkz,hkl,hwr,hkn,p0⟩
      all_goals
       go_wp2_with (at_lookup;refine aa _ rfl _ _ _ _ rfl _ _ _ rfl rfl HLK.out ?_)
       rw [HW1.out]
       go_quiet (fail)
       go_wp2_with fail
       go_ret
       exact⟨ag (by rw [←HP.out,HS.out (by rw [HEE.out];rfl),HEE.out]),HB.out _ (hWq _)⟩
    rw [ht] at HLK
    clear ht
    rcases hcs with⟨ha,he⟩|⟨rfl,hcs⟩
    · have HEE:=h_ he
      have HHA:=h_ ha
      clear he
      rcases hprev with hkd|⟨yi,h3d,hk1,hkd,hkz,hkl,hwr,hkn,p0⟩
      all_goals
       go_wp2_with (at_lookup;refine aa _ rfl _ _ _ _ rfl _ _ _ rfl rfl HLK.out ?_)
       rw [HW1.out]
       go_quiet (fail)
       go_wp2_with fail
       refine(HAQ.out _ (hqq _)).mono ?_
       rintro e w2 ⟨rfl,hb2⟩
       have hc2:=HT.out _ _ (hqq _) hb2
       have hd2:=HBW.out _ hc2
       clear hb2
       go_wp2_with fail
       go_ret
       exact⟨ag (by rw [←HP.out,HS.out (by rw [HEE.out];exact HHA.out),HEE.out]),HB.out _ hd2⟩
    rcases hcs with⟨hnm,he⟩|⟨hnm,hcs⟩
    · have HEE:=h_ he
      rw [hnm] at HNM
      clear he hnm
      rcases hprev with hkd|⟨yi,h3d,hk1,hkd,hkz,hkl,hwr,hkn,p0⟩
      all_goals
       go_wp2_with (at_lookup;refine aa _ rfl _ _ _ _ rfl _ _ _ rfl rfl HLK.out ?_)
       rw [HW1.out]
       go_quiet (fail)
       go_wp2_with fail
       refine(HAQ.out _ (hqq _)).mono ?_
       rintro e w2 ⟨rfl,hb2⟩
       have hc2:=HT.out _ _ (hqq _) hb2
       have hd2:=HBW.out _ hc2
       clear hb2
       go_wp2_with fail
       refine(HNM.out _).mono ?_
       rintro e w3 ⟨rfl,rfl⟩
       go_wp2_with fail
       go_ret
       exact⟨ag (by rw [←HP.out,HS.out (by rw [HEE.out];rfl),HEE.out]),HB.out _ hd2⟩
    rw [hnm] at HNM
    clear hnm
    rcases hcs with⟨hv,he⟩|⟨hv,hcs⟩
    · have HEE:=h_ he
      rw [hv] at HVL
      clear he hv
      rcases hprev with hkd|⟨yi,h3d,hk1,hkd,hkz,hkl,hwr,hkn,p0⟩
      all_goals
       go_wp2_with (at_lookup;refine aa _ rfl _ _ _ _ rfl _ _ _ rfl rfl HLK.out ?_)
       rw [HW1.out]
       go_quiet (fail)
       go_wp2_with fail
       refine(HAQ.out _ (hqq _)).mono ?_
       rintro e w2 ⟨rfl,hb2⟩
       have hc2:=HT.out _ _ (hqq _) hb2
       have hd2:=HBW.out _ hc2
       clear hb2
       go_wp2_with fail
       refine(HNM.out _).mono ?_
       rintro e w3 ⟨rfl,rfl⟩
       go_wp2_with fail
       refine(HVL.out _ hc2).mono ?_
       rintro e w4 ⟨rfl,hb4⟩
       have hc4:=HT.out _ _ hc2 hb4
       have hd4:=HBW.out _ hc4
       clear hb4
       go_wp2_with fail
       go_ret
       exact⟨ag (by rw [←HP.out,HS.out (by rw [HEE.out];rfl),HEE.out]),HB.out _ hd4⟩
    rw [hv] at HVL
    clear hv
    rcases hcs with⟨hz,he⟩|⟨hz,⟨hm,he⟩|⟨hm,he⟩⟩
    · have HEE:=h_ he
      have hz2:text.toList.isEmpty=true:=by simpa using hz
      clear he
      rcases hprev with hkd|⟨yi,h3d,hk1,hkd,hkz,hkl,hwr,hkn,p0⟩
      all_goals
       go_wp2_with (at_lookup;refine aa _ rfl _ _ _ _ rfl _ _ _ rfl rfl HLK.out ?_)
       rw [HW1.out]
       go_quiet (fail)
       go_wp2_with fail
       refine(HAQ.out _ (hqq _)).mono ?_
       rintro e w2 ⟨rfl,hb2⟩
       have hc2:=HT.out _ _ (hqq _) hb2
       have hd2:=HBW.out _ hc2
       clear hb2
       go_wp2_with fail
       refine(HNM.out _).mono ?_
       rintro e w3 ⟨rfl,rfl⟩
       go_wp2_with fail
       refine(HVL.out _ hc2).mono ?_
       rintro e w4 ⟨rfl,hb4⟩
       have hc4:=HT.out _ _ hc2 hb4
       have hd4:=HBW.out _ hc4
       clear hb4
       go_wp2_with fail
       go_ret
       exact⟨ag (by rw [←HP.out,HS.out (by rw [HEE.out];rfl),HEE.out]),HB.out _ hd4⟩
    · have HEE:=h_ he
      have hz2:text.toList.isEmpty=false:=by simpa using hz
      clear he
      rcases hprev with hkd|⟨yi,h3d,hk1,hkd,hkz,hkl,hwr,hkn,p0⟩
      all_goals
       go_wp2_with (at_lookup;refine aa _ rfl _ _ _ _ rfl _ _ _ rfl rfl HLK.out ?_)
       rw [HW1.out]
       go_quiet (fail)
       go_wp2_with fail
       refine(HAQ.out _ (hqq _)).mono ?_
       rintro e w2 ⟨rfl,hb2⟩
       have hc2:=HT.out _ _ (hqq _) hb2
       have hd2:=HBW.out _ hc2
       clear hb2
       go_wp2_with fail
       refine(HNM.out _).mono ?_
       rintro e w3 ⟨rfl,rfl⟩
       go_wp2_with fail
       refine(HVL.out _ hc2).mono ?_
       rintro e w4 ⟨rfl,hb4⟩
       have hc4:=HT.out _ _ hc2 hb4
       have hd4:=HBW.out _ hc4
       clear hb4
       go_wp2_with fail
       go_ret
       exact⟨ag (by rw [←HP.out,HS.out (by rw [HEE.out];rfl),HEE.out]),HB.out _ hd4⟩
    · have HEE:=h_ he
      have hz2:text.toList.isEmpty=false:=by simpa using hz
      clear he
      rcases hprev with hkd|⟨yi,h3d,hk1,hkd,hkz,hkl,hwr,hkn,p0⟩
      all_goals
       go_wp2_with (at_lookup;refine aa _ rfl _ _ _ _ rfl _ _ _ rfl rfl HLK.out ?_)
       rw [HW1.out]
       go_quiet (fail)
       go_wp2_with fail
       refine(HAQ.out _ (hqq _)).mono ?_
       rintro e w2 ⟨rfl,hb2⟩
       have hc2:=HT.out _ _ (hqq _) hb2
       have hd2:=HBW.out _ hc2
       clear hb2
       go_wp2_with fail
       refine(HNM.out _).mono ?_
       rintro e w3 ⟨rfl,rfl⟩
       go_wp2_with fail
       refine(HVL.out _ hc2).mono ?_
       rintro e w4 ⟨rfl,hb4⟩
       have hc4:=HT.out _ _ hc2 hb4
       have hd4:=HBW.out _ hc4
       clear hb4
       go_wp2_with fail
       go_roundw
       case rel=>exact⟨k+1,by omega,by go_num,by rw [←HN.out HEE.out];exact HP.out,hd4⟩
       case measure=>simp [intOf];omega
  · obtain rfl:k=cms.length:=by omega
    rw [List.drop_length] at hp
    have HP:=h_ hp
    clear hp H0
    go_wp2_with fail
    go_ret
    exact⟨ag (by rw [←HP.out];cases aL cms cms.length<;>rfl),HB.out _ hb⟩
theorem zdv (d:Doc)(b n:Nat)(f:Int→Option Nat)(w:fm)(hE:Env w)(hd:d.lies w)(hfd:d.fits)(hM:IMap w b n f)(hf:∀ z i,f z=some i→i<d.evs.length) :
 Calls Tryz.prog 89 #[.agg d.enc.toArray,.map (some b)] w fun e w'=>e=.returned (.int .i64 (dW d.last f d.evs d.cms))∧fu w.heap.size w w':=by
 by_cases hn:64<d.cms.length
 · exact zeG d b f w hn
 · exact zfA d b n f w hE hd hfd hM hf (by omega)
def aU (evs:List Ev):Nat→Int→Option Nat
 | 0=>fun _=>none
 | k+1=>fun y=>match evs[k]? with
   | none=>aU evs k y
   | some x=>if y=x.id then some k else aU evs k y
theorem zg7 (evs:List Ev)(k:Nat)(x:Ev)(h:evs[k]? =some x):(fun y=>if y=x.id then some k else aU evs k y)=aU evs (k+1):=by
 funext y
 simp only [aU,h]
theorem zcq (evs:List Ev):∀ k z i,aU evs k z=some i→i<evs.length
 | 0,z,i,h=>by simp [aU] at h
 | k+1,z,i,h=>by
   simp only [aU] at h
   split at h
   · exact zcq evs k z i h
   · rename_i x hx
     split at h
     · obtain rfl:k=i:=by simpa using h
       exact(fI.1 hx).1
     · exact zcq evs k z i h
def eC (prev:Option Ev)(x:Ev):Bool:=match prev with
 | none=>false
 | some p=>!zex p x
def cS (rG:List Reg)(last:Int)(f:Int→Option Nat)(prev:Option Ev)(x:Ev):Int :=
 if (zbv x rG != 0)=true then zbv x rG else if last<x.id then 2 else if eC prev x=true then 8 else if (f x.id).isSome=true then 7 else 0
def zcL (rG:List Reg)(last:Int)(evs:List Ev)(k:Nat):Nat→Int
 | 0=>0
 | n+1=>match evs[k]? with
   | none=>0
   | some x=>if (cS rG last (aU evs k) (aL evs k) x != 0)=true then cS rG last (aU evs k) (aL evs k) x else zcL rG last evs (k+1) n
def bU (rG:List Reg)(last:Int)(evs:List Ev)(cms:List Cm)(k:Nat):Int :=
 if (zcL rG last evs k (evs.length-k) != 0)=true then zcL rG last evs k (evs.length-k) else dW last (aU evs evs.length) evs cms
def aG (d:Doc):Int:=if (ef d.title d.lang d.rate d.drop d.last != 0)=true then ef d.title d.lang d.rate d.drop d.last else
 if (dK d.rG != 0)=true then dK d.rG else if 400<d.evs.length then 9 else bU d.rG d.last d.evs d.cms 0
theorem ze8 (rG:List Reg)(last:Int)(evs:List Ev)(cms:List Cm)(k:Nat)(x:Ev)(h:evs[k]? =some x)(h0:cS rG last (aU evs k) (aL evs k) x=0):bU rG last evs cms k=bU rG last evs cms (k+1):=by
 have hk:k<evs.length:=(fI.1 h).1
 unfold bU
 rw [show evs.length-k=(evs.length-(k+1))+1 by omega,zcL,h]
 simp only [h0]
 rfl
theorem ze7 (rG:List Reg)(last:Int)(evs:List Ev)(cms:List Cm)(k:Nat)(x:Ev)(h:evs[k]? =some x)(E:Int)(h0:cS rG last (aU evs k) (aL evs k) x=E)(hE:(E != 0)=true):bU rG last evs cms k=E:=by
 have hk:k<evs.length:=(fI.1 h).1
 unfold bU
 rw [show evs.length-k=(evs.length-(k+1))+1 by omega,zcL,h]
 simp only [h0,if_pos hE]
theorem zfP (rG:List Reg)(last:Int)(evs:List Ev)(cms:List Cm):bU rG last evs cms evs.length=dW last (aU evs evs.length) evs cms:=by
 unfold bU
 rw [Nat.sub_self]
 rfl
theorem zfy (rG:List Reg)(last:Int)(f:Int→Option Nat)(prev:Option Ev)(x:Ev)(A:Int)(hA:zbv x rG=A) :
 ((A != 0)=true∧cS rG last f prev x=A)∨(A=0∧((last<x.id∧cS rG last f prev x=2)∨(x.id≤last∧((eC prev x=true∧cS rG last f prev x=8)∨(eC prev x=false ∧
  (((f x.id).isSome=true∧cS rG last f prev x=7)∨((f x.id).isSome=false∧cS rG last f prev x=0))))))):=by
 unfold cS
 rw [hA]
 by_cases h0:A=0
 · subst h0
   right
   refine⟨rfl,?_⟩
   rw [if_neg (by decide)]
   by_cases h1:last<x.id
   · left;rw [if_pos h1];exact⟨h1,rfl⟩
   · right
     refine⟨by omega,?_⟩
     rw [if_neg h1]
     cases h2:eC prev x<;>cases h3:(f x.id).isSome<;>simp
 · left
   have h0':(A != 0)=true:=by simpa using h0
   rw [if_pos h0']
   exact⟨h0',rfl⟩
theorem zdJ {ops:Array Oper} {rest:List Oper} {o:Oper} {a:Act} {Q:Exit→Act→fm→Prop} (w:fm)(hg:o.guard=none)(m x v:Operand)(hop:o.op=Op.mapUpdate 154 m x v)
 (b n:Nat) (f:Int→Option Nat) (hM:IMap w b n f) (hm:a.eval m=.map (some b)) (z:Int) (hz:i64 z) (hx:a.eval x=.int .i64 z) (val:Nat) (hv:a.eval v=.int .i64 val) (hi:i64 val) (hn:n<maxLen)
 (hK:∀ w',IMap w' b (n+1) (fun y=>if y=z then some val else f y)→w.grownBy w' (some b)→wpList Tryz.prog ops Q rest (a.put o.dst undef) w'):wpList Tryz.prog ops Q (o::rest) a w:=by
 refine wpList_plain hg fun K' hK'=>?_
 obtain⟨w',hrun,r1,r2⟩:=hM.put hz hn val hi
 unfold Oper.wp
 simp [execOp,hop,hm,hx,hv,hrun,Result.andThen]
 exact hK' _ _ (hK w' r1 r2)
theorem IMap.drewN {w:fm} {b n:Nat} {f:Int→Option Nat} (h:IMap w b n f)(q:Nat):IMap (w.drewN q) b n f:=h.below (fp (fw w.heap.size _) q) h.lt
def zkY (evs:List Ev)(B:Nat)(W0:fm)(mb k:Nat)(wr:fm):Prop:=IMap wr mb k (aU evs k)∧fu B W0 wr
theorem cK (d:Doc)(w:fm)(hE:Env w)(hd:d.lies w)(hfd:d.fits) :
 Calls Tryz.prog 30 #[.agg d.enc.toArray] w fun e w'=>e=.returned (.int .i64 (aG d))∧fu w.heap.size w w':=by
 have HCM:=h_ (fun(b:Nat) (w1:fm) (h1:Env w1) (h2:d.lies w1) (h4:IMap w1 b d.evs.length (aU d.evs d.evs.length))=>zdv d b _ _ w1 h1 h2 hfd h4 (zcq d.evs d.evs.length))
 have HLIE:=h_ hd
 have HHD:=h_ (fun(w1:fm) (h1:Env w1)=>zfr d.title d.lang d.rate d.drop d.last d.ra d.ea d.ca d.rG.length d.evs.length d.cms.length d.rc d.ec d.cc w1 h1 hfd.1 hfd.2.1 hfd.2.2.1 hfd.2.2.2.1)
 have HLS:=h_ (fun(w1:fm) (h1:Regs w1 d.ra d.rG)=>zhx d.ra d.rc d.rG w1 h1 hfd.2.2.2.2.2.1)
 have HCK0:=h_ (fun(x:Ev) (w1:fm) (h1:Env w1) (h2:x.lies w1) (h3:x.fits) (h4:Regs w1 d.ra d.rG)=>zaZ x d.ra d.rc d.rG w1 h1 h2 h3 h4 hfd.2.2.2.2.2.1 hfd.2.2.2.2.2.2.1)
 obtain⟨_,_,_,_,hi5,hfr,hlr,hfe,hle,_,_⟩:=hfd
 generalize hG:aG d=G
 unfold aG at hG
 obtain⟨title,lang,rate,drop,last,ra,rc,rG,ea,ec,evs,ca,cc,cms⟩:=d
 obtain⟨hdr,hde,_⟩:=hd
 simp only at hde hdr hi5 hfr hlr hfe hle hG
 simp only [Doc.enc] at HCM HHD HLS HCK0 ⊢
 have HCME:=h_ (zfP rG last evs cms)
 generalize hHE:ef title lang rate drop last=HE at *
 generalize hLE:dK rG=LE at *
 generalize hds:#[ft.string title,.string lang,.int .u8 rate,.bool drop,.int .i64 last,.slice ra rG.length rc,.slice ea evs.length ec,.slice ca cms.length cc]=ds at HCM HHD ⊢
 have f0:=ab w ds 27 0 (.string title) (by rw [←hds];rfl)
 have f1:=ab w ds 27 1 (.string lang) (by rw [←hds];rfl)
 have f2:=ab w ds 27 2 (.int .u8 rate) (by rw [←hds];rfl)
 have f3:=ab w ds 27 3 (.bool drop) (by rw [←hds];rfl)
 have f4:=ab w ds 27 4 (.int .i64 last) (by rw [←hds];rfl)
 have f5:=ab w ds 27 5 (.slice ra rG.length rc) (by rw [←hds];rfl)
 have f6:=ab w ds 27 6 (.slice ea evs.length ec) (by rw [←hds];rfl)
 have f7:=ab w ds 27 7 (.slice ca cms.length cc) (by rw [←hds];rfl)
 have HB:=h_ (fun(w1:fm) (h:fu (w.heap.size+1) (w.alloc (.cells ds 27)) w1)=>aH h)
 have hb0:fu (w.heap.size+1) (w.alloc (.cells ds 27)) (w.alloc (.cells ds 27)):=fw _ _
 have hsz:(w.alloc (.cells ds 27)).heap.size=w.heap.size+1:=fE _ _
 generalize hW0:w.alloc (.cells ds 27)=W0 at *
 have HW0:=h_ hW0
 have HSZ:=h_ hsz
 have HT0:=h_ (fun(w2 w3:fm) (h:fu (w.heap.size+1) W0 w2) (h3:fu w2.heap.size w2 w3)=>h.trans (h3.mono (by have:=h.size;rw [hsz] at this;exact this)))
 have HFE:=h_ hfe
 have HDE:=h_ hde
 have HDR:=h_ hdr
 have HG:=h_ hG
 have hmm:=@run_makeMap Tryz.prog
 clear hW0 hsz hfe hG hde hdr hHE hLE hfr
 rcases(show(HE != 0)=true∨(HE=0∧((LE != 0)=true∨(LE=0∧(400<evs.length∨evs.length≤400)))) by
  by_cases h1:HE=0<;>by_cases h2:LE=0<;>simp [h1,h2]<;>omega) with h1|⟨rfl,h2|⟨rfl,h3⟩⟩
 · have HV:=h_ (show HE=G by rw [←HG.out,if_pos h1])
   have H1:=h_ h1
   clear HG h1
   have h1:=H1.out
   go_enter Tryz.func30,Tryz.ntmps30
   subst hds
   go_wp2_with fail
   rw [HW0.out]
   refine(HHD.out _ (hE.below (HB.out _ hb0) (fB _))).mono ?_
   rintro e w1 ⟨rfl,hb1⟩
   have hc1:=HT0.out _ _ hb0 hb1
   go_wp2_with fail
   go_ret
   exact⟨ag HV.out,HB.out _ hc1⟩
 · have HV:=h_ (show LE=G by rw [←HG.out,if_neg (by decide),if_pos h2])
   clear HG
   go_enter Tryz.func30,Tryz.ntmps30
   subst hds
   go_wp2_with fail
   rw [HW0.out]
   refine(HHD.out _ (hE.below (HB.out _ hb0) (fB _))).mono ?_
   rintro e w1 ⟨rfl,hb1⟩
   have hc1:=HT0.out _ _ hb0 hb1
   clear hb1
   go_wp2_with fail
   refine(HLS.out _ (HDR.out.later (HB.out _ hc1))).mono ?_
   rintro e w2 ⟨rfl,hb2⟩
   have hc2:=HT0.out _ _ hc1 hb2
   clear hb2
   go_wp2_with fail
   go_ret
   exact⟨ag HV.out,HB.out _ hc2⟩
 · rcases h3 with h3|h3
   all_goals
    go_enter Tryz.func30,Tryz.ntmps30
    subst hds
    go_wp2_with fail
    rw [HW0.out]
    refine(HHD.out _ (hE.below (HB.out _ hb0) (fB _))).mono ?_
    rintro e w1 ⟨rfl,hb1⟩
    have hc1:=HT0.out _ _ hb0 hb1
    clear hb1
    go_wp2_with fail
    refine(HLS.out _ (HDR.out.later (HB.out _ hc1))).mono ?_
    rintro e w2 ⟨rfl,hb2⟩
    have hc2:=HT0.out _ _ hc1 hb2
    clear hb2
   · have HV:=h_ (show 9=G by rw [←HG.out,if_neg (by decide),if_neg (by decide),if_pos h3])
     have h3d:decide ((400:Int)<(evs.length:Int))=true:=by simp;omega
     go_wp2_with fail
     go_ret
     exact⟨ag HV.out,HB.out _ hc2⟩
   · have h3d:decide ((400:Int)<(evs.length:Int))=false:=by simp;omega
     have HV:=h_ (show bU rG last evs cms 0=G by rw [←HG.out,if_neg (by decide),if_neg (by decide),if_neg (by omega)])
     have hz2:=hc2.size
     rw [HSZ.out] at hz2
     have hbm:fu (w.heap.size+1) W0 (w2.alloc (.map #[] 0)):=hc2.alloc hz2 _
     have hm0:=h_ (IMap.made w2)
     clear HG HHD HLS
     go_wp2_with fail
     generalize w2.heap.size=mb at *
     go_loopw [30] (fun i wr=>∃ k:Nat,k≤evs.length∧i=.int .i64 k∧bU rG last evs cms k=G∧zkY evs (w.heap.size+1) W0 mb k wr) (fun i _=>evs.length-(intOf i).toNat)
     case atStart=>exact⟨0,by omega,rfl,HV.out,hm0.out,hbm⟩
     case round =>
      obtain⟨k,hk,rfl,hp,hM,hb⟩:=hrel
      have hbw:=HB.out _ hb
      clear hbm hm0 HV hc1 hc2 hmm
      by_cases hlt:k<evs.length
      · obtain⟨b,off,x,rfl,hbl,hx,hc,hok⟩:=(HDE.out.later hbw).at_ hlt
        have hft:=HFE.out x (fL hx)
        have hRr:=HDE.out.later hbw
        have hpv:(k=0∧aL evs k=none)∨(∃ y:Ev,1≤k∧aL evs k=some y∧∀ j v,y.enc[j]? =some v→∀ w1,fu wr.heap.size wr w1→w1.cell? ⟨b,off+(k-1)*7+j,none⟩=some v):=by
         rcases fD k with rfl|hk0
         · exact .inl ⟨rfl,rfl⟩
         · obtain⟨b'',off',y,hab,_,hy,hcy,_⟩:=hRr.at_ (show k-1<evs.length by omega)
           simp only [fQ,Addr.mk.injEq,and_true] at hab
           obtain⟨rfl,rfl⟩:=hab
           refine .inr ⟨y,hk0,?_,fun j v hv w1 h=>?_⟩
           · obtain⟨j,rfl⟩:∃ j,k=j+1:=⟨k-1,by omega⟩
             simpa [aL] using hy
           · rw [h.cell (p:=⟨b,off+(k-1)*7+j,none⟩) hbl]
             exact hcy j v hv
        have hwsz:=hb.size
        rw [HSZ.out] at hwsz
        have HN:=h_ (ze8 rG last evs cms k x hx)
        have HS:=h_ (ze7 rG last evs cms k x hx)
        have HPT:=h_ (zg7 evs k x hx)
        have HP:=h_ hp
        have hcs:=zfy rG last (aU evs k) (aL evs k) x _ rfl
        have hgx:=fun j v h=>ab wr x.enc.toArray 50 j v h
        have HBW:=h_ (fun w1 (h:fu (wr.heap.size+1) (wr.alloc (.cells x.enc.toArray 50)) w1)=>(hb.alloc hwsz _).trans (h.mono (by omega)))
        have HBR:=h_ (fun w1 (h:fu (wr.heap.size+1) (wr.alloc (.cells x.enc.toArray 50)) w1)=>(((fw wr.heap.size wr).alloc (fB _) _).trans (h.mono (by omega))))
        have hq0:fu (wr.heap.size+1) (wr.alloc (.cells x.enc.toArray 50)) (wr.alloc (.cells x.enc.toArray 50)):=fw _ _
        have hbLit:=hb.alloc hwsz (.cells x.enc.toArray 50)
        have HMM:=h_ (fun w1 (h:fu (wr.heap.size+1) (wr.alloc (.cells x.enc.toArray 50)) w1)=>hM.below (HBR.out _ h) hM.lt)
        have HLK:=h_ (fun w1 (h:fu (wr.heap.size+1) (wr.alloc (.cells x.enc.toArray 50)) w1)=>(HMM.out w1 h).look hft.1)
        have HCK:=h_ (fun w1 (h:fu (wr.heap.size+1) (wr.alloc (.cells x.enc.toArray 50)) w1)=>HCK0.out x w1 (hE.below (HB.out _ (HBW.out _ h)) (fB _)) (Ev.keeps _ _ _ (HBR.out _ h) hok) hft (HDR.out.later (HB.out _ (HBW.out _ h))))
        have HLE0:=h_ (fun(y:Ev) w1=>zhy y x w1)
        have HID:=h_ hft.1
        have hmlt:=hM.lt
        have hLT:∀ y,eC (some y) x=!zex y x:=fun y=>rfl
        have hLN:eC none x=false:=rfl
        generalize aL evs k=pv at *
        generalize hEE0:cS rG last (aU evs k) pv x=E at *
        generalize zbv x rG=A at *
        generalize hLT0:eC pv x=LT at *
        obtain⟨xid,xin,xout,xreg,xkind,xsp,xa,xc,xrows⟩:=x
        have d0:=hc 0 _ rfl;have d1:=hc 1 _ rfl;have d2:=hc 2 _ rfl;have d3:=hc 3 _ rfl;have d4:=hc 4 _ rfl;have d5:=hc 5 _ rfl;have d6:=hc 6 _ rfl
        have g0:=hgx 0 _ rfl;have g1:=hgx 1 _ rfl;have g2:=hgx 2 _ rfl;have g3:=hgx 3 _ rfl;have g4:=hgx 4 _ rfl;have g5:=hgx 5 _ rfl;have g6:=hgx 6 _ rfl
        simp only [fC,Ev.enc] at d0 d1 d2 d3 d4 d5 d6 g0 g1 g2 g3 g4 g5 g6 HBW HBR hq0 HLK HCK hcs HLE0 HID hbLit HMM HPT
        have hsz1:(wr.alloc (.cells #[.int .i64 xid,.int .i64 xin,.int .i64 xout,.string xreg,.int .u8 xkind,.string xsp,.slice xa xrows.length xc] 50)).heap.size=wr.heap.size+1:=fE _ _
        generalize hW1:wr.alloc (.cells #[.int .i64 xid,.int .i64 xin,.int .i64 xout,.string xreg,.int .u8 xkind,.string xsp,.slice xa xrows.length xc] 50)=W1 at g0 g1 g2 g3 g4 g5 g6 HBW HBR hq0 HLK HCK hsz1 HMM
        have HW1:=h_ hW1
        have HSZ1:=h_ hsz1
        have hWb:=HBW.out _ hq0
        have HT:=h_ (fun(w2 w3:fm) (h:fu (wr.heap.size+1) W1 w2) (h3:fu w2.heap.size w2 w3)=>h.trans (h3.mono (by have:=h.size;rw [HSZ1.out] at this;exact this)))
        have hprev:(LT=false∧decide (0<k)=false)∨(∃ y:Ev,LT=(!zex y ⟨xid,xin,xout,xreg,xkind,xsp,xa,xc,xrows⟩)∧1≤k∧decide (0<k)=true∧(1:Int)≤(k:Int)∧(k:Int)-1<(evs.length:Int)∧IntKind.i64.wrap ((k:Int)-1)=(k:Int)-1∧((k:Int)-1).toNat=k-1∧∀ j v,y.enc[j]? =some v→∀ w1,fu (wr.heap.size+1) W1 w1→w1.cell? ⟨b,off+(k-1)*7+j,none⟩=some v):=by
         rcases hpv with⟨h1,rfl⟩|⟨y,h1,rfl,h3⟩
         · exact .inl ⟨hLT0.symm.trans hLN,by simp;omega⟩
         · exact .inr ⟨y,hLT0.symm.trans (hLT y),h1,by simp;omega,by omega,by omega,IntWalk.i64_in _ (by omega),by omega,fun j v hv w1 h=>h3 j v hv w1 (HBR.out _ h)⟩
        clear hEE0
        clear hpv hc hgx hW1 hsz1 hRr hp hx hft hok hLT hLN hLT0 HCME HCM hM
        rcases hcs with⟨hA,he⟩|⟨rfl,hcs⟩
        · have HEE:=h_ he
          clear he hprev
          have HAA:=h_ hA
          go_wp2_with fail
          rw [HW1.out]
          refine(HCK.out _ hq0).mono ?_
          rintro e w3 ⟨rfl,hb3⟩
          have hc3:=HT.out _ _ hq0 hb3
          have hd3:=HBW.out _ hc3
          have hr3:=HBR.out _ hc3
          clear hb3
          go_wp2_with fail
          go_ret
          exact⟨ag (by rw [←HP.out,HS.out _ HEE.out HAA.out]),HB.out _ hd3⟩
        rcases hcs with⟨h1,he⟩|⟨h1,hcs⟩
        · have HEE:=h_ he
          clear he hprev
          go_wp2_with fail
          rw [HW1.out]
          refine(HCK.out _ hq0).mono ?_
          rintro e w3 ⟨rfl,hb3⟩
          have hc3:=HT.out _ _ hq0 hb3
          have hd3:=HBW.out _ hc3
          have hr3:=HBR.out _ hc3
          clear hb3
          go_wp2_with (at_lookup;refine aa _ rfl _ _ _ _ rfl _ _ _ rfl rfl (HLK.out _ hc3) ?_)
          go_ret
          exact⟨ag (by rw [←HP.out,HS.out _ HEE.out rfl]),HB.out _ hd3⟩
        rcases hprev with⟨rfl,hkd⟩|⟨y,hly,hk1,hkd,hkz,hkl,hwr,hkn,hpy⟩
        · rcases hcs with⟨h2,he⟩|⟨_,⟨ht,he⟩|⟨ht,he⟩⟩
          · cases h2
          · have HEE:=h_ he
            rw [ht] at HLK
            clear he ht
            go_wp2_with fail
            rw [HW1.out]
            refine(HCK.out _ hq0).mono ?_
            rintro e w3 ⟨rfl,hb3⟩
            have hc3:=HT.out _ _ hq0 hb3
            have hd3:=HBW.out _ hc3
            have hr3:=HBR.out _ hc3
            clear hb3
            go_wp2_with (at_lookup;refine aa _ rfl _ _ _ _ rfl _ _ _ rfl rfl (HLK.out _ hc3) ?_)
            go_quiet (fail)
            go_wp2_with fail
            go_ret
            exact⟨ag (by rw [←HP.out,HS.out _ HEE.out rfl]),HB.out _ (fp hd3 _)⟩
          · have HEE:=h_ he
            rw [ht] at HLK
            clear he ht
            go_wp2_with fail
            rw [HW1.out]
            refine(HCK.out _ hq0).mono ?_
            rintro e w3 ⟨rfl,hb3⟩
            have hc3:=HT.out _ _ hq0 hb3
            have hd3:=HBW.out _ hc3
            have hr3:=HBR.out _ hc3
            clear hb3
            go_wp2_with (at_lookup;refine aa _ rfl _ _ _ _ rfl _ _ _ rfl rfl (HLK.out _ hc3) ?_)
            have HM3:=h_ (fun q=>(HMM.out _ hc3).drewN q)
            go_quiet (fail)
            go_wp2_with (at_mapUpdate;refine zdJ _ rfl _ _ _ rfl mb k _ (HM3.out _) rfl xid HID.out rfl k rfl (by constructor<;>omega) (by unfold maxLen;omega) ?_;intro w5 hM5 hg5)
            have hM6:=hM5
            rw [HPT.out] at hM6
            have hb6:=(fp hd3 _).grown hg5 (by have:=hd3.size;rw [HSZ.out] at this;simp;omega) (fun j hj=>by simp at hj;omega)
            clear hM5 hg5
            go_wp2_with fail
            go_roundw
            case rel=>exact⟨k+1,by omega,by go_num,by rw [←HN.out HEE.out];exact HP.out,hM6,hb6⟩
            case measure=>simp [intOf];omega
        · have HPY:=h_ hpy
          have HLE:=h_ (fun w1=>HLE0.out y w1)
          obtain⟨yid,yin,yout,yreg,ykind,ysp,ya,yc,yrows⟩:=y
          simp only [Ev.enc] at HPY HLE
          clear hpy HLE0
          generalize zex ⟨yid,yin,yout,yreg,ykind,ysp,ya,yc,yrows⟩ ⟨xid,xin,xout,xreg,xkind,xsp,xa,xc,xrows⟩=LS at *
          subst hly
          rcases hcs with⟨h2,he⟩|⟨h2,⟨ht,he⟩|⟨ht,he⟩⟩
          · have HEE:=h_ he
            obtain rfl:LS=false:=by simpa using h2
            clear he h2
            go_wp2_with fail
            rw [HW1.out]
            refine(HCK.out _ hq0).mono ?_
            rintro e w3 ⟨rfl,hb3⟩
            have hc3:=HT.out _ _ hq0 hb3
            have hd3:=HBW.out _ hc3
            have hr3:=HBR.out _ hc3
            clear hb3
            go_wp2_with (at_lookup;refine aa _ rfl _ _ _ _ rfl _ _ _ rfl rfl (HLK.out _ hc3) ?_)
            have hc3d:fu (wr.heap.size+1) W1 w3.drew:=hc3.drew
            have hd3d:fu (w.heap.size+1) W0 w3.drew:=hd3.drew
            have p0:=HPY.out 0 _ rfl;have p1:=HPY.out 1 _ rfl;have p2:=HPY.out 2 _ rfl;have p3:=HPY.out 3 _ rfl;have p4:=HPY.out 4 _ rfl;have p5:=HPY.out 5 _ rfl;have p6:=HPY.out 6 _ rfl
            simp only [fC] at p0
            go_region_with (go_at_call 88;refine(HLE.out _).mono ?_;rintro e w4 ⟨rfl,hb4⟩;have hc4:=HT.out _ _ hc3d hb4;have hd4:=HBW.out _ hc4;clear hb4)
            all_goals
             go_wp2_with fail
             go_ret
             exact⟨ag (by rw [←HP.out,HS.out _ HEE.out rfl]),HB.out _ hd4⟩
          · have HEE:=h_ he
            obtain rfl:LS=true:=by simpa using h2
            rw [ht] at HLK
            clear he h2 ht
            go_wp2_with fail
            rw [HW1.out]
            refine(HCK.out _ hq0).mono ?_
            rintro e w3 ⟨rfl,hb3⟩
            have hc3:=HT.out _ _ hq0 hb3
            have hd3:=HBW.out _ hc3
            have hr3:=HBR.out _ hc3
            clear hb3
            go_wp2_with (at_lookup;refine aa _ rfl _ _ _ _ rfl _ _ _ rfl rfl (HLK.out _ hc3) ?_)
            have hc3d:fu (wr.heap.size+1) W1 w3.drew:=hc3.drew
            have hd3d:fu (w.heap.size+1) W0 w3.drew:=hd3.drew
            have p0:=HPY.out 0 _ rfl;have p1:=HPY.out 1 _ rfl;have p2:=HPY.out 2 _ rfl;have p3:=HPY.out 3 _ rfl;have p4:=HPY.out 4 _ rfl;have p5:=HPY.out 5 _ rfl;have p6:=HPY.out 6 _ rfl
            simp only [fC] at p0
            go_region_with (go_at_call 88;refine(HLE.out _).mono ?_;rintro e w4 ⟨rfl,hb4⟩;have hc4:=HT.out _ _ hc3d hb4;have hd4:=HBW.out _ hc4;clear hb4)
            all_goals
             go_wp2_with fail
             go_ret
             exact⟨ag (by rw [←HP.out,HS.out _ HEE.out rfl]),HB.out _ hd4⟩
          · have HEE:=h_ he
            obtain rfl:LS=true:=by simpa using h2
            rw [ht] at HLK
            clear he h2 ht
            go_wp2_with fail
            rw [HW1.out]
            refine(HCK.out _ hq0).mono ?_
            rintro e w3 ⟨rfl,hb3⟩
            have hc3:=HT.out _ _ hq0 hb3
            have hd3:=HBW.out _ hc3
            have hr3:=HBR.out _ hc3
            clear hb3
            go_wp2_with (at_lookup;refine aa _ rfl _ _ _ _ rfl _ _ _ rfl rfl (HLK.out _ hc3) ?_)
            have hc3d:fu (wr.heap.size+1) W1 w3.drew:=hc3.drew
            have hd3d:fu (w.heap.size+1) W0 w3.drew:=hd3.drew
            have p0:=HPY.out 0 _ rfl;have p1:=HPY.out 1 _ rfl;have p2:=HPY.out 2 _ rfl;have p3:=HPY.out 3 _ rfl;have p4:=HPY.out 4 _ rfl;have p5:=HPY.out 5 _ rfl;have p6:=HPY.out 6 _ rfl
            simp only [fC] at p0
            go_region_with (go_at_call 88;refine(HLE.out _).mono ?_;rintro e w4 ⟨rfl,hb4⟩;have hc4:=HT.out _ _ hc3d hb4;have hd4:=HBW.out _ hc4;clear hb4)
            all_goals
             go_wp2_with (at_mapUpdate;refine zdJ _ rfl _ _ _ rfl mb k _ (HMM.out _ hc4) rfl xid HID.out rfl k rfl (by constructor<;>omega) (by unfold maxLen;omega) ?_;intro w5 hM5 hg5)
             have hM6:=hM5
             rw [HPT.out] at hM6
             have hb6:=hd4.grown hg5 (by have:=hd4.size;rw [HSZ.out] at this;omega) (fun j hj=>by simp at hj;omega)
             clear hM5 hg5
             go_wp2_with fail
             go_roundw
             case rel=>exact⟨k+1,by omega,by go_num,by rw [←HN.out HEE.out];exact HP.out,hM6,hb6⟩
             case measure=>simp [intOf];omega
      · obtain rfl:k=evs.length:=by omega
        rw [HCME.out] at hp
        have HC:=HCM.out mb wr (hE.below hbw (fB _)) (Doc.later HLIE.out hbw) hM
        rw [hp] at HC
        have HCC:=h_ HC
        clear hp HC HCM
        go_wp2_with fail
        refine HCC.out.mono ?_
        rintro e w5 ⟨rfl,hb5⟩
        have hc5:=HT0.out _ _ hb hb5
        go_wp2_with fail
        go_ret
        exact⟨rfl,HB.out _ hc5⟩
end Go.Proofs.YtnlnmbcaongehaaGreatDoor
namespace Go.Proofs.YtnlnmbcaongehaaGreatDoor
open Go.RowKit
attribute [local go_sem ↓] Go.wp_at_zero Go.wp_at_succ
def zkT (a b:Doc)(ks:List ByteArray)(es cs:List Int):List ChgC:=zkt a.hd b.hd++(ks.flatMap (zkU a.rG b.rG)++(es.flatMap (zlb a.evs b.evs)++cs.flatMap (zlc a.cms b.cms)))
def zej (a b:Doc):List ByteArray:=(fS (eG ((a.rG++b.rG).map (fun x:Reg=>x.name.data.toList)))).map (fun l=>⟨l.toArray⟩)
def zkN (a b:Doc):List Int:=fS (bo ((a.evs++b.evs).map (fun x:Ev=>x.id)))
def zkS (a b:Doc):List Int:=fS (bo ((a.cms++b.cms).map (fun x:Cm=>x.id)))
def chgs (a b:Doc):List ChgC:=zkT a b (zej a b) (zkN a b) (zkS a b)
def zgZ (a b:Doc)(w:fm)(e:Ending)(w':fm):Prop :=
 if aG a≠0 then e=.returned (.tuple #[.slice none 0 0,.int .i64 (aG a)])∧fu w.heap.size w w'
 else if aG b≠0 then e=.returned (.tuple #[.slice none 0 0,.int .i64 (aG b)])∧fu w.heap.size w w'
 else ∃ v xs,e=.returned (.tuple #[v,.int .i64 0])∧zje w.heap.size w v xs w'∧xs.map Chg.c=chgs a b
end Go.Proofs.YtnlnmbcaongehaaGreatDoor
namespace Go.Proofs.YtnlnmbcaongehaaGreatDoor
open Go.RowKit
def Dis (evs:List Ev)(k:Nat):Prop:=∀ j x,j<k→evs[j]? =some x→(aU evs j x.id).isSome=false
theorem Dis.step {evs:List Ev} {k:Nat} {x:Ev} (h:Dis evs k)(hx:evs[k]? =some x)(hs:(aU evs k x.id).isSome=false):Dis evs (k+1):=by
 intro j y hj hy
 by_cases hk:j=k
 · subst hk
   obtain rfl:x=y:=Option.some.inj (hx.symm.trans hy)
   exact hs
 · exact h j y (by omega) hy
theorem Ints.cells {w:fm} {b off:Nat} {zs:List Int} (h:Ints w (some ⟨b,off,none⟩) zs):∀ (j:Nat)(u:ft),(zs.map (ft.int .i64))[j]? =some u→w.cell? ⟨b,off+j,none⟩=some u:=by
 intro j u hu
 rw [List.getElem?_map] at hu
 obtain⟨z,hz,rfl⟩:=Option.map_eq_some_iff.1 hu
 rcases h with rfl|⟨b',off',he,_,hcc⟩
 · simp at hz
 · simp only [fQ,Addr.mk.injEq,and_true] at he
   obtain⟨rfl,rfl⟩:=he
   have:=(hcc j z hz).1 0 _ rfl
   rw [show off+j*1+0=off+j by omega] at this
   exact this
def zgo (w:fm)(v:ft)(zs:List Int):Prop:=(v=.slice none 0 0∧zs=[])∨∃ b off cap,v=.slice (some ⟨b,off,none⟩) zs.length cap∧b<w.heap.size∧zs.length≤cap∧cap≤9223372036854775807∧Ints w (some ⟨b,off,none⟩) zs
theorem zgo.later {w w':fm} {v:ft} {zs:List Int} (h:zgo w v zs)(hb:fu w.heap.size w w'):zgo w' v zs:=by
 rcases h with h|⟨b,off,cap,h1,h2,h3,h5,h4⟩
 · exact .inl h
 · exact .inr ⟨b,off,cap,h1,Nat.lt_of_lt_of_le h2 hb.size,h3,h5,h4.later hb⟩
theorem zgo.of_owns {w:fm} {base:Nat} {v:ft} {zs:List Int} (h:w.ownsRow base 2 1 v zs.length (zs.map (ft.int .i64))):zgo w v zs:=by
 have h':=h
 rcases h.2 with⟨rfl,h0⟩|⟨g,cap,cur,rfl,hb,hg,hc,hm,_⟩
 · exact .inl ⟨rfl,List.eq_nil_of_length_eq_zero h0⟩
 · obtain⟨a,c,he,hI⟩:=Ints.of_owns h'
   simp only [ft.slice.injEq] at he
   obtain⟨rfl,_,rfl⟩:=he
   exact .inr ⟨g,0,cap,rfl,(Array.getElem?_eq_some_iff.1 hg).1,hc,by simp only [maxLen] at hm;omega,hI⟩
def zjd (B:Nat)(w:fm)(v:ft)(zs:List Int):Prop:=zgo w v zs∧∀ b,v.ownBlock=some b→B≤b
theorem zjd.later {B:Nat} {w w':fm} {v:ft} {zs:List Int} (h:zjd B w v zs)(hb:fu w.heap.size w w'):zjd B w' v zs:=⟨h.1.later hb,h.2⟩
theorem zjd.of_owns {w:fm} {B base:Nat} {v:ft} {zs:List Int} (hB:B≤base)(h:w.ownsRow base 2 1 v zs.length (zs.map (ft.int .i64))):zjd B w v zs:=⟨zgo.of_owns h,fun b hb=>Nat.le_trans hB (h.lt b hb).1⟩
theorem c9 (zs:List Int):(fS (bo zs)).Pairwise (·<·)∧∀ x,x∈fS (bo zs)↔x∈zs:=by
 have hs:(bo zs).Pairwise (·≤·):=by
  have:=fJ (le:=fun x y:Int=>decide (x≤y)) (fun a b c h1 h2=>by simp at *;omega) (fun a b=>by simp;omega) zs
  exact this.imp fun h=>by simpa using h
 obtain⟨h1,h2⟩:=zao (α:=Int) (·≤·) (·<·) (fun a b h hn=>by omega) (fun a b c h h'=>by omega) (bo zs) hs
 refine⟨h1,fun x=>?_⟩
 rw [h2]
 exact fM
def putS:List ByteArray→ByteArray→List ByteArray
 | [],s=>[s]
 | z::l,s=>if Op.bytesLess z.toList s.toList=true then z::putS l s else if (z.toList==s.toList)=true then z::l else s::z::l
def cF:List ByteArray→List Reg→List ByteArray
 | zs,[]=>zs
 | zs,x::l=>cF (putS zs x.name) l
theorem eF {a b:ByteArray} (h:a.toList=b.toList):a=b:=by
 rw [fR,fR] at h
 cases a;cases b
 congr 1
 exact Array.toList_inj.1 h
theorem zhT (a b:ByteArray):Op.bytesLess a.toList b.toList=true↔a.data.toList<b.data.toList:=by
 rw [bytesLess_eq,fR,fR]
 simp
theorem zgx (s:ByteArray):∀ zs:List ByteArray,zs.length≤(putS zs s).length∧(putS zs s).length≤zs.length+1
 | []=>by simp [putS]
 | z::l=>by
   have:=zgx s l
   unfold putS
   repeat' split
   all_goals simp only [fN];omega
def baLt (a b:ByteArray):Prop:=a.data.toList<b.data.toList
theorem zem (s x:ByteArray):∀ zs:List ByteArray,x∈putS zs s↔x=s∨x∈zs
 | []=>by simp [putS]
 | z::l=>by
   have ih:=zem s x l
   unfold putS
   split
   · rw [fG,ih,fG]
     constructor
     · rintro (h|h|h)
       · exact .inr (.inl h)
       · exact .inl h
       · exact .inr (.inr h)
     · rintro (h|h|h)
       · exact .inr (.inl h)
       · exact .inl h
       · exact .inr (.inr h)
   · split
     · rename_i h
       have h:=eF (by simpa using h)
       subst h
       rw [fG]
       constructor
       · exact fun h=>.inr h
       · rintro (h|h)
         · exact .inl h
         · exact h
     · rw [fG]
theorem zeI {a b:List UInt8} (h1:¬ a<b)(h2:¬ a=b):b<a:=by
 rcases Classical.em (b<a) with h|h
 · exact h
 · exact absurd (List.le_antisymm (fK.1 h) (fK.1 h1)) h2
theorem zgy (s:ByteArray):∀ zs:List ByteArray,zs.Pairwise baLt→(putS zs s).Pairwise baLt
 | [],_=>by simp [putS]
 | z::l,h=>by
   rw [fF] at h
   unfold putS
   split
   · rename_i hz
     rw [fF]
     refine⟨fun y hy=>?_,zgy s l h.2⟩
     rcases(zem s y l).1 hy with rfl|hy
     · exact(zhT _ _).1 hz
     · exact h.1 y hy
   · split
     · rw [fF];exact h
     · rename_i h1 h2
       have hsz:baLt s z:=zeI (fun h=>h1 ((zhT _ _).2 h)) (fun h=>h2 (by rw [fR,fR,h];simp))
       rw [fF,fF]
       refine⟨fun y hy=>?_,h⟩
       rcases fG.1 hy with rfl|hy
       · exact hsz
       · exact fP hsz (h.1 y hy)
theorem zbN:∀ (rs:List Reg)(zs:List ByteArray),zs.Pairwise baLt→(cF zs rs).Pairwise baLt
 | [],zs,h=>h
 | x::l,zs,h=>zbN l _ (zgy x.name zs h)
theorem zbM (y:ByteArray):∀ (rs:List Reg)(zs:List ByteArray),y∈cF zs rs↔y∈zs∨y∈rs.map (fun x:Reg=>x.name)
 | [],zs=>by simp [cF]
 | x::l,zs=>by
   rw [cF,zbM y l,zem,List.map_cons,fG]
   constructor
   · rintro ((h|h)|h)
     · exact .inr (.inl h)
     · exact .inl h
     · exact .inr (.inr h)
   · rintro (h|h|h)
     · exact .inl (.inr h)
     · exact .inl (.inl h)
     · exact .inr h
theorem dA:∀ (rs:List Reg)(zs:List ByteArray),(cF zs rs).length≤zs.length+rs.length
 | [],zs=>by simp [cF]
 | x::l,zs=>by
   have h1:=dA l (putS zs x.name)
   have h2:=(zgx x.name zs).2
   rw [cF,fN]
   omega
theorem zco (zs:List (List UInt8)):(fS (eG zs)).Pairwise (·<·)∧∀ x,x∈fS (eG zs)↔x∈zs:=by
 have hs:(eG zs).Pairwise (·≤·):=by
  have:=fJ (le:=fun x y:List UInt8=>decide (x≤y)) (fun a b c h1 h2=>by simp at *;exact List.le_trans h1 h2) (fun a b=>by simp;exact List.le_total a b) zs
  exact this.imp fun h=>by simpa using h
 obtain⟨h1,h2⟩:=zao (α:=List UInt8) (·≤·) (·<·) (fun a b h hn=>zeI (fun h'=>absurd h' (fK.2 h)) (fun e=>hn e.symm)) (fun a b c h h'=>List.lt_of_le_of_lt h h') (eG zs) hs
 refine⟨h1,fun x=>?_⟩
 rw [h2]
 exact fM
theorem zfS (a b:Doc):cF [] (a.rG++b.rG)=zej a b:=by
 refine zcY baLt (fun a h=>fO _ h) (fun a b h h'=>fO _ (fP h h')) _ _ (zbN _ _ List.Pairwise.nil) ?_ fun x=>?_
 · unfold zej
   rw [List.pairwise_map]
   exact(zco _).1.imp fun h=>by simpa [baLt] using h
 · unfold zej
   rw [zbM]
   constructor
   · rintro (h|h)
     · simp at h
     · obtain⟨r,hr,rfl⟩:=fH.1 h
       exact fH.2 ⟨r.name.data.toList,((zco _).2 _).2 (fH.2 ⟨r,hr,rfl⟩),by simp⟩
   · intro h
     obtain⟨l,hl,rfl⟩:=fH.1 h
     obtain⟨r,hr,rfl⟩:=fH.1 (((zco _).2 _).1 hl)
     exact .inr (fH.2 ⟨r,hr,by simp⟩)
end Go.Proofs.YtnlnmbcaongehaaGreatDoor
