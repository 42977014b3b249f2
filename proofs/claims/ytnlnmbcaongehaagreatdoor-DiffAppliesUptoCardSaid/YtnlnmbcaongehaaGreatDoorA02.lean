/- The contracts of the reference's Len and Check of events: the same specifications as the program's. The contracts of the reference's Find of events and checkComment. -/
import Derived.Test.YtnlnmbcaongehaaGreatDoorA01
import Derived.Test.YtnlnmbcaongehaaGreatDoorB07
set_option linter.unusedVariables false
set_option linter.unusedSimpArgs false
set_option maxRecDepth 100000
set_option maxHeartbeats 12800000
open Go.Lib renaming hid→h_
open Go renaming World→e_
open Go.Proofs.Tryz renaming ntmps103→fb,ntmps100→fe,prog→ff,func103→fg,func100→fh,underlying229→fi
open Go.RowKit renaming Below→fj
open Go.RowKit.Below renaming refl→fk
open Nat renaming add_zero→fm,le_refl→fo,mul_one→fp
open List renaming mem_of_getElem?→fq,getElem?_eq_getElem→fr,size_toArray→ft,drop_length→fu
open Go.World renaming size_alloc→fw,ownsRow_nil→fx
open Go.Value renaming int→fy,string→fz
open Option.some renaming injEq→fA,inj→fB
namespace Go.Proofs.YtnlnmbcaongehaaGreatDoor
open Go.RowKit
theorem zkd (rows:List Row)(k:Nat)(r:Row)(h:rows[k]? =some r)(acc:Int):zas (bh (rows.drop k)) acc=if rowLen r.runs<0 then -1 else zas (bh (rows.drop (k+1))) (acc+rowLen r.runs):=by
 rw [aZ rows k r h]
 simp only [bh,List.map_cons,zas]
theorem za9 (x:Ev)(w:e_)(hE:Env w)(hr:x.lies w)(hf:x.fits) :
 Calls ff 182 #[.agg x.enc.toArray] w fun e w'=>e=.returned (.int .i64 (eG x.rows))∧fj w.heap.size w w':=by
 obtain⟨id,inn,out,region,kind,speaker,a,cap,xs⟩:=x
 obtain⟨_,_,_,_,_,_,_,hfx,hl⟩:=hf
 simp only [Ev.lies] at hr hfx hl
 simp only [Ev.enc]
 generalize hG:eG xs=G
 have H0:=h_ (show zas (bh (xs.drop 0)) (((0:Nat):Int)+((xs.length-max 0 1:Nat):Int))=G by
  rw [←hG,List.drop_zero]
  unfold eG
  congr 1
  omega)
 clear hG
 go_enter Tryz.func182,Tryz.ntmps182
 go_wp2_with fail
 go_loopw [3,10] (fun v i wr=>∃ (k acc:Nat),k≤xs.length∧i=.int .i64 k∧v=.int .i64 acc∧acc≤4000001*k∧zas (bh (xs.drop k)) ((acc:Int)+((xs.length-max k 1:Nat):Int))=G∧fj w.heap.size w wr) (fun _ i _=>xs.length-(intOf i).toNat)
 case atStart=>exact⟨0,0,by omega,rfl,rfl,by omega,H0.out,(fk _ _).alloc (fo _) _⟩
 case round =>
  obtain⟨k,acc,hk,rfl,rfl,hacc,hp,hb⟩:=hrel
  by_cases hlt:k<xs.length
  · obtain⟨b,off,r,rfl,hbl,hx,hc,hok⟩:=(hr.later hb).at_ hlt
    have hfr:=hfx r (fq hx)
    have hbd:=zgR r.runs
    have hbd2:=hfr.2.2
    have HL:=h_ (fun w1 h1 h2=>ej r w1 h1 h2 hfr)
    rw [zkd xs k r hx] at hp
    obtain⟨ra,rc,rr⟩:=r
    simp only [Row.enc,Row.lies] at HL hok hp
    simp only at hbd hbd2
    have d0:=hc 0 _ rfl
    simp only [fm,fp] at d0
    have HE:=h_ (fun o=>hE.below (hb.alloc hb.size o) (fo _))
    have HOK:=h_ (fun o=>hok.later ((fk wr.heap.size wr).alloc (fo _) o))
    have HB:=h_ (fun(o:Obj) (w1:e_) (h1:fj (wr.heap.size+1) (wr.alloc o) w1)=>bp hb o h1)
    have HP:=h_ hp
    generalize rowLen rr=L at *
    generalize bV rr=S at *
    clear hc hx hr hfx hfr hok hp H0
    obtain⟨l0,l1⟩:=hbd
    by_cases hneg:L<0
    · go_wp2_with (go_at_call 180;refine(HL.out _ (HE.out _) (HOK.out _)).mono ?_;rintro e w1 ⟨rfl,hb1⟩;simp only [fw] at hb1)
      go_ret
      exact⟨ag (by rw [←HP.out,if_pos hneg]),HB.out _ _ hb1⟩
    · obtain⟨m,rfl⟩:=Int.eq_ofNat_of_zero_le (show 0≤L by omega)
      have hq:=HP.out
      rw [if_neg hneg] at hq
      have hm:m≤4000000:=by omega
      clear HP hneg l0 l1
      have hnn:0≤(m:Int):=by omega
      rcases Nat.eq_zero_or_pos k with hk0|hk0
      · have hkd:decide (0<k)=false:=by simp;omega
        have HQ:=h_ (show zas (bh (xs.drop (k+1))) (((acc+m:Nat):Int)+((xs.length-max (k+1) 1:Nat):Int))=G by rw [←hq];congr 1;omega)
        clear hq hk0
        go_wp2_with (go_at_call 180;refine(HL.out _ (HE.out _) (HOK.out _)).mono ?_;rintro e w1 ⟨rfl,hb1⟩;simp only [fw] at hb1)
        go_roundw
        case rel=>exact⟨k+1,acc+m,by omega,by go_num,by go_num,by omega,HQ.out,HB.out _ _ hb1⟩
        case measure=>simp [intOf];omega
      · have hkd:decide (0<k)=true:=by simp;omega
        have HQ:=h_ (show zas (bh (xs.drop (k+1))) (((acc+1+m:Nat):Int)+((xs.length-max (k+1) 1:Nat):Int))=G by rw [←hq];congr 1;omega)
        clear hq
        go_wp2_with (go_at_call 180;refine(HL.out _ (HE.out _) (HOK.out _)).mono ?_;rintro e w1 ⟨rfl,hb1⟩;simp only [fw] at hb1)
        go_roundw
        case rel=>exact⟨k+1,acc+1+m,by omega,by go_num,by go_num,by omega,HQ.out,HB.out _ _ hb1⟩
        case measure=>simp [intOf];omega
  · obtain rfl:k=xs.length:=by omega
    rw [fu] at hp
    have HP:=h_ (show(acc:Int)=G by rw [←hp];simp only [bh,List.map_nil,zas];omega)
    clear hp H0
    go_wp2_with fail
    go_ret
    exact⟨ag HP.out,hb⟩
theorem zef (runs:List Run):((ct runs != 0)=true∧bD runs=ct runs)∨(ct runs=0∧untidy (plain runs)=true∧bD runs=4)∨(ct runs=0∧untidy (plain runs)=false∧32<rowLen runs∧bD runs=11)∨(ct runs=0∧untidy (plain runs)=false∧rowLen runs≤32∧bD runs=0):=by
 unfold bD
 by_cases h1:ct runs=0
 · cases h2:untidy (plain runs)
   · by_cases h3:32<rowLen runs
     · exact .inr (.inr (.inl ⟨h1,rfl,h3,by rw [if_neg (by simpa using h1),if_neg (by simp),if_pos h3]⟩))
     · exact .inr (.inr (.inr ⟨h1,rfl,by omega,by rw [if_neg (by simpa using h1),if_neg (by simp),if_neg h3]⟩))
   · exact .inr (.inl ⟨h1,rfl,by rw [if_neg (by simpa using h1),if_pos rfl]⟩)
 · have:(ct runs != 0)=true:=by simpa using h1
   exact .inl ⟨this,if_pos this⟩
theorem zdh (x:Ev)(a:Option Addr)(cap:Nat)(rG:List Reg)(w:e_)(hE:Env w)(hr:x.lies w)(hf:x.fits)(hR:Regs w a rG)(hfr:∀ r∈rG,r.fits)(hlr:rG.length≤4000000) :
 Calls ff 100 #[.agg x.enc.toArray,.slice a rG.length cap] w fun e w'=>e=.returned (.int .i64 (zaK x rG))∧fj w.heap.size w w':=by
 have hFind:=fun w1 h1=>zeG a cap rG x.region w1 h1 hlr
 have hRf:=zfs rG x.region hfr
 generalize hG:zaK x rG=G
 unfold zaK at hG
 generalize hF:eO rG x.region=F at *
 obtain⟨R,found⟩:=F
 simp only at hG hRf
 have hcs:=ziP x found
 obtain⟨_,_,_,hs1,hk0,hk1,hs2,hfx,hl⟩:=hf
 have hlens:(bh x.rows).length=x.rows.length:=by simp [bh]
 obtain⟨id,inn,out,region,kind,speaker,ra,rc,rows⟩:=x
 simp only [Ev.lies] at hr hfx hl hs1 hs2 hk0 hk1 hlens
 simp only [Ev.enc] at hFind ⊢
 generalize eV ⟨id,inn,out,region,kind,speaker,ra,rc,rows⟩ found=EH at *
 simp only at hG hcs
 have HGo:=h_ (fun(n:Int) (h:EH=n) (h0:(n != 0)=true)=>(show n=G by rw [←hG,h,if_pos h0]))
 have HGz:=h_ (fun(h:EH=0)=>(show zfO R rows=G by rw [←hG,h,if_neg (by decide)]))
 generalize hcs0:#[fy .i64 id,.int .i64 inn,.int .i64 out,.string region,.int .u8 kind,.string speaker,.slice ra rows.length rc]=cs at *
 have f0:=aa w cs 50 0 (.int .i64 id) (by rw [←hcs0];rfl)
 have f1:=aa w cs 50 1 (.int .i64 inn) (by rw [←hcs0];rfl)
 have f2:=aa w cs 50 2 (.int .i64 out) (by rw [←hcs0];rfl)
 have f3:=aa w cs 50 3 (.string region) (by rw [←hcs0];rfl)
 have f4:=aa w cs 50 4 (.int .u8 kind) (by rw [←hcs0];rfl)
 have f5:=aa w cs 50 5 (.string speaker) (by rw [←hcs0];rfl)
 have f6:=aa w cs 50 6 (.slice ra rows.length rc) (by rw [←hcs0];rfl)
 have HB:=h_ (fun(w1:e_) (h:fj (w.heap.size+1) (w.alloc (.cells cs 50)) w1)=>aq h)
 have HE:=h_ (fun(w1:e_) (h:fj (w.heap.size+1) (w.alloc (.cells cs 50)) w1)=>hE.below (aq h) (fo _))
 have HR:=h_ (fun(w1:e_) (h:fj (w.heap.size+1) (w.alloc (.cells cs 50)) w1)=>hr.later (aq h))
 have HRg:=h_ (fun(w1:e_) (h:fj (w.heap.size+1) (w.alloc (.cells cs 50)) w1)=>hR.later (aq h))
 have hb0:fj (w.heap.size+1) (w.alloc (.cells cs 50)) (w.alloc (.cells cs 50)):=fk _ _
 have hsz:(w.alloc (.cells cs 50)).heap.size=w.heap.size+1:=fw _ _
 have HFind:=h_ hFind
 generalize hW0:w.alloc (.cells cs 50)=W0 at *
 have HW0:=h_ hW0
 have HSZ:=h_ hsz
 have HT0:=h_ (fun(w2 w3:e_) (h:fj (w.heap.size+1) W0 w2) (h3:fj w2.heap.size w2 w3)=>h.trans (h3.mono (by have:=h.size;omega)))
 have HLENS:=h_ hlens
 have HRF:=h_ hRf
 have HFX:=h_ hfx
 have hsb:=fun w2=>zeE inn out w2
 have hnb:=fun w2=>cQ speaker w2 hs2
 generalize bY inn out=SP at *
 generalize bW speaker=NB at *
 have HS:=h_ hsb
 have HN:=h_ hnb
 clear hW0 hsz hE hr hR hFind hG hfr hF hlens hRf hfx hsb hnb
 rcases hcs with⟨he,hi⟩|⟨he,hi0,hi1,rfl⟩|⟨hi0,hi1,rfl,hrest⟩
 · have HHE:=h_ he
   clear he
   rcases hi with hi|⟨hi0,hi⟩
   all_goals
    go_enter fh,fe
    subst hcs0
    go_wp2_with fail
    rw [HW0.out]
    go_ret
    exact⟨ag (HGo.out _ HHE.out rfl),HB.out _ hb0⟩
 · have HHE:=h_ he
   clear he
   go_enter fh,fe
   subst hcs0
   go_wp2_with fail
   rw [HW0.out]
   refine(HS.out _).mono ?_
   rintro e w2 ⟨rfl,hb2⟩
   have hc2:=HT0.out _ _ hb0 hb2
   clear hb2
   go_wp2_with fail
   go_ret
   exact⟨ag (HGo.out _ HHE.out rfl),HB.out _ hc2⟩
 · have HREST:=h_ hrest
   clear hrest
   go_enter fh,fe
   subst hcs0
   go_wp2_with fail
   rw [HW0.out]
   refine(HS.out _).mono ?_
   rintro e w2 ⟨rfl,hb2⟩
   have hc2:=HT0.out _ _ hb0 hb2
   clear hb2 HW0 HS
   go_wp2_with fail
   refine(HFind.out _ (HRg.out _ hc2)).mono ?_
   rintro e w3 ⟨rfl,hb3⟩
   have hc3':=HT0.out _ _ hc2 hb3
   clear hb3 HFind HRg hc2
   obtain⟨Rn,Rt,Rh,Rl,Rw,Ra,Rb⟩:=R
   simp only [Reg.enc]
   have hlt3:w.heap.size+1≤w3.heap.size:=by have:=hc3'.size;rw [HSZ.out] at this;exact this
   generalize hrs:#[fz Rn,.int .i64 Rt,.int .i64 Rh,.int .i64 Rl,.int .i64 Rw,.int .u8 Ra,.bool Rb]=rs at *
   have g0:=aa w3 rs 44 0 (.string Rn) (by rw [←hrs];rfl)
   have g1:=aa w3 rs 44 1 (.int .i64 Rt) (by rw [←hrs];rfl)
   have g2:=aa w3 rs 44 2 (.int .i64 Rh) (by rw [←hrs];rfl)
   have g3:=aa w3 rs 44 3 (.int .i64 Rl) (by rw [←hrs];rfl)
   have g4:=aa w3 rs 44 4 (.int .i64 Rw) (by rw [←hrs];rfl)
   have g5:=aa w3 rs 44 5 (.int .u8 Ra) (by rw [←hrs];rfl)
   have g6:=aa w3 rs 44 6 (.bool Rb) (by rw [←hrs];rfl)
   have hsz1:(w3.alloc (.cells rs 44)).heap.size=w3.heap.size+1:=fw _ _
   have hd3a:∀ o:Obj,fj (w.heap.size+1) W0 (w3.alloc o):=fun o=>hc3'.alloc hlt3 o
   have hd3:fj (w.heap.size+1) W0 (w3.alloc (.cells rs 44)):=hc3'.alloc hlt3 _
   have HT1:=h_ (fun(w2:e_) (h:fj (w3.heap.size+1) (w3.alloc (.cells rs 44)) w2)=>hd3.trans (h.mono (by omega)))
   have HT2:=h_ (fun(w2 w5:e_) (h:fj (w3.heap.size+1) (w3.alloc (.cells rs 44)) w2) (h3:fj w2.heap.size w2 w5)=>h.trans (h3.mono (by have:=h.size;omega)))
   have hc3:fj (w3.heap.size+1) (w3.alloc (.cells rs 44)) (w3.alloc (.cells rs 44)):=fk _ _
   have HW1s:=h_ hsz1
   clear hsz1
   generalize hW1:w3.alloc (.cells rs 44)=W1 at *
   have HW1:=h_ hW1
   clear hW1 hc3'
   subst hrs
   rcases HREST.out with⟨he,rfl⟩|⟨rfl,⟨he,hk⟩|⟨hkk0,hkk1,⟨he,hsq,rfl⟩|⟨hsq,⟨he,hn⟩|⟨he,hn0,hn1⟩⟩⟩⟩
   · have HHE:=h_ he
     clear he HREST
     go_wp2_with fail
     rw [HW1.out]
     go_ret
     exact⟨ag (HGo.out _ HHE.out rfl),HB.out _ hd3⟩
   · have HHE:=h_ he
     clear he HREST
     rcases(show kind<1∨(1≤kind∧4<kind) by omega) with hk'|⟨hk',hk''⟩
     all_goals
      clear hk
      go_wp2_with fail
      rw [HW1.out]
      go_ret
      exact⟨ag (HGo.out _ HHE.out rfl),HB.out _ hd3⟩
   · have HHE:=h_ he
     clear he HREST
     have hsq2:speaker.toList.isEmpty=false:=by simpa using hsq
     go_wp2_with (go_at_call 171;refine(HN.out _).mono ?_;rintro e w4 ⟨rfl,rfl⟩)
     rw [HW1.out]
     go_ret
     exact⟨ag (HGo.out _ HHE.out rfl),HB.out _ hd3⟩
   · have HHE:=h_ he
     clear he HREST
     rcases hn with hn|hn<;>rcases hsq with hsq|⟨hsq,rfl⟩
     · have hsq2:speaker.toList.isEmpty=true:=by simpa using hsq
       go_wp2_with fail
       rw [HW1.out]
       go_ret
       exact⟨ag (HGo.out _ HHE.out rfl),HB.out _ hd3⟩
     · have hsq2:speaker.toList.isEmpty=false:=by simpa using hsq
       go_wp2_with (go_at_call 171;refine(HN.out _).mono ?_;rintro e w4 ⟨rfl,rfl⟩)
       rw [HW1.out]
       go_ret
       exact⟨ag (HGo.out _ HHE.out rfl),HB.out _ hd3⟩
     · have hsq2:speaker.toList.isEmpty=true:=by simpa using hsq
       have t0:((rows.length:Int)==0)=false:=by rw [beq_eq_false_iff_ne];omega
       have t1:¬ rows=[]:=by rintro rfl;simp at hn
       go_wp2_with fail
       rw [HW1.out]
       go_ret
       exact⟨ag (HGo.out _ HHE.out rfl),HB.out _ hd3⟩
     · have hsq2:speaker.toList.isEmpty=false:=by simpa using hsq
       have t0:((rows.length:Int)==0)=false:=by rw [beq_eq_false_iff_ne];omega
       have t1:¬ rows=[]:=by rintro rfl;simp at hn
       go_wp2_with (go_at_call 171;refine(HN.out _).mono ?_;rintro e w4 ⟨rfl,rfl⟩)
       rw [HW1.out]
       go_ret
       exact⟨ag (HGo.out _ HHE.out rfl),HB.out _ hd3⟩
   · have HGG:=h_ (HGz.out he)
     clear he HREST HGo HGz hlr hb0
     obtain⟨j0,hj,hy0,hy1,hy2⟩:=info_parts Tryz.info3
     have JI:=h_ hj;have J0:=h_ hy0;have J1:=h_ hy1;have J2:=h_ hy2
     clear hj hy0 hy1 hy2
     have t0:((rows.length:Int)==0)=false:=by rw [beq_eq_false_iff_ne];omega
     have t1:¬ rows=[]:=by rintro rfl;simp at hn0
     have hn4:decide ((4:Int)<(rows.length:Int))=false:=by simp;omega
     rcases hsq with hsq|⟨hsq,rfl⟩
     · have hsq2:speaker.toList.isEmpty=true:=by simpa using hsq
       go_wp2_with fail
       rw [HW1.out]
       go_loopw [7,70] (fun v i wr=>∃ k:Nat,k≤rows.length∧i=.int .i64 k∧zbF ⟨Rn,Rt,Rh,Rl,Rw,Ra,Rb⟩ rows k=G∧wr.ownsRow (w3.heap.size+1) 3 1 v (bU rows k).length ((bU rows k).map (fy .i64))∧fj (w3.heap.size+1) W1 wr) (fun _ i _=>rows.length-(intOf i).toNat)
       case atStart=>exact⟨0,by omega,rfl,by rw [←HGG.out];rfl,fx _ _ _ _,hc3⟩
       case round =>
        obtain⟨k,hk,rfl,hp,hown,hb⟩:=hrel
        have hdd:=HT1.out _ hb
        clear hc3 hd3 HGG
        by_cases hlt:k<rows.length
        · obtain⟨b,off,r,rfl,hbl,hx,hc,hok⟩:=(HR.out _ hdd).at_ hlt
          have hfr:=HFX.out r (fq hx)
          have HC:=h_ (fun w1 h1 h2=>eR r w1 h1 h2 hfr)
          have HPn:=h_ (fun w1 h2=>za6 r w1 h2 hfr)
          have HLn:=h_ (fun w1 h1 h2=>ej r w1 h1 h2 hfr)
          have HNt:=h_ (fun w1=>zbJ (plain r.runs) w1 (by
           show(cR r.runs).toArray.size≤4000000
           rw [ft,ed];exact hfr.2.2))
          rw [zbE _ rows k r hx] at hp
          have hrc:=zef r.runs
          have HAT:=h_ (zd3 rows k r hx)
          obtain⟨qa,qc,rr⟩:=r
          simp only [Row.enc,Row.lies] at HC HPn HLn HNt hok hp hrc HAT
          have d0:=hc 0 _ rfl
          simp only [fm,fp] at d0
          have hbs:w3.heap.size+1≤wr.heap.size:=by have:=hb.size;rw [HW1s.out] at this;exact this
          have HP:=h_ hp
          have q0:=aa wr #[.slice qa rr.length qc] 78 0 _ rfl
          have hq0:fj (wr.heap.size+1) (wr.alloc (.cells #[.slice qa rr.length qc] 78)) (wr.alloc (.cells #[.slice qa rr.length qc] 78)):=fk _ _
          have hqs:(wr.alloc (.cells #[.slice qa rr.length qc] 78)).heap.size=wr.heap.size+1:=fw _ _
          have HQ1:=h_ (fun(w':e_) (h:fj (wr.heap.size+1) (wr.alloc (.cells #[.slice qa rr.length qc] 78)) w')=>((hb.alloc hbs _).trans (h.mono (by omega)):fj (w3.heap.size+1) W1 w'))
          have HOK:=h_ (fun(w':e_) (h:fj (wr.heap.size+1) (wr.alloc (.cells #[.slice qa rr.length qc] 78)) w')=>hok.later (aq h))
          have HOW:=h_ (fun(w':e_) (h:fj (wr.heap.size+1) (wr.alloc (.cells #[.slice qa rr.length qc] 78)) w')=>zdX (hown.alloc (.cells #[.slice qa rr.length qc] 78)) h (by rw [hqs];omega))
          have HLT1:=h_ (fun j hj=>(hown.lt j hj).1)
          generalize hWR:wr.alloc (.cells #[.slice qa rr.length qc] 78)=WR at *
          have HWR:=h_ hWR
          have HQT:=h_ (fun(w5 w6:e_) (h:fj (wr.heap.size+1) WR w5) (h6:fj w5.heap.size w5 w6)=>h.trans (h6.mono (by have:=h.size;omega)))
          have hlk:(bU rows k).length≤4000000:=by rw [dX];omega
          clear hc hx hfr hok hp hWR hown
          generalize bD rr=EV at *
          generalize ct rr=E at *
          generalize plain rr=T at *
          generalize untidy T=U at *
          generalize rowLen rr=L at *
          rcases hrc with⟨hE1,rfl⟩|⟨rfl,rfl,rfl⟩|⟨rfl,rfl,hL,rfl⟩|⟨rfl,rfl,hL,rfl⟩
          · rw [hE1,if_pos rfl] at HP
            go_wp2_with fail
            rw [HWR.out]
            refine(HC.out _ (HE.out _ (HT1.out _ (HQ1.out _ hq0))) (HOK.out _ hq0)).mono ?_
            rintro e w5 ⟨rfl,hb5⟩
            have hq5:=HQT.out _ _ hq0 hb5
            clear hb5
            go_wp2_with fail
            go_ret
            exact⟨ag HP.out,HB.out _ (HT1.out _ (HQ1.out _ hq5))⟩
          · rw [if_pos (by decide)] at HP
            go_wp2_with fail
            rw [HWR.out]
            refine(HC.out _ (HE.out _ (HT1.out _ (HQ1.out _ hq0))) (HOK.out _ hq0)).mono ?_
            rintro e w5 ⟨rfl,hb5⟩
            have hq5:=HQT.out _ _ hq0 hb5
            clear hb5
            go_wp2_with fail
            refine(HPn.out _ (HOK.out _ hq5)).mono ?_
            rintro e w6 ⟨rfl,hb6⟩
            have hq6:=HQT.out _ _ hq5 hb6
            clear hb6
            go_wp2_with fail
            refine(HNt.out _).mono ?_
            rintro e w7 ⟨rfl,rfl⟩
            go_wp2_with fail
            go_ret
            exact⟨ag HP.out,HB.out _ (HT1.out _ (HQ1.out _ hq6))⟩
          · rw [if_pos (by decide)] at HP
            go_wp2_with fail
            rw [HWR.out]
            refine(HC.out _ (HE.out _ (HT1.out _ (HQ1.out _ hq0))) (HOK.out _ hq0)).mono ?_
            rintro e w5 ⟨rfl,hb5⟩
            have hq5:=HQT.out _ _ hq0 hb5
            clear hb5
            go_wp2_with fail
            refine(HPn.out _ (HOK.out _ hq5)).mono ?_
            rintro e w6 ⟨rfl,hb6⟩
            have hq6:=HQT.out _ _ hq5 hb6
            clear hb6
            go_wp2_with fail
            refine(HNt.out _).mono ?_
            rintro e w7 ⟨rfl,rfl⟩
            go_wp2_with fail
            refine(HLn.out _ (HE.out _ (HT1.out _ (HQ1.out _ hq6))) (HOK.out _ hq6)).mono ?_
            rintro e w8 ⟨rfl,hb8⟩
            have hq8:=HQT.out _ _ hq6 hb8
            clear hb8
            go_wp2_with fail
            go_ret
            exact⟨ag HP.out,HB.out _ (HT1.out _ (HQ1.out _ hq8))⟩
          · rw [if_neg (by decide)] at HP
            have hL2:decide (32<L)=false:=by simp;omega
            go_wp2_with fail
            rw [HWR.out]
            refine(HC.out _ (HE.out _ (HT1.out _ (HQ1.out _ hq0))) (HOK.out _ hq0)).mono ?_
            rintro e w5 ⟨rfl,hb5⟩
            have hq5:=HQT.out _ _ hq0 hb5
            clear hb5
            go_wp2_with fail
            refine(HPn.out _ (HOK.out _ hq5)).mono ?_
            rintro e w6 ⟨rfl,hb6⟩
            have hq6:=HQT.out _ _ hq5 hb6
            clear hb6
            go_wp2_with fail
            refine(HNt.out _).mono ?_
            rintro e w7 ⟨rfl,rfl⟩
            go_wp2_with fail
            refine(HLn.out _ (HE.out _ (HT1.out _ (HQ1.out _ hq6))) (HOK.out _ hq6)).mono ?_
            rintro e w8 ⟨rfl,hb8⟩
            have hq8:=HQT.out _ _ hq6 hb8
            clear hb8
            go_wp2_with fail
            refine(HLn.out _ (HE.out _ (HT1.out _ (HQ1.out _ hq8))) (HOK.out _ hq8)).mono ?_
            rintro e w9 ⟨rfl,hb9⟩
            have hq9:=HQT.out _ _ hq8 hb9
            have hc9:=HQ1.out _ hq9
            have ho9:=h_ (HOW.out _ hq9)
            have hz9:w3.heap.size+1≤w9.heap.size:=by have:=hc9.size;rw [HW1s.out] at this;exact this
            clear hb9 hq5 hq6 hq8
            go_wp2_with (at_builtin;refine aH _ _ rfl (.tmp 86) (.tmp 89) 229 rfl (w3.heap.size+1) 3 j0 _ 1 8 fi JI.out J0.out J1.out J2.out rfl (by decide) _ _ _ rfl ho9.out _ rfl rfl rfl ?h1 ?h63 ?hb ?hbase ?_)
            case h1=>first|rfl|(intro u hu;simp at hu;subst hu;rfl)
            case h63=>unfold maxLen;omega
            case hb=>omega
            case hbase=>exact hz9
            intro v' w10 hown' hgrow
            have R1:w10.ownsRow (w3.heap.size+1) 3 1 v' (bU rows (k+1)).length ((bU rows (k+1)).map (fy .i64)):=by
             rw [HAT.out]
             simpa using hown'
            have R2:fj (w3.heap.size+1) W1 w10:=(hc9.alloc hz9 _).grown hgrow (by simp;omega) (fun j hj=>HLT1.out j hj)
            have HR12:=h_ (And.intro R1 R2)
            clear hown' hgrow ho9 R1 R2
            go_wp2_with fail
            go_roundw
            case rel=>exact⟨k+1,by omega,by go_num,HP.out,HR12.out⟩
            case measure=>simp [intOf];omega
        · obtain rfl:k=rows.length:=by omega
          rw [zaT] at hp
          rw [zcj] at hown
          obtain⟨a',c',hv,hI⟩:=Ints.of_owns hown
          subst hv
          rw [HLENS.out]
          have HPl:=h_ (za7 ⟨Rn,Rt,Rh,Rl,Rw,Ra,Rb⟩ a' c' (bh rows) wr HRF.out hI (by rw [HLENS.out];omega))
          simp only [hp,HLENS.out,Reg.enc] at HPl
          clear hp HFX HRF hi0 hi1 hn0 hn1 hown hI
          go_wp2_with fail
          refine HPl.out.mono ?_
          rintro e w7 ⟨v,rfl,hb7⟩
          have hd7:=HT1.out _ (HT2.out _ _ hb hb7)
          clear hb7
          go_wp2_with fail
          go_ret
          exact⟨ag rfl,HB.out _ hd7⟩
     · have hsq2:speaker.toList.isEmpty=false:=by simpa using hsq
       go_wp2_with (go_at_call 171;refine(HN.out _).mono ?_;rintro e w4 ⟨rfl,rfl⟩)
       rw [HW1.out]
       go_loopw [7,70] (fun v i wr=>∃ k:Nat,k≤rows.length∧i=.int .i64 k∧zbF ⟨Rn,Rt,Rh,Rl,Rw,Ra,Rb⟩ rows k=G∧wr.ownsRow (w3.heap.size+1) 3 1 v (bU rows k).length ((bU rows k).map (fy .i64))∧fj (w3.heap.size+1) W1 wr) (fun _ i _=>rows.length-(intOf i).toNat)
       case atStart=>exact⟨0,by omega,rfl,by rw [←HGG.out];rfl,fx _ _ _ _,hc3⟩
       case round =>
        obtain⟨k,hk,rfl,hp,hown,hb⟩:=hrel
        have hdd:=HT1.out _ hb
        clear hc3 hd3 HGG
        by_cases hlt:k<rows.length
        · obtain⟨b,off,r,rfl,hbl,hx,hc,hok⟩:=(HR.out _ hdd).at_ hlt
          have hfr:=HFX.out r (fq hx)
          have HC:=h_ (fun w1 h1 h2=>eR r w1 h1 h2 hfr)
          have HPn:=h_ (fun w1 h2=>za6 r w1 h2 hfr)
          have HLn:=h_ (fun w1 h1 h2=>ej r w1 h1 h2 hfr)
          have HNt:=h_ (fun w1=>zbJ (plain r.runs) w1 (by
           show(cR r.runs).toArray.size≤4000000
           rw [ft,ed];exact hfr.2.2))
          rw [zbE _ rows k r hx] at hp
          have hrc:=zef r.runs
          have HAT:=h_ (zd3 rows k r hx)
          obtain⟨qa,qc,rr⟩:=r
          simp only [Row.enc,Row.lies] at HC HPn HLn HNt hok hp hrc HAT
          have d0:=hc 0 _ rfl
          simp only [fm,fp] at d0
          have hbs:w3.heap.size+1≤wr.heap.size:=by have:=hb.size;rw [HW1s.out] at this;exact this
          have HP:=h_ hp
          have q0:=aa wr #[.slice qa rr.length qc] 78 0 _ rfl
          have hq0:fj (wr.heap.size+1) (wr.alloc (.cells #[.slice qa rr.length qc] 78)) (wr.alloc (.cells #[.slice qa rr.length qc] 78)):=fk _ _
          have hqs:(wr.alloc (.cells #[.slice qa rr.length qc] 78)).heap.size=wr.heap.size+1:=fw _ _
          have HQ1:=h_ (fun(w':e_) (h:fj (wr.heap.size+1) (wr.alloc (.cells #[.slice qa rr.length qc] 78)) w')=>((hb.alloc hbs _).trans (h.mono (by omega)):fj (w3.heap.size+1) W1 w'))
          have HOK:=h_ (fun(w':e_) (h:fj (wr.heap.size+1) (wr.alloc (.cells #[.slice qa rr.length qc] 78)) w')=>hok.later (aq h))
          have HOW:=h_ (fun(w':e_) (h:fj (wr.heap.size+1) (wr.alloc (.cells #[.slice qa rr.length qc] 78)) w')=>zdX (hown.alloc (.cells #[.slice qa rr.length qc] 78)) h (by rw [hqs];omega))
          have HLT1:=h_ (fun j hj=>(hown.lt j hj).1)
          generalize hWR:wr.alloc (.cells #[.slice qa rr.length qc] 78)=WR at *
          have HWR:=h_ hWR
          have HQT:=h_ (fun(w5 w6:e_) (h:fj (wr.heap.size+1) WR w5) (h6:fj w5.heap.size w5 w6)=>h.trans (h6.mono (by have:=h.size;omega)))
          have hlk:(bU rows k).length≤4000000:=by rw [dX];omega
          clear hc hx hfr hok hp hWR hown
          generalize bD rr=EV at *
          generalize ct rr=E at *
          generalize plain rr=T at *
          generalize untidy T=U at *
          generalize rowLen rr=L at *
          rcases hrc with⟨hE1,rfl⟩|⟨rfl,rfl,rfl⟩|⟨rfl,rfl,hL,rfl⟩|⟨rfl,rfl,hL,rfl⟩
          · rw [hE1,if_pos rfl] at HP
            go_wp2_with fail
            rw [HWR.out]
            refine(HC.out _ (HE.out _ (HT1.out _ (HQ1.out _ hq0))) (HOK.out _ hq0)).mono ?_
            rintro e w5 ⟨rfl,hb5⟩
            have hq5:=HQT.out _ _ hq0 hb5
            clear hb5
            go_wp2_with fail
            go_ret
            exact⟨ag HP.out,HB.out _ (HT1.out _ (HQ1.out _ hq5))⟩
          · rw [if_pos (by decide)] at HP
            go_wp2_with fail
            rw [HWR.out]
            refine(HC.out _ (HE.out _ (HT1.out _ (HQ1.out _ hq0))) (HOK.out _ hq0)).mono ?_
            rintro e w5 ⟨rfl,hb5⟩
            have hq5:=HQT.out _ _ hq0 hb5
            clear hb5
            go_wp2_with fail
            refine(HPn.out _ (HOK.out _ hq5)).mono ?_
            rintro e w6 ⟨rfl,hb6⟩
            have hq6:=HQT.out _ _ hq5 hb6
            clear hb6
            go_wp2_with fail
            refine(HNt.out _).mono ?_
            rintro e w7 ⟨rfl,rfl⟩
            go_wp2_with fail
            go_ret
            exact⟨ag HP.out,HB.out _ (HT1.out _ (HQ1.out _ hq6))⟩
          · rw [if_pos (by decide)] at HP
            go_wp2_with fail
            rw [HWR.out]
            refine(HC.out _ (HE.out _ (HT1.out _ (HQ1.out _ hq0))) (HOK.out _ hq0)).mono ?_
            rintro e w5 ⟨rfl,hb5⟩
            have hq5:=HQT.out _ _ hq0 hb5
            clear hb5
            go_wp2_with fail
            refine(HPn.out _ (HOK.out _ hq5)).mono ?_
            rintro e w6 ⟨rfl,hb6⟩
            have hq6:=HQT.out _ _ hq5 hb6
            clear hb6
            go_wp2_with fail
            refine(HNt.out _).mono ?_
            rintro e w7 ⟨rfl,rfl⟩
            go_wp2_with fail
            refine(HLn.out _ (HE.out _ (HT1.out _ (HQ1.out _ hq6))) (HOK.out _ hq6)).mono ?_
            rintro e w8 ⟨rfl,hb8⟩
            have hq8:=HQT.out _ _ hq6 hb8
            clear hb8
            go_wp2_with fail
            go_ret
            exact⟨ag HP.out,HB.out _ (HT1.out _ (HQ1.out _ hq8))⟩
          · rw [if_neg (by decide)] at HP
            have hL2:decide (32<L)=false:=by simp;omega
            go_wp2_with fail
            rw [HWR.out]
            refine(HC.out _ (HE.out _ (HT1.out _ (HQ1.out _ hq0))) (HOK.out _ hq0)).mono ?_
            rintro e w5 ⟨rfl,hb5⟩
            have hq5:=HQT.out _ _ hq0 hb5
            clear hb5
            go_wp2_with fail
            refine(HPn.out _ (HOK.out _ hq5)).mono ?_
            rintro e w6 ⟨rfl,hb6⟩
            have hq6:=HQT.out _ _ hq5 hb6
            clear hb6
            go_wp2_with fail
            refine(HNt.out _).mono ?_
            rintro e w7 ⟨rfl,rfl⟩
            go_wp2_with fail
            refine(HLn.out _ (HE.out _ (HT1.out _ (HQ1.out _ hq6))) (HOK.out _ hq6)).mono ?_
            rintro e w8 ⟨rfl,hb8⟩
            have hq8:=HQT.out _ _ hq6 hb8
            clear hb8
            go_wp2_with fail
            refine(HLn.out _ (HE.out _ (HT1.out _ (HQ1.out _ hq8))) (HOK.out _ hq8)).mono ?_
            rintro e w9 ⟨rfl,hb9⟩
            have hq9:=HQT.out _ _ hq8 hb9
            have hc9:=HQ1.out _ hq9
            have ho9:=h_ (HOW.out _ hq9)
            have hz9:w3.heap.size+1≤w9.heap.size:=by have:=hc9.size;rw [HW1s.out] at this;exact this
            clear hb9 hq5 hq6 hq8
            go_wp2_with (at_builtin;refine aH _ _ rfl (.tmp 86) (.tmp 89) 229 rfl (w3.heap.size+1) 3 j0 _ 1 8 fi JI.out J0.out J1.out J2.out rfl (by decide) _ _ _ rfl ho9.out _ rfl rfl rfl ?h1 ?h63 ?hb ?hbase ?_)
            case h1=>first|rfl|(intro u hu;simp at hu;subst hu;rfl)
            case h63=>unfold maxLen;omega
            case hb=>omega
            case hbase=>exact hz9
            intro v' w10 hown' hgrow
            have R1:w10.ownsRow (w3.heap.size+1) 3 1 v' (bU rows (k+1)).length ((bU rows (k+1)).map (fy .i64)):=by
             rw [HAT.out]
             simpa using hown'
            have R2:fj (w3.heap.size+1) W1 w10:=(hc9.alloc hz9 _).grown hgrow (by simp;omega) (fun j hj=>HLT1.out j hj)
            have HR12:=h_ (And.intro R1 R2)
            clear hown' hgrow ho9 R1 R2
            go_wp2_with fail
            go_roundw
            case rel=>exact⟨k+1,by omega,by go_num,HP.out,HR12.out⟩
            case measure=>simp [intOf];omega
        · obtain rfl:k=rows.length:=by omega
          rw [zaT] at hp
          rw [zcj] at hown
          obtain⟨a',c',hv,hI⟩:=Ints.of_owns hown
          subst hv
          rw [HLENS.out]
          have HPl:=h_ (za7 ⟨Rn,Rt,Rh,Rl,Rw,Ra,Rb⟩ a' c' (bh rows) wr HRF.out hI (by rw [HLENS.out];omega))
          simp only [hp,HLENS.out,Reg.enc] at HPl
          clear hp HFX HRF hi0 hi1 hn0 hn1 hown hI
          go_wp2_with fail
          refine HPl.out.mono ?_
          rintro e w7 ⟨v,rfl,hb7⟩
          have hd7:=HT1.out _ (HT2.out _ _ hb hb7)
          clear hb7
          go_wp2_with fail
          go_ret
          exact⟨ag rfl,HB.out _ hd7⟩
theorem zdU {α:Type} (p:α→Bool)(xs:List α)(k:Nat)(x:α)(h:xs[k]? =some x):bj p (xs.drop k) k=if p x=true then (k:Int) else bj p (xs.drop (k+1)) (k+1):=by
 rw [aZ xs k x h,bj]
theorem cK (d:Doc)(id:Int)(w:e_)(hr:bK w d.ea d.evs)(hl:d.evs.length≤4000000) :
 Calls ff 102 #[.agg d.enc.toArray,.int .i64 id] w fun e w'=>e=.returned (.int .i64 (posOf (bl id) d.evs))∧fj w.heap.size w w':=by
 obtain⟨title,lA,rate,drop,last,ra,rc,rG,a,ec,xs,ca,cc,cms⟩:=d
 simp only at hr hl
 simp only [Doc.enc]
 generalize hG:posOf (bl id) xs=G
 have H0:=h_ (show bj (bl id) (xs.drop 0) 0=G from hG)
 clear hG
 go_enter Tryz.func102,Tryz.ntmps102
 go_wp2_with fail
 go_loopw [10] (fun i wr=>∃ k:Nat,k≤xs.length∧i=.int .i64 k∧bj (bl id) (xs.drop k) k=G∧fj w.heap.size w wr) (fun i _=>xs.length-(intOf i).toNat)
 case atStart=>exact⟨0,by omega,rfl,H0.out,(fk _ _).alloc (fo _) _⟩
 case round =>
  obtain⟨k,hk,rfl,hp,hb⟩:=hrel
  by_cases hlt:k<xs.length
  · obtain⟨b,off,x,rfl,hbl,hx,hc,_⟩:=(hr.later hb).at_ hlt
    rw [zdU _ xs k x hx] at hp
    obtain⟨xid,xin,xout,xreg,xkind,xsp,xa,xc,xrows⟩:=x
    have d0:=hc 0 _ rfl;have d1:=hc 1 _ rfl;have d2:=hc 2 _ rfl;have d3:=hc 3 _ rfl;have d4:=hc 4 _ rfl;have d5:=hc 5 _ rfl;have d6:=hc 6 _ rfl
    simp only [fm] at d0 d1 d2 d3 d4 d5 d6
    have HB:=h_ (fun o=>hb.alloc hb.size o)
    by_cases ht:xid=id
    · subst ht
      rw [if_pos (by simp [bl])] at hp
      have HP:=h_ hp
      clear hc hx hp H0
      go_wp2_with fail
      go_ret
      exact⟨ag HP.out,HB.out _⟩
    · have ht':(xid==id)=false:=by simpa using ht
      rw [if_neg (by simp [bl,ht])] at hp
      have HP:=h_ hp
      clear hc hx hp H0 ht
      go_wp2_with fail
      go_roundw
      case rel=>exact⟨k+1,by omega,by go_num,HP.out,HB.out _⟩
      case measure=>simp [intOf];omega
  · obtain rfl:k=xs.length:=by omega
    rw [fu] at hp
    have HP:=h_ hp
    clear hp H0
    go_wp2_with fail
    go_ret
    exact⟨ag (by rw [←HP.out];rfl),hb⟩
def posF (evs:List Ev)(y:Int):Option Nat:=if posOf (bl y) evs<0 then none else some (posOf (bl y) evs).toNat
theorem zj3 (evs:List Ev)(z:Int)(i:Nat)(h:posF evs z=some i):i<evs.length:=by
 unfold posF at h
 split at h
 · cases h
 · rcases zdy (bl z) evs with hb|hb
   · omega
   · simp only [fA] at h;omega
theorem zg2 {evs:List Ev} {z:Int} (h:posF evs z=none):posOf (bl z) evs<0:=by
 unfold posF at h
 split at h
 · assumption
 · cases h
theorem zg1 {evs:List Ev} {z:Int} {i:Nat} (h:posF evs z=some i):posOf (bl z) evs=i:=by
 unfold posF at h
 split at h
 · cases h
 · simp only [fA] at h;omega
theorem zae {evs:List Ev} {z:Int}:(posF evs z).isSome=decide (0≤posOf (bl z) evs):=by
 unfold posF
 split
 · simp;omega
 · simp;omega
theorem zdY (cms:List Cm)(k:Nat)(c:Cm)(hk:k<cms.length):(k=0∧bT (aA cms k) c=false)∨(1≤k∧∃ p,cms[k-1]? =some p∧bT (aA cms k) c=decide (c.id≤p.id)):=by
 cases k with
 | zero=>exact .inl ⟨rfl,rfl⟩
 | succ j =>
   refine .inr ⟨by omega,cms[j],by simp only [Nat.add_sub_cancel];exact fr (by omega),?_⟩
   have e:aA cms (j+1)=some cms[j]:=fr (by omega)
   rw [e];rfl
theorem zdj (d:Doc)(k:Nat)(c:Cm)(w:e_)(hE:Env w)(hd:d.lies w)(hfd:d.fits)(hk:d.cms[k]? =some c)(hk0:k=0)(hnb:bT (aA d.cms k) c=false) :
 Calls ff 103 #[.agg d.enc.toArray,.int .i64 k] w fun e w'=>e=.returned (.int .i64 (di d.last (posF d.evs) d.evs (aA d.cms k) c))∧fj w.heap.size w w':=by
 have hcs:=zgl d.last (posF d.evs) d.evs (aA d.cms k) c _ rfl
 have has:=zcu d.last (posF d.evs) d.evs c (zj3 d.evs)
 have hkl:k<d.cms.length:=(List.getElem?_eq_some_iff.1 hk).1
 have hfc:=hfd.2.2.2.2.2.2.2.2.2.1 c (fq hk)
 have hlc:=hfd.2.2.2.2.2.2.2.2.2.2
 have hle:=hfd.2.2.2.2.2.2.2.2.1
 have hfe:=hfd.2.2.2.2.2.2.2.1
 have hF:=fun(id:Int) (w1:e_) (h:fj w.heap.size w w1)=>cK d id w1 (hd.2.1.later h) hle
 generalize di d.last (posF d.evs) d.evs (aA d.cms k) c=G at *
 generalize bw d.last (posF d.evs) d.evs c=A at *
 obtain⟨bb,off,c',hca,hbl,hc',hcc,_⟩:=hd.2.2.at_ hkl
 obtain rfl:c'=c:=fB (hc'.symm.trans hk)
 have hkd:decide (0<k)=false:=by simp;omega
 clear hk0
 have HEV:=h_ hd.2.1
 obtain⟨title,lA,rate,drop,last,ra,rc,rG,ea,ec,evs,ca,cc,cms⟩:=d
 simp only at hca
 subst hca
 obtain⟨_,hi2,hi3,hi4,hs1,hs2⟩:=hfc
 obtain⟨id,ev,frm,til,author,text,done,lost⟩:=c'
 simp only at hcs has hi2 hi3 hi4 hs1 hs2 hle hlc hfe hkl HEV
 have d0:=hcc 0 _ rfl;have d1:=hcc 1 _ rfl;have d2:=hcc 2 _ rfl;have d3:=hcc 3 _ rfl;have d4:=hcc 4 _ rfl;have d5:=hcc 5 _ rfl;have d6:=hcc 6 _ rfl;have d7:=hcc 7 _ rfl
 simp only [fm] at d0 d1 d2 d3 d4 d5 d6 d7
 simp only [Doc.enc] at hF ⊢
 generalize hds:#[fz title,.string lA,.int .u8 rate,.bool drop,.int .i64 last,.slice ra rG.length rc,.slice ea evs.length ec,.slice (some ⟨bb,off,none⟩) cms.length cc]=ds at *
 generalize hqs:#[fy .i64 id,.int .i64 ev,.int .i64 frm,.int .i64 til,.string author,.string text,.bool done,.bool lost]=qs
 have f0:=ah w ds qs 27 52 0 (.string title) (by rw [←hds];rfl)
 have f1:=ah w ds qs 27 52 1 (.string lA) (by rw [←hds];rfl)
 have f2:=ah w ds qs 27 52 2 (.int .u8 rate) (by rw [←hds];rfl)
 have f3:=ah w ds qs 27 52 3 (.bool drop) (by rw [←hds];rfl)
 have f4:=ah w ds qs 27 52 4 (.int .i64 last) (by rw [←hds];rfl)
 have f5:=ah w ds qs 27 52 5 (.slice ra rG.length rc) (by rw [←hds];rfl)
 have f6:=ah w ds qs 27 52 6 (.slice ea evs.length ec) (by rw [←hds];rfl)
 have f7:=ah w ds qs 27 52 7 (.slice (some ⟨bb,off,none⟩) cms.length cc) (by rw [←hds];rfl)
 have g0:=aj w ds qs 27 52 0 (.int .i64 id) (by rw [←hqs];rfl)
 have g1:=aj w ds qs 27 52 1 (.int .i64 ev) (by rw [←hqs];rfl)
 have g2:=aj w ds qs 27 52 2 (.int .i64 frm) (by rw [←hqs];rfl)
 have g3:=aj w ds qs 27 52 3 (.int .i64 til) (by rw [←hqs];rfl)
 have g4:=aj w ds qs 27 52 4 (.string author) (by rw [←hqs];rfl)
 have g5:=aj w ds qs 27 52 5 (.string text) (by rw [←hqs];rfl)
 have g7:=aj w ds qs 27 52 7 (.bool lost) (by rw [←hqs];rfl)
 have HB:=h_ (fun(w1:e_) (h:fj (w.heap.size+2) ((w.alloc (.cells ds 27)).alloc (.cells qs 52)) w1)=>aR h)
 have hb0:fj (w.heap.size+2) ((w.alloc (.cells ds 27)).alloc (.cells qs 52)) ((w.alloc (.cells ds 27)).alloc (.cells qs 52)):=fk _ _
 have hsz:((w.alloc (.cells ds 27)).alloc (.cells qs 52)).heap.size=w.heap.size+2:=by simp
 skip
 generalize hW0:(w.alloc (.cells ds 27)).alloc (.cells qs 52)=W0 at *
 have HW0:=h_ hW0
 have HSZ:=h_ hsz
 have HT0:=h_ (fun(w2 w3:e_) (h:fj (w.heap.size+2) W0 w2) (h3:fj w2.heap.size w2 w3)=>h.trans (h3.mono (by have:=h.size;rw [hsz] at this;exact this)))
 have HF:=h_ hF
 have HFE:=h_ hfe
 have HAS:=h_ has
 have HEN:=h_ (fun(w1:e_) (h:fj (w.heap.size+2) W0 w1)=>hE.below (HB.out _ h) (fo _))
 have HNM:=h_ (fun w1=>cQ author w1 hs1)
 have HVA:=h_ (fun w1=>cD text w1 hs2)
 have HCS:=h_ hcs
 clear hW0 hsz hF hfe hd hfd hE hcc hc' hk has hcs
 generalize bW author=NB at *
 generalize bf text=VB at *
 rcases HCS.out with⟨rfl,h1⟩|⟨rfl,h1,h2⟩|⟨h1,h2,hcs⟩
 · clear HCS HAS
   go_enter fg,fb
   subst hds
   subst hqs
   go_wp2_with fail
   rw [HW0.out]
   go_ret
   exact⟨rfl,HB.out _ hb0⟩
 · clear HCS HAS
   go_enter fg,fb
   subst hds
   subst hqs
   go_wp2_with fail
   rw [HW0.out]
   go_ret
   exact⟨rfl,HB.out _ hb0⟩
 · have HCS2:=h_ hcs
   clear HCS hcs
   obtain⟨_,hcs⟩:_∧_:=by rcases HCS2.out with⟨h,_⟩|h;rw [hnb] at h;cases h;exact h
   clear HCS2 hnb
   go_enter fg,fb
   subst hds
   subst hqs
   go_wp2_with fail
   rw [HW0.out]
   go_quiet (fail)
   go_wp2_with fail
   have hq0:=below_drewN hb0
   refine(HF.out id _ (HB.out _ (hq0 _))).mono ?_
   rintro e w1 ⟨rfl,hb1⟩
   have hc1:=HT0.out _ _ (hq0 _) hb1
   clear hb1
   rcases hcs with⟨hs,rfl⟩|⟨hs,hcs⟩
   · have hp1:decide (0≤posOf (bl id) evs)=true:=by rw [←zae];exact hs
     clear hs HAS
     go_wp2_with fail
     go_ret
     exact⟨rfl,HB.out _ hc1⟩
   · have hp1:decide (0≤posOf (bl id) evs)=false:=by rw [←zae];exact hs
     clear hs
     rcases HAS.out with⟨rfl,a1⟩|⟨rfl,a1,a2⟩|⟨a1,a2,⟨rfl,⟨rfl,a3⟩|⟨rfl,rfl,a3⟩|⟨rfl,rfl,rfl⟩⟩|⟨rfl,⟨hq,rfl⟩|⟨i,x,hq,hi,hx,hcx⟩⟩⟩
     · obtain rfl:G=2:=by rcases hcs with⟨_,h⟩|⟨h,_⟩;exact h;cases h
       clear HAS hcs
       go_wp2_with fail
       go_ret
       exact⟨rfl,HB.out _ hc1⟩
     · obtain rfl:G=2:=by rcases hcs with⟨_,h⟩|⟨h,_⟩;exact h;cases h
       clear HAS hcs
       go_wp2_with fail
       go_ret
       exact⟨rfl,HB.out _ hc1⟩
     · obtain rfl:G=2:=by rcases hcs with⟨_,h⟩|⟨h,_⟩;exact h;cases h
       have a3d:(frm != 0)=true:=by simpa using a3
       clear HAS hcs a3
       go_wp2_with fail
       go_ret
       exact⟨rfl,HB.out _ hc1⟩
     · obtain rfl:G=2:=by rcases hcs with⟨_,h⟩|⟨h,_⟩;exact h;cases h
       have a3d:(til != 0)=true:=by simpa using a3
       clear HAS hcs a3
       go_wp2_with fail
       go_ret
       exact⟨rfl,HB.out _ hc1⟩
     · obtain⟨_,htail⟩:_∧_:=by rcases hcs with⟨h,_⟩|h;cases h;exact h
       clear HAS hcs
       have hcx:=hc1
       clear f0 f1 f2 f3 f5 f6 f7
       rcases htail with⟨rfl,rfl⟩|⟨rfl,⟨rfl,rfl⟩|⟨rfl,⟨he,rfl⟩|⟨he,⟨hz,rfl⟩|⟨hz,rfl⟩⟩⟩⟩
       · go_wp2_with (first
          | (go_at_call 171;refine(HNM.out _).mono ?_;rintro e w8 ⟨rfl,rfl⟩)
          | (go_at_call 170;refine(HVA.out _).mono ?_;rintro e w9 ⟨rfl,hb9⟩;have hc9:=HT0.out _ _ hcx hb9;clear hb9))
         go_ret
         exact⟨rfl,HB.out _ hc1⟩
       · go_wp2_with (first
          | (go_at_call 171;refine(HNM.out _).mono ?_;rintro e w8 ⟨rfl,rfl⟩)
          | (go_at_call 170;refine(HVA.out _).mono ?_;rintro e w9 ⟨rfl,hb9⟩;have hc9:=HT0.out _ _ hcx hb9;clear hb9))
         go_ret
         exact⟨rfl,HB.out _ hc9⟩
       · have he2:text.toList.isEmpty=true:=by simpa using he
         go_wp2_with (first
          | (go_at_call 171;refine(HNM.out _).mono ?_;rintro e w8 ⟨rfl,rfl⟩)
          | (go_at_call 170;refine(HVA.out _).mono ?_;rintro e w9 ⟨rfl,hb9⟩;have hc9:=HT0.out _ _ hcx hb9;clear hb9))
         go_ret
         exact⟨rfl,HB.out _ hc9⟩
       · have he2:text.toList.isEmpty=false:=by simpa using he
         go_wp2_with (first
          | (go_at_call 171;refine(HNM.out _).mono ?_;rintro e w8 ⟨rfl,rfl⟩)
          | (go_at_call 170;refine(HVA.out _).mono ?_;rintro e w9 ⟨rfl,hb9⟩;have hc9:=HT0.out _ _ hcx hb9;clear hb9))
         go_ret
         exact⟨rfl,HB.out _ hc9⟩
       · have he2:text.toList.isEmpty=false:=by simpa using he
         have hz2:decide ((400:Int)<(text.size:Int))=false:=by simp;omega
         go_wp2_with (first
          | (go_at_call 171;refine(HNM.out _).mono ?_;rintro e w8 ⟨rfl,rfl⟩)
          | (go_at_call 170;refine(HVA.out _).mono ?_;rintro e w9 ⟨rfl,hb9⟩;have hc9:=HT0.out _ _ hcx hb9;clear hb9))
         go_ret
         exact⟨rfl,HB.out _ hc9⟩
     · obtain rfl:G=6:=by rcases hcs with⟨_,h⟩|⟨h,_⟩;exact h;cases h
       have hp2:=zg2 hq
       clear HAS hcs hq
       go_wp2_with fail
       refine(HF.out ev _ (HB.out _ hc1)).mono ?_
       rintro e w2 ⟨rfl,hb2⟩
       have hc2:=HT0.out _ _ hc1 hb2
       clear hb2
       go_wp2_with fail
       go_ret
       exact⟨rfl,HB.out _ hc2⟩
     · have hp2:=zg1 hq
       have HF2:=h_ (HF.out ev)
       rw [hp2] at HF2
       clear HAS hq hp2
       obtain⟨eb,eo,x',hea,hebl,hx',hxc,hok⟩:=HEV.out.at_ hi
       subst hea
       obtain rfl:x'=x:=fB (hx'.symm.trans hx)
       have hfx:=HFE.out x' (fq hx)
       have HLen:=h_ (fun(w3:e_) (h:fj (w.heap.size+2) W0 w3)=>(za9 x' w3 (HEN.out _ h) (Ev.keeps _ _ _ (HB.out _ h) hok) hfx).mono (fun e w' (q:e=.returned (.int .i64 (eG x'.rows))∧fj w3.heap.size w3 w')=>(show e=.returned (.int .i64 (eG x'.rows))∧fj (w.heap.size+2) W0 w' from⟨q.1,HT0.out _ _ h q.2⟩)))
       have hxd:∀ j v,x'.enc[j]? =some v→∀ w3,fj (w.heap.size+2) W0 w3→w3.cell? ⟨eb,eo+i*7+j,none⟩=some v:=fun j v hv w3 h=>by
        rw [(HB.out _ h).cell (p:=⟨eb,eo+i*7+j,none⟩) hebl]
        exact hxc j v hv
       clear hx hx' hxc hok hfx
       obtain⟨xid,xin,xout,xreg,xkind,xsp,xa,xc,xrows⟩:=x'
       have e0:=hxd 0 _ rfl;have e1:=hxd 1 _ rfl;have e2:=hxd 2 _ rfl;have e3:=hxd 3 _ rfl;have e4:=hxd 4 _ rfl;have e5:=hxd 5 _ rfl;have e6:=hxd 6 _ rfl
       simp only [fm] at e0
       simp only [Ev.enc] at HLen hcx
       generalize eG xrows=L at *
       clear hxd
       rcases hcx with⟨rfl,h3⟩|⟨rfl,h3,h4⟩|⟨h3,h4,⟨rfl,h5⟩|⟨rfl,h5⟩⟩
       · obtain rfl:G=2:=by rcases hcs with⟨_,h⟩|⟨h,_⟩;exact h;cases h
         have h3d:decide (frm<0)=true:=by simp;omega
         clear HLen hcs
         go_wp2_with fail
         refine(HF2.out _ (HB.out _ hc1)).mono ?_
         rintro e w2 ⟨rfl,hb2⟩
         have hc2:=HT0.out _ _ hc1 hb2
         clear hb2
         go_wp2_with fail
         go_quiet (fail)
         go_wp2_with fail
         go_ret
         exact⟨rfl,HB.out _ (below_drewN hc2 _)⟩
       · obtain rfl:G=2:=by rcases hcs with⟨_,h⟩|⟨h,_⟩;exact h;cases h
         have h3d:decide (frm<0)=false:=by simp;omega
         have h4d:decide (til≤frm)=true:=by simp;omega
         clear HLen hcs
         go_wp2_with fail
         refine(HF2.out _ (HB.out _ hc1)).mono ?_
         rintro e w2 ⟨rfl,hb2⟩
         have hc2:=HT0.out _ _ hc1 hb2
         clear hb2
         go_wp2_with fail
         go_quiet (fail)
         go_wp2_with fail
         go_ret
         exact⟨rfl,HB.out _ (below_drewN hc2 _)⟩
       · obtain rfl:G=2:=by rcases hcs with⟨_,h⟩|⟨h,_⟩;exact h;cases h
         have h3d:decide (frm<0)=false:=by simp;omega
         have h4d:decide (til≤frm)=false:=by simp;omega
         have h5d:decide (L<til)=true:=by simp;omega
         clear hcs
         go_wp2_with fail
         refine(HF2.out _ (HB.out _ hc1)).mono ?_
         rintro e w2 ⟨rfl,hb2⟩
         have hc2:=HT0.out _ _ hc1 hb2
         clear hb2
         go_wp2_with fail
         have hb0d:fj (w.heap.size+2) W0 w2.drew:=hc2.drew
         go_region_held3 (fun w'=>fj (w.heap.size+2) W0 w') (first|assumption|exact hb0d) (first|(go_at_call 182;((with_reducible refine(HLen.out _ ?_).mono ?_);assumption);rintro e w3 ⟨rfl,hb3⟩))
         all_goals
          go_wp2_with fail
          go_ret
          exact⟨rfl,HB.out _ (by assumption)⟩
       · obtain⟨_,htail⟩:_∧_:=by rcases hcs with⟨h,_⟩|h;cases h;exact h
         have h3d:decide (frm<0)=false:=by simp;omega
         have h4d:decide (til≤frm)=false:=by simp;omega
         have h5d:decide (L<til)=false:=by simp;omega
         clear hcs
         go_wp2_with fail
         refine(HF2.out _ (HB.out _ hc1)).mono ?_
         rintro e w2 ⟨rfl,hb2⟩
         have hc2:=HT0.out _ _ hc1 hb2
         clear hb2
         go_wp2_with fail
         have hb0d:fj (w.heap.size+2) W0 w2.drew:=hc2.drew
         go_region_held3 (fun w'=>fj (w.heap.size+2) W0 w') (first|assumption|exact hb0d) (first|(go_at_call 182;((with_reducible refine(HLen.out _ ?_).mono ?_);assumption);rintro e w3 ⟨rfl,hb3⟩))
         all_goals
          clear e0 e1 e2 e3 e4 e5 e6 f0 f1 f2 f3 f4 f5 f6 f7 g0 g1 g2 g3 g7
          rcases htail with⟨rfl,rfl⟩|⟨rfl,⟨rfl,rfl⟩|⟨rfl,⟨he,rfl⟩|⟨he,⟨hz,rfl⟩|⟨hz,rfl⟩⟩⟩⟩
          · go_wp2_with (first
             | (go_at_call 171;refine(HNM.out _).mono ?_;rintro e w8 ⟨rfl,rfl⟩)
             | (go_at_call 170;refine(HVA.out _).mono ?_;rintro e w9 ⟨rfl,hb9⟩;have hc9:=HT0.out _ _ (by assumption) hb9;clear hb9))
            go_ret
            exact⟨rfl,HB.out _ (by assumption)⟩
          · go_wp2_with (first
             | (go_at_call 171;refine(HNM.out _).mono ?_;rintro e w8 ⟨rfl,rfl⟩)
             | (go_at_call 170;refine(HVA.out _).mono ?_;rintro e w9 ⟨rfl,hb9⟩;have hc9:=HT0.out _ _ (by assumption) hb9;clear hb9))
            go_ret
            exact⟨rfl,HB.out _ hc9⟩
          · have he2:text.toList.isEmpty=true:=by simpa using he
            go_wp2_with (first
             | (go_at_call 171;refine(HNM.out _).mono ?_;rintro e w8 ⟨rfl,rfl⟩)
             | (go_at_call 170;refine(HVA.out _).mono ?_;rintro e w9 ⟨rfl,hb9⟩;have hc9:=HT0.out _ _ (by assumption) hb9;clear hb9))
            go_ret
            exact⟨rfl,HB.out _ hc9⟩
          · have he2:text.toList.isEmpty=false:=by simpa using he
            go_wp2_with (first
             | (go_at_call 171;refine(HNM.out _).mono ?_;rintro e w8 ⟨rfl,rfl⟩)
             | (go_at_call 170;refine(HVA.out _).mono ?_;rintro e w9 ⟨rfl,hb9⟩;have hc9:=HT0.out _ _ (by assumption) hb9;clear hb9))
            go_ret
            exact⟨rfl,HB.out _ hc9⟩
          · have he2:text.toList.isEmpty=false:=by simpa using he
            have hz2:decide ((400:Int)<(text.size:Int))=false:=by simp;omega
            go_wp2_with (first
             | (go_at_call 171;refine(HNM.out _).mono ?_;rintro e w8 ⟨rfl,rfl⟩)
             | (go_at_call 170;refine(HVA.out _).mono ?_;rintro e w9 ⟨rfl,hb9⟩;have hc9:=HT0.out _ _ (by assumption) hb9;clear hb9))
            go_ret
            exact⟨rfl,HB.out _ hc9⟩
end Go.Proofs.YtnlnmbcaongehaaGreatDoor
