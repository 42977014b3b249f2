/- The contract of region.CheckList: the first error of a list of regions. The contract of event.Check: the first error of an event. slices.Delete at regions, events and comments: one element of an own row is taken out. -/
import Derived.Deep.DrawnRows
import Derived.Test.YtjebaagkomejaaaGreatDoorH09
set_option linter.unusedVariables false
set_option linter.unusedSimpArgs false
set_option maxRecDepth 100000
set_option maxHeartbeats 12800000
open Go.Lib renaming hid→h_
open Go renaming World→Sh,run_storeCells_cells→Si,run_underlying→Sj,Value→Sk
open Go.RowKit renaming Below→Sl
open Go.RowKit.Below renaming refl→Sm,heap_setCell→Sn
open List renaming getElem?_eq_some_iff→Sp,mem_of_getElem?→Sq,length_map→Sr,mem_map→Ss,getElem_of_mem→St,getElem?_drop→Su,filter_cons→Sv,mem_filter→Sw,map_map→Sx
open Nat renaming add_zero→Sy,le_refl→Sz,le_trans→SA,lt_of_lt_of_le→SB,mul_one→SC
open Go.World renaming size_alloc→SD
open Go.Builtin renaming clear_→SF,zeroCells→SG
namespace Go.Proofs.YtjebaagkomejaaaGreatDoor
open Go.RowKit
theorem BZ (a:Option Addr)(cap:Nat)(xs:List Reg)(w:Sh)(hR:Regs w a xs)(hf:∀ x∈xs,x.fits)(hn:xs.length≤16) :
 Calls Tryz.prog 64 #[.slice a xs.length cap] w fun e w'=>e=.returned (.int .i64 (gI xs))∧Sl w.heap.size w w':=by
 rw [gI,if_neg (by omega)]
 generalize hG:dL none xs=G
 have H0:=h_ (show dL (gX xs 0) (xs.drop 0)=G by rw [List.drop_zero];exact hG)
 have hn2:decide ((16:Int)<(xs.length:Int))=false:=by simp;omega
 clear hG
 go_enter Tryz.func64,Tryz.ntmps64
 go_wp2_with fail
 go_loopw [11] (fun i wr=>∃ k:Nat,k≤xs.length∧i=.int .i64 k∧dL (gX xs k) (xs.drop k)=G∧Sl w.heap.size w wr) (fun i _=>xs.length-(intOf i).toNat)
 case atStart=>exact⟨0,by omega,rfl,H0.out,Sm _ _⟩
 case round =>
  obtain⟨k,hk,rfl,hp,hb⟩:=hrel
  by_cases hlt:k<xs.length
  · obtain⟨b,off,x,rfl,hbl,hx,hc,_⟩:=(hR.later hb).at_ hlt
    have hfx:=hf x (Sq hx)
    have HC:=h_ (fun w=>gE x w hfx)
    have hB1:∀ (o:Obj) (w1:Sh),Sl (wr.heap.size+1) (wr.alloc o) w1→Sl w.heap.size w w1:=fun o w1 h=>(hb.alloc hb.size o).trans (h.mono (by have:=hb.size;omega))
    have HB1:=h_ hB1
    have HN:=h_ (pY xs k x hx (gX xs k))
    have HS:=h_ (pX xs k x hx (gX xs k))
    have HP:=h_ hp
    have hRr:=hR.later hb
    obtain⟨xn,xt,xh,xl,xw,xa,xb⟩:=x
    have d0:=hc 0 _ rfl;have d1:=hc 1 _ rfl;have d2:=hc 2 _ rfl;have d3:=hc 3 _ rfl;have d4:=hc 4 _ rfl;have d5:=hc 5 _ rfl;have d6:=hc 6 _ rfl
    simp only [Sy] at d0 d1 d2 d3 d4 d5 d6
    cases hE:fo ⟨xn,xt,xh,xl,xw,xa,xb⟩ != 0
    · have hE0:fo ⟨xn,xt,xh,xl,xw,xa,xb⟩=0:=by simpa using hE
      have mg:=h_ hE0
      simp only [Reg.enc] at HC
      rw [hE0] at HC
      clear hE hE0 hp hB1 hc
      rcases Nat.eq_zero_or_pos k with hk0|hk0
      · have hst:=h_ (show eE (gX xs k) ⟨xn,xt,xh,xl,xw,xa,xb⟩=0 by rw [hk0];simp [eE,gX,mg.out])
        have hkd:decide (0<k)=false:=by simp;omega
        clear hRr hk0
        go_wp2_with (go_at_call 80;refine(HC.out _).mono ?_;rintro e w1 ⟨rfl,hb1⟩;simp only [SD] at hb1)
        go_quiet (fail)
        go_wp2_with fail
        go_quiet (fail)
        go_wp2_with fail
        go_roundw
        case rel=>exact⟨k+1,by omega,by go_num,by rw [←HN.out hst.out];exact HP.out,Go.below_drewN (HB1.out _ _ hb1) _⟩
        case measure=>simp [intOf];omega
      · obtain⟨b',off',y,hab,_,hy,hcy,_⟩:=hRr.at_ (show k-1<xs.length by omega)
        simp only [Option.some.injEq,Addr.mk.injEq,and_true] at hab
        obtain⟨rfl,rfl⟩:=hab
        obtain⟨yn,yt,yh,yl,yw,ya,yb⟩:=y
        have e0:=hcy 0 _ rfl
        simp only [Sy] at e0
        have hpv:gX xs k=some yn:=by
         obtain⟨j,rfl⟩:∃ j,k=j+1:=⟨k-1,by omega⟩
         simp only [Nat.add_sub_cancel] at hy
         simp [gX,hy]
        have hst:eE (gX xs k) ⟨xn,xt,xh,xl,xw,xa,xb⟩=if (xn.toList==yn.toList)=true then 7 else if Op.bytesLess xn.toList yn.toList=true then 8 else 0:=by
         rw [hpv];simp [eE,mg.out]
        have hcell:∀ w1,Sl (wr.heap.size+1) (wr.alloc (.cells #[.string xn,.int .i64 xt,.int .i64 xh,.int .i64 xl,.int .i64 xw,.int .u8 xa,.bool xb] 37)) w1→w1.cell? ⟨wr.heap.size,0,none⟩=some (.string xn)∧w1.cell? ⟨b,off+(k-1)*7,none⟩=some (.string yn):=fun w1 h =>
         ⟨ax wr _ _ 0 _ rfl w1 h,by
          rw [h.cell (p:=⟨b,off+(k-1)*7,none⟩) (by simp;omega),Sh.cell?_alloc_lt _ _ _ (by simpa using hbl)]
          exact e0⟩
        have pw:=h_ hcell
        have hkd:decide (0<k)=true:=by simp;omega
        have hk1:1≤k:=hk0
        have hkz:(1:Int)≤(k:Int):=by omega
        have hkl:(k:Int)-1<(xs.length:Int):=by omega
        have hwr:IntKind.i64.wrap ((k:Int)-1)=(k:Int)-1:=IntWalk.i64_in _ (by omega)
        have hkn:((k:Int)-1).toNat=k-1:=by omega
        clear hcell hpv hRr hcy hy e0 hk0
        rcases h1:xn.toList==yn.toList with _|_
        · rcases h2:Op.bytesLess xn.toList yn.toList with _|_
          · rw [h1,h2,if_neg (by decide),if_neg (by decide)] at hst
            have HST:=h_ hst
            clear hst
            go_wp2_with (go_at_call 80;refine(HC.out _).mono ?_;rintro e w1 ⟨rfl,hb1⟩;simp only [SD] at hb1;have hq1:=(pw.out _ hb1).1;have hq2:=(pw.out _ hb1).2)
            go_quiet (fail)
            go_wp2_with fail
            go_quiet (fail)
            go_wp2_with fail
            go_roundw
            case rel=>exact⟨k+1,by omega,by go_num,by rw [←HN.out HST.out];exact HP.out,Go.below_drewN (HB1.out _ _ hb1) _⟩
            case measure=>simp [intOf];omega
          · rw [h1,h2,if_neg (by decide),if_pos rfl] at hst
            have HST:=h_ hst
            clear hst
            go_wp2_with (go_at_call 80;refine(HC.out _).mono ?_;rintro e w1 ⟨rfl,hb1⟩;simp only [SD] at hb1;have hq1:=(pw.out _ hb1).1;have hq2:=(pw.out _ hb1).2)
            go_quiet (fail)
            go_wp2_with fail
            go_quiet (fail)
            go_wp2_with fail
            go_ret
            exact⟨aG (by rw [←HP.out,HS.out (by rw [HST.out];rfl),HST.out]),Go.below_drewN (Go.below_drewN (HB1.out _ _ hb1) _) _⟩
        · rw [h1,if_pos rfl] at hst
          have HST:=h_ hst
          clear hst
          go_wp2_with (go_at_call 80;refine(HC.out _).mono ?_;rintro e w1 ⟨rfl,hb1⟩;simp only [SD] at hb1;have hq1:=(pw.out _ hb1).1;have hq2:=(pw.out _ hb1).2)
          go_quiet (fail)
          go_wp2_with fail
          go_ret
          exact⟨aG (by rw [←HP.out,HS.out (by rw [HST.out];rfl),HST.out]),Go.below_drewN (HB1.out _ _ hb1) _⟩
    · have hst:eE (gX xs k) ⟨xn,xt,xh,xl,xw,xa,xb⟩=fo ⟨xn,xt,xh,xl,xw,xa,xb⟩:=by unfold eE;exact if_pos hE
      have HST:=h_ hst
      simp only [Reg.enc] at HC
      generalize fo ⟨xn,xt,xh,xl,xw,xa,xb⟩=E at *
      clear hst hp hB1 hc hRr hfx hx
      go_wp2_with (go_at_call 80;refine(HC.out _).mono ?_;rintro e w1 ⟨rfl,hb1⟩;simp only [SD] at hb1)
      go_ret
      exact⟨aG (by rw [←HP.out,HS.out (by rw [HST.out];exact hE),HST.out]),HB1.out _ _ hb1⟩
  · obtain rfl:k=xs.length:=by omega
    rw [List.drop_length] at hp
    have HP:=h_ hp
    clear hp H0
    go_wp2_with fail
    go_ret
    exact⟨aG (by rw [←HP.out];cases gX xs xs.length<;>rfl),hb⟩
theorem xf (a:Option Addr)(cap:Nat)(xs:List Reg)(w:Sh)(hR:Regs w a xs)(hf:∀ x∈xs,x.fits) :
 Calls Tryz.prog 64 #[.slice a xs.length cap] w fun e w'=>e=.returned (.int .i64 (gI xs))∧Sl w.heap.size w w':=by
 by_cases hn:16<xs.length
 · exact zK a cap xs w hn
 · exact BZ a cap xs w hR hf (by omega)
theorem fC (x:Ev)(a:Option Addr)(cap:Nat)(rG:List Reg)(w:Sh)(hE:Env w)(hr:x.lies w)(hf:x.fits)(hR:Regs w a rG)(hfr:∀ r∈rG,r.fits)(hlr:rG.length≤4000000) :
 Calls Tryz.prog 65 #[.agg x.enc.toArray,.slice a rG.length cap] w fun e w'=>e=.returned (.int .i64 (fS x rG))∧Sl w.heap.size w w':=by
 have Az:=fun w1 h1=>xP a cap rG x.region w1 h1 hlr
 have K_:=xQ rG x.region hfr
 have hLn:=fun w1 h1 h2=>oX x w1 h1 h2 hf
 have hfl:=mK x.rows hf.2.2.2.2.2.2.2.1
 generalize hG:fS x rG=G
 unfold fS at hG
 generalize hF:kd rG x.region=F at *
 obtain⟨R,found⟩:=F
 simp only at hG K_
 have hcs:=CB x found
 obtain⟨_,_,_,hs1,hk0,hk1,hs2,hfx,hl⟩:=hf
 have Al:(da x.rows).length=x.rows.length:=by simp [da]
 obtain⟨id,inn,out,region,kind,speaker,ra,rc,rows⟩:=x
 simp only [Ev.lies] at hr hfx hl hLn hs1 hs2 hk0 hk1 Al hfl
 simp only [Ev.enc] at hLn Az ⊢
 generalize gw ⟨id,inn,out,region,kind,speaker,ra,rc,rows⟩ found=EH at *
 simp only at hG hcs
 have HG:=h_ hG
 generalize sx:#[Sk.int .i64 id,.int .i64 inn,.int .i64 out,.string region,.int .u8 kind,.string speaker,.slice ra rows.length rc]=cs at *
 have f0:=ax w cs 72 0 (.int .i64 id) (by rw [←sx];rfl)
 have f1:=ax w cs 72 1 (.int .i64 inn) (by rw [←sx];rfl)
 have f2:=ax w cs 72 2 (.int .i64 out) (by rw [←sx];rfl)
 have f3:=ax w cs 72 3 (.string region) (by rw [←sx];rfl)
 have f4:=ax w cs 72 4 (.int .u8 kind) (by rw [←sx];rfl)
 have f5:=ax w cs 72 5 (.string speaker) (by rw [←sx];rfl)
 have f6:=ax w cs 72 6 (.slice ra rows.length rc) (by rw [←sx];rfl)
 have HB:=h_ (fun(w1:Sh) (h:Sl (w.heap.size+1) (w.alloc (.cells cs 72)) w1)=>bK h)
 have HE:=h_ (fun(w1:Sh) (h:Sl (w.heap.size+1) (w.alloc (.cells cs 72)) w1)=>hE.below (bK h) (Sz _))
 have HR:=h_ (fun(w1:Sh) (h:Sl (w.heap.size+1) (w.alloc (.cells cs 72)) w1)=>hr.later (bK h))
 have MO:=h_ (fun(w1:Sh) (h:Sl (w.heap.size+1) (w.alloc (.cells cs 72)) w1)=>hR.later (bK h))
 have hb0:Sl (w.heap.size+1) (w.alloc (.cells cs 72)) (w.alloc (.cells cs 72)):=Sm _ _
 have hsz:(w.alloc (.cells cs 72)).heap.size=w.heap.size+1:=SD _ _
 have DB:=h_ Az
 have IK:=h_ hLn
 generalize hW0:w.alloc (.cells cs 72)=W0 at *
 have HW0:=h_ hW0
 have dV:=h_ hsz
 have wt:=h_ Al
 have JT:=h_ K_
 have jR:=h_ hfx
 have Jf:=h_ hcs
 clear hW0 hsz hE hr hR Az hLn hG hcs hfr hF Al K_ hfx hfl
 go_enter Tryz.func65,Tryz.ntmps65
 subst sx
 go_wp2_with fail
 rw [HW0.out]
 refine(DB.out _ (MO.out _ hb0)).mono ?_
 rintro e w1 ⟨rfl,hb1⟩
 rw [dV.out] at hb1
 clear HW0 DB
 obtain⟨Rn,Rt,Rh,Rl,Rw,Ra,Rb⟩:=R
 simp only [Reg.enc]
 have hlt1:w.heap.size<w1.heap.size:=by have:=hb1.size;rw [dV.out] at this;omega
 have EZ:Hid (∀ o,Sl (w.heap.size+1) W0 (w1.alloc o)):=h_ (fun o=>hb1.alloc (by omega) o)
 have Bh:=h_ (fun(n:Int) (h:EH=n) (h0:(n != 0)=true)=>(show n=G by rw [←HG.out,h,if_pos h0]))
 have M5:=h_ (fun(h:EH=0)=>(show tY ⟨Rn,Rt,Rh,Rl,Rw,Ra,Rb⟩ rows=G by rw [←HG.out,h,if_neg (by decide)]))
 clear HG
 generalize hrs:#[Sk.string Rn,.int .i64 Rt,.int .i64 Rh,.int .i64 Rl,.int .i64 Rw,.int .u8 Ra,.bool Rb]=rs at *
 have g0:=ax w1 rs 37 0 (.string Rn) (by rw [←hrs];rfl)
 have g1:=ax w1 rs 37 1 (.int .i64 Rt) (by rw [←hrs];rfl)
 have g2:=ax w1 rs 37 2 (.int .i64 Rh) (by rw [←hrs];rfl)
 have g3:=ax w1 rs 37 3 (.int .i64 Rl) (by rw [←hrs];rfl)
 have g4:=ax w1 rs 37 4 (.int .i64 Rw) (by rw [←hrs];rfl)
 have g5:=ax w1 rs 37 5 (.int .u8 Ra) (by rw [←hrs];rfl)
 have g6:=ax w1 rs 37 6 (.bool Rb) (by rw [←hrs];rfl)
 have hsz1:(w1.alloc (.cells rs 37)).heap.size=w1.heap.size+1:=SD _ _
 have HT1:=h_ (fun(w2:Sh) (h:Sl (w1.heap.size+1) (w1.alloc (.cells rs 37)) w2)=>(EZ.out (.cells rs 37)).trans (h.mono (by omega)))
 have HT2:=h_ (fun(w2 w3:Sh) (h:Sl (w1.heap.size+1) (w1.alloc (.cells rs 37)) w2) (h3:Sl w2.heap.size w2 w3)=>h.trans (h3.mono (by have:=h.size;omega)))
 have hc1:Sl (w1.heap.size+1) (w1.alloc (.cells rs 37)) (w1.alloc (.cells rs 37)):=Sm _ _
 have hd1:Sl (w.heap.size+1) W0 (w1.alloc (.cells rs 37)):=EZ.out _
 have Ih:=h_ hsz1
 have CP:=HT1
 clear hsz1
 generalize hW1:w1.alloc (.cells rs 37)=W1 at *
 have HW1:=h_ hW1
 clear hW1
 subst hrs
 have hsb:=fun w2=>tL inn out w2
 have hkb:=fun w2=>jz kind w2 hk0 hk1
 have hnb:=fun w2=>eK speaker w2 hs2
 generalize cL inn out=SP at *
 generalize c_ speaker=NB at *
 have HS:=h_ hsb
 have HK:=h_ hkb
 have HN:=h_ hnb
 clear hsb hkb hnb
 rcases Jf.out with⟨he,hi|⟨hi0,hi⟩⟩|⟨he,hi0,hi1,hsp⟩|⟨hi0,hi1,hsp,⟨he,rfl⟩|⟨rfl,⟨he,hk⟩|⟨Ha,G_,⟨he,tr,hnm⟩|⟨tr,⟨he,hn⟩|⟨he,hn0,hn1⟩⟩⟩⟩⟩
 · have vm:=h_ he
   clear he Jf
   go_wp2_with fail
   rw [HW1.out]
   go_ret
   exact⟨aG (Bh.out _ vm.out rfl),HB.out _ hd1⟩
 · have vm:=h_ he
   clear he Jf
   go_wp2_with fail
   rw [HW1.out]
   go_ret
   exact⟨aG (Bh.out _ vm.out rfl),HB.out _ hd1⟩
 · have vm:=h_ he
   subst hsp
   clear he Jf
   go_wp2_with fail
   rw [HW1.out]
   refine(HS.out _).mono ?_
   rintro e w2 ⟨rfl,hb2⟩
   have hc2:=HT2.out _ _ hc1 hb2
   have hd2:=HT1.out _ hc2
   go_wp2_with fail
   go_ret
   exact⟨aG (Bh.out _ vm.out rfl),HB.out _ hd2⟩
 all_goals
  have vm:=h_ he
  subst hsp
  clear he Jf
  go_wp2_with fail
  rw [HW1.out]
  refine(HS.out _).mono ?_
  rintro e w2 ⟨rfl,hb2⟩
  have hc2:=HT2.out _ _ hc1 hb2
  have hd2:=HT1.out _ hc2
  clear hb2
 · go_wp2_with fail
   go_ret
   exact⟨aG (Bh.out _ vm.out rfl),HB.out _ hd2⟩
 · rw [um kind hk] at HK
   clear hk
   go_wp2_with fail
   refine(HK.out _).mono ?_
   rintro e w3 ⟨rfl,hb3⟩
   have hc3:=HT2.out _ _ hc2 hb3
   have hd3:=HT1.out _ hc3
   go_wp2_with fail
   go_ret
   exact⟨aG (Bh.out _ vm.out rfl),HB.out _ hd3⟩
 all_goals
  have hkn:=sh kind Ha G_
  clear Ha G_
  generalize kindName kind=KN at *
  have hkn2:KN.toList.isEmpty=false:=by simpa using hkn
  go_wp2_with fail
  refine(HK.out _).mono ?_
  rintro e w3 ⟨rfl,hb3⟩
  have hc3:=HT2.out _ _ hc2 hb3
  have hd3:=HT1.out _ hc3
  clear hb3
 · subst hnm
   have sn:speaker.toList.isEmpty=false:=by simpa using tr
   go_wp2_with fail
   refine(HN.out _).mono ?_
   rintro e w4 ⟨rfl,rfl⟩
   go_wp2_with fail
   go_ret
   exact⟨aG (Bh.out _ vm.out rfl),HB.out _ hd3⟩
 · rcases hn with hn|hn<;>rcases tr with tr|⟨tr,rfl⟩
   · have sn:speaker.toList.isEmpty=true:=by simpa using tr
     go_wp2_with fail
     go_ret
     exact⟨aG (Bh.out _ vm.out rfl),HB.out _ hd3⟩
   · have sn:speaker.toList.isEmpty=false:=by simpa using tr
     go_wp2_with (go_at_call 78;refine(HN.out _).mono ?_;rintro e w4 ⟨rfl,rfl⟩)
     go_ret
     exact⟨aG (Bh.out _ vm.out rfl),HB.out _ hd3⟩
   · have sn:speaker.toList.isEmpty=true:=by simpa using tr
     have t0:((rows.length:Int)==0)=false:=by rw [beq_eq_false_iff_ne];omega
     have t1:¬ rows=[]:=by rintro rfl;simp at hn
     go_wp2_with fail
     go_ret
     exact⟨aG (Bh.out _ vm.out rfl),HB.out _ hd3⟩
   · have sn:speaker.toList.isEmpty=false:=by simpa using tr
     have t0:((rows.length:Int)==0)=false:=by rw [beq_eq_false_iff_ne];omega
     have t1:¬ rows=[]:=by rintro rfl;simp at hn
     go_wp2_with (go_at_call 78;refine(HN.out _).mono ?_;rintro e w4 ⟨rfl,rfl⟩)
     go_ret
     exact⟨aG (Bh.out _ vm.out rfl),HB.out _ hd3⟩
 · have JX:=h_ (M5.out vm.out)
   clear Bh M5 vm HS HK EZ HW1 hlr MO hc1 hd1 hc2 hd2 hb0 hb1
   have t0:((rows.length:Int)==0)=false:=by rw [beq_eq_false_iff_ne];omega
   have t1:¬ rows=[]:=by rintro rfl;simp at hn0
   rcases tr with tr|⟨tr,rfl⟩
   · have sn:speaker.toList.isEmpty=true:=by simpa using tr
     go_wp2_with fail
     clear hkn hkn2 tr sn t0 t1 HN
     go_loopw [66] (fun i wr=>∃ k:Nat,k≤rows.length∧i=.int .i64 k∧mw ⟨Rn,Rt,Rh,Rl,Rw,Ra,Rb⟩ rows k=G∧Sl (w1.heap.size+1) W1 wr) (fun i _=>rows.length-(intOf i).toNat)
     case atStart=>exact⟨0,by omega,rfl,by rw [←JX.out];rfl,hc3⟩
     case round =>
      obtain⟨k,hk,rfl,hp,hb⟩:=hrel
      have hdd:=HT1.out _ hb
      clear hc3 hd3 JX
      by_cases hlt:k<rows.length
      · obtain⟨b,off,r,rfl,hbl,hx,hc,hok⟩:=(HR.out _ hdd).at_ hlt
        have hfr:=jR.out r (Sq hx)
        have HC:=h_ (fun w1 h1 h2=>nj r w1 h1 h2 hfr)
        rw [rK _ rows k r hx] at hp
        obtain⟨qa,qc,rr⟩:=r
        simp only [Row.enc,Row.lies] at HC hok hp
        have d0:=hc 0 _ rfl
        simp only [Sy,SC] at d0
        have hbs:=hb.size
        have lM:=h_ (fun o=>hok.later ((Sm wr.heap.size wr).alloc (Sz _) o))
        have HP:=h_ hp
        have HA:=h_ (fun(o:Obj)=>(HT2.out _ _ hb ((Sm wr.heap.size wr).alloc (Sz _) o)))
        clear hc hx hfr hok hp
        generalize eU rr=E at *
        cases hE:E != 0
        · have hE0:E=0:=by simpa using hE
          subst hE0
          go_wp2_with (go_at_call 115;refine(HC.out _ (HE.out _ (HT1.out _ (HA.out _))) (lM.out _)).mono ?_;rintro e w5 ⟨rfl,hb5⟩;have Cu:=HT2.out _ _ (HA.out _) hb5;clear hb5)
          go_roundw
          case rel=>exact⟨k+1,by omega,by go_num,by rw [←HP.out];rfl,Cu⟩
          case measure=>simp [intOf];omega
        · rw [hE] at HP
          go_wp2_with (go_at_call 115;refine(HC.out _ (HE.out _ (HT1.out _ (HA.out _))) (lM.out _)).mono ?_;rintro e w5 ⟨rfl,hb5⟩;have Cu:=HT2.out _ _ (HA.out _) hb5;clear hb5)
          go_ret
          exact⟨aG (by rw [←HP.out];rfl),HB.out _ (HT1.out _ Cu)⟩
      · obtain rfl:k=rows.length:=by omega
        rw [oQ] at hp
        have IB:=h_ (fun(a:Option Addr) (c:Nat) (w:Sh) (hI:Ints w a (da rows))=>lp ⟨Rn,Rt,Rh,Rl,Rw,Ra,Rb⟩ a c (da rows) w JT.out hI (by rw [wt.out];omega))
        simp only [hp,wt.out,Reg.enc] at IB
        clear hp HT1 jR JT hi0 hi1 hn0 hn1
        have ER:=hdd
        have hbD:Sl (w1.heap.size+1) W1 wr.drew:=hb.drew
        have Hf:Sl (w.heap.size+1) W0 wr.drew:=hdd.drew
        have hx0:w.heap.size<wr.heap.size:=by have:=ER.size;rw [dV.out] at this;omega
        have hx1:w1.heap.size<wr.heap.size:=by have:=hb.size;have h9:=Ih.out;omega
        go_wp2_with fail
        go_region_with (first
         | (go_at_call 117;refine(IK.out _ (HE.out _ Hf) (HR.out _ Hf)).mono ?_;rintro e w6 ⟨a',c',rfl,hI,hb6⟩;have hc6:=HT2.out _ _ hbD hb6;have hd6:=CP.out _ hc6;clear hb6)
         | (go_at_call 116;refine(IB.out _ _ _ hI).mono ?_;rintro e w7 ⟨v,rfl,iP⟩;have K6:=HT2.out _ _ hc6 iP;have hd7:=CP.out _ K6;clear iP))
        all_goals
         go_wp2_with fail
         go_ret
         exact⟨aG rfl,HB.out _ hd7⟩
   · have sn:speaker.toList.isEmpty=false:=by simpa using tr
     go_wp2_with (go_at_call 78;refine(HN.out _).mono ?_;rintro e w4 ⟨rfl,rfl⟩)
     clear hkn hkn2 tr sn t0 t1 HN
     go_loopw [66] (fun i wr=>∃ k:Nat,k≤rows.length∧i=.int .i64 k∧mw ⟨Rn,Rt,Rh,Rl,Rw,Ra,Rb⟩ rows k=G∧Sl (w1.heap.size+1) W1 wr) (fun i _=>rows.length-(intOf i).toNat)
     case atStart=>exact⟨0,by omega,rfl,by rw [←JX.out];rfl,hc3⟩
     case round =>
      obtain⟨k,hk,rfl,hp,hb⟩:=hrel
      have hdd:=HT1.out _ hb
      clear hc3 hd3 JX
      by_cases hlt:k<rows.length
      · obtain⟨b,off,r,rfl,hbl,hx,hc,hok⟩:=(HR.out _ hdd).at_ hlt
        have hfr:=jR.out r (Sq hx)
        have HC:=h_ (fun w1 h1 h2=>nj r w1 h1 h2 hfr)
        rw [rK _ rows k r hx] at hp
        obtain⟨qa,qc,rr⟩:=r
        simp only [Row.enc,Row.lies] at HC hok hp
        have d0:=hc 0 _ rfl
        simp only [Sy,SC] at d0
        have hbs:=hb.size
        have lM:=h_ (fun o=>hok.later ((Sm wr.heap.size wr).alloc (Sz _) o))
        have HP:=h_ hp
        have HA:=h_ (fun(o:Obj)=>(HT2.out _ _ hb ((Sm wr.heap.size wr).alloc (Sz _) o)))
        clear hc hx hfr hok hp
        generalize eU rr=E at *
        cases hE:E != 0
        · have hE0:E=0:=by simpa using hE
          subst hE0
          go_wp2_with (go_at_call 115;refine(HC.out _ (HE.out _ (HT1.out _ (HA.out _))) (lM.out _)).mono ?_;rintro e w5 ⟨rfl,hb5⟩;have Cu:=HT2.out _ _ (HA.out _) hb5;clear hb5)
          go_roundw
          case rel=>exact⟨k+1,by omega,by go_num,by rw [←HP.out];rfl,Cu⟩
          case measure=>simp [intOf];omega
        · rw [hE] at HP
          go_wp2_with (go_at_call 115;refine(HC.out _ (HE.out _ (HT1.out _ (HA.out _))) (lM.out _)).mono ?_;rintro e w5 ⟨rfl,hb5⟩;have Cu:=HT2.out _ _ (HA.out _) hb5;clear hb5)
          go_ret
          exact⟨aG (by rw [←HP.out];rfl),HB.out _ (HT1.out _ Cu)⟩
      · obtain rfl:k=rows.length:=by omega
        rw [oQ] at hp
        have IB:=h_ (fun(a:Option Addr) (c:Nat) (w:Sh) (hI:Ints w a (da rows))=>lp ⟨Rn,Rt,Rh,Rl,Rw,Ra,Rb⟩ a c (da rows) w JT.out hI (by rw [wt.out];omega))
        simp only [hp,wt.out,Reg.enc] at IB
        clear hp HT1 jR JT hi0 hi1 hn0 hn1
        have ER:=hdd
        have hbD:Sl (w1.heap.size+1) W1 wr.drew:=hb.drew
        have Hf:Sl (w.heap.size+1) W0 wr.drew:=hdd.drew
        have hx0:w.heap.size<wr.heap.size:=by have:=ER.size;rw [dV.out] at this;omega
        have hx1:w1.heap.size<wr.heap.size:=by have:=hb.size;have h9:=Ih.out;omega
        go_wp2_with fail
        go_region_with (first
         | (go_at_call 117;refine(IK.out _ (HE.out _ Hf) (HR.out _ Hf)).mono ?_;rintro e w6 ⟨a',c',rfl,hI,hb6⟩;have hc6:=HT2.out _ _ hbD hb6;have hd6:=CP.out _ hc6;clear hb6)
         | (go_at_call 116;refine(IB.out _ _ _ hI).mono ?_;rintro e w7 ⟨v,rfl,iP⟩;have K6:=HT2.out _ _ hc6 iP;have hd7:=CP.out _ K6;clear iP))
        all_goals
         go_wp2_with fail
         go_ret
         exact⟨aG rfl,HB.out _ hd7⟩
def bI {α:Type} (xs:List α)(k:Nat):List α:=xs.take k++xs.drop (k+1)
theorem xU {α:Type} (xs:List α)(k:Nat):∀ i x,(bI xs k)[i]? =some x→k<xs.length→(i<k∧xs[i]? =some x)∨(k≤i∧xs[i+1]? =some x):=by
 intro i x hx hk
 unfold bI at hx
 by_cases hi:i<k
 · rw [List.getElem?_append_left (by simp;omega),List.getElem?_take,if_pos hi] at hx
   exact .inl ⟨hi,hx⟩
 · rw [List.getElem?_append_right (by simp;omega),List.length_take,Nat.min_eq_left (by omega),Su] at hx
   exact .inr ⟨by omega,by rw [←hx];congr 1;omega⟩
theorem jl {α:Type} (xs:List α)(k:Nat)(hk:k<xs.length):(bI xs k).length=xs.length-1:=by
 unfold bI
 simp
 omega
theorem BU {α:Type} {T K:Nat} {enc:α→List Sk} (hk:∀ x,(enc x).length=K) {w:Sh} {base g cap:Nat} {xs:List α} (h:w.ownsRow base T K (.slice (some ⟨g,0,none⟩) xs.length cap) xs.length (xs.flatMap enc)) {k:Nat} {x:α} (hx:xs[k]? =some x)(j:Nat)(v:Sk)(hv:(enc x)[j]? =some v):w.cell? ⟨g,k*K+j,none⟩=some v:=by
 have h1:=cD enc K hk xs k x j v hx hv
 have h2:=(Sp.1 h1).1
 rw [bE enc K hk xs] at h2
 rw [h.cellAt (k*K+j) h2]
 exact h1
theorem rI (w:Sh)(g o c:Nat)(ty:TypeId)(hc:∀ j,j<7→(w.cell? ⟨g,o+j,none⟩).isSome=true)(hf:∀ j,j<7→w.frozen? ⟨g,o+j,none⟩=false) :
 (SF #[23] ty #[.slice (some ⟨g,o,none⟩) 1 c]).run Tryz.prog w=.ok (.tuple #[]) (w.setCells g o [.string ⟨#[]⟩,.int .i64 0,.int .i64 0,.int .i64 0,.int .i64 0,.int .u8 0,.bool false]):=by
 have hz:(zeroValue 37).run Tryz.prog w=.ok (.agg #[.string ⟨#[]⟩,.int .i64 0,.int .i64 0,.int .i64 0,.int .i64 0,.int .u8 0,.bool false]) w:=by kernel_rfl
 have hst:=Si (P:=Tryz.prog) g o [.string ⟨#[]⟩,.int .i64 0,.int .i64 0,.int .i64 0,.int .i64 0,.int .u8 0,.bool false] 0 w (by simpa using hc) (by simpa using hf) (by intro v hv;simp at hv;rcases hv with rfl|rfl|rfl|rfl|rfl|rfl|rfl<;>rfl)
 have hzc:(SG (Sk.agg #[.string ⟨#[]⟩,.int .i64 0,.int .i64 0,.int .i64 0,.int .i64 0,.int .u8 0,.bool false]).cells 1).toList=[.string ⟨#[]⟩,.int .i64 0,.int .i64 0,.int .i64 0,.int .i64 0,.int .u8 0,.bool false]:=by kernel_rfl
 simp only [Sy] at hst
 simp [SF,Sj Tryz.underlying23,hz,hzc,hst]
theorem tW (w:Sh)(g o c:Nat)(ty:TypeId)(hc:∀ j,j<7→(w.cell? ⟨g,o+j,none⟩).isSome=true)(hf:∀ j,j<7→w.frozen? ⟨g,o+j,none⟩=false) :
 (SF #[24] ty #[.slice (some ⟨g,o,none⟩) 1 c]).run Tryz.prog w=.ok (.tuple #[]) (w.setCells g o [.int .i64 0,.int .i64 0,.int .i64 0,.string ⟨#[]⟩,.int .u8 0,.string ⟨#[]⟩,.slice none 0 0]):=by
 have hz:(zeroValue 72).run Tryz.prog w=.ok (.agg #[.int .i64 0,.int .i64 0,.int .i64 0,.string ⟨#[]⟩,.int .u8 0,.string ⟨#[]⟩,.slice none 0 0]) w:=by kernel_rfl
 have hst:=Si (P:=Tryz.prog) g o [.int .i64 0,.int .i64 0,.int .i64 0,.string ⟨#[]⟩,.int .u8 0,.string ⟨#[]⟩,.slice none 0 0] 0 w (by simpa using hc) (by simpa using hf) (by intro v hv;simp at hv;rcases hv with rfl|rfl|rfl|rfl|rfl|rfl|rfl<;>rfl)
 have hzc:(SG (Sk.agg #[.int .i64 0,.int .i64 0,.int .i64 0,.string ⟨#[]⟩,.int .u8 0,.string ⟨#[]⟩,.slice none 0 0]).cells 1).toList=[.int .i64 0,.int .i64 0,.int .i64 0,.string ⟨#[]⟩,.int .u8 0,.string ⟨#[]⟩,.slice none 0 0]:=by kernel_rfl
 simp only [Sy] at hst
 simp [SF,Sj Tryz.underlying24,hz,hzc,hst]
theorem tX (w:Sh)(g o c:Nat)(ty:TypeId)(hc:∀ j,j<8→(w.cell? ⟨g,o+j,none⟩).isSome=true)(hf:∀ j,j<8→w.frozen? ⟨g,o+j,none⟩=false) :
 (SF #[25] ty #[.slice (some ⟨g,o,none⟩) 1 c]).run Tryz.prog w=.ok (.tuple #[]) (w.setCells g o [.int .i64 0,.int .i64 0,.int .i64 0,.int .i64 0,.string ⟨#[]⟩,.string ⟨#[]⟩,.bool false,.bool false]):=by
 have hz:(zeroValue 102).run Tryz.prog w=.ok (.agg #[.int .i64 0,.int .i64 0,.int .i64 0,.int .i64 0,.string ⟨#[]⟩,.string ⟨#[]⟩,.bool false,.bool false]) w:=by kernel_rfl
 have hst:=Si (P:=Tryz.prog) g o [.int .i64 0,.int .i64 0,.int .i64 0,.int .i64 0,.string ⟨#[]⟩,.string ⟨#[]⟩,.bool false,.bool false] 0 w (by simpa using hc) (by simpa using hf) (by intro v hv;simp at hv;rcases hv with rfl|rfl|rfl|rfl|rfl|rfl|rfl|rfl<;>rfl)
 have hzc:(SG (Sk.agg #[.int .i64 0,.int .i64 0,.int .i64 0,.int .i64 0,.string ⟨#[]⟩,.string ⟨#[]⟩,.bool false,.bool false]).cells 1).toList=[.int .i64 0,.int .i64 0,.int .i64 0,.int .i64 0,.string ⟨#[]⟩,.string ⟨#[]⟩,.bool false,.bool false]:=by kernel_rfl
 simp only [Sy] at hst
 simp [SF,Sj Tryz.underlying25,hz,hzc,hst]
end Go.Proofs.YtjebaagkomejaaaGreatDoor
namespace Go.Proofs.YtjebaagkomejaaaGreatDoor
open Go.RowKit
attribute [local go_sem ↓] Go.wp_at_zero Go.wp_at_succ
def pB (B:Nat)(xs:List Ev)(g cap k:Nat)(w4 wr:Sh):Prop :=
 ∃ zs:List Ev,zs.length=xs.length∧zs.map Ev.c=xs.map Ev.c∧wr.ownsRow B 72 7 (.slice (some ⟨g,0,none⟩) xs.length cap) xs.length (zs.flatMap Ev.enc)∧(∀ j z,zs[j]? =some z→z.lies wr∧(∀ b,z.uses b→b≠g∧(j<k→B≤b)))∧w4.heap.size≤wr.heap.size∧(∀ b,b<w4.heap.size→b≠g→wr.heap[b]? =w4.heap[b]?)
theorem ng:∀ (zs:List Ev)(k:Nat)(z y:Ev),zs[k]? =some z→y.c=z.c→(zs.set k y).map Ev.c=zs.map Ev.c
 | [],k,z,y,h,_=>by simp at h
 | x::l,0,z,y,h,hy=>by
   obtain rfl:x=z:=by simpa using h
   simp [hy]
 | x::l,k+1,z,y,h,hy=>by
   have:=ng l k z y (by simpa using h) hy
   simp [this]
theorem pB.step {B:Nat} {xs zs:List Ev} {g cap k:Nat} {w4 wr w1 w2:Sh} {z y:Ev} (hk:zs[k]? =some z)(h1:zs.length=xs.length)(h2:zs.map Ev.c=xs.map Ev.c)(h3:wr.ownsRow B 72 7 (.slice (some ⟨g,0,none⟩) xs.length cap) xs.length (zs.flatMap Ev.enc))
 (h4:∀ j z,zs[j]? =some z→z.lies wr∧(∀ b,z.uses b→b≠g∧(j<k→B≤b))) (h5:w4.heap.size≤wr.heap.size) (h6:∀ b,b<w4.heap.size→b≠g→wr.heap[b]? =w4.heap[b]?) (hB:B≤w4.heap.size)
 (hb:Sl wr.heap.size wr w1) (fP:y.c=z.c) (hyl:y.lies w1) (hyu:∀ b,y.uses b→wr.heap.size≤b)
 (hw:w2=((((((w1.setCell ⟨g,k*7,none⟩ (.int .i64 y.id)).setCell ⟨g,k*7+1,none⟩ (.int .i64 y.inn)).setCell ⟨g,k*7+2,none⟩ (.int .i64 y.out)).setCell ⟨g,k*7+3,none⟩ (.string y.region)).setCell ⟨g,k*7+4,none⟩ (.int .u8 y.kind)).setCell ⟨g,k*7+5,none⟩ (.string y.speaker)).setCell ⟨g,k*7+6,none⟩ (.slice y.at_ y.rows.length y.cap)) :
 pB B xs g cap (k+1) w4 w2:=by
 have hkl:k<zs.length:=(Sp.1 hk).1
 have hg:=h3.lt g rfl
 obtain⟨s1,s2,s3⟩:=AK (aJ h3 hb) h1 (by omega) y w2 hw
 have hs:=hb.size
 refine⟨zs.set k y,by simpa using h1,(ng zs k z y hk fP).trans h2,s1,fun j x hx=>?_,by omega,fun b hb1 hb2=>?_⟩
 · rw [List.getElem?_set] at hx
   by_cases hjk:k=j
   · rw [if_pos hjk,if_pos hkl] at hx
     obtain rfl:=Option.some.inj hx
     refine⟨Ev.frame hyl (by omega) fun b hu=>s3 b ?_,fun b hu=>⟨?_,fun _=>?_⟩⟩
     · have:=hyu b hu
       omega
     · have:=hyu b hu
       omega
     · have:=hyu b hu
       omega
   · rw [if_neg hjk] at hx
     obtain⟨q1,q2⟩:=h4 j x hx
     exact⟨Ev.frame (Ev.keeps _ _ _ hb q1) (by omega) fun b hu=>s3 b (q2 b hu).1,fun b hu=>⟨(q2 b hu).1,fun hj=>(q2 b hu).2 (by omega)⟩⟩
 · rw [s3 b hb2,hb.block b (by omega),h6 b hb1 hb2]
theorem oL {α:Type} {K:Nat} {enc:α→List Sk} {w3:Sh} {g i5 i7:Nat} {v5 v7:Sk} {a:Option Addr} {xs:List α} (h:ah K enc Flat w3 a xs)(hf:∀ ad,a=some ad→g<ad.block):ah K enc Flat ((w3.setCell ⟨g,i5,none⟩ v5).setCell ⟨g,i7,none⟩ v7) a xs :=
 ah.frame h (by simp) (fun b hu=>by
  obtain⟨_,ad,e,rfl⟩:=hu
  have:=hf ad e
  rw [Sn _ _ _ _ (by simp only;omega),Sn _ _ _ _ (by simp only;omega)]) (fun _ _ _=>trivial)
end Go.Proofs.YtjebaagkomejaaaGreatDoor
namespace Go.Proofs.YtjebaagkomejaaaGreatDoor
open Go.RowKit
def evLe (x y:EvC):Bool:=decide (x.inn<y.inn∨(x.inn=y.inn∧x.id≤y.id))
def de (l:List EvC):List EvC:=l.mergeSort evLe
theorem iD (l:List EvC):(de l).Perm l:=List.mergeSort_perm l _
theorem kf (l:List EvC):(de l).Pairwise fun x y=>evLe x y=true :=
 List.pairwise_mergeSort (fun a b c h1 h2=>by simp only [evLe,decide_eq_true_eq] at *;omega) (fun a b=>by simp only [evLe,Bool.or_eq_true,decide_eq_true_eq];omega) l
theorem Ef {l:List EvC} (h:l.Pairwise fun x y=>x.id≠y.id) {a b:EvC} (ha:a∈l)(hb:b∈l)(he:a.id=b.id):a=b:=by
 obtain⟨i,hi,rfl⟩:=St ha
 obtain⟨j,hj,rfl⟩:=St hb
 rw [List.pairwise_iff_getElem] at h
 rcases Nat.lt_trichotomy i j with hij|rfl|hij
 · exact absurd he (h i j hi hj hij)
 · rfl
 · exact absurd he.symm (h j i hj hi hij)
theorem ke {xs l:List EvC} (hp:xs.Perm l)(hs:xs.Pairwise fun x y=>evLe x y=true)(hi:l.Pairwise fun x y=>x.id≠y.id):xs=de l:=by
 refine List.Perm.eq_of_pairwise (le:=fun x y=>evLe x y=true) (fun a b ha hb h1 h2=>?_) hs (kf l) (hp.trans (iD l).symm)
 simp only [evLe,decide_eq_true_eq] at h1 h2
 exact Ef hi (hp.subset ha) ((iD l).subset hb) (by omega)
def oO (eV:List EvC)(id:Int)(v:Option EvC):List EvC:=de (eV.filter (fun x=>!(x.id==id))++v.toList)
theorem wJ {eV:List EvC} (h:eV.Pairwise fun x y=>x.id≠y.id)(id:Int)(v:Option EvC)(hv:∀ y,v=some y→y.id=id):(eV.filter (fun x=>!(x.id==id))++v.toList).Pairwise fun x y=>x.id≠y.id:=by
 rw [List.pairwise_append]
 refine⟨h.sublist List.filter_sublist,by cases v<;>simp,fun a ha b hb=>?_⟩
 have h1:=(Sw.1 ha).2
 have h2:=hv b (by simpa using hb)
 simp at h1
 omega
theorem nf {eV:List EvC} (h:eV.Pairwise fun x y=>x.id≠y.id):∀ (k:Nat)(m:EvC),eV[k]? =some m→eV.filter (fun x=>!(x.id==m.id))=bI eV k:=by
 induction eV with
 | nil=>intro k m hk;simp at hk
 | cons a l ih =>
   rw [List.pairwise_cons] at h
   intro k m hk
   cases k with
   | zero =>
     obtain rfl:a=m:=by simpa using hk
     rw [Sv,if_neg (by simp),List.filter_eq_self.2 fun x hx=>by simpa using fun e:x.id=a.id=>h.1 x hx e.symm]
     rfl
   | succ k =>
     have hk':l[k]? =some m:=by simpa using hk
     have hne:=h.1 m (Sq hk')
     rw [Sv,if_pos (by simpa using hne),ih h.2 k m hk']
     rfl
def dO (k:ByteArray)(x:Reg):Bool:=Op.bytesLess x.name.toList k.toList
def eH (k:ByteArray)(x:Reg):Bool:=x.name.toList==k.toList
def cmAt (k:Int)(x:Cm):Bool:=x.id==k
def evAt (k:Int)(x:EvC):Bool:=x.id==k
theorem DX (k:ByteArray)(x y:Reg)(h:baLt x.name y.name)(hx:dO k x=false):dO k y=false∧eH k y=false:=by
 have hx':¬ baLt x.name k:=fun h=>by rw [dO,(Fe _ _).2 h] at hx;cases hx
 constructor
 · cases hy:dO k y
   · rfl
   · exact absurd (ph h ((Fe _ _).1 hy)) hx'
 · cases hy:eH k y
   · rfl
   · have e:=ib (a:=y.name) (b:=k) (by simpa [eH] using hy)
     rw [e] at h
     exact absurd h hx'
def EvC.fits (x:EvC):Prop:=i64 x.id∧i64 x.inn∧i64 x.out∧x.region.size≤4000000∧0≤x.kind∧x.kind≤255∧x.speaker.size≤4000000∧(∀ r∈x.rows,(∀ y∈r,y.fits)∧r.length≤4000000∧cC r≤4000000)∧x.rows.length≤4000000
theorem Ev.fits_c (x:Ev):x.c.fits↔x.fits:=by
 unfold EvC.fits Ev.fits
 simp only [Ev.c,Sr,Ss,forall_exists_index,and_imp,forall_apply_eq_imp_iff₂]
 rfl
def Hd.fits (h:Hd):Prop:=h.title.size≤4000000∧h.lA.size≤4000000∧0≤h.rate∧h.rate≤255∧i64 h.last
def DocC.fits (n:Nat)(d:DocC):Prop:=d.hd.fits∧(∀ r∈d.rG,r.fits)∧d.rG.length≤n∧(∀ x∈d.eV,x.fits)∧d.eV.length≤n∧(∀ c∈d.cM,c.fits)∧d.cM.length≤n
theorem DocC.fits.doc {d:Doc} {n:Nat} (h:d.c.fits n)(hn:n≤4000000):d.fits:=by
 obtain⟨⟨h1,h2,h3,h4,h5⟩,h6,h7,h8,h9,h10,h11⟩:=h
 have Pg:d.eV.length≤n:=by
  have:d.c.eV.length=d.eV.length:=Sr ..
  omega
 exact⟨h1,h2,h3,h4,h5,h6,SA h7 hn,fun x hx=>(Ev.fits_c x).1 (h8 x.c (Ss.2 ⟨x,hx,rfl⟩)),by omega,h10,SA h11 hn⟩
theorem Doc.fits.c {d:Doc} {n:Nat} (h:d.fits)(h1:d.rG.length≤n)(h2:d.eV.length≤n)(h3:d.cM.length≤n):d.c.fits n:=by
 obtain⟨q1,q2,q3,q4,q5,q6,q7,q8,q9,q10,q11⟩:=h
 refine⟨⟨q1,q2,q3,q4,q5⟩,q6,h1,fun x hx=>?_,by show(d.eV.map Ev.c).length≤n;rw [Sr];exact h2,q10,h3⟩
 obtain⟨y,hy,rfl⟩:=Ss.1 hx
 exact(Ev.fits_c y).2 (q8 y hy)
theorem DocC.fits.mono {d:DocC} {n m:Nat} (h:d.fits n)(hn:n≤m):d.fits m:=by
 obtain⟨h1,h2,h3,h4,h5,h6,h7⟩:=h
 exact⟨h1,h2,by omega,h4,by omega,h6,by omega⟩
theorem wI {eV:List EvC} {id:Int} {v:Option EvC} {x:EvC} (h:x∈oO eV id v):x∈eV∨v=some x:=by
 have h1:=(iD _).subset h
 rcases List.mem_append.1 h1 with h1|h1
 · exact .inl (Sw.1 h1).1
 · exact .inr (by simpa using h1)
def EvC.rep (x:EvC):Ev:=⟨x.id,x.inn,x.out,x.region,x.kind,x.speaker,none,0,x.rows.map fun r=>⟨none,0,r⟩⟩
def DocC.rep (d:DocC):Doc:=⟨d.hd.title,d.hd.lA,d.hd.rate,d.hd.drop,d.hd.last,none,0,d.rG,none,0,d.eV.map EvC.rep,none,0,d.cM⟩
theorem EvC.rep_c (x:EvC):x.rep.c=x:=by
 obtain⟨id,inn,out,region,kind,speaker,rows⟩:=x
 simp [EvC.rep,Ev.c,Sx,Function.comp_def]
theorem DocC.rep_c (d:DocC):d.rep.c=d:=by
 obtain⟨⟨title,lA,rate,drop,last⟩,rG,eV,cM⟩:=d
 have:(eV.map EvC.rep).map Ev.c=eV:=by
  rw [Sx]
  exact(List.map_congr_left fun x _=>EvC.rep_c x).trans (List.map_id' eV)
 simp only [DocC.rep,Doc.c,Doc.hd,this]
def cErr (d:DocC):Int:=a_ d.rep
theorem bw (d:Doc):a_ d=cErr d.c:=uR (DocC.rep_c d.c).symm
def aV:DocC:=⟨F5,[],[],[]⟩
def zDoc:Doc:=⟨⟨#[]⟩,⟨#[]⟩,0,false,0,none,0,[],none,0,[],none,0,[]⟩
theorem jX (w:Sh):zDoc.lies w:=⟨.inl rfl,.inl rfl,.inl rfl⟩
theorem yP (n:Nat):zDoc.c.fits n:=⟨⟨by decide,by decide,by decide,by decide,⟨by decide,by decide⟩⟩,by simp [zDoc,Doc.c],by simp [zDoc,Doc.c],by simp [zDoc,Doc.c],by simp [zDoc,Doc.c],by simp [zDoc,Doc.c],by simp [zDoc,Doc.c]⟩
def uj:ByteArray:=⟨#[]⟩
def aU (l:List EvC)(z:Int):Option EvC:=l.find? (evAt z)
def cR (l:List Cm)(z:Int):Option Cm:=l.find? (cmAt z)
def fj (l:List Reg)(n:ByteArray):Option Reg:=l.find? (eH n)
def bT (rG:List Reg)(x:EvC):Int:=fS x.rep rG
def kK:List Run→List UInt8
 | []=>[]
 | x::l=>x.text.data.toList++kK l
def dm:List (List Run)→List UInt8
 | []=>[]
 | [r]=>kK r
 | r::l=>kK r++10::dm l
def eo (x:Option EvC):ByteArray:=⟨(dm ((x.map EvC.rows).getD [])).toArray⟩
def alike:List Nat→List Nat→Nat
 | x::l,y::m=>if x=y then alike l m+1 else 0
 | _,_=>0
def gq (n m p s:Int)(frm til:Int):Int × Int :=
 (if n-s≤frm then frm+(m-n) else if p≤frm then m-s else frm,if til≤p then til else if n-s<til then til+(m-n) else p)
def nd (c:Cm)(a b:List Nat):Cm :=
 let p:=alike a b
 let s:=alike (a.drop p).reverse (b.drop p).reverse
 let q:=gq a.length b.length p s c.frm c.til
 if q.2≤q.1 then { c with frm:=0,til:=0,lost:=true } else { c with frm:=q.1,til:=q.2 }
structure Kept (S:Nat→Prop)(w w':Sh):Prop where
 os:w'.os=w.os
 tape:w'.tape=w.tape
 output:w'.output=w.output
 size:w.heap.size≤w'.heap.size
 block:∀ k,k<w.heap.size→¬ S k→w'.heap[k]? =w.heap[k]?
theorem Kept.refl (S:Nat→Prop)(w:Sh):Kept S w w:=⟨rfl,rfl,rfl,Sz _,fun _ _ _=>rfl⟩
theorem Kept.trans {S S':Nat→Prop} {a b c:Sh} (h:Kept S a b)(k:Kept S' b c)(hs:∀ i,i<a.heap.size→S' i→S i):Kept S a c :=
 ⟨k.os.trans h.os,k.tape.trans h.tape,k.output.trans h.output,SA h.size k.size,fun i hi hn=>(k.block i (SB hi h.size) (fun e=>hn (hs i hi e))).trans (h.block i hi hn)⟩
theorem Kept.of_below {S:Nat→Prop} {w w':Sh} (h:Sl w.heap.size w w'):Kept S w w':=⟨h.os,h.tape,h.output,h.size,fun k hk _=>h.block k hk⟩
theorem Kept.andBelow {S:Nat→Prop} {a w w':Sh} (h:Kept S a w)(k:Sl w.heap.size w w'):Kept S a w':=h.trans (Kept.of_below (S:=fun _=>False) k) fun _ _ h=>h.elim
theorem Kept.andGrown {S:Nat→Prop} {a w w':Sh} {row:Option Nat} (h:Kept S a w)(hg:w.grownBy w' row)(hr:∀ k,row=some k→k<a.heap.size→S k):Kept S a w' :=
 ⟨hg.os.trans h.os,hg.tape.trans h.tape,hg.output.trans h.output,SA h.size hg.size,fun k hk hn=>(hg.block k (SB hk h.size) (fun e=>hn (hr k e.symm hk))).trans (h.block k hk hn)⟩
theorem Kept.alloc {S:Nat→Prop} {a w:Sh} (h:Kept S a w)(o:Obj):Kept S a (w.alloc o):=h.andBelow ((Sm _ _).alloc (Sz _) o)
theorem Kept.drew {S:Nat→Prop} {a w:Sh} (h:Kept S a w):Kept S a w.drew:=⟨h.os,h.tape,h.output,h.size,h.block⟩
theorem Kept.setCell {S:Nat→Prop} {a w:Sh} (h:Kept S a w) {p:Addr} (hp:a.heap.size≤p.block∨S p.block)(u:Sk):Kept S a (w.setCell p u) :=
 ⟨h.os,h.tape,h.output,by simpa using h.size,fun k hk hn=>by
  rw [Sn _ _ _ _ (fun e=>by
   rcases hp with hp|hp
   · omega
   · exact hn (e▸hp))]
  exact h.block k hk hn⟩
theorem Kept.below {S:Nat→Prop} {w w':Sh} {B:Nat} (h:Kept S w w')(hB:B≤w.heap.size)(hs:∀ k,k<B→¬ S k):Sl B w w':=⟨h.os,h.tape,h.output,h.size,fun k hk=>h.block k (by omega) (hs k hk)⟩
theorem Kept.cell {S:Nat→Prop} {w w':Sh} (h:Kept S w w') {b o:Nat} (hb:b<w.heap.size)(hs:¬ S b):w'.cell? ⟨b,o,none⟩=w.cell? ⟨b,o,none⟩:=Sh.cell?_of_block (w:=w) (h.block b hb hs)
theorem Kept.mono {S S':Nat→Prop} {w w':Sh} (h:Kept S w w')(hs:∀ i,i<w.heap.size→S i→S' i):Kept S' w w':=⟨h.os,h.tape,h.output,h.size,fun k hk hn=>h.block k hk (fun e=>hn (hs k hk e))⟩
theorem aB {B e k n:Nat} {v:Sk} {xs:List Sk} {w w':Sh} (h:w.ownsRow B e k v n xs)(hb:∀ b,v.ownBlock=some b→w'.heap[b]? =w.heap[b]?):w'.ownsRow B e k v n xs:=by
 refine⟨h.1,?_⟩
 rcases h.2 with h0|⟨g,cap,cur,h1,h2,h3,h4⟩
 · exact .inl h0
 · exact .inr ⟨g,cap,cur,h1,h2,by rw [hb g (by rw [h1];rfl)];exact h3,h4⟩
theorem iF {t:DocC} (h:cErr t=0):Jy t:=by
 have:=Ll (d:=t.rep) h
 rwa [DocC.rep_c] at this
theorem Fb {t:DocC} (h:cErr t=0):∀ e∈t.eV,bT t.rG e=0:=by
 intro e he
 have hp:=kl (d:=t.rep) h
 obtain⟨j,hj⟩:=List.mem_iff_getElem?.1 he
 have:=hp.2.2.2.1 j e.rep (by simp [DocC.rep,hj])
 exact(iC this).1
theorem lG (last:Int)(f:Int→Option Nat)(eV:List Ev):∀ (xs:List Cm)(p:Option Cm),di last f eV p xs=0→∀ c∈xs,ct last f eV c=0
 | [],_,_=>fun c hc=>by simp at hc
 | x::l,p,h=>by
   rw [di] at h
   split at h
   · rename_i hne;rw [h] at hne;cases hne
   · rename_i hne
     have h0:fD last f eV p x=0:=by simpa using hne
     intro c hc
     rcases List.mem_cons.1 hc with rfl|hc
     · unfold fD at h0
       split at h0
       · cases h0
       · split at h0
         · cases h0
         · split at h0
           · cases h0
           · split at h0
             · exact h0
             · rename_i hn
               simpa using hn
     · exact lG last f eV l _ h c hc
theorem jm:∀ a b:List Nat,alike a b≤a.length∧alike a b≤b.length
 | [],_=>by simp [alike]
 | x::l,[]=>by simp [alike]
 | x::l,y::m=>by
   have ih:=jm l m
   simp only [alike,List.length_cons]
   split<;>omega
theorem wg:∀ (a b:List Nat)(i:Nat),i<alike a b→a[i]? =b[i]?
 | [],_,i,h=>by simp [alike] at h
 | x::l,[],i,h=>by simp [alike] at h
 | x::l,y::m,i,h=>by
   simp only [alike] at h
   split at h
   · rename_i hxy
     subst hxy
     cases i with
     | zero=>rfl
     | succ j=>simpa using wg l m j (by omega)
   · omega
theorem wb:∀ (a b:List Nat),alike a b<a.length→alike a b<b.length→a[alike a b]?≠b[alike a b]?
 | [],_,h,_=>by simp at h
 | x::l,[],_,h=>by simp at h
 | x::l,y::m,h1,h2=>by
   simp only [alike] at h1 h2 ⊢
   split
   · rename_i hxy
     rw [if_pos hxy] at h1 h2
     simpa using wb l m (by simpa using h1) (by simpa using h2)
   · rename_i hxy
     simpa using hxy
theorem pk {a b:List Nat} {p x y:Nat} (h:p≤alike a b)(hx:a[p]? =some x)(hy:b[p]? =some y):(x=y→p+1≤alike a b)∧(x≠y→p=alike a b):=by
 refine⟨fun e=>?_,fun e=>?_⟩
 · refine Decidable.byContradiction fun hn=>?_
   obtain rfl:p=alike a b:=by omega
   refine wb a b (Sp.1 hx).1 (Sp.1 hy).1 ?_
   rw [hx,hy,e]
 · refine Decidable.byContradiction fun hn=>e ?_
   have:=wg a b p (by omega)
   rw [hx,hy] at this
   exact Option.some.inj this
theorem te {a b:List Nat} {p:Nat} (h:p≤alike a b)(hp:a.length≤p∨b.length≤p):p=alike a b:=by
 have:=jm a b
 omega
def fV (a b:List Nat)(p:Nat):Nat:=alike (a.drop p).reverse (b.drop p).reverse
theorem rev_at {a:List Nat} {p s x:Nat} (hs:s<a.length-p)(hx:a[a.length-1-s]? =some x):(a.drop p).reverse[s]? =some x:=by
 rw [List.getElem?_reverse (by simpa using hs),Su,List.length_drop]
 rw [←hx]
 congr 1
 omega
theorem vj {a b:List Nat} {p s x y:Nat} (h:s≤fV a b p)(h1:s<a.length-p)(h2:s<b.length-p)(hx:a[a.length-1-s]? =some x)(hy:b[b.length-1-s]? =some y):(x=y→s+1≤fV a b p)∧(x≠y→s=fV a b p) :=
 pk h (rev_at h1 hx) (rev_at h2 hy)
theorem yg {a b:List Nat} {p s:Nat} (h:s≤fV a b p)(hp:a.length-p≤s∨b.length-p≤s):s=fV a b p :=
 te h (by simpa using hp)
theorem nD (a b:List Nat)(p:Nat):fV a b p≤a.length-p∧fV a b p≤b.length-p:=by
 have:=jm (a.drop p).reverse (b.drop p).reverse
 simpa [fV] using this
end Go.Proofs.YtjebaagkomejaaaGreatDoor
