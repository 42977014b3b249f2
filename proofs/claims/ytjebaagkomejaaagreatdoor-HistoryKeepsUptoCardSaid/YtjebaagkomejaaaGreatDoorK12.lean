/- One step of a region that draws its order, with what is always shown in one way left to the law. The contract of region.CheckList: the first error of a list of regions. The contracts of the reference's Same and SameRows. -/
import Derived.Test.YtjebaagkomejaaaGreatDoorK11
set_option linter.unusedVariables false
set_option linter.unusedSimpArgs false
set_option maxRecDepth 100000
set_option maxHeartbeats 12800000
open Go.Lib renaming hid→h_
open List renaming setIfInBounds_toArray→YA,getElem_cons_zero→YB,getElem_cons_succ→YC,getElem_toArray→YD,set_cons_zero→YE,set_cons_succ→YF
open Array renaming toArray_toList→YG
open Go renaming World→Sj,below_drewN→Sk,Calls→Sl
open Go.RowKit renaming Below→Sm
open Go.Region renaming wanted→Sn,ready→Sp,noSelect→Sq,free→Sr
open List renaming drop_length→Ss,mem_of_getElem?→St,length_map→Su,mem_map→Sv,getElem_of_mem→Sw,filter_cons→Sx,cons_ne_nil→Sy,mem_filter→Sz,map_map→SA
open Go.RowKit.Below renaming refl→SB
open Nat renaming le_trans→SC,add_zero→SD,le_refl→SF,lt_of_lt_of_le→SG
open Go.World renaming size_alloc→SH
open Go.Lib renaming allEq→SI,allEq_len→SJ
namespace Go.Proofs.YtjebaagkomejaaaGreatDoor
open Go.RowKit
theorem ak {w w1 w2:Sj} (h:Sm w.heap.size w w1)(q:Sm w1.heap.size w1 w2):Sm w.heap.size w w2:=h.trans (q.mono h.size)
section
variable {P:Program} {md:Region.Mode} {ops:Array Oper} {Q:Exit→Act→Sj→Prop} {S:Sj→Prop} {fuel:Nat} {listed:Array Bool} {a a':Act} {w:Sj} {oi:Oper}
theorem ab (i:Nat)(v:Value)(hS:S w)(h:wpAnyH P md ops Q S fuel (listed.setIfInBounds i true) a' w)
 (hi:ops[i]? =some oi:=by rfl) (hs:Sq ops=true:=by kernel_rfl) (hf:Sr md ops listed i=true:=by kernel_rfl) (hr:(Sp md ops listed).contains i=true:=by kernel_rfl)
 (hP:∀ c a w,Q (.panic c) (a.put oi.dst v) w→Q (.panic c) a w:=by exact fun _ _ _ h=>h)
 (hy:YieldsIf P ops S oi v a:=by exact .inl ⟨by rfl,fun w_ aH=>by go_simp⟩)
 (hp:a.put oi.dst v=a':=by simp only [Act.put,YD,YB,YC,YA,YE,YF,YG]<;>rfl) :
 wpAnyH P md ops Q S (fuel+1) listed a w :=
 wpAnyH_take hi hs hf hr hP hy hS (by rw [hp];exact h)
theorem ax (i:Nat)(hS:S w)(h:wpAnyH P md ops Q S fuel (listed.setIfInBounds i true) a' w)
 (hi:ops[i]? =some oi:=by rfl) (hs:Sq ops=true:=by kernel_rfl) (hf:Sr md ops listed i=true:=by kernel_rfl) (hr:(Sp md ops listed).contains i=true:=by kernel_rfl) (hP:∀ c a w,Q (.panic c) (a.put oi.dst undef) w→Q (.panic c) a w:=by exact fun _ _ _ h=>h) (hw:Sn oi (yielded ops a.tmps)=false:=by rfl)
 (hp:a.put oi.dst undef=a':=by simp only [Act.put,YD,YB,YC,YA,YE,YF,YG]<;>rfl):wpAnyH P md ops Q S (fuel+1) listed a w:=ab i undef hS h hi hs hf hr hP (.inr ⟨hw,rfl⟩) hp
theorem goOn {K:Act→Sj→Prop} (hK:Shut (∀ a w,S w→(S w→wpAnyH P md ops Q S fuel listed a w)→K a w))(hS:S w)(h:wpAnyH P md ops Q S fuel listed a' w)
 (hp:a=a':=by(try simp only [Act.put,YD,YB,YC,YA,YE,YF,YG])<;>rfl):K a w:=hK.out _ _ hS fun _=>by rw [hp];exact h
theorem aq (i:Nat)(h:∀ K':Act→Sj→Prop,Shut (∀ a w,S w→(S w→wpAnyH P md ops Q S fuel (listed.setIfInBounds i true) a w)→K' a w)→if Sn oi (yielded ops a.tmps)=true then Oper.wp P oi a w K' Q else K' (a.put oi.dst undef) w)
 (hr:Sp md ops listed=[i]:=by kernel_rfl) (hi:ops[i]? =some oi:=by rfl):wpAnyH P md ops Q S (fuel+1) listed a w:=wpAnyH_ready hr (Sy _ _) (.cons hi h .nil)
theorem dP (i j:Nat) {oj:Oper} (h:∀ K':Act→Sj→Prop,Shut (∀ a w,S w→(S w→wpAnyH P md ops Q S fuel (listed.setIfInBounds i true) a w)→K' a w)→if Sn oi (yielded ops a.tmps)=true then Oper.wp P oi a w K' Q else K' (a.put oi.dst undef) w)
 (h':∀ K':Act→Sj→Prop,Shut (∀ a w,S w→(S w→wpAnyH P md ops Q S fuel (listed.setIfInBounds j true) a w)→K' a w)→if Sn oj (yielded ops a.tmps)=true then Oper.wp P oj a w K' Q else K' (a.put oj.dst undef) w)
 (hr:Sp md ops listed=[i,j]:=by kernel_rfl) (hi:ops[i]? =some oi:=by rfl) (hj:ops[j]? =some oj:=by rfl):wpAnyH P md ops Q S (fuel+1) listed a w:=wpAnyH_ready hr (Sy _ _) (.cons hi h (.cons hj h' .nil))
end
end Go.Proofs.YtjebaagkomejaaaGreatDoor
namespace Go.Proofs.YtjebaagkomejaaaGreatDoor
open Go.RowKit
theorem B_ (a:Option Addr)(cap:Nat)(xs:List Reg)(w:Sj)(hR:Regs w a xs)(hf:∀ x∈xs,x.fits)(hn:xs.length≤16) :
 Sl Tryz.prog 64 #[.slice a xs.length cap] w fun e w'=>e=.returned (.int .i64 (gA xs))∧Sm w.heap.size w w':=by
 rw [gA,if_neg (by omega)]
 generalize hG:dH none xs=G
 have H0:=h_ (show dH (gP xs 0) (xs.drop 0)=G by rw [List.drop_zero];exact hG)
 have hn2:decide ((16:Int)<(xs.length:Int))=false:=by simp;omega
 clear hG
 go_enter Tryz.func64,Tryz.ntmps64
 go_wp2_with fail
 go_loopw [11] (fun i wr=>∃ k:Nat,k≤xs.length∧i=.int .i64 k∧dH (gP xs k) (xs.drop k)=G∧Sm w.heap.size w wr) (fun i _=>xs.length-(intOf i).toNat)
 case atStart=>exact⟨0,by omega,rfl,H0.out,SB _ _⟩
 case round =>
  obtain⟨k,hk,rfl,hp,hb⟩:=hrel
  by_cases hlt:k<xs.length
  · obtain⟨b,off,x,rfl,hbl,hx,hc,_⟩:=(hR.later hb).at_ hlt
    have hfx:=hf x (St hx)
    have HC:=h_ (fun w=>gq x w hfx)
    have hB1:∀ (o:Obj) (w1:Sj),Sm (wr.heap.size+1) (wr.alloc o) w1→Sm w.heap.size w w1:=fun o w1 h=>(hb.alloc hb.size o).trans (h.mono (by have:=hb.size;omega))
    have HB1:=h_ hB1
    have HN:=h_ (qn xs k x hx (gP xs k))
    have HS:=h_ (qm xs k x hx (gP xs k))
    have HP:=h_ hp
    have hRr:=hR.later hb
    obtain⟨xn,xt,xh,xl,xw,xa,xb⟩:=x
    have d0:=hc 0 _ rfl;have d1:=hc 1 _ rfl;have d2:=hc 2 _ rfl;have d3:=hc 3 _ rfl;have d4:=hc 4 _ rfl;have d5:=hc 5 _ rfl;have d6:=hc 6 _ rfl
    simp only [SD] at d0 d1 d2 d3 d4 d5 d6
    cases hE:fj ⟨xn,xt,xh,xl,xw,xa,xb⟩ != 0
    · have hE0:fj ⟨xn,xt,xh,xl,xw,xa,xb⟩=0:=by simpa using hE
      have mg:=h_ hE0
      simp only [Reg.enc] at HC
      rw [hE0] at HC
      clear hE hE0 hp hB1 hc
      rcases Nat.eq_zero_or_pos k with hk0|hk0
      · have hst:=h_ (show eA (gP xs k) ⟨xn,xt,xh,xl,xw,xa,xb⟩=0 by rw [hk0];simp [eA,gP,mg.out])
        have hkd:decide (0<k)=false:=by simp;omega
        clear hRr hk0
        go_wp2_with (go_at_call 80;refine(HC.out _).mono ?_;rintro e w1 ⟨rfl,hb1⟩;simp only [SH] at hb1)
        go_quiet (fail)
        go_wp2_with fail
        go_quiet (fail)
        go_wp2_with fail
        go_roundw
        case rel=>exact⟨k+1,by omega,by go_num,by rw [←HN.out hst.out];exact HP.out,Sk (HB1.out _ _ hb1) _⟩
        case measure=>simp [intOf];omega
      · obtain⟨b',off',y,hab,_,hy,hcy,_⟩:=hRr.at_ (show k-1<xs.length by omega)
        simp only [Option.some.injEq,Addr.mk.injEq,and_true] at hab
        obtain⟨rfl,rfl⟩:=hab
        obtain⟨yn,yt,yh,yl,yw,ya,yb⟩:=y
        have e0:=hcy 0 _ rfl
        simp only [SD] at e0
        have hpv:gP xs k=some yn:=by
         obtain⟨j,rfl⟩:∃ j,k=j+1:=⟨k-1,by omega⟩
         simp only [Nat.add_sub_cancel] at hy
         simp [gP,hy]
        have hst:eA (gP xs k) ⟨xn,xt,xh,xl,xw,xa,xb⟩=if (xn.toList==yn.toList)=true then 7 else if Op.bytesLess xn.toList yn.toList=true then 8 else 0:=by
         rw [hpv];simp [eA,mg.out]
        have hcell:∀ w1,Sm (wr.heap.size+1) (wr.alloc (.cells #[.string xn,.int .i64 xt,.int .i64 xh,.int .i64 xl,.int .i64 xw,.int .u8 xa,.bool xb] 37)) w1→w1.cell? ⟨wr.heap.size,0,none⟩=some (.string xn)∧w1.cell? ⟨b,off+(k-1)*7,none⟩=some (.string yn):=fun w1 h =>
         ⟨aw wr _ _ 0 _ rfl w1 h,by
          rw [h.cell (p:=⟨b,off+(k-1)*7,none⟩) (by simp;omega),Sj.cell?_alloc_lt _ _ _ (by simpa using hbl)]
          exact e0⟩
        have pI:=h_ hcell
        have hkd:decide (0<k)=true:=by simp;omega
        have hk1:1≤k:=hk0
        have hkz:(1:Int)≤(k:Int):=by omega
        have hkl:(k:Int)-1<(xs.length:Int):=by omega
        have hwr:IntKind.i64.wrap ((k:Int)-1)=(k:Int)-1:=IntWalk.i64_in _ (by omega)
        have hkn:((k:Int)-1).toNat=k-1:=by omega
        clear hcell hpv hRr hcy hy e0 hk0
        rcases h1:xn.toList==yn.toList with _|_
        · rcases h2:Op.bytesLess xn.toList yn.toList with _|_
          · rw [h1,h2,if_neg (by decide),if_neg (by decide)] at hst
            have HST:=h_ hst
            clear hst
            go_wp2_with (go_at_call 80;refine(HC.out _).mono ?_;rintro e w1 ⟨rfl,hb1⟩;simp only [SH] at hb1;have hq1:=(pI.out _ hb1).1;have hq2:=(pI.out _ hb1).2)
            go_quiet (fail)
            go_wp2_with fail
            go_quiet (fail)
            go_wp2_with fail
            go_roundw
            case rel=>exact⟨k+1,by omega,by go_num,by rw [←HN.out HST.out];exact HP.out,Sk (HB1.out _ _ hb1) _⟩
            case measure=>simp [intOf];omega
          · rw [h1,h2,if_neg (by decide),if_pos rfl] at hst
            have HST:=h_ hst
            clear hst
            go_wp2_with (go_at_call 80;refine(HC.out _).mono ?_;rintro e w1 ⟨rfl,hb1⟩;simp only [SH] at hb1;have hq1:=(pI.out _ hb1).1;have hq2:=(pI.out _ hb1).2)
            go_quiet (fail)
            go_wp2_with fail
            go_quiet (fail)
            go_wp2_with fail
            go_ret
            exact⟨aG (by rw [←HP.out,HS.out (by rw [HST.out];rfl),HST.out]),Sk (Sk (HB1.out _ _ hb1) _) _⟩
        · rw [h1,if_pos rfl] at hst
          have HST:=h_ hst
          clear hst
          go_wp2_with (go_at_call 80;refine(HC.out _).mono ?_;rintro e w1 ⟨rfl,hb1⟩;simp only [SH] at hb1;have hq1:=(pI.out _ hb1).1;have hq2:=(pI.out _ hb1).2)
          go_quiet (fail)
          go_wp2_with fail
          go_ret
          exact⟨aG (by rw [←HP.out,HS.out (by rw [HST.out];rfl),HST.out]),Sk (HB1.out _ _ hb1) _⟩
    · have hst:eA (gP xs k) ⟨xn,xt,xh,xl,xw,xa,xb⟩=fj ⟨xn,xt,xh,xl,xw,xa,xb⟩:=by unfold eA;exact if_pos hE
      have HST:=h_ hst
      simp only [Reg.enc] at HC
      generalize fj ⟨xn,xt,xh,xl,xw,xa,xb⟩=E at *
      clear hst hp hB1 hc hRr hfx hx
      go_wp2_with (go_at_call 80;refine(HC.out _).mono ?_;rintro e w1 ⟨rfl,hb1⟩;simp only [SH] at hb1)
      go_ret
      exact⟨aG (by rw [←HP.out,HS.out (by rw [HST.out];exact hE),HST.out]),HB1.out _ _ hb1⟩
  · obtain rfl:k=xs.length:=by omega
    rw [Ss] at hp
    have HP:=h_ hp
    clear hp H0
    go_wp2_with fail
    go_ret
    exact⟨aG (by rw [←HP.out];cases gP xs xs.length<;>rfl),hb⟩
theorem xN (a:Option Addr)(cap:Nat)(xs:List Reg)(w:Sj)(hR:Regs w a xs)(hf:∀ x∈xs,x.fits) :
 Sl Tryz.prog 64 #[.slice a xs.length cap] w fun e w'=>e=.returned (.int .i64 (gA xs))∧Sm w.heap.size w w':=by
 by_cases hn:16<xs.length
 · exact Aa a cap xs w hn
 · exact B_ a cap xs w hR hf (by omega)
theorem uE (a a':Option Addr)(n m c c':Nat)(w:Sj)(h:¬ n=m):Sl Tryz.prog 173 #[.agg #[.slice a n c],.agg #[.slice a' m c']] w fun e w'=>e=.returned (.bool false)∧Sm w.heap.size w w':=by
 have h1:(n != m)=true:=by simpa using h
 have h2:((n:Int) != (m:Int))=true:=by simp;omega
 have HB:=h_ (fun o o'=>(((SB _ _).alloc (SF _) _).alloc (by simp) _:Sm w.heap.size w ((w.alloc o).alloc o')))
 go_enter Tryz.func173,Tryz.ntmps173
 go_wp2_with fail
 go_ret
 exact⟨rfl,HB.out _ _⟩
theorem xE (a a':Option Addr)(c c':Nat)(xs ys:List Run)(w:Sj)(h:Runs w a xs)(h':Runs w a' ys)(hl:xs.length≤4000000)(hn:xs.length=ys.length) :
 Sl Tryz.prog 173 #[.agg #[.slice a xs.length c],.agg #[.slice a' ys.length c']] w fun e w'=>e=.returned (.bool (SI gL xs ys))∧Sm w.heap.size w w':=by
 generalize hG:SI gL xs ys=G
 have H0:=h_ (show SI gL (xs.drop 0) (ys.drop 0)=G from hG)
 have Dw:=h_ hn
 rw [←hn]
 clear hG hn
 have h1:((xs.length:Int) != (xs.length:Int))=false:=by simp
 generalize hds:#[Value.slice a xs.length c]=ds
 generalize hes:#[Value.slice a' xs.length c']=es
 have f0:=bO w ds es 75 75 0 (.slice a xs.length c) (by rw [←hds];rfl)
 have g0:=bB w ds es 75 75 0 (.slice a' xs.length c') (by rw [←hes];rfl)
 have HB:=h_ (fun(w1:Sj) (h:Sm (w.heap.size+2) ((w.alloc (.cells ds 75)).alloc (.cells es 75)) w1)=>dU h)
 have hb0:Sm (w.heap.size+2) ((w.alloc (.cells ds 75)).alloc (.cells es 75)) ((w.alloc (.cells ds 75)).alloc (.cells es 75)):=SB _ _
 generalize hW0:(w.alloc (.cells ds 75)).alloc (.cells es 75)=W0 at *
 have HW0:=h_ hW0
 clear hW0
 go_enter Tryz.func173,Tryz.ntmps173
 subst hds
 subst hes
 go_wp2_with fail
 rw [HW0.out]
 go_loopw [16] (fun i wr=>∃ k:Nat,k≤xs.length∧i=.int .i64 k∧SI gL (xs.drop k) (ys.drop k)=G∧Sm (w.heap.size+2) W0 wr) (fun i _=>xs.length-(intOf i).toNat)
 case atStart=>exact⟨0,by omega,rfl,H0.out,hb0⟩
 case round =>
  obtain⟨k,hk,rfl,hp,hb⟩:=hrel
  by_cases hlt:k<xs.length
  · obtain⟨b,off,r,rfl,hbl,hx,hc,hok⟩:=(h.later (HB.out _ hb)).at_ hlt
    obtain⟨b',off',s,rfl,lW,hy,hc',hok'⟩:=(h'.later (HB.out _ hb)).at_ (show k<ys.length by rw [←Dw.out];exact hlt)
    rw [qT gL xs ys k r s hx hy] at hp
    have hne:=rY r s
    have HP:=h_ hp
    have Kx:decide (k<xs.length)=true:=by simpa using hlt
    generalize gL r s=E at *
    obtain⟨t,cc,i,u,ru⟩:=r
    obtain⟨t2,cc2,i2,u2,ru2⟩:=s
    simp only [Run.enc] at hne
    have d0:=hc 0 _ rfl;have d1:=hc 1 _ rfl;have d2:=hc 2 _ rfl;have d3:=hc 3 _ rfl;have d4:=hc 4 _ rfl
    have e0:=hc' 0 _ rfl;have e1:=hc' 1 _ rfl;have e2:=hc' 2 _ rfl;have e3:=hc' 3 _ rfl;have e4:=hc' 4 _ rfl
    simp only [SD] at d0 d1 d2 d3 d4 e0 e1 e2 e3 e4
    clear hc hc' hp hx hy hok hok' H0
    have hlt2:(k:Int)<(xs.length:Int):=by omega
    cases E
    · go_wp2_with fail
      go_quiet (fail)
      go_wp2_with fail
      go_ret
      exact⟨by rw [←HP.out];rfl,HB.out _ (Sk hb _)⟩
    · go_wp2_with fail
      go_quiet (fail)
      go_wp2_with fail
      go_roundw
      case rel=>exact⟨k+1,by omega,by go_num,by rw [←HP.out];simp,Sk hb _⟩
      case measure=>simp [intOf];omega
  · obtain rfl:k=xs.length:=by omega
    have hp2:true=G:=by
     rw [←hp,Ss,Dw.out,Ss,iY]
    have HP:=h_ hp2
    clear hp hp2 H0
    go_wp2_with fail
    go_ret
    exact⟨by rw [←HP.out];rfl,HB.out _ hb⟩
theorem qe (r s:Row)(w:Sj)(h:r.lies w)(h':s.lies w)(hl:r.runs.length≤4000000) :
 Sl Tryz.prog 173 #[.agg r.enc.toArray,.agg s.enc.toArray] w fun e w'=>e=.returned (.bool (gN r s))∧Sm w.heap.size w w':=by
 obtain⟨a,c,xs⟩:=r
 obtain⟨a',c',ys⟩:=s
 unfold gN
 simp only [Row.enc,Row.lies] at *
 by_cases hn:xs.length=ys.length
 · exact xE a a' c c' xs ys w h h' hl hn
 · rw [SJ gL xs ys hn]
   exact uE a a' _ _ c c' w hn
theorem uF (a a':Option Addr)(n m c c':Nat)(w:Sj)(h:¬ n=m):Sl Tryz.prog 111 #[.slice a n c,.slice a' m c'] w fun e w'=>e=.returned (.bool false)∧Sm w.heap.size w w':=by
 have h1:(n != m)=true:=by simpa using h
 have h2:((n:Int) != (m:Int))=true:=by simp;omega
 go_enter Tryz.func111,Tryz.ntmps111
 go_wp2_with fail
 go_ret
 exact⟨rfl,SB _ _⟩
theorem xF (a a':Option Addr)(c c':Nat)(xs ys:List Row)(w:Sj)(h:iZ w a xs)(h':iZ w a' ys)(hf:∀ r∈xs,r.runs.length≤4000000)(hl:xs.length≤4000000)(hn:xs.length=ys.length) :
 Sl Tryz.prog 111 #[.slice a xs.length c,.slice a' ys.length c'] w fun e w'=>e=.returned (.bool (SI gN xs ys))∧Sm w.heap.size w w':=by
 have HT:=h_ (fun(w2 w3:Sj) (h:Sm w.heap.size w w2) (h3:Sm w2.heap.size w2 w3)=>(h.trans (h3.mono h.size):Sm w.heap.size w w3))
 generalize hG:SI gN xs ys=G
 have H0:=h_ (show SI gN (xs.drop 0) (ys.drop 0)=G from hG)
 have Dw:=h_ hn
 rw [←hn]
 clear hG hn
 have h1:((xs.length:Int) != (xs.length:Int))=false:=by simp
 go_enter Tryz.func111,Tryz.ntmps111
 go_wp2_with fail
 go_loopw [13] (fun i wr=>∃ k:Nat,k≤xs.length∧i=.int .i64 k∧SI gN (xs.drop k) (ys.drop k)=G∧Sm w.heap.size w wr) (fun i _=>xs.length-(intOf i).toNat)
 case atStart=>exact⟨0,by omega,rfl,H0.out,SB _ _⟩
 case round =>
  obtain⟨k,hk,rfl,hp,hb⟩:=hrel
  by_cases hlt:k<xs.length
  · obtain⟨b,off,r,rfl,hbl,hx,hc,hok⟩:=ah.at_ h hlt
    obtain⟨b',off',s,rfl,lW,hy,hc',hok'⟩:=ah.at_ h' (show k<ys.length by rw [←Dw.out];exact hlt)
    have HC:=h_ (fun(w1:Sj) (q:Sm w.heap.size w w1)=>(qe r s w1 (Row.keeps _ _ _ q hok) (Row.keeps _ _ _ q hok') (hf r (St hx))).mono (fun e w' (p:e=.returned (.bool (gN r s))∧Sm w1.heap.size w1 w')=>(show e=.returned (.bool (gN r s))∧Sm w.heap.size w w' from⟨p.1,HT.out _ _ q p.2⟩)))
    rw [qT gN xs ys k r s hx hy] at hp
    have HP:=h_ hp
    have Kx:decide (k<xs.length)=true:=by simpa using hlt
    have q0:=fun(w1:Sj) (q:Sm w.heap.size w w1)=>(q.cell (p:=⟨b,off+k*1+0,none⟩) hbl).trans (hc 0 _ rfl)
    have q1:=fun(w1:Sj) (q:Sm w.heap.size w w1)=>(q.cell (p:=⟨b',off'+k*1+0,none⟩) lW).trans (hc' 0 _ rfl)
    simp only [SD,Nat.mul_one] at q0 q1
    obtain⟨ra,rc,rr⟩:=r
    obtain⟨sa,sc,ss⟩:=s
    generalize gN ⟨ra,rc,rr⟩ ⟨sa,sc,ss⟩=E at *
    simp only [Row.enc] at HC q0 q1
    clear hc hc' hp hx hy hok hok' H0
    have hlt2:(k:Int)<(xs.length:Int):=by omega
    have sX:Sm w.heap.size w wr.drew:=hb.drew
    cases E
    · go_wp2_with fail
      go_region_held3 (fun w'=>Sm w.heap.size w w') (first|assumption|exact sX) (first|(go_at_call 173;((with_reducible refine(HC.out _ ?_).mono ?_);assumption);rintro e w4 ⟨rfl,hc4⟩))
      all_goals
       go_wp2_with fail
       go_ret
       exact⟨by rw [←HP.out];rfl,by assumption⟩
    · go_wp2_with fail
      go_region_held3 (fun w'=>Sm w.heap.size w w') (first|assumption|exact sX) (first|(go_at_call 173;((with_reducible refine(HC.out _ ?_).mono ?_);assumption);rintro e w4 ⟨rfl,hc4⟩))
      all_goals
       go_wp2_with fail
       go_roundw
       case rel=>exact⟨k+1,by omega,by go_num,by rw [←HP.out];simp,by assumption⟩
       case measure=>simp [intOf];omega
  · obtain rfl:k=xs.length:=by omega
    have hp2:true=G:=by
     rw [←hp,Ss,Dw.out,Ss,iY]
    have HP:=h_ hp2
    clear hp hp2 H0
    go_wp2_with fail
    go_ret
    exact⟨by rw [←HP.out];rfl,hb⟩
theorem qf (a a':Option Addr)(c c':Nat)(xs ys:List Row)(w:Sj)(h:iZ w a xs)(h':iZ w a' ys)(hf:∀ r∈xs,r.runs.length≤4000000)(hl:xs.length≤4000000) :
 Sl Tryz.prog 111 #[.slice a xs.length c,.slice a' ys.length c'] w fun e w'=>e=.returned (.bool (dZ xs ys))∧Sm w.heap.size w w':=by
 unfold dZ
 by_cases hn:xs.length=ys.length
 · exact xF a a' c c' xs ys w h h' hf hl hn
 · rw [SJ gN xs ys hn]
   exact uF a a' _ _ c c' w hn
def evLe (x y:EvC):Bool:=decide (x.inn<y.inn∨(x.inn=y.inn∧x.id≤y.id))
def de (l:List EvC):List EvC:=l.mergeSort evLe
theorem iw (l:List EvC):(de l).Perm l:=List.mergeSort_perm l _
theorem kf (l:List EvC):(de l).Pairwise fun x y=>evLe x y=true :=
 List.pairwise_mergeSort (fun a b c h1 h2=>by simp only [evLe,decide_eq_true_eq] at *;omega) (fun a b=>by simp only [evLe,Bool.or_eq_true,decide_eq_true_eq];omega) l
theorem El {l:List EvC} (h:l.Pairwise fun x y=>x.id≠y.id) {a b:EvC} (ha:a∈l)(hb:b∈l)(he:a.id=b.id):a=b:=by
 obtain⟨i,hi,rfl⟩:=Sw ha
 obtain⟨j,hj,rfl⟩:=Sw hb
 rw [List.pairwise_iff_getElem] at h
 rcases Nat.lt_trichotomy i j with hij|rfl|hij
 · exact absurd he (h i j hi hj hij)
 · rfl
 · exact absurd he.symm (h j i hj hi hij)
theorem ke {xs l:List EvC} (hp:xs.Perm l)(hs:xs.Pairwise fun x y=>evLe x y=true)(hi:l.Pairwise fun x y=>x.id≠y.id):xs=de l:=by
 refine List.Perm.eq_of_pairwise (le:=fun x y=>evLe x y=true) (fun a b ha hb h1 h2=>?_) hs (kf l) (hp.trans (iw l).symm)
 simp only [evLe,decide_eq_true_eq] at h1 h2
 exact El hi (hp.subset ha) ((iw l).subset hb) (by omega)
def oY (eV:List EvC)(id:Int)(v:Option EvC):List EvC:=de (eV.filter (fun x=>!(x.id==id))++v.toList)
theorem xv {eV:List EvC} (h:eV.Pairwise fun x y=>x.id≠y.id)(id:Int)(v:Option EvC)(hv:∀ y,v=some y→y.id=id):(eV.filter (fun x=>!(x.id==id))++v.toList).Pairwise fun x y=>x.id≠y.id:=by
 rw [List.pairwise_append]
 refine⟨h.sublist List.filter_sublist,by cases v<;>simp,fun a ha b hb=>?_⟩
 have h1:=(Sz.1 ha).2
 have h2:=hv b (by simpa using hb)
 simp at h1
 omega
theorem nn {eV:List EvC} (h:eV.Pairwise fun x y=>x.id≠y.id):∀ (k:Nat)(m:EvC),eV[k]? =some m→eV.filter (fun x=>!(x.id==m.id))=bI eV k:=by
 induction eV with
 | nil=>intro k m hk;simp at hk
 | cons a l ih =>
   rw [List.pairwise_cons] at h
   intro k m hk
   cases k with
   | zero =>
     obtain rfl:a=m:=by simpa using hk
     rw [Sx,if_neg (by simp),List.filter_eq_self.2 fun x hx=>by simpa using fun e:x.id=a.id=>h.1 x hx e.symm]
     rfl
   | succ k =>
     have hk':l[k]? =some m:=by simpa using hk
     have hne:=h.1 m (St hk')
     rw [Sx,if_pos (by simpa using hne),ih h.2 k m hk']
     rfl
def dM (k:ByteArray)(x:Reg):Bool:=Op.bytesLess x.name.toList k.toList
def eD (k:ByteArray)(x:Reg):Bool:=x.name.toList==k.toList
def cmAt (k:Int)(x:Cm):Bool:=x.id==k
def evAt (k:Int)(x:EvC):Bool:=x.id==k
theorem D6 (k:ByteArray)(x y:Reg)(h:baLt x.name y.name)(hx:dM k x=false):dM k y=false∧eD k y=false:=by
 have hx':¬ baLt x.name k:=fun h=>by rw [dM,(Fh _ _).2 h] at hx;cases hx
 constructor
 · cases hy:dM k y
   · rfl
   · exact absurd (pC h ((Fh _ _).1 hy)) hx'
 · cases hy:eD k y
   · rfl
   · have e:=gV (a:=y.name) (b:=k) (by simpa [eD] using hy)
     rw [e] at h
     exact absurd h hx'
def EvC.fits (x:EvC):Prop:=i64 x.id∧i64 x.inn∧i64 x.out∧x.region.size≤4000000∧0≤x.kind∧x.kind≤255∧x.speaker.size≤4000000∧(∀ r∈x.rows,(∀ y∈r,y.fits)∧r.length≤4000000∧cH r≤4000000)∧x.rows.length≤4000000
theorem Ev.fits_c (x:Ev):x.c.fits↔x.fits:=by
 unfold EvC.fits Ev.fits
 simp only [Ev.c,Su,Sv,forall_exists_index,and_imp,forall_apply_eq_imp_iff₂]
 rfl
def Hd.fits (h:Hd):Prop:=h.title.size≤4000000∧h.lA.size≤4000000∧0≤h.rate∧h.rate≤255∧i64 h.last
def DocC.fits (n:Nat)(d:DocC):Prop:=d.hd.fits∧(∀ r∈d.rG,r.fits)∧d.rG.length≤n∧(∀ x∈d.eV,x.fits)∧d.eV.length≤n∧(∀ c∈d.cM,c.fits)∧d.cM.length≤n
theorem DocC.fits.doc {d:Doc} {n:Nat} (h:d.c.fits n)(hn:n≤4000000):d.fits:=by
 obtain⟨⟨h1,h2,h3,h4,h5⟩,h6,h7,h8,h9,h10,h11⟩:=h
 have Pp:d.eV.length≤n:=by
  have:d.c.eV.length=d.eV.length:=Su ..
  omega
 exact⟨h1,h2,h3,h4,h5,h6,SC h7 hn,fun x hx=>(Ev.fits_c x).1 (h8 x.c (Sv.2 ⟨x,hx,rfl⟩)),by omega,h10,SC h11 hn⟩
theorem Doc.fits.c {d:Doc} {n:Nat} (h:d.fits)(h1:d.rG.length≤n)(h2:d.eV.length≤n)(h3:d.cM.length≤n):d.c.fits n:=by
 obtain⟨q1,q2,q3,q4,q5,q6,q7,q8,q9,q10,q11⟩:=h
 refine⟨⟨q1,q2,q3,q4,q5⟩,q6,h1,fun x hx=>?_,by show(d.eV.map Ev.c).length≤n;rw [Su];exact h2,q10,h3⟩
 obtain⟨y,hy,rfl⟩:=Sv.1 hx
 exact(Ev.fits_c y).2 (q8 y hy)
theorem DocC.fits.mono {d:DocC} {n m:Nat} (h:d.fits n)(hn:n≤m):d.fits m:=by
 obtain⟨h1,h2,h3,h4,h5,h6,h7⟩:=h
 exact⟨h1,h2,by omega,h4,by omega,h6,by omega⟩
theorem xu {eV:List EvC} {id:Int} {v:Option EvC} {x:EvC} (h:x∈oY eV id v):x∈eV∨v=some x:=by
 have h1:=(iw _).subset h
 rcases List.mem_append.1 h1 with h1|h1
 · exact .inl (Sz.1 h1).1
 · exact .inr (by simpa using h1)
def EvC.rep (x:EvC):Ev:=⟨x.id,x.inn,x.out,x.region,x.kind,x.speaker,none,0,x.rows.map fun r=>⟨none,0,r⟩⟩
def DocC.rep (d:DocC):Doc:=⟨d.hd.title,d.hd.lA,d.hd.rate,d.hd.drop,d.hd.last,none,0,d.rG,none,0,d.eV.map EvC.rep,none,0,d.cM⟩
theorem EvC.rep_c (x:EvC):x.rep.c=x:=by
 obtain⟨id,inn,out,region,kind,speaker,rows⟩:=x
 simp [EvC.rep,Ev.c,SA,Function.comp_def]
theorem DocC.rep_c (d:DocC):d.rep.c=d:=by
 obtain⟨⟨title,lA,rate,drop,last⟩,rG,eV,cM⟩:=d
 have:(eV.map EvC.rep).map Ev.c=eV:=by
  rw [SA]
  exact(List.map_congr_left fun x _=>EvC.rep_c x).trans (List.map_id' eV)
 simp only [DocC.rep,Doc.c,Doc.hd,this]
def cErr (d:DocC):Int:=a_ d.rep
theorem bA (d:Doc):a_ d=cErr d.c:=vr (DocC.rep_c d.c).symm
def aU:DocC:=⟨Ga,[],[],[]⟩
def zDoc:Doc:=⟨⟨#[]⟩,⟨#[]⟩,0,false,0,none,0,[],none,0,[],none,0,[]⟩
theorem jZ (w:Sj):zDoc.lies w:=⟨.inl rfl,.inl rfl,.inl rfl⟩
theorem zm (n:Nat):zDoc.c.fits n:=⟨⟨by decide,by decide,by decide,by decide,⟨by decide,by decide⟩⟩,by simp [zDoc,Doc.c],by simp [zDoc,Doc.c],by simp [zDoc,Doc.c],by simp [zDoc,Doc.c],by simp [zDoc,Doc.c],by simp [zDoc,Doc.c]⟩
structure Kept (S:Nat→Prop)(w w':Sj):Prop where
 os:w'.os=w.os
 tape:w'.tape=w.tape
 output:w'.output=w.output
 size:w.heap.size≤w'.heap.size
 block:∀ k,k<w.heap.size→¬ S k→w'.heap[k]? =w.heap[k]?
theorem Kept.refl (S:Nat→Prop)(w:Sj):Kept S w w:=⟨rfl,rfl,rfl,SF _,fun _ _ _=>rfl⟩
theorem Kept.trans {S S':Nat→Prop} {a b c:Sj} (h:Kept S a b)(k:Kept S' b c)(hs:∀ i,i<a.heap.size→S' i→S i):Kept S a c :=
 ⟨k.os.trans h.os,k.tape.trans h.tape,k.output.trans h.output,SC h.size k.size,fun i hi hn=>(k.block i (SG hi h.size) (fun e=>hn (hs i hi e))).trans (h.block i hi hn)⟩
theorem Kept.of_below {S:Nat→Prop} {w w':Sj} (h:Sm w.heap.size w w'):Kept S w w':=⟨h.os,h.tape,h.output,h.size,fun k hk _=>h.block k hk⟩
theorem Kept.andBelow {S:Nat→Prop} {a w w':Sj} (h:Kept S a w)(k:Sm w.heap.size w w'):Kept S a w':=h.trans (Kept.of_below (S:=fun _=>False) k) fun _ _ h=>h.elim
theorem Kept.andGrown {S:Nat→Prop} {a w w':Sj} {row:Option Nat} (h:Kept S a w)(hg:w.grownBy w' row)(hr:∀ k,row=some k→k<a.heap.size→S k):Kept S a w' :=
 ⟨hg.os.trans h.os,hg.tape.trans h.tape,hg.output.trans h.output,SC h.size hg.size,fun k hk hn=>(hg.block k (SG hk h.size) (fun e=>hn (hr k e.symm hk))).trans (h.block k hk hn)⟩
theorem Kept.alloc {S:Nat→Prop} {a w:Sj} (h:Kept S a w)(o:Obj):Kept S a (w.alloc o):=h.andBelow ((SB _ _).alloc (SF _) o)
theorem Kept.drew {S:Nat→Prop} {a w:Sj} (h:Kept S a w):Kept S a w.drew:=⟨h.os,h.tape,h.output,h.size,h.block⟩
theorem Kept.setCell {S:Nat→Prop} {a w:Sj} (h:Kept S a w) {p:Addr} (hp:a.heap.size≤p.block∨S p.block)(u:Value):Kept S a (w.setCell p u) :=
 ⟨h.os,h.tape,h.output,by simpa using h.size,fun k hk hn=>by
  rw [Sm.heap_setCell _ _ _ _ (fun e=>by
   rcases hp with hp|hp
   · omega
   · exact hn (e▸hp))]
  exact h.block k hk hn⟩
theorem Kept.below {S:Nat→Prop} {w w':Sj} {B:Nat} (h:Kept S w w')(hB:B≤w.heap.size)(hs:∀ k,k<B→¬ S k):Sm B w w':=⟨h.os,h.tape,h.output,h.size,fun k hk=>h.block k (by omega) (hs k hk)⟩
theorem Kept.cell {S:Nat→Prop} {w w':Sj} (h:Kept S w w') {b o:Nat} (hb:b<w.heap.size)(hs:¬ S b):w'.cell? ⟨b,o,none⟩=w.cell? ⟨b,o,none⟩:=Sj.cell?_of_block (w:=w) (h.block b hb hs)
theorem Kept.mono {S S':Nat→Prop} {w w':Sj} (h:Kept S w w')(hs:∀ i,i<w.heap.size→S i→S' i):Kept S' w w':=⟨h.os,h.tape,h.output,h.size,fun k hk hn=>h.block k hk (fun e=>hn (hs k hk e))⟩
theorem aB {B e k n:Nat} {v:Value} {xs:List Value} {w w':Sj} (h:w.ownsRow B e k v n xs)(hb:∀ b,v.ownBlock=some b→w'.heap[b]? =w.heap[b]?):w'.ownsRow B e k v n xs:=by
 refine⟨h.1,?_⟩
 rcases h.2 with h0|⟨g,cap,cur,h1,h2,h3,h4⟩
 · exact .inl h0
 · exact .inr ⟨g,cap,cur,h1,h2,by rw [hb g (by rw [h1];rfl)];exact h3,h4⟩
end Go.Proofs.YtjebaagkomejaaaGreatDoor
