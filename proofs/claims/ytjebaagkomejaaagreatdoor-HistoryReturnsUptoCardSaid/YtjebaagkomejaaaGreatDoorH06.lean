/- Append, as a step of a region that draws its order. The contract of style.Check: the first error of a row. The contract of event.row: the error of a row of an event. -/
import Derived.Lib.OwnBridge
import Derived.Test.YtjebaagkomejaaaGreatDoorH03
import Derived.Test.YtjebaagkomejaaaGreatDoorH04
set_option linter.unusedVariables false
set_option linter.unusedSimpArgs false
set_option maxRecDepth 100000
set_option maxHeartbeats 12800000
open Go.Lib renaming hid→h_
open Go renaming World→Sh,Value→Si,Calls→Sj
open List renaming drop_length→Sk,map_cons→Sl,map_nil→Sm
open Go.RowKit renaming Below→Sn
open Go.RowKit.Below renaming refl→Sp
open Go.World renaming size_alloc→Sq
open Nat renaming le_refl→Sr,add_zero→Ss
open Bool renaming eq_false_or_eq_true→St
namespace Go.Proofs.YtjebaagkomejaaaGreatDoor
open Go.RowKit
theorem gC {P:Program} {ops:Array Oper} {o:Oper} {a:Act} {K:Act→Sh→Prop} {Q:Exit→Act→Sh→Prop} {E:Prop} (w:Sh)(cs:Array Si)(hgd:o.guard=none)(s x:Operand)(t:TypeId)
 (ho:o.op=.call { callee:=.builtin .append,args:=#[s,x],argTypes:=#[t,t] })
 (base:Nat) (e:TypeId) (i:TypeInfo) (z:Si) (size bytes:Nat) (ht:P.underlying t=some (.slice e)) (hi:P.info? e=some i) (hz:i.zero=some z)
 (hsize:i.size=size) (hby:i.bytes=bytes) (hzs:z.cells.size=size) (hsz:0<size)
 (v:Si) (n:Nat) (xs:List Si) (hs:a.eval s=v) (hown:w.ownsRow base e size v n xs) (g:Nat) (hx:a.eval x=.slice (some ⟨g,0,none⟩) 1 1) (hg:g=w.heap.size)
 (hcs:cs.size=size) (h1:∀ u∈cs.toList,u.oneCell'=true) (h63:n+1≤maxLen) (hbytes:(n+1)*bytes≤140737488355328) (hbase:base≤w.heap.size)
 (h:∀ v' w2,w2.ownsRow base e size v' (n+1) (xs++cs.toList)→(w.alloc (.cells cs e)).grownBy w2 v.ownBlock→(v'.ownBlock=v.ownBlock∨v'.ownBlock=some (w.heap.size+1))→K (a.put o.dst v') w2) :
 if Region.wanted o (yielded ops a.tmps)=true then Oper.wp P o a (w.alloc (.cells cs e)) K Q else E:=by
 have hw:Region.wanted o (yielded ops a.tmps)=true:=by simp [Region.wanted,hgd]
 rw [if_pos hw]
 subst hg
 obtain⟨v',w',hrun,h2,h3,_,h5⟩:=run_append_own_at (P:=P) (w.alloc (.cells cs e)) base t o.type e i z size bytes ht hi hz hsize hby hzs hsz v n xs (hown.alloc _) ⟨w.heap.size,0,none⟩ 1 1 cs.toList (by simpa using hcs) (ny w cs e) h1 h63 hbytes (by simp;omega)
 unfold Oper.wp execOp
 simp only [ho,resolve,invoke,builtin,Sem.run_bind,Sem.run_pure,Result.andThen_ok,List.map_toArray,Sl,Sm,hs,hx,hrun]
 exact h v' w' h2 h3 (by simpa using h5)
theorem rL (r:Row)(w:Sh)(hE:Env w)(hr:r.lies w)(hf:r.fits)(hn:r.runs.length≤16) :
 Sj Tryz.prog 126 #[.agg r.enc.toArray] w fun e w'=>e=.returned (.int .i64 (gi r.runs))∧Sn w.heap.size w w':=by
 obtain⟨a,cap,xs⟩:=r
 obtain⟨hfx,hl,hsum⟩:=hf
 simp only [Row.lies] at hr
 simp only [Row.enc] at *
 rw [gi,if_neg (by omega)]
 generalize hG:eP none xs=G
 have H0:=h_ (show eP (dD xs 0) (xs.drop 0)=G by rw [List.drop_zero];exact hG)
 have hn2:decide ((16:Int)<(xs.length:Int))=false:=by simp;omega
 clear hG
 go_enter Tryz.func126,Tryz.ntmps126
 go_wp2_with fail
 go_loopw [12] (fun i wr=>∃ k:Nat,k≤xs.length∧i=.int .i64 k∧eP (dD xs k) (xs.drop k)=G∧Sn (w.heap.size+1) (w.alloc (.cells #[.slice a xs.length cap] 75)) wr) (fun i _=>xs.length-(intOf i).toNat)
 case atStart=>exact⟨0,by omega,rfl,H0.out,Sp _ _⟩
 case round =>
  obtain⟨k,hk,rfl,hp,hb0⟩:=hrel
  have hb:=bK hb0
  by_cases hlt:k<xs.length
  · have hRr:=hr.later hb
    obtain⟨b,off,x,rfl,hbl,hx,hc,_⟩:=hRr.at_ hlt
    have hft:=hfx x (List.mem_of_getElem? hx)
    have HN:=h_ (pN xs k x hx (dD xs k))
    have HS:=h_ (pM xs k x hx (dD xs k))
    have HP:=h_ hp
    have hcs:=zj x
    have kQ:=ax w #[.slice (some ⟨b,off,none⟩) xs.length cap] 75 0 _ rfl
    have M8:=h_ (fun w1 (h:Sn (wr.heap.size+1) (wr.alloc (.cells x.enc.toArray 77)) w1)=>kQ w1 ((hb0.alloc (by have:=hb0.size;rw [Sq] at this;exact this) _).trans (h.mono (by have:=hb0.size;rw [Sq] at this;omega))))
    have HB:=h_ (fun w1 (h:Sn (wr.heap.size+1) (wr.alloc (.cells x.enc.toArray 77)) w1)=>eO hb _ h)
    have HB0:=h_ (fun w1 (h:Sn (wr.heap.size+1) (wr.alloc (.cells x.enc.toArray 77)) w1)=>(hb0.alloc (by have:=hb0.size;rw [Sq] at this;exact this) _).trans (h.mono (by have:=hb0.size;rw [Sq] at this;omega)))
    obtain⟨f1,f2,f3,f4⟩:=hft
    have hsE:∀ p,jx x≠0→fJ p x=jx x:=fun p h=>by unfold fJ;rw [if_pos (by simpa using h)]
    have kC:=h_ hsE
    have hg:=fun j v h=>ax wr x.enc.toArray 77 j v h
    obtain⟨t,c,i,u,ru⟩:=x
    have d0:=hc 0 _ rfl;have d1:=hc 1 _ rfl;have d2:=hc 2 _ rfl;have d3:=hc 3 _ rfl;have d4:=hc 4 _ rfl
    have g0:=hg 0 _ rfl;have g1:=hg 1 _ rfl;have g2:=hg 2 _ rfl;have g3:=hg 3 _ rfl;have g4:=hg 4 _ rfl
    simp only [Ss,Run.enc] at d0 d1 d2 d3 d4 g0 g1 g2 g3 g4 HB HB0 M8 f1 f2 f3 f4 hcs
    have HE:=h_ (fun w1 (h:Sn (wr.heap.size+1) (wr.alloc (.cells #[.string t,.int .u8 c,.bool i,.bool u,.string ru] 77)) w1)=>hE.below (HB.out w1 h) (Sr _))
    have hq0:Sn (wr.heap.size+1) (wr.alloc (.cells #[.string t,.int .u8 c,.bool i,.bool u,.string ru] 77)) (wr.alloc (.cells #[.string t,.int .u8 c,.bool i,.bool u,.string ru] 77)):=Sp _ _
    have hsz1:(wr.alloc (.cells #[.string t,.int .u8 c,.bool i,.bool u,.string ru] 77)).heap.size=wr.heap.size+1:=Sq _ _
    have HV:=h_ (fun s (hs:s.size≤4000000) w1 (h:Sn (wr.heap.size+1) (wr.alloc (.cells #[.string t,.int .u8 c,.bool i,.bool u,.string ru] 77)) w1)=>dM s w1 hs (HE.out w1 h))
    generalize hW1:wr.alloc (.cells #[.string t,.int .u8 c,.bool i,.bool u,.string ru] 77)=W1 at *
    have HW1:=h_ hW1
    have dV:=h_ hsz1
    clear hW1 hsz1 hc hg hsE kQ hp H0 hfx
    rcases hcs with⟨v1,he⟩|⟨v1,v2,he⟩|⟨v1,v2,v3,he⟩|⟨v1,v2,v3,v4,he⟩|⟨v1,v2,v3,v4,he⟩
    · have hst:=h_ (kC.out (dD xs k) (by rw [he];decide))
      have dY:=h_ he
      clear he hRr
      go_wp2_with fail
      rw [HW1.out]
      refine(HV.out t f1 _ hq0).mono ?_
      rintro e w1 ⟨rfl,hb1⟩
      rw [dV.out] at hb1
      go_wp2_with fail
      go_ret
      exact⟨aG (by rw [←HP.out,HS.out (by rw [hst.out,dY.out];rfl),hst.out,dY.out]),HB.out _ hb1⟩
    · have hst:=h_ (kC.out (dD xs k) (by rw [he];decide))
      have dY:=h_ he
      clear he hRr
      have v2':t.toList.isEmpty=true:=by simpa using v2
      go_wp2_with fail
      rw [HW1.out]
      refine(HV.out t f1 _ hq0).mono ?_
      rintro e w1 ⟨rfl,hb1⟩
      rw [dV.out] at hb1
      go_wp2_with fail
      go_ret
      exact⟨aG (by rw [←HP.out,HS.out (by rw [hst.out,dY.out];rfl),hst.out,dY.out]),HB.out _ hb1⟩
    · have hst:=h_ (kC.out (dD xs k) (by rw [he];decide))
      have dY:=h_ he
      clear he hRr
      have v2':t.toList.isEmpty=false:=by simpa using v2
      have v3':decide (c≤6)=false:=by simpa using v3
      go_wp2_with fail
      rw [HW1.out]
      refine(HV.out t f1 _ hq0).mono ?_
      rintro e w1 ⟨rfl,hb1⟩
      rw [dV.out] at hb1
      go_wp2_with fail
      refine(cu c i u _).mono ?_
      rintro e w2 ⟨rfl,hb2⟩
      replace hb2:Sn (wr.heap.size+1) W1 w2:=hb1.trans (hb2.mono (by have:=hb1.size;rw [dV.out] at this;exact this))
      go_wp2_with fail
      go_ret
      exact⟨aG (by rw [←HP.out,HS.out (by rw [hst.out,dY.out];rfl),hst.out,dY.out]),HB.out _ hb2⟩
    · have hst:=h_ (kC.out (dD xs k) (by rw [he];decide))
      have dY:=h_ he
      clear he hRr
      have v2':t.toList.isEmpty=false:=by simpa using v2
      have v3':decide (c≤6)=true:=by simpa using v3
      go_wp2_with fail
      rw [HW1.out]
      refine(HV.out t f1 _ hq0).mono ?_
      rintro e w1 ⟨rfl,hb1⟩
      rw [dV.out] at hb1
      go_wp2_with fail
      refine(cu c i u _).mono ?_
      rintro e w2 ⟨rfl,hb2⟩
      replace hb2:Sn (wr.heap.size+1) W1 w2:=hb1.trans (hb2.mono (by have:=hb1.size;rw [dV.out] at this;exact this))
      go_wp2_with fail
      refine(HV.out ru f2 _ hb2).mono ?_
      rintro e w3 ⟨rfl,hb3⟩
      replace hb3:Sn (wr.heap.size+1) W1 w3:=hb2.trans (hb3.mono (by have:=hb2.size;rw [dV.out] at this;exact this))
      go_wp2_with fail
      go_ret
      exact⟨aG (by rw [←HP.out,HS.out (by rw [hst.out,dY.out];rfl),hst.out,dY.out]),HB.out _ hb3⟩
    · have dY:=h_ he
      clear he
      have v2':t.toList.isEmpty=false:=by simpa using v2
      have v3':decide (c≤6)=true:=by simpa using v3
      rcases Nat.eq_zero_or_pos k with hk0|hk0
      · have hst:=h_ (show fJ (dD xs k) ⟨t,c,i,u,ru⟩=0 by rw [hk0];simp [fJ,dD,dY.out])
        have hkd:decide (0<k)=false:=by simp;omega
        clear hRr hk0
        go_wp2_with fail
        rw [HW1.out]
        refine(HV.out t f1 _ hq0).mono ?_
        rintro e w1 ⟨rfl,hb1⟩
        rw [dV.out] at hb1
        go_wp2_with fail
        refine(cu c i u _).mono ?_
        rintro e w2 ⟨rfl,hb2⟩
        replace hb2:Sn (wr.heap.size+1) W1 w2:=hb1.trans (hb2.mono (by have:=hb1.size;rw [dV.out] at this;exact this))
        go_wp2_with fail
        refine(HV.out ru f2 _ hb2).mono ?_
        rintro e w3 ⟨rfl,hb3⟩
        replace hb3:Sn (wr.heap.size+1) W1 w3:=hb2.trans (hb3.mono (by have:=hb2.size;rw [dV.out] at this;exact this))
        go_wp2_with fail
        go_quiet (fail)
        go_wp2_with fail
        go_roundw
        case rel=>exact⟨k+1,by omega,by go_num,by rw [←HN.out hst.out];exact HP.out,below_drewN (HB0.out _ hb3) _⟩
        case measure=>simp [intOf];omega
      · obtain⟨b',off',y,hab,_,hy,hcy,_⟩:=hRr.at_ (show k-1<xs.length by omega)
        simp only [Option.some.injEq,Addr.mk.injEq,and_true] at hab
        obtain⟨rfl,rfl⟩:=hab
        have hpv:dD xs k=some y:=by
         obtain⟨j,rfl⟩:∃ j,k=j+1:=⟨k-1,by omega⟩
         simp only [Nat.add_sub_cancel] at hy
         simp [dD,hy]
        have hst:fJ (dD xs k) ⟨t,c,i,u,ru⟩=if eB y ⟨t,c,i,u,ru⟩=true then 8 else 0:=by
         rw [hpv];simp [fJ,dY.out]
        have hpc:∀ j v,y.enc[j]? =some v→∀ w1,Sn (wr.heap.size+1) W1 w1→w1.cell? ⟨b,off+(k-1)*5+j,none⟩=some v:=fun j v hv w1 h=>by
         rw [h.cell (p:=⟨b,off+(k-1)*5+j,none⟩) (by simp;omega),←HW1.out,Sh.cell?_alloc_lt _ _ _ (by simpa using hbl)]
         exact hcy j v hv
        have hal:=fun w=>nC y ⟨t,c,i,u,ru⟩ w
        obtain⟨yt,yc,yi,yu,yr⟩:=y
        generalize eB ⟨yt,yc,yi,yu,yr⟩ ⟨t,c,i,u,ru⟩=AL at *
        have p0:=hpc 0 _ rfl;have p1:=hpc 1 _ rfl;have p2:=hpc 2 _ rfl;have p3:=hpc 3 _ rfl;have p4:=hpc 4 _ rfl
        simp only [Ss,Run.enc] at p0 p1 p2 p3 p4 hal
        have FN:=h_ hal
        have kQ:=M8.out
        have hkd:decide (0<k)=true:=by simp;omega
        have hk1:1≤k:=hk0
        have hkz:(1:Int)≤(k:Int):=by omega
        have hkl:(k:Int)-1<(xs.length:Int):=by omega
        have hwr:IntKind.i64.wrap ((k:Int)-1)=(k:Int)-1:=IntWalk.i64_in _ (by omega)
        have hkn:((k:Int)-1).toNat=k-1:=by omega
        clear hpc hpv hRr hcy hy hk0 hal
        cases AL
        · rw [if_neg (by decide)] at hst
          have HST:=h_ hst
          clear hst
          go_wp2_with fail
          rw [HW1.out]
          refine(HV.out t f1 _ hq0).mono ?_
          rintro e w1 ⟨rfl,hb1⟩
          rw [dV.out] at hb1
          go_wp2_with fail
          refine(cu c i u _).mono ?_
          rintro e w2 ⟨rfl,hb2⟩
          replace hb2:Sn (wr.heap.size+1) W1 w2:=hb1.trans (hb2.mono (by have:=hb1.size;rw [dV.out] at this;exact this))
          go_wp2_with fail
          refine(HV.out ru f2 _ hb2).mono ?_
          rintro e w3 ⟨rfl,hb3⟩
          replace hb3:Sn (wr.heap.size+1) W1 w3:=hb2.trans (hb3.mono (by have:=hb2.size;rw [dV.out] at this;exact this))
          go_wp2_with fail
          have Ax:Sn (wr.heap.size+1) W1 w3.drew:=hb3.drew
          go_region_with (go_at_call 183;refine(FN.out _).mono ?_;rintro e w4 ⟨rfl,hb4⟩;replace hb4:Sn (wr.heap.size+1) W1 w4:=Ax.trans (hb4.mono (by have:=Ax.size;rw [dV.out] at this;exact this)))
          all_goals
           go_wp2_with fail
           go_roundw
           case rel=>exact⟨k+1,by omega,by go_num,by rw [←HN.out HST.out];exact HP.out,HB0.out _ hb4⟩
           case measure=>simp [intOf];omega
        · rw [if_pos rfl] at hst
          have HST:=h_ hst
          clear hst
          go_wp2_with fail
          rw [HW1.out]
          refine(HV.out t f1 _ hq0).mono ?_
          rintro e w1 ⟨rfl,hb1⟩
          rw [dV.out] at hb1
          go_wp2_with fail
          refine(cu c i u _).mono ?_
          rintro e w2 ⟨rfl,hb2⟩
          replace hb2:Sn (wr.heap.size+1) W1 w2:=hb1.trans (hb2.mono (by have:=hb1.size;rw [dV.out] at this;exact this))
          go_wp2_with fail
          refine(HV.out ru f2 _ hb2).mono ?_
          rintro e w3 ⟨rfl,hb3⟩
          replace hb3:Sn (wr.heap.size+1) W1 w3:=hb2.trans (hb3.mono (by have:=hb2.size;rw [dV.out] at this;exact this))
          go_wp2_with fail
          have Ax:Sn (wr.heap.size+1) W1 w3.drew:=hb3.drew
          go_region_with (go_at_call 183;refine(FN.out _).mono ?_;rintro e w4 ⟨rfl,hb4⟩;replace hb4:Sn (wr.heap.size+1) W1 w4:=Ax.trans (hb4.mono (by have:=Ax.size;rw [dV.out] at this;exact this)))
          all_goals
           go_wp2_with fail
           go_ret
           exact⟨aG (by rw [←HP.out,HS.out (by rw [HST.out];rfl),HST.out]),HB.out _ hb4⟩
  · obtain rfl:k=xs.length:=by omega
    rw [Sk] at hp
    have HP:=h_ hp
    clear hp H0
    go_wp2_with fail
    go_ret
    exact⟨aG (by rw [←HP.out];cases dD xs xs.length<;>rfl),hb⟩
theorem jy (r:Row)(w:Sh)(hE:Env w)(hr:r.lies w)(hf:r.fits) :
 Sj Tryz.prog 126 #[.agg r.enc.toArray] w fun e w'=>e=.returned (.int .i64 (gi r.runs))∧Sn w.heap.size w w':=by
 by_cases hn:16<r.runs.length
 · exact pP r w hn
 · exact rL r w hE hr hf (by omega)
def untidy (t:ByteArray):Bool:=(t.data.toList.isEmpty||(t.data.toList.headD 0).toNat==32)||((t.data.toList.getLastD 0).toNat==32||Lib.contains t.data.toList [32,32])
def eU (runs:List Run):Int:=if (gi runs != 0)=true then gi runs else if untidy (plain runs)=true then 4 else if 32<rowLen runs then 11 else 0
theorem zO (s:ByteArray)(h:0<s.size):s.data.toList.getLastD 0=s[s.size-1]:=by
 have hl:s.data.toList.length=s.size:=by simp
 have hne:s.data.toList≠[]:=by intro e;rw [e] at hl;simp at hl;omega
 rw [List.getLastD_eq_getLast?,List.getLast?_eq_getElem?]
 rw [List.getElem?_eq_getElem (by omega)]
 simp only [Option.getD_some]
 have:s[s.size-1]=s.data.toList[s.size-1]:=rfl
 simp only [this,hl]
theorem rf (t:ByteArray):(t.size=0∧untidy t=true)∨(∃ h:0<t.size,(t[0].toNat=32∧untidy t=true)∨(t[0].toNat≠32∧t[t.size-1].toNat=32∧untidy t=true)∨(t[0].toNat≠32∧t[t.size-1].toNat≠32∧untidy t=Lib.contains t.data.toList [32,32])):=by
 by_cases h:0<t.size
 · refine .inr ⟨h,?_⟩
   have hne:t.data.toList.isEmpty=false:=by
    rw [List.isEmpty_eq_false_iff];intro e
    have hl:t.data.toList.length=t.size:=by simp
    rw [e] at hl;simp at hl;omega
   unfold untidy
   rw [kc t h,zO t h,hne]
   by_cases h1:t[0].toNat=32
   · exact .inl ⟨h1,by simp only [h1];simp⟩
   · by_cases h2:t[t.size-1].toNat=32
     · exact .inr (.inl ⟨h1,h2,by simp only [h2];simp⟩)
     · refine .inr (.inr ⟨h1,h2,?_⟩)
       rw [beq_eq_false_iff_ne.2 h1,beq_eq_false_iff_ne.2 h2]
       simp
 · refine .inl ⟨by omega,?_⟩
   have hl:t.data.toList.length=t.size:=by simp
   have:t.data.toList=[]:=List.eq_nil_of_length_eq_zero (by omega)
   unfold untidy
   rw [this]
   rfl
theorem nj (r:Row)(w:Sh)(hE:Env w)(hr:r.lies w)(hf:r.fits) :
 Sj Tryz.prog 115 #[.agg r.enc.toArray] w fun e w'=>e=.returned (.int .i64 (eU r.runs))∧Sn w.heap.size w w':=by
 have hC:=fun w1 h1 h2=>jy r w1 h1 h2 hf
 have hP:=fun w1 h2=>mF r w1 h2 hf
 have hL:=fun w1 h1 h2=>eX r w1 h1 h2 hf
 have hps:(plain r.runs).size≤4000000:=by
  have h2:=hf.2.2
  show(iM r.runs).toArray.size≤4000000
  rw [List.size_toArray,gY];exact h2
 obtain⟨a,cap,xs⟩:=r
 simp only [Row.enc,Row.lies] at *
 generalize hG:eU xs=G
 unfold eU at hG
 have hun:=rf (plain xs)
 generalize gi xs=E at *
 generalize plain xs=T at *
 generalize rowLen xs=L at *
 generalize Oe:untidy T=UT at *
 have HG:=h_ hG
 generalize hcs:#[Si.slice a xs.length cap]=cs at *
 have f0:=ax w cs 75 0 (.slice a xs.length cap) (by rw [←hcs];rfl)
 have HB:=h_ (fun(w1:Sh) (h:Sn (w.heap.size+1) (w.alloc (.cells cs 75)) w1)=>bK h)
 have HE:=h_ (fun(w1:Sh) (h:Sn (w.heap.size+1) (w.alloc (.cells cs 75)) w1)=>hE.below (bK h) (Sr _))
 have HR:=h_ (fun(w1:Sh) (h:Sn (w.heap.size+1) (w.alloc (.cells cs 75)) w1)=>hr.later (bK h))
 have hb0:Sn (w.heap.size+1) (w.alloc (.cells cs 75)) (w.alloc (.cells cs 75)):=Sp _ _
 have hsz:(w.alloc (.cells cs 75)).heap.size=w.heap.size+1:=Sq _ _
 have HC:=h_ hC;have MT:=h_ hP;have HL:=h_ hL
 generalize hW0:w.alloc (.cells cs 75)=W0 at *
 have HW0:=h_ hW0
 have dV:=h_ hsz
 clear hW0 hsz hE hr hC hP hL hG Oe
 go_enter Tryz.func115,Tryz.ntmps115
 subst hcs
 go_wp2_with fail
 rw [HW0.out]
 refine(HC.out _ (HE.out _ hb0) (HR.out _ hb0)).mono ?_
 rintro e w1 ⟨rfl,hb1⟩
 rw [dV.out] at hb1
 clear HW0 HC
 cases hE1:E != 0
 · have hE0:E=0:=by simpa using hE1
   rw [hE1] at HG
   clear hE1
   subst hE0
   go_wp2_with fail
   refine(MT.out _ (HR.out _ hb1)).mono ?_
   rintro e w2 ⟨rfl,hb2⟩
   replace hb2:Sn (w.heap.size+1) W0 w2:=hb1.trans (hb2.mono (by have:=hb1.size;rw [dV.out] at this;exact this))
   obtain⟨m,hm⟩:=(HE.out _ hb2).2
   clear MT
   have J5:=h_ (Tryz.strings_Contains T ⟨#[32,32]⟩ m w2 (by omega) hm)
   clear hm
   rcases hun with⟨ht,hu⟩|⟨ht,⟨h1,hu⟩|⟨h1,h2,hu⟩|⟨h1,h2,hu⟩⟩
   · have t0:T.toList=[]:=(kj T).1 ht
     have t1:T.toList.isEmpty=true:=by simpa using t0
     have HU:=h_ hu
     clear hu ht
     go_wp2_with fail
     go_ret
     exact⟨aG (by rw [←HG.out,HU.out];rfl),HB.out _ hb2⟩
   · have t0:¬ T.toList=[]:=fun h=>by have:=(kj T).2 h;omega
     have t1:T.toList.isEmpty=false:=by simpa using t0
     have t2:((T[0].toNat:Int)==32)=true:=by simp only [h1];decide
     have HU:=h_ hu
     clear hu h1
     go_wp2_with fail
     go_ret
     exact⟨aG (by rw [←HG.out,HU.out];rfl),HB.out _ hb2⟩
   · have t0:¬ T.toList=[]:=fun h=>by have:=(kj T).2 h;omega
     have t1:T.toList.isEmpty=false:=by simpa using t0
     have t2:((T[0].toNat:Int)==32)=false:=by rw [beq_eq_false_iff_ne];omega
     have t3:((T[T.size-1].toNat:Int)==32)=true:=by simp only [h2];decide
     have HU:=h_ hu
     clear hu h1 h2
     go_wp2_with fail
     go_ret
     exact⟨aG (by rw [←HG.out,HU.out];rfl),HB.out _ hb2⟩
   · have t0:¬ T.toList=[]:=fun h=>by have:=(kj T).2 h;omega
     have t1:T.toList.isEmpty=false:=by simpa using t0
     have t2:((T[0].toNat:Int)==32)=false:=by rw [beq_eq_false_iff_ne];omega
     have t3:((T[T.size-1].toNat:Int)==32)=false:=by rw [beq_eq_false_iff_ne];omega
     have hcc:Lib.contains T.data.toList (⟨#[32,32]⟩:ByteArray).data.toList=UT:=by rw [hu]
     have HU:=h_ hu
     rw [hcc] at J5
     clear hu h1 h2 hcc
     cases UT
     · rw [if_neg (by decide),if_neg (by decide)] at HG
       by_cases hL:32<L
       · rw [if_pos hL] at HG
         go_wp2_with (first
          | (go_at_call 178;refine J5.out.mono ?_;rintro e w9 ⟨rfl,rfl⟩)
          | (go_at_call 88;refine(HL.out _ (HE.out _ hb2) (HR.out _ hb2)).mono ?_;rintro e w3 ⟨rfl,hb3⟩))
         go_ret
         exact⟨aG HG.out,HB.out _ (hb2.trans (hb3.mono (by have:=hb2.size;rw [dV.out] at this;exact this)))⟩
       · rw [if_neg hL] at HG
         have hL':L≤32:=by omega
         go_wp2_with (first
          | (go_at_call 178;refine J5.out.mono ?_;rintro e w9 ⟨rfl,rfl⟩)
          | (go_at_call 88;refine(HL.out _ (HE.out _ hb2) (HR.out _ hb2)).mono ?_;rintro e w3 ⟨rfl,hb3⟩))
         go_ret
         exact⟨aG HG.out,HB.out _ (hb2.trans (hb3.mono (by have:=hb2.size;rw [dV.out] at this;exact this)))⟩
     · rw [if_neg (by decide),if_pos rfl] at HG
       go_wp2_with (go_at_call 178;refine J5.out.mono ?_;rintro e w9 ⟨rfl,rfl⟩)
       go_ret
       exact⟨aG HG.out,HB.out _ hb2⟩
 · rw [hE1,if_pos rfl] at HG
   go_wp2_with fail
   go_ret
   exact⟨aG HG.out,HB.out _ hb1⟩
theorem Tryz.info9:(Tryz.prog.info? 9).map (fun i=>(i.zero,i.size,i.bytes))=some (some (.string ⟨#[]⟩),1,16):=by kernel_rfl
def kB {α β:Type} (K:Nat)(enc:β→Si)(key:α→β)(zs:List α)(W:Sh)(k:Nat)(v:Si)(wr:Sh):Prop :=
 wr.ownsRow W.heap.size K 1 v k (((zs.take k).map key).map enc)∧Sn W.heap.size W wr
theorem kB.step {α β:Type} {K:Nat} {enc:β→Si} {key:α→β} {zs:List α} {W w1 w2:Sh} {k:Nat} {v v':Si} {x:α} {cs:Array Si} (hx:zs[k]? =some x)(hb:Sn W.heap.size W w1)(ho:w1.ownsRow W.heap.size K 1 v k (((zs.take k).map key).map enc))(hcs:cs.toList=[enc (key x)])
 (hown:w2.ownsRow W.heap.size K 1 v' (k+1) (((zs.take k).map key).map enc++cs.toList)) (hg:(w1.alloc (.cells cs K)).grownBy w2 v.ownBlock):kB K enc key zs W (k+1) v' w2:=by
 refine⟨?_,(hb.alloc hb.size _).grown hg (by have:=hb.size;simp;omega) (fun j hj=>(ho.lt j hj).1)⟩
 rw [List.take_add_one,hx]
 simp only [Option.toList_some,List.map_append,Sl,Sm]
 rw [hcs] at hown
 exact hown
theorem kB.all {α β:Type} {K:Nat} {enc:β→Si} {key:α→β} {zs:List α} {W wr:Sh} {v:Si} (h:kB K enc key zs W zs.length v wr):wr.ownsRow W.heap.size K 1 v (zs.map key).length ((zs.map key).map enc):=by
 have:=h.1
 rw [List.take_length] at this
 simpa using this
structure Hd where
 title:ByteArray
 lA:ByteArray
 rate:Int
 drop:Bool
 last:Int
def Hd.enc (h:Hd):List Si:=[.string h.title,.string h.lA,.int .u8 h.rate,.bool h.drop,.int .i64 h.last]
def Doc.hd (d:Doc):Hd:=⟨d.title,d.lA,d.rate,d.drop,d.last⟩
def hdEq (a b:Hd):Bool:=a.title.toList==b.title.toList&&a.lA.toList==b.lA.toList&&a.rate==b.rate&&a.drop==b.drop&&a.last==b.last
theorem BH (a b:Hd)(w:Sh):(binOp .eql 95 (.agg a.enc.toArray) (.agg b.enc.toArray)).run Tryz.prog w=.ok (.bool (hdEq a b)) w:=by
 simp [go_sem,Hd.enc,hdEq]
 repeat' split
 all_goals simp_all
theorem o4 (d:Doc)(w:Sh):Sj Tryz.prog 47 #[.agg d.enc.toArray] w fun e w'=>e=.returned (.agg d.hd.enc.toArray)∧Sn w.heap.size w w':=by
 obtain⟨title,lA,rate,drop,last,ra,rc,rG,ea,ec,eV,ca,cc,cM⟩:=d
 simp only [Doc.enc,Doc.hd,Hd.enc]
 generalize hQ:(fun(e:Ending) (w':Sh)=>e=.returned (.agg [Si.string title,.string lA,.int .u8 rate,.bool drop,.int .i64 last].toArray)∧Sn w.heap.size w w')=Q
 have HQ:=h_ (fun w' (hb:Sn w.heap.size w w')=>show Q (.returned (.agg #[Si.string title,.string lA,.int .u8 rate,.bool drop,.int .i64 last])) w' from hQ▸⟨rfl,hb⟩)
 clear hQ
 go_enter Tryz.func47,Tryz.ntmps47
 go_wp2_with fail
 refine bodyPost_ret (v:=.agg #[Si.string title,.string lA,.int .u8 rate,.bool drop,.int .i64 last]) (by simp [results,Tryz.results47,go_sem]) rfl (HQ.out _ ?_)
 exact(((Sp _ _).alloc (Sr _) _).alloc (by simp) _)
def evEq (x y:Ev):Bool:=x.id==y.id&&(x.inn==y.inn&&x.out==y.out)&&x.region.toList==y.region.toList&&x.kind==y.kind&&x.speaker.toList==y.speaker.toList&&fK x.rows y.rows
theorem wP (a b c d:Int)(w:Sh):(binOp .eql 30 (.agg #[.int .i64 a,.int .i64 b]) (.agg #[.int .i64 c,.int .i64 d])).run Tryz.prog w=.ok (.bool (a==c&&b==d)) w:=by
 simp [go_sem]
 repeat' split
 all_goals simp_all
theorem sK (x y:Ev)(w:Sh)(h:x.lies w)(h':y.lies w)(hf:∀ r∈x.rows,r.runs.length≤4000000)(hf':∀ r∈y.rows,r.runs.length≤4000000)(hl:x.rows.length≤4000000) :
 Sj Tryz.prog 50 #[.agg x.enc.toArray,.agg y.enc.toArray] w fun e w'=>e=.returned (.bool (evEq x y))∧Sn w.heap.size w w':=by
 have hb2:∀ o o',Sn w.heap.size w ((w.alloc o).alloc o'):=fun o o'=>((Sp _ _).alloc (Sr _) _).alloc (by simp) _
 have HC:=h_ (fun o o'=>nW x.at_ y.at_ x.cap y.cap x.rows y.rows ((w.alloc o).alloc o') (bN.later h (hb2 o o')) (bN.later h' (hb2 o o')) hf hf' hl)
 have HB:=h_ (fun o o' w1 (h1:Sn ((w.alloc o).alloc o').heap.size ((w.alloc o).alloc o') w1)=>(hb2 o o').trans (h1.mono (by simp;omega)))
 have HB0:=h_ hb2
 have hE:evEq x y=(x.id==y.id&&(x.inn==y.inn&&x.out==y.out)&&x.region.toList==y.region.toList&&x.kind==y.kind&&x.speaker.toList==y.speaker.toList&&fK x.rows y.rows):=rfl
 generalize hQ:(fun(e:Ending) (w':Sh)=>e=.returned (.bool (evEq x y))∧Sn w.heap.size w w')=Q
 generalize fK x.rows y.rows=G at HC hE
 obtain⟨id,inn,out,reg,kind,sp,xa,xc,xr⟩:=x
 obtain⟨id',inn',out',reg',kind',sp',ya,yc,yr⟩:=y
 simp only [Ev.enc] at *
 have hsp:=wP inn out inn' out'
 rcases St (id==id') with h1|h1
 rotate_left
 · rw [h1] at hE
   have HQ:=h_ (fun w' (hb:Sn w.heap.size w w')=>show Q (.returned (.bool false)) w' from hQ▸⟨by rw [hE];rfl,hb⟩)
   clear hQ hE hb2 h h' hf hf' hsp
   go_enter Tryz.func50,Tryz.ntmps50
   go_wp2_with fail
   exact HQ.out _ (HB0.out _ _)
 rcases St (inn==inn'&&out==out') with h2|h2
 rotate_left
 · rw [h1,h2] at hE
   rw [h2] at hsp
   have HQ:=h_ (fun w' (hb:Sn w.heap.size w w')=>show Q (.returned (.bool false)) w' from hQ▸⟨by rw [hE];rfl,hb⟩)
   clear hQ hE hb2 h h' hf hf' h2
   go_enter Tryz.func50,Tryz.ntmps50
   go_wp2_with fail
   exact HQ.out _ (HB0.out _ _)
 rcases St (reg.toList==reg'.toList) with h3|h3
 rotate_left
 · rw [h1,h2,h3] at hE
   rw [h2] at hsp
   have HQ:=h_ (fun w' (hb:Sn w.heap.size w w')=>show Q (.returned (.bool false)) w' from hQ▸⟨by rw [hE];rfl,hb⟩)
   clear hQ hE hb2 h h' hf hf' h2
   go_enter Tryz.func50,Tryz.ntmps50
   go_wp2_with fail
   exact HQ.out _ (HB0.out _ _)
 rcases St (kind==kind') with h4|h4
 rotate_left
 · rw [h1,h2,h3,h4] at hE
   rw [h2] at hsp
   have HQ:=h_ (fun w' (hb:Sn w.heap.size w w')=>show Q (.returned (.bool false)) w' from hQ▸⟨by rw [hE];rfl,hb⟩)
   clear hQ hE hb2 h h' hf hf' h2
   go_enter Tryz.func50,Tryz.ntmps50
   go_wp2_with fail
   exact HQ.out _ (HB0.out _ _)
 rcases St (sp.toList==sp'.toList) with h5|h5
 rotate_left
 · rw [h1,h2,h3,h4,h5] at hE
   rw [h2] at hsp
   have HQ:=h_ (fun w' (hb:Sn w.heap.size w w')=>show Q (.returned (.bool false)) w' from hQ▸⟨by rw [hE];rfl,hb⟩)
   clear hQ hE hb2 h h' hf hf' h2
   go_enter Tryz.func50,Tryz.ntmps50
   go_wp2_with fail
   exact HQ.out _ (HB0.out _ _)
 rw [h1,h2,h3,h4,h5] at hE
 rw [h2] at hsp
 have HQ:=h_ (fun w' (hb:Sn w.heap.size w w')=>show Q (.returned (.bool G)) w' from hQ▸⟨by rw [hE];rfl,hb⟩)
 clear hQ hE hb2 h h' hf hf' h2
 go_enter Tryz.func50,Tryz.ntmps50
 go_wp2_with fail
 refine(HC.out _ _).mono ?_
 rintro e w1 ⟨rfl,hb⟩
 have bA:=h_ (HB.out _ _ _ hb)
 clear hb
 go_wp2_with fail
 exact HQ.out _ bA.out
def eY (prev:Option Cm)(c:Cm):Bool:=match prev with
 | none=>false
 | some p=>decide (c.id≤p.id)
def fD (last:Int)(f:Int→Option Nat)(eV:List Ev)(prev:Option Cm)(c:Cm):Int :=
 if c.id<1∨last<c.id then 2 else if eY prev c=true then 8 else if (f c.id).isSome=true then 7 else if (ct last f eV c != 0)=true then ct last f eV c else
 if c_ c.author=false then 5 else if bB c.text=false then 10 else if c.text.toList=[] then 4 else if 400<c.text.size then 9 else 0
def di (last:Int)(f:Int→Option Nat)(eV:List Ev):Option Cm→List Cm→Int
 | _,[]=>0
 | prev,c::l=>if (fD last f eV prev c != 0)=true then fD last f eV prev c else di last f eV (some c) l
def ia (last:Int)(f:Int→Option Nat)(eV:List Ev)(cM:List Cm):Int:=if 64<cM.length then 9 else di last f eV none cM
theorem sS (last:Int)(f:Int→Option Nat)(eV:List Ev)(xs:List Cm)(k:Nat)(c:Cm)(hx:xs[k]? =some c)(prev:Option Cm)(h:fD last f eV prev c=0):di last f eV prev (xs.drop k)=di last f eV (bL xs (k+1)) (xs.drop (k+1)):=by
 rw [ch xs k c hx,di,h,if_neg (by decide),bL,hx]
theorem sR (last:Int)(f:Int→Option Nat)(eV:List Ev)(xs:List Cm)(k:Nat)(c:Cm)(hx:xs[k]? =some c)(prev:Option Cm)(h:(fD last f eV prev c != 0)=true):di last f eV prev (xs.drop k)=fD last f eV prev c:=by
 rw [ch xs k c hx,di,if_pos h]
theorem CI (last:Int)(f:Int→Option Nat)(eV:List Ev)(prev:Option Cm)(c:Cm)(A:Int)(hA:ct last f eV c=A) :
 (fD last f eV prev c=2∧c.id<1)∨(fD last f eV prev c=2∧1≤c.id∧last<c.id)∨(1≤c.id∧c.id≤last ∧
  ((eY prev c=true∧fD last f eV prev c=8)∨(eY prev c=false ∧
   (((f c.id).isSome=true∧fD last f eV prev c=7)∨((f c.id).isSome=false ∧
    (((A != 0)=true∧fD last f eV prev c=A)∨(A=0 ∧
     ((c_ c.author=false∧fD last f eV prev c=5)∨(c_ c.author=true ∧
      ((bB c.text=false∧fD last f eV prev c=10)∨(bB c.text=true ∧
       ((c.text.toList=[]∧fD last f eV prev c=4)∨(¬ c.text.toList=[] ∧
        ((400<c.text.size∧fD last f eV prev c=9)∨(c.text.size≤400∧fD last f eV prev c=0))))))))))))))):=by
 unfold fD
 rw [hA]
 by_cases h1:c.id<1
 · left;simp [h1]
 right
 by_cases h2:last<c.id
 · left;simp [h2];omega
 right
 refine⟨by omega,by omega,?_⟩
 rw [if_neg (by omega)]
 cases h3:eY prev c
 · right
   refine⟨rfl,?_⟩
   rw [if_neg (by decide)]
   cases h4:(f c.id).isSome
   · right
     refine⟨rfl,?_⟩
     rw [if_neg (by decide)]
     by_cases h5:A=0
     · right
       refine⟨h5,?_⟩
       subst h5
       rw [if_neg (by decide)]
       cases h6:c_ c.author
       · left;simp
       right
       refine⟨rfl,?_⟩
       rw [if_neg (by decide)]
       cases h7:bB c.text
       · left;simp
       right
       refine⟨rfl,?_⟩
       rw [if_neg (by decide)]
       by_cases h8:c.text.toList=[]
       · left;rw [if_pos h8];exact⟨h8,rfl⟩
       right
       refine⟨h8,?_⟩
       rw [if_neg h8]
       by_cases h9:400<c.text.size
       · left;rw [if_pos h9];exact⟨h9,rfl⟩
       · right;rw [if_neg h9];exact⟨by omega,rfl⟩
     · left
       rw [if_pos (by simpa using h5)]
       exact⟨by simpa using h5,rfl⟩
   · left;simp
 · left;simp
theorem qx (d:Doc)(b:Nat)(f:Int→Option Nat)(w:Sh)(hn:64<d.cM.length) :
 Sj Tryz.prog 67 #[.agg d.enc.toArray,.map (some b)] w fun e w'=>e=.returned (.int .i64 (ia d.last f d.eV d.cM))∧Sn w.heap.size w w':=by
 rw [ia,if_pos hn]
 obtain⟨title,lA,rate,drop,last,ra,rc,rG,ea,ec,eV,ca,cc,cM⟩:=d
 simp only [Doc.enc]
 simp only at hn
 have hn2:decide ((64:Int)<(cM.length:Int))=true:=by simp;omega
 go_enter Tryz.func67,Tryz.ntmps67
 go_wp2_with fail
 go_ret
 exact⟨rfl,(Sp _ _).alloc (Sr _) _⟩
def eQ:List Row→Int
 | []=>0
 | r::l=>if (eU r.runs != 0)=true then eU r.runs else eQ l
def tY (R:Reg)(rows:List Row):Int:=if (eQ rows != 0)=true then eQ rows else eT R (da rows)
def gw (x:Ev)(found:Bool):Int :=
 if x.id<1∨1099511627776<x.id∨cL x.inn x.out=false then 2 else if found=false then 6 else if x.kind<1∨4<x.kind then 3 else if ¬ x.speaker.toList=[]∧c_ x.speaker=false then 5 else if x.rows.length=0∨4<x.rows.length then 9 else 0
def fS (x:Ev)(rG:List Reg):Int:=if (gw x (kd rG x.region).2 != 0)=true then gw x (kd rG x.region).2 else tY (kd rG x.region).1 x.rows
def mw (R:Reg)(rows:List Row)(k:Nat):Int:=if (eQ (rows.drop k) != 0)=true then eQ (rows.drop k) else eT R (da rows)
theorem rK (R:Reg)(rows:List Row)(k:Nat)(r:Row)(h:rows[k]? =some r):mw R rows k=if (eU r.runs != 0)=true then eU r.runs else mw R rows (k+1):=by
 unfold mw
 rw [ch rows k r h,eQ]
 by_cases he:(eU r.runs != 0)=true
 · rw [if_pos he,if_pos he,if_pos he]
 · rw [if_neg he,if_neg he]
theorem oQ (R:Reg)(rows:List Row):mw R rows rows.length=eT R (da rows):=by
 unfold mw
 rw [Sk];rfl
theorem um (k:Int)(h:k<1∨4<k):kindName k=⟨#[]⟩:=by unfold kindName;repeat rw [if_neg (by omega)]
theorem sh (k:Int)(h0:1≤k)(h:k≤4):¬ (kindName k).toList=[]:=by
 rcases(show k=1∨k=2∨k=3∨k=4 by omega) with rfl|rfl|rfl|rfl<;>decide +kernel
theorem xQ (rG:List Reg)(nm:ByteArray)(hf:∀ r∈rG,r.fits):(kd rG nm).1.fits:=by
 have hd:jB.fits:=by simp only [jB,Reg.fits,i64];decide
 have hz:gB.fits:=by simp only [gB,Reg.fits,i64];decide
 have key:∀ l:List Reg,(∀ r∈l,r.fits)→(kS nm l).1.fits:=by
  intro l
  induction l with
  | nil=>intro _;exact hz
  | cons r l ih =>
    intro h
    rw [kS]
    split
    · exact h r (by simp)
    · exact ih (fun q hq=>h q (by simp [hq]))
 unfold kd
 split
 · exact hd
 · exact key rG hf
theorem CB (x:Ev)(found:Bool):(gw x found=2∧(x.id<1∨(1≤x.id∧1099511627776<x.id)))∨(gw x found=2∧1≤x.id∧x.id≤1099511627776∧cL x.inn x.out=false) ∨
 (1≤x.id∧x.id≤1099511627776∧cL x.inn x.out=true∧((gw x found=6∧found=false)∨(found=true ∧
  ((gw x found=3∧(x.kind<1∨4<x.kind))∨(1≤x.kind∧x.kind≤4 ∧
   ((gw x found=5∧¬ x.speaker.toList=[]∧c_ x.speaker=false)∨((x.speaker.toList=[]∨(¬ x.speaker.toList=[]∧c_ x.speaker=true)) ∧
    ((gw x found=9∧(x.rows.length=0∨4<x.rows.length))∨(gw x found=0∧1≤x.rows.length∧x.rows.length≤4))))))))):=by
 unfold gw
 generalize x.rows.length=n
 cases hs:cL x.inn x.out<;>cases found<;>cases hn:c_ x.speaker<;>by_cases hp:x.speaker.toList=[]<;>simp [hp]<;>omega
end Go.Proofs.YtjebaagkomejaaaGreatDoor
