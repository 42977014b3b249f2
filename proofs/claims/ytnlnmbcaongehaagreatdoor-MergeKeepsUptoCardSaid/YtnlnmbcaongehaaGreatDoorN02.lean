/- The contract of style.Check: the first error of a row. The contracts of event.spans, KindName and row: what they return for any span, kind and row. The contract of event.row: the error of a row of an event. -/
import Derived.StillTailTactics
import Derived.Test.YtnlnmbcaongehaaGreatDoorN01
set_option linter.unusedVariables false
set_option linter.unusedSimpArgs false
set_option maxRecDepth 100000
set_option maxHeartbeats 12800000
open Go.Lib renaming hid→h_
open Go renaming World→Su,Calls→Sv,Value→Sw,cell_of_row→Sx,heap_alloc_last→Sy
open Go.Proofs.Tryz renaming prog→Sz,ntmps154→SA,func154→SB,underlying3→SC,ntmps155→SD,func155→SE,underlying154→SF,underlying2→SG,ntmps212→SH,func212→SI
open Go.RowKit renaming Below→SJ
open Go.RowKit.Below renaming refl→SK
open Nat renaming le_refl→SL,add_zero→SM,mul_one→SN
open List renaming mem_of_getElem?→SO,drop_length→SQ,drop_zero→SR,getElem?_eq_getElem→SS
open Go.World renaming size_alloc→SU,cell?_alloc_lt→SV,ownsMap_made→SW
open Go.Lib renaming compareInt→SX,contains→SY
open Array renaming getElem?_eq_some_iff→SZ
open Go.Value renaming int→S5
namespace Go.Proofs.YtnlnmbcaongehaaGreatDoor
open Go.RowKit
def oo (x:Run):Int:=if (!eO x.text)=true then 10 else if x.text.toList=[] then 4 else if ¬ x.color≤6 then 12 else if (!eO x.ruby)=true then 10 else 0
def j7 (prev:Option Run)(x:Run):Int:=if (oo x != 0)=true then oo x else match prev with
 | none=>0
 | some p=>if vE p x=true then 8 else 0
def iR:Option Run→List Run→Int
 | _,[]=>0
 | prev,x::l=>if (j7 prev x != 0)=true then j7 prev x else iR (some x) l
def qt (runs:List Run):Int:=if 16<runs.length then 9 else iR none runs
def fF (xs:List Run):Nat→Option Run
 | 0=>none
 | k+1=>xs[k]?
theorem wk (xs:List Run)(k:Nat)(x:Run)(hx:xs[k]? =some x)(prev:Option Run)(h:j7 prev x=0):iR prev (xs.drop k)=iR (fF xs (k+1)) (xs.drop (k+1)):=by
 rw [eT xs k x hx,iR,h]
 simp [fF,hx]
theorem wj (xs:List Run)(k:Nat)(x:Run)(hx:xs[k]? =some x)(prev:Option Run)(h:(j7 prev x != 0)=true):iR prev (xs.drop k)=j7 prev x:=by
 rw [eT xs k x hx,iR,if_pos h]
theorem wm (r:Row)(w:Su)(hn:16<r.runs.length) :
 Sv Sz 212 #[.agg r.enc.toArray] w fun e w'=>e=.returned (.int .i64 (qt r.runs))∧SJ w.heap.size w w':=by
 rw [qt,if_pos hn]
 have hn':(16:Int)<(r.runs.length:Int):=by omega
 simp only [Row.enc]
 go_enter SI,SH
 go_wp2_with fail
 go_ret
 exact⟨rfl,(SK _ _).alloc (SL _) _⟩
theorem Fo (x:Run):(eO x.text=false∧oo x=10)∨(eO x.text=true∧x.text.toList=[]∧oo x=4)∨(eO x.text=true∧¬ x.text.toList=[]∧¬ x.color≤6∧oo x=12) ∨
 (eO x.text=true∧¬ x.text.toList=[]∧x.color≤6∧eO x.ruby=false∧oo x=10)∨(eO x.text=true∧¬ x.text.toList=[]∧x.color≤6∧eO x.ruby=true∧oo x=0):=by
 unfold oo
 cases h1:eO x.text<;>by_cases h2:x.text.toList=[]<;>by_cases h3:x.color≤6<;>cases h4:eO x.ruby<;>simp [h2,h3]
theorem yx (r:Row)(w:Su)(hE:Env w)(hr:r.lies w)(hf:r.fits)(hn:r.runs.length≤16) :
 Sv Sz 212 #[.agg r.enc.toArray] w fun e w'=>e=.returned (.int .i64 (qt r.runs))∧SJ w.heap.size w w':=by
 obtain⟨a,cap,xs⟩:=r
 obtain⟨hfx,hl,hsum⟩:=hf
 simp only [Row.lies] at hr
 simp only [Row.enc] at *
 rw [qt,if_neg (by omega)]
 generalize hG:iR none xs=G
 have H0:=h_ (show iR (fF xs 0) (xs.drop 0)=G by rw [SR];exact hG)
 have hn2:decide ((16:Int)<(xs.length:Int))=false:=by simp;omega
 clear hG
 go_enter SI,SH
 go_wp2_with fail
 go_loopw [12] (fun i wr=>∃ k:Nat,k≤xs.length∧i=.int .i64 k∧iR (fF xs k) (xs.drop k)=G∧SJ (w.heap.size+1) (w.alloc (.cells #[.slice a xs.length cap] 78)) wr) (fun i _=>xs.length-(intOf i).toNat)
 case atStart=>exact⟨0,by omega,rfl,H0.out,SK _ _⟩
 case round =>
  obtain⟨k,hk,rfl,hp,hb0⟩:=hrel
  have hb:=aU hb0
  by_cases hlt:k<xs.length
  · have hRr:=hr.later hb
    obtain⟨b,off,x,rfl,hbl,hx,hc,_⟩:=hRr.at_ hlt
    have hft:=hfx x (SO hx)
    have HN:=h_ (wk xs k x hx (fF xs k))
    have HS:=h_ (wj xs k x hx (fF xs k))
    have HP:=h_ hp
    have hcs:=Fo x
    have ln:=ag w #[.slice (some ⟨b,off,none⟩) xs.length cap] 78 0 _ rfl
    have Dz:=h_ (fun w1 (h:SJ (wr.heap.size+1) (wr.alloc (.cells x.enc.toArray 75)) w1)=>ln w1 ((hb0.alloc (by have:=hb0.size;rw [SU] at this;exact this) _).trans (h.mono (by have:=hb0.size;rw [SU] at this;omega))))
    have HB:=h_ (fun w1 (h:SJ (wr.heap.size+1) (wr.alloc (.cells x.enc.toArray 75)) w1)=>iM hb _ h)
    have HB0:=h_ (fun w1 (h:SJ (wr.heap.size+1) (wr.alloc (.cells x.enc.toArray 75)) w1)=>(hb0.alloc (by have:=hb0.size;rw [SU] at this;exact this) _).trans (h.mono (by have:=hb0.size;rw [SU] at this;omega)))
    obtain⟨f1,f2,f3,f4⟩:=hft
    have hsE:∀ p,oo x≠0→j7 p x=oo x:=fun p h=>by unfold j7;rw [if_pos (by simpa using h)]
    have Nc:=h_ hsE
    have hg:=fun j v h=>ag wr x.enc.toArray 75 j v h
    obtain⟨t,c,i,u,ru⟩:=x
    have d0:=hc 0 _ rfl;have d1:=hc 1 _ rfl;have d2:=hc 2 _ rfl;have d3:=hc 3 _ rfl;have d4:=hc 4 _ rfl
    have g0:=hg 0 _ rfl;have g1:=hg 1 _ rfl;have g2:=hg 2 _ rfl;have g3:=hg 3 _ rfl;have g4:=hg 4 _ rfl
    simp only [SM,Run.enc] at d0 d1 d2 d3 d4 g0 g1 g2 g3 g4 HB HB0 Dz f1 f2 f3 f4 hcs
    have HE:=h_ (fun w1 (h:SJ (wr.heap.size+1) (wr.alloc (.cells #[.string t,.int .u8 c,.bool i,.bool u,.string ru] 75)) w1)=>hE.below (HB.out w1 h) (SL _))
    have hq0:SJ (wr.heap.size+1) (wr.alloc (.cells #[.string t,.int .u8 c,.bool i,.bool u,.string ru] 75)) (wr.alloc (.cells #[.string t,.int .u8 c,.bool i,.bool u,.string ru] 75)):=SK _ _
    have hsz1:(wr.alloc (.cells #[.string t,.int .u8 c,.bool i,.bool u,.string ru] 75)).heap.size=wr.heap.size+1:=SU _ _
    have HV:=h_ (fun s (hs:s.size≤4000000) w1 (h:SJ (wr.heap.size+1) (wr.alloc (.cells #[.string t,.int .u8 c,.bool i,.bool u,.string ru] 75)) w1)=>lH s w1 hs (HE.out w1 h))
    generalize hW1:wr.alloc (.cells #[.string t,.int .u8 c,.bool i,.bool u,.string ru] 75)=W1 at *
    have HW1:=h_ hW1
    have bu:=h_ hsz1
    clear hW1 hsz1 hc hg hsE ln hp H0 hfx
    rcases hcs with⟨v1,he⟩|⟨v1,v2,he⟩|⟨v1,v2,v3,he⟩|⟨v1,v2,v3,v4,he⟩|⟨v1,v2,v3,v4,he⟩
    · have hst:=h_ (Nc.out (fF xs k) (by rw [he];decide))
      have iv:=h_ he
      clear he hRr
      go_wp2_with fail
      rw [HW1.out]
      refine(HV.out t f1 _ hq0).mono ?_
      rintro e w1 ⟨rfl,hb1⟩
      rw [bu.out] at hb1
      go_wp2_with fail
      go_ret
      exact⟨az (by rw [←HP.out,HS.out (by rw [hst.out,iv.out];rfl),hst.out,iv.out]),HB.out _ hb1⟩
    · have hst:=h_ (Nc.out (fF xs k) (by rw [he];decide))
      have iv:=h_ he
      clear he hRr
      have v2':t.toList.isEmpty=true:=by simpa using v2
      go_wp2_with fail
      rw [HW1.out]
      refine(HV.out t f1 _ hq0).mono ?_
      rintro e w1 ⟨rfl,hb1⟩
      rw [bu.out] at hb1
      go_wp2_with fail
      go_ret
      exact⟨az (by rw [←HP.out,HS.out (by rw [hst.out,iv.out];rfl),hst.out,iv.out]),HB.out _ hb1⟩
    · have hst:=h_ (Nc.out (fF xs k) (by rw [he];decide))
      have iv:=h_ he
      clear he hRr
      have v2':t.toList.isEmpty=false:=by simpa using v2
      have v3':decide (c≤6)=false:=by simpa using v3
      go_wp2_with fail
      rw [HW1.out]
      refine(HV.out t f1 _ hq0).mono ?_
      rintro e w1 ⟨rfl,hb1⟩
      rw [bu.out] at hb1
      go_wp2_with fail
      refine(eY c i u _).mono ?_
      rintro e w2 ⟨rfl,hb2⟩
      replace hb2:SJ (wr.heap.size+1) W1 w2:=hb1.trans (hb2.mono (by have:=hb1.size;rw [bu.out] at this;exact this))
      go_wp2_with fail
      go_ret
      exact⟨az (by rw [←HP.out,HS.out (by rw [hst.out,iv.out];rfl),hst.out,iv.out]),HB.out _ hb2⟩
    · have hst:=h_ (Nc.out (fF xs k) (by rw [he];decide))
      have iv:=h_ he
      clear he hRr
      have v2':t.toList.isEmpty=false:=by simpa using v2
      have v3':decide (c≤6)=true:=by simpa using v3
      go_wp2_with fail
      rw [HW1.out]
      refine(HV.out t f1 _ hq0).mono ?_
      rintro e w1 ⟨rfl,hb1⟩
      rw [bu.out] at hb1
      go_wp2_with fail
      refine(eY c i u _).mono ?_
      rintro e w2 ⟨rfl,hb2⟩
      replace hb2:SJ (wr.heap.size+1) W1 w2:=hb1.trans (hb2.mono (by have:=hb1.size;rw [bu.out] at this;exact this))
      go_wp2_with fail
      refine(HV.out ru f2 _ hb2).mono ?_
      rintro e w3 ⟨rfl,hb3⟩
      replace hb3:SJ (wr.heap.size+1) W1 w3:=hb2.trans (hb3.mono (by have:=hb2.size;rw [bu.out] at this;exact this))
      go_wp2_with fail
      go_ret
      exact⟨az (by rw [←HP.out,HS.out (by rw [hst.out,iv.out];rfl),hst.out,iv.out]),HB.out _ hb3⟩
    · have iv:=h_ he
      clear he
      have v2':t.toList.isEmpty=false:=by simpa using v2
      have v3':decide (c≤6)=true:=by simpa using v3
      rcases Nat.eq_zero_or_pos k with hk0|hk0
      · have hst:=h_ (show j7 (fF xs k) ⟨t,c,i,u,ru⟩=0 by rw [hk0];simp [j7,fF,iv.out])
        have hkd:decide (0<k)=false:=by simp;omega
        clear hRr hk0
        go_wp2_with fail
        rw [HW1.out]
        refine(HV.out t f1 _ hq0).mono ?_
        rintro e w1 ⟨rfl,hb1⟩
        rw [bu.out] at hb1
        go_wp2_with fail
        refine(eY c i u _).mono ?_
        rintro e w2 ⟨rfl,hb2⟩
        replace hb2:SJ (wr.heap.size+1) W1 w2:=hb1.trans (hb2.mono (by have:=hb1.size;rw [bu.out] at this;exact this))
        go_wp2_with fail
        refine(HV.out ru f2 _ hb2).mono ?_
        rintro e w3 ⟨rfl,hb3⟩
        replace hb3:SJ (wr.heap.size+1) W1 w3:=hb2.trans (hb3.mono (by have:=hb2.size;rw [bu.out] at this;exact this))
        go_wp2_with fail
        go_quiet (fail)
        go_wp2_with fail
        go_roundw
        case rel=>exact⟨k+1,by omega,by go_num,by rw [←HN.out hst.out];exact HP.out,below_drewN (HB0.out _ hb3) _⟩
        case measure=>simp [intOf];omega
      · obtain⟨b',off',y,hab,_,hy,hcy,_⟩:=hRr.at_ (show k-1<xs.length by omega)
        simp only [Option.some.injEq,Addr.mk.injEq,and_true] at hab
        obtain⟨rfl,rfl⟩:=hab
        have hpv:fF xs k=some y:=by
         obtain⟨j,rfl⟩:∃ j,k=j+1:=⟨k-1,by omega⟩
         simp only [Nat.add_sub_cancel] at hy
         simp [fF,hy]
        have hst:j7 (fF xs k) ⟨t,c,i,u,ru⟩=if vE y ⟨t,c,i,u,ru⟩=true then 8 else 0:=by
         rw [hpv];simp [j7,iv.out]
        have hpc:∀ j v,y.enc[j]? =some v→∀ w1,SJ (wr.heap.size+1) W1 w1→w1.cell? ⟨b,off+(k-1)*5+j,none⟩=some v:=fun j v hv w1 h=>by
         rw [h.cell (p:=⟨b,off+(k-1)*5+j,none⟩) (by simp;omega),←HW1.out,SV _ _ _ (by simpa using hbl)]
         exact hcy j v hv
        have hal:=fun w=>Cg y ⟨t,c,i,u,ru⟩ w
        obtain⟨yt,yc,yi,yu,yr⟩:=y
        generalize vE ⟨yt,yc,yi,yu,yr⟩ ⟨t,c,i,u,ru⟩=AL at *
        have p0:=hpc 0 _ rfl;have p1:=hpc 1 _ rfl;have p2:=hpc 2 _ rfl;have p3:=hpc 3 _ rfl;have p4:=hpc 4 _ rfl
        simp only [SM,Run.enc] at p0 p1 p2 p3 p4 hal
        have HAL:=h_ hal
        have ln:=Dz.out
        have hkd:decide (0<k)=true:=by simp;omega
        have hk1:1≤k:=hk0
        have hkz:(1:Int)≤(k:Int):=by omega
        have hkl:(k:Int)-1<(xs.length:Int):=by omega
        have hwr:IntKind.i64.wrap ((k:Int)-1)=(k:Int)-1:=IntWalk.i64_in _ (by omega)
        have hkn:((k:Int)-1).toNat=k-1:=by omega
        clear hpc hpv hRr hcy hy hk0 hal
        cases AL
        · rw [if_neg (by decide)] at hst
          have HST:=h_ hst
          clear hst
          go_wp2_with fail
          rw [HW1.out]
          refine(HV.out t f1 _ hq0).mono ?_
          rintro e w1 ⟨rfl,hb1⟩
          rw [bu.out] at hb1
          go_wp2_with fail
          refine(eY c i u _).mono ?_
          rintro e w2 ⟨rfl,hb2⟩
          replace hb2:SJ (wr.heap.size+1) W1 w2:=hb1.trans (hb2.mono (by have:=hb1.size;rw [bu.out] at this;exact this))
          go_wp2_with fail
          refine(HV.out ru f2 _ hb2).mono ?_
          rintro e w3 ⟨rfl,hb3⟩
          replace hb3:SJ (wr.heap.size+1) W1 w3:=hb2.trans (hb3.mono (by have:=hb2.size;rw [bu.out] at this;exact this))
          go_wp2_with fail
          have Gl:SJ (wr.heap.size+1) W1 w3.drew:=hb3.drew
          go_region_with (go_at_call 262;refine(HAL.out _).mono ?_;rintro e w4 ⟨rfl,hb4⟩;replace hb4:SJ (wr.heap.size+1) W1 w4:=Gl.trans (hb4.mono (by have:=Gl.size;rw [bu.out] at this;exact this)))
          all_goals
           go_wp2_with fail
           go_roundw
           case rel=>exact⟨k+1,by omega,by go_num,by rw [←HN.out HST.out];exact HP.out,HB0.out _ hb4⟩
           case measure=>simp [intOf];omega
        · rw [if_pos rfl] at hst
          have HST:=h_ hst
          clear hst
          go_wp2_with fail
          rw [HW1.out]
          refine(HV.out t f1 _ hq0).mono ?_
          rintro e w1 ⟨rfl,hb1⟩
          rw [bu.out] at hb1
          go_wp2_with fail
          refine(eY c i u _).mono ?_
          rintro e w2 ⟨rfl,hb2⟩
          replace hb2:SJ (wr.heap.size+1) W1 w2:=hb1.trans (hb2.mono (by have:=hb1.size;rw [bu.out] at this;exact this))
          go_wp2_with fail
          refine(HV.out ru f2 _ hb2).mono ?_
          rintro e w3 ⟨rfl,hb3⟩
          replace hb3:SJ (wr.heap.size+1) W1 w3:=hb2.trans (hb3.mono (by have:=hb2.size;rw [bu.out] at this;exact this))
          go_wp2_with fail
          have Gl:SJ (wr.heap.size+1) W1 w3.drew:=hb3.drew
          go_region_with (go_at_call 262;refine(HAL.out _).mono ?_;rintro e w4 ⟨rfl,hb4⟩;replace hb4:SJ (wr.heap.size+1) W1 w4:=Gl.trans (hb4.mono (by have:=Gl.size;rw [bu.out] at this;exact this)))
          all_goals
           go_wp2_with fail
           go_ret
           exact⟨az (by rw [←HP.out,HS.out (by rw [HST.out];rfl),HST.out]),HB.out _ hb4⟩
  · obtain rfl:k=xs.length:=by omega
    rw [SQ] at hp
    have HP:=h_ hp
    clear hp H0
    go_wp2_with fail
    go_ret
    exact⟨az (by rw [←HP.out];cases fF xs xs.length<;>rfl),hb⟩
theorem tR (r:Row)(w:Su)(hE:Env w)(hr:r.lies w)(hf:r.fits) :
 Sv Sz 212 #[.agg r.enc.toArray] w fun e w'=>e=.returned (.int .i64 (qt r.runs))∧SJ w.heap.size w w':=by
 by_cases hn:16<r.runs.length
 · exact wm r w hn
 · exact yx r w hE hr hf (by omega)
def kL (a b:Int):Bool:=decide (0≤a∧a<b∧b≤5184000)
theorem Bh (a b:Int)(w:Su):Sv Sz 154 #[.agg #[.int .i64 a,.int .i64 b]] w fun e w'=>e=.returned (.bool (kL a b))∧SJ w.heap.size w w':=by
 rcases(show a<0∨(0≤a∧b≤a)∨(0≤a∧a<b∧5184000<b)∨(0≤a∧a<b∧b≤5184000) by omega) with h|⟨h1,h2⟩|⟨h1,h2,h3⟩|⟨h1,h2,h3⟩
 · have HS:=h_ (show kL a b=false by simp [kL];omega)
   have h':decide (0≤a)=false:=by simp;omega
   go_enter SB,SA
   go_wp2
   go_ret
   rw [HS.out];exact⟨rfl,(SK _ _).alloc (SL _) _⟩
 · have HS:=h_ (show kL a b=false by simp [kL];omega)
   have h':decide (a<b)=false:=by simp;omega
   go_enter SB,SA
   go_wp2
   go_ret
   rw [HS.out];exact⟨rfl,(SK _ _).alloc (SL _) _⟩
 · have HS:=h_ (show kL a b=false by simp [kL];omega)
   have h':decide (b≤5184000)=false:=by simp;omega
   go_enter SB,SA
   go_wp2
   go_ret
   rw [HS.out];exact⟨rfl,(SK _ _).alloc (SL _) _⟩
 · have HS:=h_ (show kL a b=true by simp [kL];omega)
   go_enter SB,SA
   go_wp2
   go_ret
   rw [HS.out];exact⟨rfl,(SK _ _).alloc (SL _) _⟩
def kindName (k:Int):ByteArray:=if k=1 then ⟨#[68,73,65,76,79,71,85,69]⟩ else if k=2 then ⟨#[83,79,85,78,68]⟩ else if k=3 then ⟨#[84,73,84,76,69]⟩ else if k=4 then ⟨#[77,85,83,73,67]⟩ else ⟨#[]⟩
theorem tX (k:Int)(w:Su)(h0:0≤k)(h1:k≤255):Sv Sz 155 #[.int .u8 k] w fun e w'=>e=.returned (.string (kindName k))∧SJ w.heap.size w w':=by
 rcases(show k<1∨4<k∨k=1∨k=2∨k=3∨k=4 by omega) with h|h|rfl|rfl|rfl|rfl
 · have HK:=h_ (show kindName k=⟨#[]⟩ by unfold kindName;repeat rw [if_neg (by omega)])
   go_enter SE,SD
   go_wp2
   go_ret
   rw [HK.out];exact⟨rfl,SK _ _⟩
 · have HK:=h_ (show kindName k=⟨#[]⟩ by unfold kindName;repeat rw [if_neg (by omega)])
   go_enter SE,SD
   go_wp2
   go_ret
   rw [HK.out];exact⟨rfl,SK _ _⟩
 all_goals
  go_enter SE,SD
  go_wp2
  go_ret
  exact⟨rfl,(SK _ _).alloc (SL _) _⟩
def untidy (t:ByteArray):Bool:=(t.data.toList.isEmpty||(t.data.toList.headD 0).toNat==32)||((t.data.toList.getLastD 0).toNat==32||SY t.data.toList [32,32])
def iX (runs:List Run):Int:=if (qt runs != 0)=true then qt runs else if untidy (plain runs)=true then 4 else if 32<rowLen runs then 11 else 0
theorem F1 (s:ByteArray)(h:0<s.size):s.data.toList.getLastD 0=s[s.size-1]:=by
 have hl:s.data.toList.length=s.size:=by simp
 have hne:s.data.toList≠[]:=by intro e;rw [e] at hl;simp at hl;omega
 rw [List.getLastD_eq_getLast?,List.getLast?_eq_getElem?]
 rw [SS (by omega)]
 simp only [Option.getD_some]
 have:s[s.size-1]=s.data.toList[s.size-1]:=rfl
 simp only [this,hl]
theorem xX (t:ByteArray):(t.size=0∧untidy t=true)∨(∃ h:0<t.size,(t[0].toNat=32∧untidy t=true)∨(t[0].toNat≠32∧t[t.size-1].toNat=32∧untidy t=true)∨(t[0].toNat≠32∧t[t.size-1].toNat≠32∧untidy t=SY t.data.toList [32,32])):=by
 by_cases h:0<t.size
 · refine .inr ⟨h,?_⟩
   have hne:t.data.toList.isEmpty=false:=by
    rw [List.isEmpty_eq_false_iff];intro e
    have hl:t.data.toList.length=t.size:=by simp
    rw [e] at hl;simp at hl;omega
   unfold untidy
   rw [pe t h,F1 t h,hne]
   by_cases h1:t[0].toNat=32
   · exact .inl ⟨h1,by simp only [h1];simp⟩
   · by_cases h2:t[t.size-1].toNat=32
     · exact .inr (.inl ⟨h1,h2,by simp only [h2];simp⟩)
     · refine .inr (.inr ⟨h1,h2,?_⟩)
       rw [beq_eq_false_iff_ne.2 h1,beq_eq_false_iff_ne.2 h2]
       simp
 · refine .inl ⟨by omega,?_⟩
   have hl:t.data.toList.length=t.size:=by simp
   have:t.data.toList=[]:=List.eq_nil_of_length_eq_zero (by omega)
   unfold untidy
   rw [this]
   rfl
theorem sV (r:Row)(w:Su)(hE:Env w)(hr:r.lies w)(hf:r.fits) :
 Sv Sz 156 #[.agg r.enc.toArray] w fun e w'=>e=.returned (.int .i64 (iX r.runs))∧SJ w.heap.size w w':=by
 have hC:=fun w1 h1 h2=>tR r w1 h1 h2 hf
 have hP:=fun w1 h2=>sk r w1 h2 hf
 have hL:=fun w1 h1 h2=>qq r w1 h1 h2 hf
 have hps:(plain r.runs).size≤4000000:=by
  have h2:=hf.2.2
  show(mi r.runs).toArray.size≤4000000
  rw [List.size_toArray,lv];exact h2
 obtain⟨a,cap,xs⟩:=r
 simp only [Row.enc,Row.lies] at *
 generalize hG:iX xs=G
 unfold iX at hG
 have hun:=xX (plain xs)
 generalize qt xs=E at *
 generalize plain xs=T at *
 generalize rowLen xs=L at *
 generalize hUt:untidy T=UT at *
 have HG:=h_ hG
 generalize hcs:#[Sw.slice a xs.length cap]=cs at *
 have f0:=ag w cs 78 0 (.slice a xs.length cap) (by rw [←hcs];rfl)
 have HB:=h_ (fun(w1:Su) (h:SJ (w.heap.size+1) (w.alloc (.cells cs 78)) w1)=>aU h)
 have HE:=h_ (fun(w1:Su) (h:SJ (w.heap.size+1) (w.alloc (.cells cs 78)) w1)=>hE.below (aU h) (SL _))
 have HR:=h_ (fun(w1:Su) (h:SJ (w.heap.size+1) (w.alloc (.cells cs 78)) w1)=>hr.later (aU h))
 have hb0:SJ (w.heap.size+1) (w.alloc (.cells cs 78)) (w.alloc (.cells cs 78)):=SK _ _
 have hsz:(w.alloc (.cells cs 78)).heap.size=w.heap.size+1:=SU _ _
 have HC:=h_ hC;have HPn:=h_ hP;have HL:=h_ hL
 generalize hW0:w.alloc (.cells cs 78)=W0 at *
 have HW0:=h_ hW0
 have bu:=h_ hsz
 clear hW0 hsz hE hr hC hP hL hG hUt
 go_enter Tryz.func156,Tryz.ntmps156
 subst hcs
 go_wp2_with fail
 rw [HW0.out]
 refine(HC.out _ (HE.out _ hb0) (HR.out _ hb0)).mono ?_
 rintro e w1 ⟨rfl,hb1⟩
 rw [bu.out] at hb1
 clear HW0 HC
 cases hE1:E != 0
 · have hE0:E=0:=by simpa using hE1
   rw [hE1] at HG
   clear hE1
   subst hE0
   go_wp2_with fail
   refine(HPn.out _ (HR.out _ hb1)).mono ?_
   rintro e w2 ⟨rfl,hb2⟩
   replace hb2:SJ (w.heap.size+1) W0 w2:=hb1.trans (hb2.mono (by have:=hb1.size;rw [bu.out] at this;exact this))
   obtain⟨m,hm⟩:=(HE.out _ hb2).2
   clear HPn
   have RS:=h_ (Tryz.strings_Contains T ⟨#[32,32]⟩ m w2 (by omega) hm)
   clear hm
   rcases hun with⟨ht,hu⟩|⟨ht,⟨h1,hu⟩|⟨h1,h2,hu⟩|⟨h1,h2,hu⟩⟩
   · have t0:T.toList=[]:=(pt T).1 ht
     have t1:T.toList.isEmpty=true:=by simpa using t0
     have HU:=h_ hu
     clear hu ht
     go_wp2_with fail
     go_ret
     exact⟨az (by rw [←HG.out,HU.out];rfl),HB.out _ hb2⟩
   · have t0:¬ T.toList=[]:=fun h=>by have:=(pt T).2 h;omega
     have t1:T.toList.isEmpty=false:=by simpa using t0
     have t2:((T[0].toNat:Int)==32)=true:=by simp only [h1];decide
     have HU:=h_ hu
     clear hu h1
     go_wp2_with fail
     go_ret
     exact⟨az (by rw [←HG.out,HU.out];rfl),HB.out _ hb2⟩
   · have t0:¬ T.toList=[]:=fun h=>by have:=(pt T).2 h;omega
     have t1:T.toList.isEmpty=false:=by simpa using t0
     have t2:((T[0].toNat:Int)==32)=false:=by rw [beq_eq_false_iff_ne];omega
     have t3:((T[T.size-1].toNat:Int)==32)=true:=by simp only [h2];decide
     have HU:=h_ hu
     clear hu h1 h2
     go_wp2_with fail
     go_ret
     exact⟨az (by rw [←HG.out,HU.out];rfl),HB.out _ hb2⟩
   · have t0:¬ T.toList=[]:=fun h=>by have:=(pt T).2 h;omega
     have t1:T.toList.isEmpty=false:=by simpa using t0
     have t2:((T[0].toNat:Int)==32)=false:=by rw [beq_eq_false_iff_ne];omega
     have t3:((T[T.size-1].toNat:Int)==32)=false:=by rw [beq_eq_false_iff_ne];omega
     have hcc:SY T.data.toList (⟨#[32,32]⟩:ByteArray).data.toList=UT:=by rw [hu]
     have HU:=h_ hu
     rw [hcc] at RS
     clear hu h1 h2 hcc
     cases UT
     · rw [if_neg (by decide),if_neg (by decide)] at HG
       by_cases hL:32<L
       · rw [if_pos hL] at HG
         go_wp2_with (first
          | (go_at_call 214;refine RS.out.mono ?_;rintro e w9 ⟨rfl,rfl⟩)
          | (go_at_call 215;refine(HL.out _ (HE.out _ hb2) (HR.out _ hb2)).mono ?_;rintro e w3 ⟨rfl,hb3⟩))
         go_ret
         exact⟨az HG.out,HB.out _ (hb2.trans (hb3.mono (by have:=hb2.size;rw [bu.out] at this;exact this)))⟩
       · rw [if_neg hL] at HG
         have hL':L≤32:=by omega
         go_wp2_with (first
          | (go_at_call 214;refine RS.out.mono ?_;rintro e w9 ⟨rfl,rfl⟩)
          | (go_at_call 215;refine(HL.out _ (HE.out _ hb2) (HR.out _ hb2)).mono ?_;rintro e w3 ⟨rfl,hb3⟩))
         go_ret
         exact⟨az HG.out,HB.out _ (hb2.trans (hb3.mono (by have:=hb2.size;rw [bu.out] at this;exact this)))⟩
     · rw [if_neg (by decide),if_pos rfl] at HG
       go_wp2_with (go_at_call 214;refine RS.out.mono ?_;rintro e w9 ⟨rfl,rfl⟩)
       go_ret
       exact⟨az HG.out,HB.out _ hb2⟩
 · rw [hE1,if_pos rfl] at HG
   go_wp2_with fail
   go_ret
   exact⟨az HG.out,HB.out _ hb1⟩
structure Ev where
 id:Int
 inn:Int
 out:Int
 region:ByteArray
 kind:Int
 speaker:ByteArray
 at_:Option Addr
 cap:Nat
 rows:List Row
def Ev.enc (x:Ev):List Sw:=[.int .i64 x.id,.int .i64 x.inn,.int .i64 x.out,.string x.region,.int .u8 x.kind,.string x.speaker,.slice x.at_ x.rows.length x.cap]
def ft (w:Su)(a:Option Addr)(xs:List Row):Prop:=af 1 Row.enc Row.lies w a xs
theorem ft.later {w w':Su} {a:Option Addr} {xs:List Row} (h:ft w a xs)(hb:SJ w.heap.size w w'):ft w' a xs:=af.keeps Row.keeps w w' a xs hb h
def Ev.lies (w:Su)(x:Ev):Prop:=ft w x.at_ x.rows
theorem Ev.keeps:Keeps Ev.lies:=fun w w' r hb h=>ft.later h hb
def Ev.fits (x:Ev):Prop:=i64 x.id∧i64 x.inn∧i64 x.out∧x.region.size≤4000000∧0≤x.kind∧x.kind≤255∧x.speaker.size≤4000000∧(∀ r∈x.rows,r.fits)∧x.rows.length≤4000000
def e9 (rows:List Row):List Int:=rows.map fun r=>rowLen r.runs
def ki (rows:List Row):Nat→List Int
 | 0=>[]
 | k+1=>ki rows k++[rowLen ((rows[k]?.map Row.runs).getD [])]
theorem o7 (rows:List Row):∀ k,(ki rows k).length=k
 | 0=>rfl
 | k+1=>by simp [ki,o7 rows k]
theorem sx (rows:List Row):∀ k,k≤rows.length→ki rows k=(rows.take k).map fun r=>rowLen r.runs
 | 0,_=>by simp [ki]
 | k+1,h=>by
   rw [ki,sx rows k (by omega),List.take_succ_eq_append_getElem (by omega),List.map_append]
   simp [SS (show k<rows.length by omega)]
theorem D7 (rows:List Row):ki rows rows.length=e9 rows:=by
 rw [sx rows _ (SL _),List.take_length];rfl
theorem FU (rows:List Row)(k:Nat)(r:Row)(h:rows[k]? =some r):ki rows (k+1)=ki rows k++[rowLen r.runs]:=by
 rw [ki,h];rfl
theorem Tryz.info3:(Sz.info? 3).map (fun i=>(i.zero,i.size,i.bytes))=some (some (.int .i64 0),1,8):=by kernel_rfl
theorem Fx {w w':Su} {B base e size n:Nat} {v:Sw} {xs:List Sw} (h:w.ownsRow base e size v n xs)(hb:SJ B w w')(hB:w.heap.size≤B):w'.ownsRow base e size v n xs:=by
 refine⟨h.1,?_⟩
 rcases h.2 with hn|⟨g,cap,cur,e1,hbase,hgg,rest⟩
 · exact .inl hn
 · refine .inr ⟨g,cap,cur,e1,hbase,?_,rest⟩
   rw [hb.block g (Nat.lt_of_lt_of_le (SZ.1 hgg).1 hB)]
   exact hgg
theorem Ints.of_owns {w:Su} {base e:Nat} {v:Sw} {zs:List Int} (h:w.ownsRow base e 1 v zs.length (zs.map (S5 .i64))):∃ a cap,v=.slice a zs.length cap∧Ints w a zs:=by
 have h':=h
 rcases h.2 with⟨rfl,h0⟩|⟨g,cap,cur,rfl,hb,hg,_⟩
 · exact⟨none,0,by rw [h0],.inl (by cases zs<;>simp_all)⟩
 · refine⟨_,cap,rfl,.inr ⟨g,0,rfl,(SZ.1 hg).1,fun i z hz=>⟨fun j v hv=>?_,trivial⟩⟩⟩
   have hi:i<zs.length:=(List.getElem?_eq_some_iff.1 hz).1
   match j,hv with
   | 0,hv =>
     simp at hv
     subst hv
     rw [show 0+i*1+0=i by omega,h'.cellAt i (by omega)]
     simp [hz]
def Ha (rows:List Row)(w:Su)(k:Nat)(v:Sw)(wr:Su):Prop :=
 wr.ownsRow w.heap.size 3 1 v (ki rows k).length ((ki rows k).map (S5 .i64))∧SJ w.heap.size w wr
def Dm (rows:List Row)(w:Su)(e:Ending)(w':Su):Prop:=∃ a c,e=.returned (.slice a rows.length c)∧Ints w' a (e9 rows)∧SJ w.heap.size w w'
theorem I4 {xs:List Row} {w wr:Su} {v:Sw} (hown:wr.ownsRow w.heap.size 3 1 v (ki xs xs.length).length ((ki xs xs.length).map (S5 .i64)))(hb:SJ w.heap.size w wr):Dm xs w (.returned v) wr:=by
 rw [D7] at hown
 obtain⟨a',c',rfl,hI⟩:=Ints.of_owns hown
 exact⟨a',c',by simp [e9],hI,hb⟩
theorem vo (x:Ev)(w:Su)(hE:Env w)(hr:x.lies w)(hf:x.fits) :
 Sv Sz 158 #[.agg x.enc.toArray] w (Dm x.rows w):=by
 obtain⟨id,inn,out,region,kind,speaker,a,cap,xs⟩:=x
 obtain⟨_,_,_,_,_,_,_,hfx,hl⟩:=hf
 simp only [Ev.lies] at hr hfx hl
 simp only [Ev.enc]
 obtain⟨j0,hj,hy0,hy1,hy2⟩:=info_parts Tryz.info3
 have JI:=h_ hj;have J0:=h_ hy0;have J1:=h_ hy1;have J2:=h_ hy2
 clear hj hy0 hy1 hy2
 go_enter Tryz.func158,Tryz.ntmps158
 go_wp2_with fail
 go_loopw [3,9] (fun v i wr=>∃ k:Nat,k≤xs.length∧i=.int .i64 k∧Ha xs w k v wr) (fun _ i _=>xs.length-(intOf i).toNat)
 case atStart=>exact⟨0,by omega,rfl,Su.ownsRow_nil _ _ _ _,(SK _ _).alloc (SL _) _⟩
 case round =>
  obtain⟨k,hk,rfl,hown,hb⟩:=hrel
  by_cases hlt:k<xs.length
  · obtain⟨b,off,r,rfl,hbl,hx,hc,hok⟩:=(hr.later hb).at_ hlt
    have hfr:=hfx r (SO hx)
    have HL:=h_ (fun w1 h1 h2=>qq r w1 h1 h2 hfr)
    have hat:=FU xs k r hx
    obtain⟨ra,rc,rr⟩:=r
    simp only [Row.enc,Row.lies] at HL hok hat
    have d0:=hc 0 _ rfl
    simp only [SM,SN] at d0
    have hbs:=hb.size
    have HE:=h_ (fun o=>hE.below (hb.alloc hb.size o) (SL _))
    have Nl:=h_ (fun o=>hok.later ((SK wr.heap.size wr).alloc (SL _) o))
    have HO:=h_ (fun(o:Obj) (w1:Su) (h1:SJ (wr.heap.size+1) (wr.alloc o) w1)=>Fx (hown.alloc o) h1 (by simp))
    have HB:=h_ (fun(o:Obj) (w1:Su) (h1:SJ (wr.heap.size+1) (wr.alloc o) w1)=>iM hb o h1)
    have HAT:=h_ hat
    have hlk:(ki xs k).length≤4000000:=by rw [o7];omega
    generalize rowLen rr=L at *
    clear hc hx hr hown hfx hfr hat hok
    go_wp2_with (first
     | (go_at_call 215;refine(HL.out _ (HE.out _) (Nl.out _)).mono ?_;rintro e w1 ⟨rfl,hb1⟩;simp only [SU] at hb1;have ho1:=h_ (HO.out _ _ hb1);have hbw:=HB.out _ _ hb1;have hbz:=hbw.size)
     | (at_builtin;refine aV _ _ rfl (.tmp 13) (.tmp 16) 229 rfl w.heap.size 3 j0 _ 1 8 Tryz.underlying229 JI.out J0.out J1.out J2.out rfl (by decide) _ _ _ rfl ho1.out _ rfl rfl rfl ?h1 ?h63 ?hb ?hbase ?_))
    case h1=>first|rfl|(intro u hu;simp at hu;subst hu;rfl)
    case h63=>unfold maxLen;omega
    case hb=>omega
    case hbase=>exact hbz
    intro v' w2 hown' hgrow
    have R:Ha xs w (k+1) v' w2:=by
     refine⟨?_,(hbw.alloc hbw.size _).grown hgrow (by simp;omega) (fun j hj=>(ho1.out.lt j hj).1)⟩
     rw [HAT.out]
     simpa using hown'
    clear hown' hgrow ho1
    go_wp2_with fail
    go_roundw
    case rel=>exact⟨k+1,by omega,by go_num,R⟩
    case measure=>simp [intOf];omega
  · obtain rfl:k=xs.length:=by omega
    have nw:=h_ (I4 hown hb)
    clear hown
    go_wp2_with fail
    go_ret
    exact nw.out
theorem vp:∀ (l:List Run)(acc:Int),0≤acc→-1≤lL l acc∧lL l acc≤acc+fE l
 | [],acc,h=>by simp only [lL,fE];omega
 | x::l,acc,h=>by
   have h1:=FW x.text
   simp only [lL,fE]
   split
   · omega
   · have:=vp l (acc+lenB x.text) (by omega)
     omega
theorem Fp (l:List Run):-1≤rowLen l∧rowLen l≤fE l:=by
 have:=vp l 0 (by omega)
 unfold rowLen
 omega
def sC:List Int→Int→Int
 | [],acc=>acc
 | n::l,acc=>if n<0 then -1 else sC l (acc+n)
def m_ (rows:List Row):Int:=sC (e9 rows) (max ((rows.length:Int)-1) 0)
theorem sz (rows:List Row)(hf:∀ r∈rows,r.fits):∀ z∈e9 rows,z≤4000000:=by
 intro z hz
 simp only [e9,List.mem_map] at hz
 obtain⟨r,hr,rfl⟩:=hz
 have h1:=Fp r.runs
 have h2:=(hf r hr).2.2
 omega
theorem BZ (x:Ev)(w:Su)(hE:Env w)(hr:x.lies w)(hf:x.fits) :
 Sv Sz 218 #[.agg x.enc.toArray] w fun e w'=>e=.returned (.int .i64 (m_ x.rows))∧SJ w.heap.size w w':=by
 have hLn:=fun w1 h1 h2=>vo x w1 h1 h2 hf
 obtain⟨id,inn,out,region,kind,speaker,a,cap,xs⟩:=x
 obtain⟨_,_,_,_,_,_,_,hfx,hl⟩:=hf
 have hbd:=sz xs hfx
 simp only [Ev.lies] at hr hfx hl hLn
 simp only [Ev.enc] at hLn ⊢
 have hlen:(e9 xs).length=xs.length:=by simp [e9]
 generalize hG:m_ xs=G
 unfold m_ at hG
 generalize hz:e9 xs=zs at *
 have HZ:=h_ hz
 have HG:=h_ hG
 have Qg:=h_ (hLn (w.alloc (.cells #[.int .i64 id,.int .i64 inn,.int .i64 out,.string region,.int .u8 kind,.string speaker,.slice a xs.length cap] 50)) (hE.below ((SK _ _).alloc (SL _) _) (SL _)) (hr.later ((SK _ _).alloc (SL _) _)))
 have HLEN:=h_ hlen
 have HBD:=h_ hbd
 clear hG hLn hlen hr hE hfx hz hbd
 obtain⟨m,hm,hm2,hmle⟩:∃ m:Nat,max ((xs.length:Int)-1) 0=m∧((xs.length:Int)-1<0∧m=0∨(0:Int)≤(xs.length:Int)-1∧(m:Int)=(xs.length:Int)-1)∧m≤4000000:=by
  by_cases h:xs.length=0
  · exact⟨0,by omega,.inl ⟨by omega,rfl⟩,by omega⟩
  · exact⟨xs.length-1,by omega,.inr ⟨by omega,by omega⟩,by omega⟩
 rw [hm] at HG
 have HM:=h_ hm2
 clear hm hm2
 rcases HM.out with⟨h0,hm0⟩|⟨h0,hm0⟩
 all_goals
  have Qf:=h_ hm0
  clear hm0
  go_enter Tryz.func218,Tryz.ntmps218
  go_wp2_with fail
  refine Qg.out.mono ?_
  rintro e w1 ⟨a',c',rfl,hI,hb1⟩
  rw [SU] at hb1
  replace hb1:=h_ (aU hb1)
  rw [HZ.out] at hI
  clear Qg
  go_wp2_with fail
  go_loop [3,14] (fun s i=>∃ (k acc:Nat),k≤zs.length∧i=.int .i64 k∧s=.int .i64 acc∧sC (zs.drop k) acc=G∧acc≤4000000+4000000*k) (fun _ i=>zs.length-(intOf i).toNat)
  case atStart=>exact⟨0,m,by omega,rfl,by have:=Qf.out;go_num,by rw [SR];exact HG.out,by omega⟩
  case round =>
   obtain⟨k,acc,hk,rfl,rfl,hp,hac⟩:=hrel
   have hlx:zs.length≤xs.length:=by have:=HLEN.out;omega
   have hlx2:xs.length≤zs.length:=by have:=HLEN.out;omega
   by_cases hlt:k<zs.length
   · obtain⟨b,off,z,rfl,hbl,hzz,hc,_⟩:=hI.at_ hlt
     have d0:=hc 0 _ rfl
     simp only [SM,SN] at d0
     have hzb:=HBD.out z (SO hzz)
     rw [eT zs k z hzz] at hp
     simp only [sC] at hp
     have HP:=h_ hp
     clear hp hc hzz hI HG
     by_cases hneg:z<0
     · go_wp2_with fail
       all_goals
        go_ret
        exact⟨az (by rw [←HP.out,if_pos hneg]),hb1.out⟩
     · have hnn:0≤z:=by omega
       obtain⟨n,rfl⟩:=Int.eq_ofNat_of_zero_le hnn
       rw [if_neg (by omega)] at HP
       have hac2:acc≤4000000+4000000*4000000:=by omega
       clear hneg
       go_wp2_with fail
       all_goals
        go_round
        case rel=>exact⟨k+1,acc+n,by omega,by go_num,by go_num,by have:=HP.out;simpa using this,by omega⟩
        case measure=>simp [intOf];omega
   · obtain rfl:k=zs.length:=by omega
     rw [SQ] at hp
     have HP:=h_ hp
     clear hp HG
     go_wp2_with fail
     go_ret
     exact⟨az (by rw [←HP.out];rfl),hb1.out⟩
def orL:List Int→Int
 | []=>0
 | z::l=>if (z != 0)=true then z else orL l
theorem CN (a:Option Addr)(cap:Nat)(zs:List Int)(w:Su)(hI:Ints w a zs)(hl:zs.length≤4000000) :
 Sv Sz 159 #[.slice a zs.length cap] w fun e w'=>e=.returned (.int .i64 (orL zs))∧w=w':=by
 generalize hG:orL zs=G
 have H0:=h_ (show orL (zs.drop 0)=G by rw [SR];exact hG)
 clear hG
 go_enter Tryz.func159,Tryz.ntmps159
 go_wp2_with fail
 go_loop [8] (fun i=>∃ k:Nat,k≤zs.length∧i=.int .i64 k∧orL (zs.drop k)=G) (fun i=>zs.length-(intOf i).toNat)
 case atStart=>exact⟨0,by omega,rfl,H0.out⟩
 case round =>
  obtain⟨k,hk,rfl,hp⟩:=hrel
  by_cases hlt:k<zs.length
  · obtain⟨b,off,z,rfl,hbl,hzz,hc,_⟩:=hI.at_ hlt
    have d0:=hc 0 _ rfl
    simp only [SM,SN] at d0
    rw [eT zs k z hzz] at hp
    simp only [orL] at hp
    have HP:=h_ hp
    clear hp hc hzz hI H0
    cases hz:z != 0
    · rw [hz,if_neg (by decide)] at HP
      go_wp2_with fail
      go_round
      case rel=>exact⟨k+1,by omega,by go_num,HP.out⟩
      case measure=>simp [intOf];omega
    · rw [hz,if_pos rfl] at HP
      go_wp2_with fail
      go_ret
      exact⟨az HP.out,rfl⟩
  · obtain rfl:k=zs.length:=by omega
    rw [SQ] at hp
    have HP:=h_ hp
    clear hp H0
    go_wp2_with fail
    go_ret
    exact⟨az (by rw [←HP.out];rfl),rfl⟩
def tW (x y:Ev):Bool:=decide (orL [SX x.inn y.inn,SX x.id y.id]<0)
theorem D5 (x y:Ev)(w:Su):Sv Sz 88 #[.agg x.enc.toArray,.agg y.enc.toArray] w fun e w'=>e=.returned (.bool (tW x y))∧SJ w.heap.size w w':=by
 unfold tW
 obtain⟨id,inn,out,region,kind,speaker,a,cap,xs⟩:=x
 obtain⟨id',inn',out',region',kind',speaker',a',cap',xs'⟩:=y
 simp only [Ev.enc]
 have HC:=h_ (fun p q w=>Tryz.cmp_Compare_int p q w)
 have hb0:∀ o o',SJ w.heap.size w ((w.alloc o).alloc o'):=fun o o'=>((SK _ _).alloc (SL _) _).alloc (by simp) _
 have hc1:∀ (cs cs':Array Sw) (j:Nat),((w.alloc (.cells cs 50)).alloc (.cells cs' 50)).cell? ⟨w.heap.size,j,none⟩=cs[j]?:=fun cs cs' j=>by
  rw [SV _ _ _ (by simp),Sx _ _ j cs 50 (0,0) (Sy w _)]
 have hc2:∀ (cs cs':Array Sw) (j:Nat),((w.alloc (.cells cs 50)).alloc (.cells cs' 50)).cell? ⟨w.heap.size+1,j,none⟩=cs'[j]?:=fun cs cs' j=>by
  rw [Sx _ _ j cs' 50 (0,0) (rL w _ _)]
 have HB:=h_ (hb0 (.cells #[.int .i64 id,.int .i64 inn,.int .i64 out,.string region,.int .u8 kind,.string speaker,.slice a xs.length cap] 50) (.cells #[.int .i64 id',.int .i64 inn',.int .i64 out',.string region',.int .u8 kind',.string speaker',.slice a' xs'.length cap'] 50))
 have e1:=hc1 #[.int .i64 id,.int .i64 inn,.int .i64 out,.string region,.int .u8 kind,.string speaker,.slice a xs.length cap] #[.int .i64 id',.int .i64 inn',.int .i64 out',.string region',.int .u8 kind',.string speaker',.slice a' xs'.length cap'] 0
 have e2:=hc1 #[.int .i64 id,.int .i64 inn,.int .i64 out,.string region,.int .u8 kind,.string speaker,.slice a xs.length cap] #[.int .i64 id',.int .i64 inn',.int .i64 out',.string region',.int .u8 kind',.string speaker',.slice a' xs'.length cap'] 1
 have e3:=hc2 #[.int .i64 id,.int .i64 inn,.int .i64 out,.string region,.int .u8 kind,.string speaker,.slice a xs.length cap] #[.int .i64 id',.int .i64 inn',.int .i64 out',.string region',.int .u8 kind',.string speaker',.slice a' xs'.length cap'] 0
 have e4:=hc2 #[.int .i64 id,.int .i64 inn,.int .i64 out,.string region,.int .u8 kind,.string speaker,.slice a xs.length cap] #[.int .i64 id',.int .i64 inn',.int .i64 out',.string region',.int .u8 kind',.string speaker',.slice a' xs'.length cap'] 1
 replace e1:=e1.trans (show _=some (S5 .i64 id) from rfl)
 replace e2:=e2.trans (show _=some (S5 .i64 inn) from rfl)
 replace e3:=e3.trans (show _=some (S5 .i64 id') from rfl)
 replace e4:=e4.trans (show _=some (S5 .i64 inn') from rfl)
 generalize hW:(w.alloc (.cells #[.int .i64 id,.int .i64 inn,.int .i64 out,.string region,.int .u8 kind,.string speaker,.slice a xs.length cap] 50)).alloc (.cells #[.int .i64 id',.int .i64 inn',.int .i64 out',.string region',.int .u8 kind',.string speaker',.slice a' xs'.length cap'] 50)=W at *
 have HW:=h_ hW
 clear hW hb0 hc1 hc2
 go_enter Tryz.func88,Tryz.ntmps88
 go_wp2_with fail
 rw [HW.out]
 refine wp_region_still_tail 12 (by kernel_rfl) (by kernel_rfl) ?_
 simp only [List.take_succ_cons,List.take_zero,List.drop_succ_cons,SR]
 repeat still_step
 still_call (HC.out _ _ _)
 repeat still_step
 still_call (HC.out _ _ _)
 refine wpStill_nil ?_
 have HI:Hid (∀ w2:Su,Ints (w2.alloc (.cells #[.int .i64 (SX inn inn'),.int .i64 (SX id id')] 3)) (some ⟨w2.heap.size,0,none⟩) [SX inn inn',SX id id']):=h_ (fun w2=>by
  refine .inr ⟨w2.heap.size,0,rfl,by simp,fun i z hz=>⟨fun j v hv=>?_,trivial⟩⟩
  match j,hv with
  | 0,hv =>
    simp at hv
    subst hv
    rw [show 0+i*1+0=i by omega,Sx _ _ i _ 3 (0,0) (Sy w2 _)]
    match i,hz with
    | 0,hz=>simp at hz;subst hz;rfl
    | 1,hz=>simp at hz;subst hz;rfl)
 have HI2:Hid (Ints ((W.alloc (.cells #[.int .i64 (SX inn inn'),.int .i64 (SX id id')] 3)).drew) (some ⟨W.heap.size,0,none⟩) [SX inn inn',SX id id']):=h_ (HI.out W)
 go_wp2_with fail
 refine(CN _ _ [SX inn inn',SX id id'] _ HI2.out (by simp)).mono ?_
 rintro e w' ⟨rfl,rfl⟩
 go_wp2_with fail
 go_ret
 exact⟨rfl,by first|exact(HB.out.drew).alloc HB.out.size _|exact(HB.out.alloc HB.out.size _).drew|exact HB.out.alloc HB.out.size _⟩
def iS:List Row→Int
 | []=>0
 | r::l=>if (iX r.runs != 0)=true then iX r.runs else iS l
def Bl (R:Reg)(rows:List Row):Int:=if (iS rows != 0)=true then iS rows else iU R (e9 rows)
def mq (x:Ev)(found:Bool):Int :=
 if x.id<1∨1099511627776<x.id∨kL x.inn x.out=false then 2 else if found=false then 6 else if x.kind<1∨4<x.kind then 3 else if ¬ x.speaker.toList=[]∧jG x.speaker=false then 5 else if x.rows.length=0∨4<x.rows.length then 9 else 0
def pk (x:Ev)(rG:List Reg):Int:=if (mq x (pY rG x.region).2 != 0)=true then mq x (pY rG x.region).2 else Bl (pY rG x.region).1 x.rows
def si (R:Reg)(rows:List Row)(k:Nat):Int:=if (iS (rows.drop k) != 0)=true then iS (rows.drop k) else iU R (e9 rows)
theorem yq (R:Reg)(rows:List Row)(k:Nat)(r:Row)(h:rows[k]? =some r):si R rows k=if (iX r.runs != 0)=true then iX r.runs else si R rows (k+1):=by
 unfold si
 rw [eT rows k r h,iS]
 by_cases he:(iX r.runs != 0)=true
 · rw [if_pos he,if_pos he,if_pos he]
 · rw [if_neg he,if_neg he]
theorem ve (R:Reg)(rows:List Row):si R rows rows.length=iU R (e9 rows):=by
 unfold si
 rw [SQ];rfl
theorem BE (k:Int)(h:k<1∨4<k):kindName k=⟨#[]⟩:=by unfold kindName;repeat rw [if_neg (by omega)]
theorem yU (k:Int)(h0:1≤k)(h:k≤4):¬ (kindName k).toList=[]:=by
 rcases(show k=1∨k=2∨k=3∨k=4 by omega) with rfl|rfl|rfl|rfl<;>decide +kernel
theorem Ej (rG:List Reg)(nm:ByteArray)(hf:∀ r∈rG,r.fits):(pY rG nm).1.fits:=by
 have hd:ov.fits:=by simp only [ov,Reg.fits,i64];decide
 have hz:aD.fits:=by simp only [aD,Reg.fits,i64];decide
 have key:∀ l:List Reg,(∀ r∈l,r.fits)→(pZ nm l).1.fits:=by
  intro l
  induction l with
  | nil=>intro _;exact hz
  | cons r l ih =>
    intro h
    rw [pZ]
    split
    · exact h r (by simp)
    · exact ih (fun q hq=>h q (by simp [hq]))
 unfold pY
 split
 · exact hd
 · exact key rG hf
theorem Jt (x:Ev)(found:Bool):(mq x found=2∧(x.id<1∨(1≤x.id∧1099511627776<x.id)))∨(mq x found=2∧1≤x.id∧x.id≤1099511627776∧kL x.inn x.out=false) ∨
 (1≤x.id∧x.id≤1099511627776∧kL x.inn x.out=true∧((mq x found=6∧found=false)∨(found=true ∧
  ((mq x found=3∧(x.kind<1∨4<x.kind))∨(1≤x.kind∧x.kind≤4 ∧
   ((mq x found=5∧¬ x.speaker.toList=[]∧jG x.speaker=false)∨((x.speaker.toList=[]∨(¬ x.speaker.toList=[]∧jG x.speaker=true)) ∧
    ((mq x found=9∧(x.rows.length=0∨4<x.rows.length))∨(mq x found=0∧1≤x.rows.length∧x.rows.length≤4))))))))):=by
 unfold mq
 generalize x.rows.length=n
 cases hs:kL x.inn x.out<;>cases found<;>cases hn:jG x.speaker<;>by_cases hp:x.speaker.toList=[]<;>simp [hp]<;>omega
theorem pq (x:Ev)(a:Option Addr)(cap:Nat)(rG:List Reg)(w:Su)(hE:Env w)(hr:x.lies w)(hf:x.fits)(hR:Regs w a rG)(hfr:∀ r∈rG,r.fits)(hlr:rG.length≤4000000) :
 Sv Sz 87 #[.agg x.enc.toArray,.slice a rG.length cap] w fun e w'=>e=.returned (.int .i64 (pk x rG))∧SJ w.heap.size w w':=by
 have Gu:=fun w1 h1=>Eh a cap rG x.region w1 h1 hlr
 have hRf:=Ej rG x.region hfr
 have hLn:=fun w1 h1 h2=>vo x w1 h1 h2 hf
 have hfl:=sz x.rows hf.2.2.2.2.2.2.2.1
 generalize hG:pk x rG=G
 unfold pk at hG
 generalize hF:pY rG x.region=F at *
 obtain⟨R,found⟩:=F
 simp only at hG hRf
 have hcs:=Jt x found
 obtain⟨_,_,_,hs1,hk0,hk1,hs2,hfx,hl⟩:=hf
 have pd:(e9 x.rows).length=x.rows.length:=by simp [e9]
 obtain⟨id,inn,out,region,kind,speaker,ra,rc,rows⟩:=x
 simp only [Ev.lies] at hr hfx hl hLn hs1 hs2 hk0 hk1 pd hfl
 simp only [Ev.enc] at hLn Gu ⊢
 generalize mq ⟨id,inn,out,region,kind,speaker,ra,rc,rows⟩ found=EH at *
 simp only at hG hcs
 have HG:=h_ hG
 generalize zq:#[S5 .i64 id,.int .i64 inn,.int .i64 out,.string region,.int .u8 kind,.string speaker,.slice ra rows.length rc]=cs at *
 have f0:=ag w cs 50 0 (.int .i64 id) (by rw [←zq];rfl)
 have f1:=ag w cs 50 1 (.int .i64 inn) (by rw [←zq];rfl)
 have f2:=ag w cs 50 2 (.int .i64 out) (by rw [←zq];rfl)
 have f3:=ag w cs 50 3 (.string region) (by rw [←zq];rfl)
 have f4:=ag w cs 50 4 (.int .u8 kind) (by rw [←zq];rfl)
 have f5:=ag w cs 50 5 (.string speaker) (by rw [←zq];rfl)
 have f6:=ag w cs 50 6 (.slice ra rows.length rc) (by rw [←zq];rfl)
 have HB:=h_ (fun(w1:Su) (h:SJ (w.heap.size+1) (w.alloc (.cells cs 50)) w1)=>aU h)
 have HE:=h_ (fun(w1:Su) (h:SJ (w.heap.size+1) (w.alloc (.cells cs 50)) w1)=>hE.below (aU h) (SL _))
 have HR:=h_ (fun(w1:Su) (h:SJ (w.heap.size+1) (w.alloc (.cells cs 50)) w1)=>hr.later (aU h))
 have HRg:=h_ (fun(w1:Su) (h:SJ (w.heap.size+1) (w.alloc (.cells cs 50)) w1)=>hR.later (aU h))
 have hb0:SJ (w.heap.size+1) (w.alloc (.cells cs 50)) (w.alloc (.cells cs 50)):=SK _ _
 have hsz:(w.alloc (.cells cs 50)).heap.size=w.heap.size+1:=SU _ _
 have KV:=h_ Gu
 have Qg:=h_ hLn
 generalize hW0:w.alloc (.cells cs 50)=W0 at *
 have HW0:=h_ hW0
 have bu:=h_ hsz
 have Dx:=h_ pd
 have NW:=h_ hRf
 have KW:=h_ hfx
 have QC:=h_ hcs
 clear hW0 hsz hE hr hR Gu hLn hG hcs hfr hF pd hRf hfx hfl
 go_enter Tryz.func87,Tryz.ntmps87
 subst zq
 go_wp2_with fail
 rw [HW0.out]
 refine(KV.out _ (HRg.out _ hb0)).mono ?_
 rintro e w1 ⟨rfl,hb1⟩
 rw [bu.out] at hb1
 clear HW0 KV
 obtain⟨Rn,Rt,Rh,Rl,Rw,Ra,Rb⟩:=R
 simp only [Reg.enc]
 have hlt1:w.heap.size<w1.heap.size:=by have:=hb1.size;rw [bu.out] at this;omega
 have MC:Hid (∀ o,SJ (w.heap.size+1) W0 (w1.alloc o)):=h_ (fun o=>hb1.alloc (by omega) o)
 have Hm:=h_ (fun(n:Int) (h:EH=n) (h0:(n != 0)=true)=>(show n=G by rw [←HG.out,h,if_pos h0]))
 have HGz:=h_ (fun(h:EH=0)=>(show Bl ⟨Rn,Rt,Rh,Rl,Rw,Ra,Rb⟩ rows=G by rw [←HG.out,h,if_neg (by decide)]))
 clear HG
 generalize hrs:#[Sw.string Rn,.int .i64 Rt,.int .i64 Rh,.int .i64 Rl,.int .i64 Rw,.int .u8 Ra,.bool Rb]=rs at *
 have g0:=ag w1 rs 44 0 (.string Rn) (by rw [←hrs];rfl)
 have g1:=ag w1 rs 44 1 (.int .i64 Rt) (by rw [←hrs];rfl)
 have g2:=ag w1 rs 44 2 (.int .i64 Rh) (by rw [←hrs];rfl)
 have g3:=ag w1 rs 44 3 (.int .i64 Rl) (by rw [←hrs];rfl)
 have g4:=ag w1 rs 44 4 (.int .i64 Rw) (by rw [←hrs];rfl)
 have g5:=ag w1 rs 44 5 (.int .u8 Ra) (by rw [←hrs];rfl)
 have g6:=ag w1 rs 44 6 (.bool Rb) (by rw [←hrs];rfl)
 have hsz1:(w1.alloc (.cells rs 44)).heap.size=w1.heap.size+1:=SU _ _
 have HT1:=h_ (fun(w2:Su) (h:SJ (w1.heap.size+1) (w1.alloc (.cells rs 44)) w2)=>(MC.out (.cells rs 44)).trans (h.mono (by omega)))
 have HT2:=h_ (fun(w2 w3:Su) (h:SJ (w1.heap.size+1) (w1.alloc (.cells rs 44)) w2) (h3:SJ w2.heap.size w2 w3)=>h.trans (h3.mono (by have:=h.size;omega)))
 have hc1:SJ (w1.heap.size+1) (w1.alloc (.cells rs 44)) (w1.alloc (.cells rs 44)):=SK _ _
 have hd1:SJ (w.heap.size+1) W0 (w1.alloc (.cells rs 44)):=MC.out _
 have PO:=h_ hsz1
 have JO:=HT1
 clear hsz1
 generalize hW1:w1.alloc (.cells rs 44)=W1 at *
 have HW1:=h_ hW1
 clear hW1
 subst hrs
 have hsb:=fun w2=>Bh inn out w2
 have hkb:=fun w2=>tX kind w2 hk0 hk1
 have hnb:=fun w2=>nz speaker w2 hs2
 generalize kL inn out=SP at *
 generalize jG speaker=NB at *
 have HS:=h_ hsb
 have HK:=h_ hkb
 have HN:=h_ hnb
 clear hsb hkb hnb
 rcases QC.out with⟨he,hi|⟨hi0,hi⟩⟩|⟨he,hi0,hi1,hsp⟩|⟨hi0,hi1,hsp,⟨he,rfl⟩|⟨rfl,⟨he,hk⟩|⟨OZ,OY,⟨he,sK,hnm⟩|⟨sK,⟨he,hn⟩|⟨he,hn0,hn1⟩⟩⟩⟩⟩
 · have Cv:=h_ he
   clear he QC
   go_wp2_with fail
   rw [HW1.out]
   go_ret
   exact⟨az (Hm.out _ Cv.out rfl),HB.out _ hd1⟩
 · have Cv:=h_ he
   clear he QC
   go_wp2_with fail
   rw [HW1.out]
   go_ret
   exact⟨az (Hm.out _ Cv.out rfl),HB.out _ hd1⟩
 · have Cv:=h_ he
   subst hsp
   clear he QC
   go_wp2_with fail
   rw [HW1.out]
   refine(HS.out _).mono ?_
   rintro e w2 ⟨rfl,hb2⟩
   have hc2:=HT2.out _ _ hc1 hb2
   have hd2:=HT1.out _ hc2
   go_wp2_with fail
   go_ret
   exact⟨az (Hm.out _ Cv.out rfl),HB.out _ hd2⟩
 all_goals
  have Cv:=h_ he
  subst hsp
  clear he QC
  go_wp2_with fail
  rw [HW1.out]
  refine(HS.out _).mono ?_
  rintro e w2 ⟨rfl,hb2⟩
  have hc2:=HT2.out _ _ hc1 hb2
  have hd2:=HT1.out _ hc2
  clear hb2
 · go_wp2_with fail
   go_ret
   exact⟨az (Hm.out _ Cv.out rfl),HB.out _ hd2⟩
 · rw [BE kind hk] at HK
   clear hk
   go_wp2_with fail
   refine(HK.out _).mono ?_
   rintro e w3 ⟨rfl,hb3⟩
   have hc3:=HT2.out _ _ hc2 hb3
   have hd3:=HT1.out _ hc3
   go_wp2_with fail
   go_ret
   exact⟨az (Hm.out _ Cv.out rfl),HB.out _ hd3⟩
 all_goals
  have hkn:=yU kind OZ OY
  clear OZ OY
  generalize kindName kind=KN at *
  have hkn2:KN.toList.isEmpty=false:=by simpa using hkn
  go_wp2_with fail
  refine(HK.out _).mono ?_
  rintro e w3 ⟨rfl,hb3⟩
  have hc3:=HT2.out _ _ hc2 hb3
  have hd3:=HT1.out _ hc3
  clear hb3
 · subst hnm
   have zi:speaker.toList.isEmpty=false:=by simpa using sK
   go_wp2_with fail
   refine(HN.out _).mono ?_
   rintro e w4 ⟨rfl,rfl⟩
   go_wp2_with fail
   go_ret
   exact⟨az (Hm.out _ Cv.out rfl),HB.out _ hd3⟩
 · rcases hn with hn|hn<;>rcases sK with sK|⟨sK,rfl⟩
   · have zi:speaker.toList.isEmpty=true:=by simpa using sK
     go_wp2_with fail
     go_ret
     exact⟨az (Hm.out _ Cv.out rfl),HB.out _ hd3⟩
   · have zi:speaker.toList.isEmpty=false:=by simpa using sK
     go_wp2_with (go_at_call 150;refine(HN.out _).mono ?_;rintro e w4 ⟨rfl,rfl⟩)
     go_ret
     exact⟨az (Hm.out _ Cv.out rfl),HB.out _ hd3⟩
   · have zi:speaker.toList.isEmpty=true:=by simpa using sK
     have t0:((rows.length:Int)==0)=false:=by rw [beq_eq_false_iff_ne];omega
     have t1:¬ rows=[]:=by rintro rfl;simp at hn
     go_wp2_with fail
     go_ret
     exact⟨az (Hm.out _ Cv.out rfl),HB.out _ hd3⟩
   · have zi:speaker.toList.isEmpty=false:=by simpa using sK
     have t0:((rows.length:Int)==0)=false:=by rw [beq_eq_false_iff_ne];omega
     have t1:¬ rows=[]:=by rintro rfl;simp at hn
     go_wp2_with (go_at_call 150;refine(HN.out _).mono ?_;rintro e w4 ⟨rfl,rfl⟩)
     go_ret
     exact⟨az (Hm.out _ Cv.out rfl),HB.out _ hd3⟩
 · have RP:=h_ (HGz.out Cv.out)
   clear Hm HGz Cv HS HK MC HW1 hlr HRg hc1 hd1 hc2 hd2 hb0 hb1
   have t0:((rows.length:Int)==0)=false:=by rw [beq_eq_false_iff_ne];omega
   have t1:¬ rows=[]:=by rintro rfl;simp at hn0
   rcases sK with sK|⟨sK,rfl⟩
   · have zi:speaker.toList.isEmpty=true:=by simpa using sK
     go_wp2_with fail
     clear hkn hkn2 sK zi t0 t1 HN
     go_loopw [66] (fun i wr=>∃ k:Nat,k≤rows.length∧i=.int .i64 k∧si ⟨Rn,Rt,Rh,Rl,Rw,Ra,Rb⟩ rows k=G∧SJ (w1.heap.size+1) W1 wr) (fun i _=>rows.length-(intOf i).toNat)
     case atStart=>exact⟨0,by omega,rfl,by rw [←RP.out];rfl,hc3⟩
     case round =>
      obtain⟨k,hk,rfl,hp,hb⟩:=hrel
      have hdd:=HT1.out _ hb
      clear hc3 hd3 RP
      by_cases hlt:k<rows.length
      · obtain⟨b,off,r,rfl,hbl,hx,hc,hok⟩:=(HR.out _ hdd).at_ hlt
        have hfr:=KW.out r (SO hx)
        have HC:=h_ (fun w1 h1 h2=>sV r w1 h1 h2 hfr)
        rw [yq _ rows k r hx] at hp
        obtain⟨qa,qc,rr⟩:=r
        simp only [Row.enc,Row.lies] at HC hok hp
        have d0:=hc 0 _ rfl
        simp only [SM,SN] at d0
        have hbs:=hb.size
        have Nl:=h_ (fun o=>hok.later ((SK wr.heap.size wr).alloc (SL _) o))
        have HP:=h_ hp
        have HA:=h_ (fun(o:Obj)=>(HT2.out _ _ hb ((SK wr.heap.size wr).alloc (SL _) o)))
        clear hc hx hfr hok hp
        generalize iX rr=E at *
        cases hE:E != 0
        · have hE0:E=0:=by simpa using hE
          subst hE0
          go_wp2_with (go_at_call 156;refine(HC.out _ (HE.out _ (HT1.out _ (HA.out _))) (Nl.out _)).mono ?_;rintro e w5 ⟨rfl,hb5⟩;have xN:=HT2.out _ _ (HA.out _) hb5;clear hb5)
          go_roundw
          case rel=>exact⟨k+1,by omega,by go_num,by rw [←HP.out];rfl,xN⟩
          case measure=>simp [intOf];omega
        · rw [hE] at HP
          go_wp2_with (go_at_call 156;refine(HC.out _ (HE.out _ (HT1.out _ (HA.out _))) (Nl.out _)).mono ?_;rintro e w5 ⟨rfl,hb5⟩;have xN:=HT2.out _ _ (HA.out _) hb5;clear hb5)
          go_ret
          exact⟨az (by rw [←HP.out];rfl),HB.out _ (HT1.out _ xN)⟩
      · obtain rfl:k=rows.length:=by omega
        rw [ve] at hp
        have P7:=h_ (fun(a:Option Addr) (c:Nat) (w:Su) (hI:Ints w a (e9 rows))=>qu ⟨Rn,Rt,Rh,Rl,Rw,Ra,Rb⟩ a c (e9 rows) w NW.out hI (by rw [Dx.out];omega))
        simp only [hp,Dx.out,Reg.enc] at P7
        clear hp HT1 KW NW hi0 hi1 hn0 hn1
        have Mx:=hdd
        have hbD:SJ (w1.heap.size+1) W1 wr.drew:=hb.drew
        have O4:SJ (w.heap.size+1) W0 wr.drew:=hdd.drew
        have hx0:w.heap.size<wr.heap.size:=by have:=Mx.size;rw [bu.out] at this;omega
        have hx1:w1.heap.size<wr.heap.size:=by have:=hb.size;have h9:=PO.out;omega
        go_wp2_with fail
        go_region_with (first
         | (go_at_call 158;refine(Qg.out _ (HE.out _ O4) (HR.out _ O4)).mono ?_;rintro e w6 ⟨a',c',rfl,hI,hb6⟩;have hc6:=HT2.out _ _ hbD hb6;have hd6:=JO.out _ hc6;clear hb6)
         | (go_at_call 157;refine(P7.out _ _ _ hI).mono ?_;rintro e w7 ⟨v,rfl,lO⟩;have Mz:=HT2.out _ _ hc6 lO;have hd7:=JO.out _ Mz;clear lO))
        all_goals
         go_wp2_with fail
         go_ret
         exact⟨az rfl,HB.out _ hd7⟩
   · have zi:speaker.toList.isEmpty=false:=by simpa using sK
     go_wp2_with (go_at_call 150;refine(HN.out _).mono ?_;rintro e w4 ⟨rfl,rfl⟩)
     clear hkn hkn2 sK zi t0 t1 HN
     go_loopw [66] (fun i wr=>∃ k:Nat,k≤rows.length∧i=.int .i64 k∧si ⟨Rn,Rt,Rh,Rl,Rw,Ra,Rb⟩ rows k=G∧SJ (w1.heap.size+1) W1 wr) (fun i _=>rows.length-(intOf i).toNat)
     case atStart=>exact⟨0,by omega,rfl,by rw [←RP.out];rfl,hc3⟩
     case round =>
      obtain⟨k,hk,rfl,hp,hb⟩:=hrel
      have hdd:=HT1.out _ hb
      clear hc3 hd3 RP
      by_cases hlt:k<rows.length
      · obtain⟨b,off,r,rfl,hbl,hx,hc,hok⟩:=(HR.out _ hdd).at_ hlt
        have hfr:=KW.out r (SO hx)
        have HC:=h_ (fun w1 h1 h2=>sV r w1 h1 h2 hfr)
        rw [yq _ rows k r hx] at hp
        obtain⟨qa,qc,rr⟩:=r
        simp only [Row.enc,Row.lies] at HC hok hp
        have d0:=hc 0 _ rfl
        simp only [SM,SN] at d0
        have hbs:=hb.size
        have Nl:=h_ (fun o=>hok.later ((SK wr.heap.size wr).alloc (SL _) o))
        have HP:=h_ hp
        have HA:=h_ (fun(o:Obj)=>(HT2.out _ _ hb ((SK wr.heap.size wr).alloc (SL _) o)))
        clear hc hx hfr hok hp
        generalize iX rr=E at *
        cases hE:E != 0
        · have hE0:E=0:=by simpa using hE
          subst hE0
          go_wp2_with (go_at_call 156;refine(HC.out _ (HE.out _ (HT1.out _ (HA.out _))) (Nl.out _)).mono ?_;rintro e w5 ⟨rfl,hb5⟩;have xN:=HT2.out _ _ (HA.out _) hb5;clear hb5)
          go_roundw
          case rel=>exact⟨k+1,by omega,by go_num,by rw [←HP.out];rfl,xN⟩
          case measure=>simp [intOf];omega
        · rw [hE] at HP
          go_wp2_with (go_at_call 156;refine(HC.out _ (HE.out _ (HT1.out _ (HA.out _))) (Nl.out _)).mono ?_;rintro e w5 ⟨rfl,hb5⟩;have xN:=HT2.out _ _ (HA.out _) hb5;clear hb5)
          go_ret
          exact⟨az (by rw [←HP.out];rfl),HB.out _ (HT1.out _ xN)⟩
      · obtain rfl:k=rows.length:=by omega
        rw [ve] at hp
        have P7:=h_ (fun(a:Option Addr) (c:Nat) (w:Su) (hI:Ints w a (e9 rows))=>qu ⟨Rn,Rt,Rh,Rl,Rw,Ra,Rb⟩ a c (e9 rows) w NW.out hI (by rw [Dx.out];omega))
        simp only [hp,Dx.out,Reg.enc] at P7
        clear hp HT1 KW NW hi0 hi1 hn0 hn1
        have Mx:=hdd
        have hbD:SJ (w1.heap.size+1) W1 wr.drew:=hb.drew
        have O4:SJ (w.heap.size+1) W0 wr.drew:=hdd.drew
        have hx0:w.heap.size<wr.heap.size:=by have:=Mx.size;rw [bu.out] at this;omega
        have hx1:w1.heap.size<wr.heap.size:=by have:=hb.size;have h9:=PO.out;omega
        go_wp2_with fail
        go_region_with (first
         | (go_at_call 158;refine(Qg.out _ (HE.out _ O4) (HR.out _ O4)).mono ?_;rintro e w6 ⟨a',c',rfl,hI,hb6⟩;have hc6:=HT2.out _ _ hbD hb6;have hd6:=JO.out _ hc6;clear hb6)
         | (go_at_call 157;refine(P7.out _ _ _ hI).mono ?_;rintro e w7 ⟨v,rfl,lO⟩;have Mz:=HT2.out _ _ hc6 lO;have hd7:=JO.out _ Mz;clear lO))
        all_goals
         go_wp2_with fail
         go_ret
         exact⟨az rfl,HB.out _ hd7⟩
end Go.Proofs.YtnlnmbcaongehaaGreatDoor
namespace Go.Proofs.YtnlnmbcaongehaaGreatDoor
open Go.RowKit Go.Maps
def bq {α:Type} (xs:List α):Nat→Option α
 | 0=>none
 | k+1=>xs[k]?
theorem sF:Keyed Sz 2:=int_keyed SG
theorem RV (w:Su):(zeroValue 3).run Sz w=.ok (.int .i64 0) w:=by kernel_rfl
theorem isKey (z:Int):WideAt.IsKeyLit (.int .i64 z):=trivial
theorem wf64 {z:Int} (h:i64 z):(Lit.int .i64 z).wf=true:=WalkArith.wf_i64 h
theorem key2 {z:Int} (h:i64 z):keyOf Sz 2 (.int .i64 z)=some (.int .i64 z):=keyOf_int_mk SG (wf64 h)
theorem aa {P:Program} (w:Su) {ops:Array Oper} {rest:List Oper} {o:Oper} {a:Act} {Q:Exit→Act→Su→Prop}
 (hg:o.guard=none) (m x:Operand) (t:TypeId) (c:Bool) (hop:o.op=Op.lookup t m x c) (mv key v:Sw) (hm:a.eval m=mv) (hx:a.eval x=key)
 (hrun:(Instr.lookup t mv key c).run P w=.ok v w) (hK:wpList P ops Q rest (a.put o.dst v) w):wpList P ops Q (o::rest) a w:=by
 refine wpList_plain hg fun K' hK'=>?_
 unfold Oper.wp
 simp [execOp,hop,hm,hx,hrun,Result.andThen]
 exact hK' _ _ hK
def IMap (w:Su)(b n:Nat)(f:Int→Option Nat):Prop:=∃ D:DataW Unit,w.ownsMap Sz 2 (plainElem Sz 3) b n D ∧
 ∀ z,Maps.has D (.int .i64 z)=(f z).isSome∧D.atKey (.int .i64 z) (.lit (.int .i64 0))=.lit (.int .i64 ((f z).getD 0:Nat))
theorem IMap.made (w:Su):IMap (w.alloc (.map #[] 0)) w.heap.size 0 (fun _=>none) :=
 ⟨_,SW _ _ _ _,fun z=>⟨rfl,rfl⟩⟩
theorem IMap.lt {w:Su} {b n:Nat} {f:Int→Option Nat} (h:IMap w b n f):b<w.heap.size:=by
 obtain⟨D,h,_⟩:=h;exact h.lt
theorem oW {H:Type} {P:Program} {k:TypeId} {R:Sw→Option (DataW H × List MemPlace)} {w w':Su} {b n B:Nat} {D:DataW H} (h:w.ownsMap P k R b n D)(hb:SJ B w w')(hB:b<B):w'.ownsMap P k R b n D:=by
 obtain⟨es,clock,h1,r⟩:=h
 exact⟨es,clock,(hb.block b hB).trans h1,r⟩
theorem IMap.below {w w':Su} {b n B:Nat} {f:Int→Option Nat} (h:IMap w b n f)(hb:SJ B w w')(hB:b<B):IMap w' b n f:=by
 obtain⟨D,h,r⟩:=h
 exact⟨D,oW h hb hB,r⟩
theorem IMap.look {w:Su} {b n:Nat} {f:Int→Option Nat} (h:IMap w b n f) {z:Int} (hz:i64 z) :
 (Instr.lookup 154 (.map (some b)) (.int .i64 z) true).run Sz w=.ok (.tuple #[.int .i64 ((f z).getD 0:Nat),.bool (f z).isSome]) w:=by
 obtain⟨D,h,r⟩:=h
 obtain⟨v,ps,hrun,hv⟩:=h.look_ok sF SF (RV w) (plainElem_int SC (by decide)) (key2 hz)
 rw [(r z).2] at hv
 obtain⟨c,rfl,hc,_⟩:=plainElem_int_inv SC hv
 simp only [Prod.mk.injEq,DataW.lit.injEq,Lit.int.injEq,true_and] at hc
 rw [hrun,(r z).1,←hc.1]
theorem IMap.put {w:Su} {b n:Nat} {f:Int→Option Nat} (h:IMap w b n f) {z:Int} (hz:i64 z)(hn:n<maxLen)(v:Nat)(hv:i64 v) :
 ∃ w',(Instr.mapUpdate 154 (.map (some b)) (.int .i64 z) (.int .i64 v)).run Sz w=.ok () w'∧IMap w' b (n+1) (fun y=>if y=z then some v else f y)∧w.grownBy w' (some b):=by
 obtain⟨D,h,r⟩:=h
 obtain⟨w',h1,h2,h3⟩:=h.update sF SF hn (key2 hz) (plainElem_int SC (wf64 hv))
 refine⟨w',h1,⟨_,h2,fun y=>?_⟩,h3⟩
 by_cases hy:y=z
 · subst hy
   simp only [if_true]
   exact⟨has_put_same h.isMap (isKey _) _,atKey_put_same h.isMap (isKey _) _ _⟩
 · simp only [if_neg hy]
   have hne:Lit.int .i64 y≠Lit.int .i64 z:=by simpa using hy
   rw [has_put_other hne,atKey_put_other hne]
   exact r y
def BMap (w:Su)(b n:Nat)(f:Int→Bool):Prop:=∃ D:DataW Unit,w.ownsMap Sz 2 (plainElem Sz 4) b n D ∧
 ∀ z,D.atKey (.int .i64 z) (.lit (.bool false))=.lit (.bool (f z))
theorem BMap.made (w:Su):BMap (w.alloc (.map #[] 0)) w.heap.size 0 (fun _=>false) :=
 ⟨_,SW _ _ _ _,fun z=>rfl⟩
theorem BMap.lt {w:Su} {b n:Nat} {f:Int→Bool} (h:BMap w b n f):b<w.heap.size:=by
 obtain⟨D,h,_⟩:=h;exact h.lt
theorem BMap.below {w w':Su} {b n B:Nat} {f:Int→Bool} (h:BMap w b n f)(hb:SJ B w w')(hB:b<B):BMap w' b n f:=by
 obtain⟨D,h,r⟩:=h
 exact⟨D,oW h hb hB,r⟩
end Go.Proofs.YtnlnmbcaongehaaGreatDoor
