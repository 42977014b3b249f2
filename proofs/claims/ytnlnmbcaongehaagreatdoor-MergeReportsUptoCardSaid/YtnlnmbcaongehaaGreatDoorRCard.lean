/- MergeReports: the report of any clashes is the specified one. Conditions: the arguments hold together at most 1048576 values and letters (the second form); the library's tables are as their text lays them (the card ties them). -/
import Derived.Test.YtnlnmbcaongehaaGreatDoorCards
import Derived.Test.YtnlnmbcaongehaaGreatDoorTie
import Derived.Test.YtnlnmbcaongehaaGreatDoorR02
set_option linter.unusedVariables false
set_option linter.unusedSimpArgs false
set_option maxRecDepth 100000
set_option maxHeartbeats 12800000
open Go.Lib renaming hid→h_
open Go renaming World→kR,Value→kS,TypeId→kT,heap_alloc_last→kU
open Go.Lib renaming byteCells→kV,pow10Tab→kW,TabIs→kX
open Go.RowKit renaming Below→kY
open Nat renaming le_refl→kZ
open Go.DataW renaming trod_string→k7,trod_int→k9,whole→k_
open List renaming length_append→lf,length_cons→lg
namespace Go.Proofs.YtnlnmbcaongehaaGreatDoor
open Go.RowKit
def ClRel (xs:List Cl)(w:kR)(k:Nat)(wr:kR):Prop:=Lib.IsBuilder 123 5 w.heap.size w.heap.size (kV (clText (xs.take k))) wr∧kY w.heap.size w wr
theorem ClRel.step {xs:List Cl} {w wr w4 w5:kR} {k:Nat} {x:Cl} {s:ByteArray} (hx:xs[k]? =some x)(h:ClRel xs w k wr)(hs:s.data.toList=clLine x)(hb4:kY wr.heap.size wr w4)
 (h5:Lib.BuilderAt 123 5 w.heap.size w.heap.size (.pointer (some ⟨w.heap.size,0,none⟩)) (kV (clText (xs.take k))++Lib.strCells s) w5) (hb5:kY w.heap.size w4 w5):ClRel xs w (k+1) w5:=by
 obtain⟨h1,h2⟩:=h
 refine⟨?_,(h2.trans (hb4.mono h2.size)).trans hb5⟩
 rw [clText_snoc xs k x hx,←hs,←zdG]
 exact .inr h5
theorem mgText_calls (a:Option Addr)(cap:Nat)(xs:List Cl)(w:kR)(hx:af 4 Cl.enc Flat w a xs)(hl:xs.length≤40000000)(hf:∀ x∈xs,x.fits)(htx:(clText xs).length≤140737488355328)(hT:kX Tryz.prog w "internal/strconv.uint64pow10" .u64 kW) :
 Calls Tryz.prog 31 #[.slice a xs.length cap] w fun e w'=>e=.returned (.string ⟨(clText xs).toArray⟩)∧kY w.heap.size w w':=by
 generalize hQ:(fun(e:Ending) (w':kR)=>e=.returned (.string ⟨(clText xs).toArray⟩)∧kY w.heap.size w w')=Q
 have HQ:=h_ (fun w' (hb:kY w.heap.size w w')=>show Q (.returned (.string ⟨(clText xs).toArray⟩)) w' from hQ▸⟨rfl,hb⟩)
 clear hQ
 have HST:=h_ (show ClRel xs w 0 (w.alloc (.cells #[.pointer none,.slice none 0 0] 123)) from⟨zgh w,(kY.refl _ _).alloc (kZ _) _⟩)
 have HTB:=h_ (fun(w':kR) (hb:kY w.heap.size w w')=>Go.Joins.tab_stays pow10_global hT hb (kZ _))
 have HX:=h_ hx
 have HF:=h_ hf
 have HTX:=h_ htx
 clear hT hx hf htx
 go_enter Tryz.func31,Tryz.ntmps31
 go_wp2_with fail
 go_loopw [9] (fun i wr=>∃ k:Nat,k≤xs.length∧i=.int .i64 k∧ClRel xs w k wr) (fun i _=>xs.length-(intOf i).toNat)
 case atStart=>exact⟨0,by omega,rfl,HST.out⟩
 case round =>
  obtain⟨k,hk,rfl,hR⟩:=hrel
  clear HST
  have HR:=h_ hR
  have hwr:=hR.1
  have hbr:=hR.2
  have hszr:=hbr.size
  by_cases hlt:k<xs.length
  · obtain⟨b,off,x,rfl,hbl,hxk,hc,hxl⟩:=(af.keeps Flat.keeps _ _ _ _ hbr HX.out).at_ hlt
    have hfx:=HF.out x (List.mem_of_getElem? hxk)
    have hlen:=clText_le xs k x hxk
    have hlt2:=HTX.out
    have HSTEP:=h_ (fun(w4 w5:kR) (s:ByteArray) hs hb4 h5 hb5=>ClRel.step (w4:=w4) (w5:=w5) (s:=s) hxk HR.out hs hb4 h5 hb5)
    have HDC:=h_ (fun(w1:kR) (hb:kY wr.heap.size wr w1)=>(show Calls Tryz.prog 66 #[.int .i64 x.id] w1 (fun e w'=>e=.returned (.string (decB x.id))∧kY w1.heap.size w1 w') from decimal_calls x.id hfx.2.2.1.1 hfx.2.2.1.2 w1 (HTB.out w1 (hbr.trans (hb.mono hszr)))))
    have HWS:=h_ (fun(s:ByteArray) (w4:kR) (hb:kY wr.heap.size wr w4) (hl4:(kV (clText (xs.take k))).length+s.size≤140737488355328)=>zbg w.heap.size w.heap.size (kV (clText (xs.take k))) s w4 (builder_below hwr hb) hl4 (Nat.le_trans hszr hb.size))
    obtain⟨PL,hPL⟩:∃ PL,PL=placeOf x.sec x.id x.name:=⟨_,rfl⟩
    have hsL:PL=PL:=rfl
    have hnL:(PL++(⟨#[32]⟩:ByteArray)++x.field++(⟨#[10]⟩:ByteArray)).data.toList=clLine x:=by
     rw [hPL]
     simp only [app_data,clLine]
     simp
    have hszL:(kV (clText (xs.take k))).length+(PL++(⟨#[32]⟩:ByteArray)++x.field++(⟨#[10]⟩:ByteArray)).size≤140737488355328:=by
     rw [size_list,hnL]
     simp only [kV,List.length_map]
     omega
    have d0:=hc 0 _ rfl;have d1:=hc 1 _ rfl;have d2:=hc 2 _ rfl;have d3:=hc 3 _ rfl
    have hfs:=hfx.2.2.2.2
    have hns:=hfx.2.2.2.1
    have hid0:=hfx.2.2.1.1
    have hid1:=hfx.2.2.1.2
    have hbA:∀ o,kY wr.heap.size wr (wr.alloc o):=fun o=>(kY.refl _ _).alloc (kZ _) o
    obtain⟨sec,id,name,field⟩:=x
    simp only at HDC hPL hnL hszL hfs hns hid0 hid1
    simp only [Cl.enc,Nat.add_zero] at d0 d1 d2 d3
    clear hc hxk hxl hfx hlen hlt2 hwr hbr hR HR
    by_cases s1:sec=1
    · subst s1
      have hpl:PL=(⟨#[72,69,65,68]⟩:ByteArray):=by rw [hPL];unfold placeOf;rfl
      have HS:=h_ (hsL.trans (by rw [hpl]))
      have HW1:=h_ (fun(w4:kR) (q:kY wr.heap.size wr w4)=>HWS.out ((⟨#[72,69,65,68]⟩:ByteArray)++(⟨#[32]⟩:ByteArray)++field++(⟨#[10]⟩:ByteArray)) w4 q (by rw [←hpl];exact hszL))
      have HF1:=h_ (fun(w4 w5:kR) (q:kY wr.heap.size wr w4) h5 hb5=>HSTEP.out w4 w5 ((⟨#[72,69,65,68]⟩:ByteArray)++(⟨#[32]⟩:ByteArray)++field++(⟨#[10]⟩:ByteArray)) (by rw [←hpl];exact hnL) q h5 hb5)
      have hq2:¬ 9223372036854775807<5+field.size:=by omega
      have hq3:¬ 9223372036854775807<5+field.size+1:=by omega
      clear HWS HSTEP hnL hszL hpl hPL hsL
      go_wp2_with fail
      refine(HW1.out _ (hbA _)).mono ?_
      rintro e w5 ⟨rfl,h5,hb5⟩
      have HR5:=h_ (HF1.out _ w5 (hbA _) h5 hb5)
      clear h5 hb5 HW1 HF1
      go_wp2_with fail
      go_roundw
      case rel=>exact⟨k+1,by omega,by go_num,HR5.out⟩
      case measure=>simp [intOf];omega
    · by_cases s2:sec=2
      · subst s2
        have hpl:PL=((⟨#[82,69,71,73,79,78,32]⟩:ByteArray)++name):=by rw [hPL];unfold placeOf;rfl
        have HS:=h_ (hsL.trans (by rw [hpl]))
        have HW1:=h_ (fun(w4:kR) (q:kY wr.heap.size wr w4)=>HWS.out (((⟨#[82,69,71,73,79,78,32]⟩:ByteArray)++name)++(⟨#[32]⟩:ByteArray)++field++(⟨#[10]⟩:ByteArray)) w4 q (by rw [←hpl];exact hszL))
        have HF1:=h_ (fun(w4 w5:kR) (q:kY wr.heap.size wr w4) h5 hb5=>HSTEP.out w4 w5 (((⟨#[82,69,71,73,79,78,32]⟩:ByteArray)++name)++(⟨#[32]⟩:ByteArray)++field++(⟨#[10]⟩:ByteArray)) (by rw [←hpl];exact hnL) q h5 hb5)
        have hq0:¬ 9223372036854775807<7+name.size:=by omega
        have hq1:¬ 9223372036854775807<7+name.size+1:=by omega
        have hq2:¬ 9223372036854775807<7+name.size+1+field.size:=by omega
        have hq3:¬ 9223372036854775807<7+name.size+1+field.size+1:=by omega
        clear HWS HSTEP hnL hszL hpl hPL hsL
        go_wp2_with fail
        refine(HW1.out _ (hbA _)).mono ?_
        rintro e w5 ⟨rfl,h5,hb5⟩
        have HR5:=h_ (HF1.out _ w5 (hbA _) h5 hb5)
        clear h5 hb5 HW1 HF1
        go_wp2_with fail
        go_roundw
        case rel=>exact⟨k+1,by omega,by go_num,HR5.out⟩
        case measure=>simp [intOf];omega
      · by_cases s3:sec=3
        · subst s3
          have hpl:PL=((⟨#[69,86,69,78,84,32]⟩:ByteArray)++decB id):=by rw [hPL];unfold placeOf;rfl
          have HS:=h_ (hsL.trans (by rw [hpl]))
          have HW1:=h_ (fun(w4:kR) (q:kY wr.heap.size wr w4)=>HWS.out (((⟨#[69,86,69,78,84,32]⟩:ByteArray)++decB id)++(⟨#[32]⟩:ByteArray)++field++(⟨#[10]⟩:ByteArray)) w4 q (by rw [←hpl];exact hszL))
          have HF1:=h_ (fun(w4 w5:kR) (q:kY wr.heap.size wr w4) h5 hb5=>HSTEP.out w4 w5 (((⟨#[69,86,69,78,84,32]⟩:ByteArray)++decB id)++(⟨#[32]⟩:ByteArray)++field++(⟨#[10]⟩:ByteArray)) (by rw [←hpl];exact hnL) q h5 hb5)
          have hdz:=decB_size hid0 hid1
          have hq0:¬ 9223372036854775807<6+(decB id).size:=by omega
          have hq1:¬ 9223372036854775807<6+(decB id).size+1:=by omega
          have hq2:¬ 9223372036854775807<6+(decB id).size+1+field.size:=by omega
          have hq3:¬ 9223372036854775807<6+(decB id).size+1+field.size+1:=by omega
          clear HWS HSTEP hnL hszL hpl hPL hsL
          go_wp2_with fail
          refine(HDC.out _ (hbA _)).mono ?_
          rintro e w3 ⟨rfl,hb3⟩
          have hc3:=(hbA (.cells #[.int .u8 3,.int .i64 id,.string name,.string field] 135)).trans (hb3.mono (by simp))
          have k3:∀ j,w3.cell? ⟨wr.heap.size,j,none⟩=_:=fun j=>cell_of_row _ _ j _ 135 (0,0) ((hb3.block _ (by simp)).trans (kU wr (.cells #[.int .u8 3,.int .i64 id,.string name,.string field] 135)))
          clear hb3
          generalize decB id=DB at *
          go_wp2_with fail
          refine(HW1.out w3 hc3).mono ?_
          rintro e w5 ⟨rfl,h5,hb5⟩
          have HR5:=h_ (HF1.out w3 w5 hc3 h5 hb5)
          clear h5 hb5 HW1 HF1
          go_wp2_with fail
          go_roundw
          case rel=>exact⟨k+1,by omega,by go_num,HR5.out⟩
          case measure=>simp [intOf];omega
        · by_cases s4:sec=4
          · subst s4
            have hpl:PL=((⟨#[67,79,77,77,69,78,84,32]⟩:ByteArray)++decB id):=by rw [hPL];unfold placeOf;rfl
            have HS:=h_ (hsL.trans (by rw [hpl]))
            have HW1:=h_ (fun(w4:kR) (q:kY wr.heap.size wr w4)=>HWS.out (((⟨#[67,79,77,77,69,78,84,32]⟩:ByteArray)++decB id)++(⟨#[32]⟩:ByteArray)++field++(⟨#[10]⟩:ByteArray)) w4 q (by rw [←hpl];exact hszL))
            have HF1:=h_ (fun(w4 w5:kR) (q:kY wr.heap.size wr w4) h5 hb5=>HSTEP.out w4 w5 (((⟨#[67,79,77,77,69,78,84,32]⟩:ByteArray)++decB id)++(⟨#[32]⟩:ByteArray)++field++(⟨#[10]⟩:ByteArray)) (by rw [←hpl];exact hnL) q h5 hb5)
            have hdz:=decB_size hid0 hid1
            have hq0:¬ 9223372036854775807<8+(decB id).size:=by omega
            have hq1:¬ 9223372036854775807<8+(decB id).size+1:=by omega
            have hq2:¬ 9223372036854775807<8+(decB id).size+1+field.size:=by omega
            have hq3:¬ 9223372036854775807<8+(decB id).size+1+field.size+1:=by omega
            clear HWS HSTEP hnL hszL hpl hPL hsL
            go_wp2_with fail
            refine(HDC.out _ (hbA _)).mono ?_
            rintro e w3 ⟨rfl,hb3⟩
            have hc3:=(hbA (.cells #[.int .u8 4,.int .i64 id,.string name,.string field] 135)).trans (hb3.mono (by simp))
            have k3:∀ j,w3.cell? ⟨wr.heap.size,j,none⟩=_:=fun j=>cell_of_row _ _ j _ 135 (0,0) ((hb3.block _ (by simp)).trans (kU wr (.cells #[.int .u8 4,.int .i64 id,.string name,.string field] 135)))
            clear hb3
            generalize decB id=DB at *
            go_wp2_with fail
            refine(HW1.out w3 hc3).mono ?_
            rintro e w5 ⟨rfl,h5,hb5⟩
            have HR5:=h_ (HF1.out w3 w5 hc3 h5 hb5)
            clear h5 hb5 HW1 HF1
            go_wp2_with fail
            go_roundw
            case rel=>exact⟨k+1,by omega,by go_num,HR5.out⟩
            case measure=>simp [intOf];omega
          · have hb1:(sec==1)=false:=by simpa using s1
            have hb2:(sec==2)=false:=by simpa using s2
            have hb3:(sec==3)=false:=by simpa using s3
            have hb4:(sec==4)=false:=by simpa using s4
            have hpl:PL=(⟨#[63]⟩:ByteArray):=by rw [hPL];unfold placeOf;rw [if_neg s1,if_neg s2,if_neg s3,if_neg s4];rfl
            have HS:=h_ (hsL.trans (by rw [hpl]))
            have HW1:=h_ (fun(w4:kR) (q:kY wr.heap.size wr w4)=>HWS.out ((⟨#[63]⟩:ByteArray)++(⟨#[32]⟩:ByteArray)++field++(⟨#[10]⟩:ByteArray)) w4 q (by rw [←hpl];exact hszL))
            have HF1:=h_ (fun(w4 w5:kR) (q:kY wr.heap.size wr w4) h5 hb5=>HSTEP.out w4 w5 ((⟨#[63]⟩:ByteArray)++(⟨#[32]⟩:ByteArray)++field++(⟨#[10]⟩:ByteArray)) (by rw [←hpl];exact hnL) q h5 hb5)
            have hq2:¬ 9223372036854775807<2+field.size:=by omega
            have hq3:¬ 9223372036854775807<2+field.size+1:=by omega
            clear HWS HSTEP hnL hszL hpl hPL hsL
            go_wp2_with fail
            refine(HW1.out _ (hbA _)).mono ?_
            rintro e w5 ⟨rfl,h5,hb5⟩
            have HR5:=h_ (HF1.out _ w5 (hbA _) h5 hb5)
            clear h5 hb5 HW1 HF1
            go_wp2_with fail
            go_roundw
            case rel=>exact⟨k+1,by omega,by go_num,HR5.out⟩
            case measure=>simp [intOf];omega
  · obtain rfl:k=xs.length:=by omega
    obtain⟨hB,hbw⟩:=hR
    rw [List.take_length] at hB
    have HW:=h_ (Tryz.Builder_String_any w.heap.size w.heap.size (clText xs) wr hB hszr)
    have HE:=h_ (fun w1 (h:kY w.heap.size wr w1)=>HQ.out w1 (hbw.trans h))
    clear hB hbw hwr hbr HF HR
    go_wp2_with (go_at_call 69;refine HW.out.mono ?_;rintro e w1 ⟨rfl,h1⟩)
    exact HE.out _ h1
theorem lawReports_calls (Aw:kR→Prop)(HAW:∀ w,Aw w→Calls Tryz.prog 25 #[] w (fun e w'=>e=.returned (.bool true)∧kY w.heap.size w w'))(a:Option Addr)(cap:Nat)(xs:List Cl)(w:kR)(hA:Aw w)
 (hx:af 4 Cl.enc Flat w a xs) (hl:xs.length≤40000000) (hf:∀ x∈xs,x.fits) (htx:(clText xs).length≤140737488355328) (hT:kX Tryz.prog w "internal/strconv.uint64pow10" .u64 kW) :
 Calls Tryz.prog 9 #[.slice a xs.length cap] w fun e w'=>e=.returned (.bool true)∧kY w.heap.size w w':=by
 have HA:=h_ (HAW w hA)
 have H1:=h_ (fun(w1:kR) (h:kY w.heap.size w w1)=>mgText_calls a cap xs w1 (af.keeps Flat.keeps _ _ _ _ h hx) hl hf htx (Go.Joins.tab_stays pow10_global hT h (kZ _)))
 have H2:=h_ (fun(w1:kR) (h:kY w.heap.size w w1)=>refText18_calls a cap xs w1 (af.keeps Flat.keeps _ _ _ _ h hx) hl hf htx)
 generalize (⟨(clText xs).toArray⟩:ByteArray)=T at *
 clear HAW hA hx hl hf htx hT
 go_enter Tryz.func9,Tryz.ntmps9
 go_wp2_with fail
 refine HA.out.mono ?_
 rintro e w1 ⟨rfl,hb1⟩
 go_wp2_with fail
 refine(H1.out w1 hb1).mono ?_
 rintro e w2 ⟨rfl,hb2⟩
 have hc2:=hb1.trans (hb2.mono hb1.size)
 clear hb2
 go_wp2_with fail
 refine(H2.out w2 hc2).mono ?_
 rintro e w3 ⟨rfl,hb3⟩
 have hc3:=hc2.trans (hb3.mono hc2.size)
 clear hb3
 go_wp2_with fail
 go_ret
 exact⟨by simp,hc3⟩
end Go.Proofs.YtnlnmbcaongehaaGreatDoor
namespace Go.Proofs.YtnlnmbcaongehaaGreatDoor
open Go.RowKit Go.ChangeShapes Go.WideShapes Go.Deep
theorem list4 {α:Type} {l:List α} (h:l.length=4):∃ a0 a1 a2 a3,l=[a0,a1,a2,a3]:=by
 obtain _|⟨a0,l⟩:=l
 · simp at h
 obtain _|⟨a1,l⟩:=l
 · simp at h
 obtain _|⟨a2,l⟩:=l
 · simp at h
 obtain _|⟨a3,l⟩:=l
 · simp at h
 obtain _|⟨a4,l⟩:=l
 · exact⟨a0,a1,a2,a3,rfl⟩
 · simp at h
theorem c39:Tryz.prog.cellsOf 39=1:=by kernel_rfl
theorem c135:Tryz.prog.cellsOf 135=4:=by kernel_rfl
section
variable {H:Type} {enc:kT × kS→H} {w:kR} {base:Nat} {sp:Nat→Bool} {held:Bool}
theorem read_cl:Reads enc w base sp held 135 Cl.enc Flat Cl.fits (fun _=>0):=by
 intro fuel cs x h hb
 obtain⟨ys,n,rfl,hx,hlen,hyl,hf⟩:=DataW.trod_struct Tryz.underlying135 h
 rw [c135] at hlen
 obtain⟨v0,v1,v2,v3,rfl⟩:=list4 hlen
 obtain⟨y0,y1,y2,y3,rfl⟩:=list4 hyl
 have g0:=hf 0 _ rfl;have g1:=hf 1 _ rfl;have g2:=hf 2 _ rfl;have g3:=hf 3 _ rfl
 simp [c9q,c2,c39] at g0 g1 g2 g3
 obtain⟨z0,e0,_,w0⟩:=k9 Tryz.underlying39 g0
 obtain⟨z1,e1,_,w1⟩:=k9 Tryz.underlying2 g1
 obtain⟨s2,e2,q2,_⟩:=k7 Tryz.underlying9 g2
 obtain⟨s3,e3,q3,_⟩:=k7 Tryz.underlying9 g3
 simp at e0 e1 e2 e3
 subst e0 e1 e2 e3
 have k2:=agg_part hx (y:=y2) (by simp)
 have k3:=agg_part hx (y:=y3) (by simp)
 have l2:=str_size q2
 have l3:=str_size q3
 exact⟨⟨z0,z1,s2,s3⟩,rfl,trivial,⟨(u8_of w0).1,(u8_of w0).2,i64_of w1,by simp only;omega,by simp only;omega⟩,Nat.zero_le _⟩
theorem read_cls (fuel:Nat)(cs:List kS)(x:DataW H × List MemPlace)(h:DataW.trod enc Tryz.prog w base sp held fuel 59 cs=some x)(hb:Rows.uptoBulk x.1≤1048576) :
 ∃ (a:Option Addr) (xs:List Cl) (cap:Nat),cs=[.slice a xs.length cap]∧af 4 Cl.enc Flat w a xs∧(∀ y∈xs,y.fits)∧xs.length≤Rows.uptoBulk x.1:=by
 obtain⟨a,xs,cap,e,hS,hF,hL,_⟩:=reads_slice Tryz.underlying59 c135 (by decide) (fun _=>rfl) read_cl fuel cs x h hb
 exact⟨a,xs,cap,e,hS,hF,hL⟩
end
theorem clLine_small (x:Cl)(h:x.fits):(clLine x).length≤8001000:=by
 obtain⟨_,_,h0,h1,h2⟩:=h
 have hp:=placeOf_size x.sec x.id x.name h0.1 h0.2 h1
 have hf:x.field.data.toList.length≤4000000:=by rw [←size_list];exact h2
 have hq:(placeOf x.sec x.id x.name).data.toList.length≤4000100:=by rw [←size_list];exact hp
 unfold clLine
 simp only [lf,lg,List.length_nil]
 omega
theorem clText_small:∀ (xs:List Cl),(∀ x∈xs,x.fits)→(clText xs).length≤8001000*xs.length
 | [],_=>by simp [clText]
 | x::l,h=>by
   have ih:=clText_small l fun y hy=>h y (List.mem_cons_of_mem _ hy)
   have hx:=clLine_small x (h x List.mem_cons_self)
   unfold clText at *
   rw [List.flatMap_cons,lf,lg]
   omega
end Go.Proofs.YtnlnmbcaongehaaGreatDoor
namespace Go.Proofs.YtnlnmbcaongehaaGreatDoor.mergeReports
open Go.Shelf Go.ChangeShapes Go.WideShapes Go.ChangeAt Go.RowKit Go.Lib
open Go.Proofs.YtnlnmbcaongehaaGreatDoor.reportSeat (own laidOut laidWorld laid_met env_of zd)
theorem bound {H:Type} {l:List (DataW H)} (hk:Rows.uptoSmall H l=true):Rows.uptoBulkAll l≤1048576:=of_decide_eq_true hk
theorem slice_cap {P:Program} {W:kR} {r:Reach} {base len cap:Nat} {t e:kT} {a:Option Addr} (ht:P.underlying t=some (.slice e))(h:kS.okWide P W r base t (.slice a len cap)):len≤cap:=by
 simp only [kS.okWide,ht,Cell.okWide] at h
 cases a with
 | none =>
   by_cases hl:len=0
   · omega
   · obtain⟨n,rfl⟩:∃ n,len=n+1:=⟨len-1,by omega⟩
     simp only [Cell.ok,ht] at h
 | some a=>simp only [Cell.ok,ht] at h;exact h.1
def wargs:Array kS:=#[.slice none 0 0]
theorem contract (H:Type)(enc:kT × kS→H)(F:Stop.Interp)(W:kR)(base:Nat)(args:Array kS)(ds gs:List (DataW H))(before:List MemPlace)
 (hval:∀ (j:Nat) t v,Tryz.f9.params[j]? =some t→args[j]? =some v→kS.okWide Tryz.prog W .any base t v)
 (hW:DataW.Whole enc Tryz.prog Tryz.f9.params.toList (Rows.OpenSpec.upto Rows.mergeReportsSpec).vars false W args.toList ds gs before) (hk:Rows.uptoSmall H (ds++gs)=true) (hE:Env W∧kX Tryz.prog W "internal/strconv.uint64pow10" .u64 kW) :
 Calls Tryz.prog 9 args W fun e W'=>∃ v,e=.returned v∧((Rows.OpenSpec.upto Rows.mergeReportsSpec).at F).post enc Tryz.prog Tryz.f9 false true false false W args v W':=by
 have hW':=hW
 obtain⟨p,q,hA0,hV,rfl,hfz,hnd⟩:=hW
 have hA:DataW.TrodAll enc Tryz.prog W 0 (fun _=>true) true Tryz.f9.params.toList args.toList ds p:=hA0
 rw [Tryz.params9] at hA hval
 obtain⟨v0,vs0,d0,ds0,p0,q0,hargs,rfl,rfl,h0,r0⟩:=trodAll_cons hA
 obtain⟨rfl,rfl,rfl⟩:=trodAll_nil r0
 obtain rfl:args=#[v0]:=by cases args;simp_all
 obtain⟨rfl,rfl⟩:=trodVars_none hV
 have hbk:=bound hk
 simp only [List.append_nil,Rows.uptoBulkAll] at hbk
 have k0:=h0
 have lt0:∀ x∈p0,x.block<W.heap.size:=by obtain⟨m,hm⟩:=k0;exact DataW.trod_lt m _ _ _ hm
 obtain⟨f0,t0⟩:=h0
 obtain⟨a0,len0,cap0,rfl⟩:=okWide_slice Tryz.underlying59 (hval 0 59 v0 rfl rfl)
 obtain⟨A0,xs,C0,e0,l0,g0,n0⟩:=read_cls f0 _ (d0,p0) t0 (by simp only;omega)
 simp [kS.cells] at e0
 obtain⟨rfl,rfl,rfl⟩:=e0
 have n0':xs.length≤1048576:=by simp only at n0;omega
 have tx0:=clText_small xs g0
 clear hA0
 refine(lawReports_calls (fun w=>Env w∧kX Tryz.prog w "internal/strconv.uint64pow10" .u64 kW) (fun w h=>awake18_calls w h.1) a0 cap0 xs W hE l0 (by omega) g0 (by omega) hE.2).mono fun e W' ⟨he,bel⟩=>?_
 subst he
 exact⟨_,rfl,_,_,_,[],_,[],hW',trodAll_mk1 (shut_bool Tryz.underlying4 _),(trodAll_cons_mk (kY.trod laidOut (by kernel_rfl) (of_decide_eq_true (by kernel_rfl)) k0 bel lt0) trodAll_mk0),rfl,bel.frame _,fun h=>by cases h⟩
def zdoc {H:Type}:DataW H:=.agg [.lit (.string []),.lit (.string []),.lit (.int .u8 0),.lit (.bool false),.lit (.int .i64 0),.nil,.nil,.nil]
theorem wreads (os:Os) {H:Type} (enc:kT × kS→H):∃ places,k_ enc Tryz.prog ((laidWorld os).forCall (fun _ _=>0) ⟨#[],wargs,[]⟩).memory Tryz.f9.params.toList (Rows.OpenSpec.upto Rows.mergeReportsSpec).vars false wargs.toList 8=some ([.nil],[],places):=by
 have hw:(k_ enc Tryz.prog ((laidWorld os).forCall (fun _ _=>0) ⟨#[],wargs,[]⟩).memory Tryz.f9.params.toList (Rows.OpenSpec.upto Rows.mergeReportsSpec).vars false wargs.toList 8).map (fun x=>(x.1,x.2.1))=some ([.nil],[]):=by kernel_rfl
 obtain⟨⟨x1,x2,x3⟩,hx,hx1⟩:=Option.map_eq_some_iff.1 hw
 simp only [Prod.mk.injEq] at hx1
 obtain⟨rfl,rfl⟩:=hx1
 exact⟨x3,hx⟩
theorem liftedUpto (os:Os)(started:os.Started)(H:Type)(enc:kT × kS→H)(F:Stop.Interp) :
 ReturnsInHanded {} Tryz.checked os 9 .any ((Rows.OpenSpec.upto Rows.mergeReportsSpec).preRow enc Tryz.prog Tryz.f9 Rows.mergeReportsUptoRow.domain false Rows.mergeReportsUptoRow.laid) (((Rows.OpenSpec.upto Rows.mergeReportsSpec).at F).post enc Tryz.prog Tryz.f9 false true false false):=by
 obtain⟨places,hx⟩:=wreads os enc
 refine returnsInHanded_of_row (C:=Tryz.checked) (s:=Rows.OpenSpec.upto Rows.mergeReportsSpec) own started (by kernel_rfl) Tryz.func9
  (witness_row_at (enc:=enc) (C:=Tryz.checked) false (laidWorld os) wargs rfl (by kernel_rfl) (by kernel_rfl) (by kernel_rfl)
   (OpenSpec.preRow_of_cond 8 hx (by kernel_rfl) (fun k hk=>by cases hk;kernel_rfl) (by kernel_rfl) (laid_met os _))) ?_
 intro W base args ds gs before hval hW _ hcond _ hL hS _
 exact contract H enc F W base args ds gs before hval hW (hcond _ rfl) (env_of hL hS)
theorem inPlace_eq:Rows.mergeReportsUptoRow.inPlace=Tryz.prog.inPlace 9:=by kernel_rfl
theorem unfollowed_eq:Tryz.prog.unfollowed 9=true:=by kernel_rfl
theorem recurses_eq:Tryz.prog.recurses 9=true:=by
 unfold Program.recurses
 rw [unfollowed_eq]
 rfl
theorem varsNamed_eq:Rows.mergeReportsUptoRow.named=Tryz.prog.varsNamed 9:=by kernel_rfl
theorem mapsRowed_eq:mapsRowed Tryz.prog=true:=by kernel_rfl
theorem plainKeys_eq:Rows.mergeReportsUptoRow.plainKeys=Tryz.prog.plainKeys:=by kernel_rfl
theorem joined:joinedFacts Tryz.prog 9 Tryz.f9 (Rows.OpenSpec.upto Rows.mergeReportsSpec).bare Rows.mergeReportsUptoRow=true:=by
 unfold joinedFacts
 rw [←inPlace_eq,unfollowed_eq,recurses_eq,←varsNamed_eq,laidOut,mapsRowed_eq,←plainKeys_eq]
 refine Eq.trans ?_ (Eq.refl _)
 kernel_rfl
theorem named:Tryz.pinned.checked.prog.funcNamed Rows.mergeReportsUptoRow.func=some 9:=by kernel_rfl
theorem isInst:Tryz.f9.isInstance Tryz.pinned.checked.prog Rows.mergeReportsUptoRow.origin Rows.mergeReportsUptoRow.targs:=of_decide_eq_true (by kernel_rfl)
theorem isWrap:Tryz.f9.isWrapper Tryz.pinned.checked.prog Rows.mergeReportsUptoRow.wrapper Rows.mergeReportsUptoRow.mainSum:=by
 unfold Func.isWrapper
 first|(rw [if_pos (by decide +kernel)];kernel_rfl)|(rw [if_neg (by decide +kernel)];exact⟨rfl,rfl⟩)
theorem saidUpto:Rows.MergeReportsUptoSaid :=
 OpenClaim.holds_of_cond 9 Tryz.f9 rfl rfl rfl rfl rfl rfl rfl ⟨rfl,rfl,rfl,rfl,rfl⟩ rfl rfl rfl rfl rfl named Tryz.func9 joined isInst isWrap
  (fun os started H enc _ F=>by rw [OpenClaim.pre_eq_preRow];exact liftedUpto os started H enc F)
theorem plain (f:FuncId)(fn:Func)(hf:Tryz.pinned.checked.prog.funcNamed "captioner/captionerlaw18.MergeReports" =some f)(hfn:Tryz.pinned.checked.prog.funcs[f]? =some fn) :
 false=Tryz.pinned.checked.prog.looks []∧∀ (j:Nat) t,fn.params[j]? =some t→Tryz.pinned.checked.prog.wantsStandIn t=false:=by
 obtain rfl:f=9:=Option.some.inj ((show Tryz.prog.funcNamed "captioner/captionerlaw18.MergeReports" =some 9 by kernel_rfl).symm.trans hf) |>.symm
 obtain rfl:fn=Tryz.f9:=(Option.some.inj (Tryz.func9.symm.trans hfn)).symm
 refine⟨by kernel_rfl,fun j t ht=>?_⟩
 rw [Tryz.params9] at ht
 have hm:=Array.mem_of_getElem? ht
 simp at hm
 obtain rfl:=hm
 · exact(show Tryz.prog.wantsStandIn 59=false by kernel_rfl)
theorem cardUpto:Rows.MergeReportsUptoCardSaid :=
 Claim7.holds_tied_plain_at .later [] _ _ _ _ saidUpto (fun _ h=>by cases h) (by kernel_rfl) (fun _ h=>by cases h) mergeReportsUpto_row_tie rfl ⟨rfl,rfl⟩ (by kernel_rfl) rfl plain (by kernel_rfl)
#print axioms cardUpto
end Go.Proofs.YtnlnmbcaongehaaGreatDoor.mergeReports
