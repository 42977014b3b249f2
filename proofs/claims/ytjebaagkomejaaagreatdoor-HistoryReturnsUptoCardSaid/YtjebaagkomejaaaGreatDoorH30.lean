/- style.Slice: the characters of a row from one place up to another. style.Mark: characters of a row in another style. -/
import Derived.Test.YtjebaagkomejaaaGreatDoorH28
set_option linter.unusedVariables false
set_option linter.unusedSimpArgs false
set_option maxRecDepth 100000
set_option maxHeartbeats 12800000
open Go.Lib renaming hid→h_
open List renaming setIfInBounds_toArray→YA,getElem_cons_zero→YB,getElem_cons_succ→YC,getElem_toArray→YD,set_cons_zero→YE,set_cons_succ→YF
open Array renaming toArray_toList→YG
open Go renaming cell_of_row→Sh,World→Si,bodyPost_ret→Sj,Calls→Sk,Value→Sl,heap_alloc_last→Sm
open Go.RowKit renaming Below→Sn
open Nat renaming le_refl→Sp
open Go.RowKit.Below renaming refl→Sq,heap_setCell→Sr
open Go.World renaming frozen?→Ss,ownsRow_nil→St
open Go.IntKind renaming wrap_i64→Su,i64→Sv
open Go.Value renaming slice→Sw
open List renaming length_map→Sx
namespace Go.Proofs.YtjebaagkomejaaaGreatDoor
open Go.RowKit
theorem lR (r:Row)(i j:Int)(w:Si)(hE:Env w)(hr:r.lies w)(hf:r.fits):Sk Tryz.prog 137 #[.agg r.enc.toArray,.int .i64 i,.int .i64 j] w (bZ (bQ r.runs i j) w):=by
 have lN:=h_ (fun(w1:Si) (h:Sn w.heap.size w w1)=>eX r w1 (hE.below h (Sp _)) (Row.keeps _ _ _ h hr) hf)
 have HR:=h_ (fun(w1:Si) (h:Sn w.heap.size w w1)=>(show Runs w1 r.at_ r.runs from Row.keeps _ _ _ h hr))
 have jR:=h_ hf
 have hrl:-1≤rowLen r.runs∧rowLen r.runs≤4000000:=oS hf
 have JF:r.runs.length≤4000000:=hf.2.1
 have Bv:=h_ (show rowLen r.runs<0→bQ r.runs i j=[] from fun h=>by unfold bQ;rw [if_pos h])
 have Ba:=h_ (show ¬ rowLen r.runs<0→bQ r.runs i j=cG (sliceAt (limA (rowLen r.runs) i) (limB (rowLen r.runs) i j) 0 r.runs) from fun h=>by unfold bQ;rw [if_neg h])
 have HQ:=h_ (fun(R:List Run) (hR:R=bQ r.runs i j) (y:Row) (B:Nat) (w':Si) (h:y.runs=R) (hB:w.heap.size≤B) (ho:w'.ownsRow B 77 5 (.slice y.at_ y.runs.length y.cap) y.runs.length (y.runs.flatMap Run.enc)) (hb:Sn w.heap.size w w')=>(show bZ (bQ r.runs i j) w (.returned (.agg y.enc.toArray)) w' from⟨y,rfl,h.trans hR,kW ho hB,hb⟩))
 have jd:=h_ (fun(zs:List Run) (I J:Int) (he:sliceAt I J 0 r.runs=zs) (v:Sl) (B:Nat) (w1:Si) (ho:w1.ownsRow B 77 5 v zs.length (zs.flatMap Run.enc))=>(show ∃ c:Option Addr × Nat,v=.slice c.1 zs.length c.2∧Sk Tryz.prog 190 #[.slice c.1 zs.length c.2] w1 (bZ (cG zs) w1) from by
  obtain⟨a,c,he',hS⟩:=aA (k:=5) (enc:=Run.enc) (Ok:=Flat) (fun _=>rfl) ho (fun _ _=>trivial)
  refine⟨(a,c),he',oV a c zs w1 hS (by rw [←he,jH];omega) ?_⟩
  have h1:=jG I J r.runs 0
  have h2:=hf.2.2
  rw [ij r.runs] at h1
  rw [←he];omega))
 have hb2:∀ o1 o2:Obj,Sn w.heap.size w ((w.alloc o1).alloc o2):=fun o1 o2=>((Sq _ _).alloc (Sp _) _).alloc (by simp) _
 have hsz2:∀ o1 o2:Obj,w.heap.size+2≤((w.alloc o1).alloc o2).heap.size:=fun o1 o2=>by simp
 have cQ:=h_ (DW w #[.slice r.at_ r.runs.length r.cap] #[.slice none 0 0])
 obtain⟨j0,hj,hy0,hy1,hy2⟩:=info_parts Tryz.info77
 have JI:=h_ hj;have J0:=h_ hy0;have J1:=h_ hy1;have J2:=h_ hy2
 clear hj hy0 hy1 hy2
 generalize bZ (bQ r.runs i j) w=Q at *
 clear hr hf
 obtain⟨ra0,rc0,xs⟩:=r
 simp only at *
 show Sk Tryz.prog 137 #[.agg #[.slice ra0 xs.length rc0],.int .i64 i,.int .i64 j] w Q
 go_enter Tryz.func137,Tryz.ntmps137
 go_upto_region 1 with fail
 have h0:=cQ.out.1
 have h1:=cQ.out.2
 have hbw:=hb2 (.cells #[.slice ra0 xs.length rc0] 75) (.cells #[.slice none 0 0] 75)
 have hsz:=hsz2 (.cells #[.slice ra0 xs.length rc0] 75) (.cells #[.slice none 0 0] 75)
 clear cQ hb2 hsz2
 generalize (w.alloc (.cells #[.slice ra0 xs.length rc0] 75)).alloc (.cells #[.slice none 0 0] 75)=W0 at *
 have c0:W0.cell? ⟨w.heap.size,0,none⟩=some (.slice ra0 xs.length rc0):=Sh _ _ 0 _ 75 (0,0) h0
 have IP:=h_ (lN.out W0 hbw)
 have H0:=h_ h0
 have H1:=h_ h1
 have bA:=h_ hbw
 clear h0 h1 hbw
 generalize La:rowLen xs=RL at *
 go_wp2_with fail
 refine IP.out.mono ?_
 rintro e w1 ⟨rfl,hb1⟩
 have hs1:=hb1.size
 have aK:=bA.out.trans (hb1.mono (by omega))
 have g0:=(hb1.block w.heap.size (by omega)).trans H0.out
 have g1:=(hb1.block (w.heap.size+1) (by omega)).trans H1.out
 have G0:=h_ g0
 have G1:=h_ g1
 clear IP hb1 bA H0 H1 c0 g1
 go_wp2_with fail
 refine(jK _ i j w1).mono ?_
 rintro e w_ ⟨rfl,bn⟩
 rw [bn]
 clear bn w_
 have Bg:=h_ (lN.out w1 aK)
 have g01:w1.cell? ⟨w.heap.size,0,none⟩=some (.slice ra0 xs.length rc0):=Sh _ _ 0 _ 75 (0,0) g0
 clear g0 lN
 have Oi:max RL 0=RL∨RL<0:=by omega
 generalize hI:limA (max RL 0) i=I at *
 generalize hJ:limB (max RL 0) i j=J at *
 go_wp2_with fail
 refine Bg.out.mono ?_
 rintro e w2 ⟨rfl,hb2⟩
 have hs2:=hb2.size
 have hbw2:=aK.trans (hb2.mono (by omega))
 have g0:=(hb2.block w.heap.size (by omega)).trans G0.out
 have g1:=(hb2.block (w.heap.size+1) (by omega)).trans G1.out
 clear Bg hb2 G0 G1 g01 aK
 by_cases hneg:RL<0
 · have c1:w2.cell? ⟨w.heap.size+1,0,none⟩=some (.slice none 0 0):=Sh _ _ 0 _ 75 (0,0) g1
   have f1:w2.frozen? ⟨w.heap.size+1,0,none⟩=false:=by simp [Ss,g1]
   have HF:=h_ (HQ.out [] (Bv.out hneg).symm ⟨none,0,[]⟩ w.heap.size (w2.setCell ⟨w.heap.size+1,0,none⟩ (.slice none 0 0)) rfl (Sp _) (St _ _ _ _) (hbw2.setCell (by simp) _))
   have r9:=heap_setCell_same w2 (w.heap.size+1) 0 _ 75 (.slice none 0 0) g1
   clear HQ jd Bv Ba HR jR hbw2 g0 g1
   go_wp2_with fail
   generalize w2.setCell ⟨w.heap.size+1,0,none⟩ (.slice none 0 0)=w9 at *
   have fin4:∀ j,w9.cell? ⟨w.heap.size+1,j,none⟩=_:=fun j=>Sh _ _ j _ 75 (0,0) r9
   refine Sj (v:=.agg #[.slice none 0 0]) (by simp [results,Tryz.results137,go_sem,fin4]) rfl ?_
   exact HF.out
 · have hpos:0≤RL:=by omega
   have hmx:max RL 0=RL:=by omega
   rw [hmx] at hI hJ
   have HS2:=h_ (Ba.out (by omega))
   rw [hI,hJ] at HS2
   have Om:0≤I∧I≤4000000:=by subst hI;simp only [limA];omega
   have Ol:0≤J∧J≤4000000:=by subst hJ;simp only [limB,limA];omega
   have ym:=h_ (show kt ⟨ra0,rc0,xs⟩ I J w 0 0 (.slice none 0 0) w2 from⟨[],by simp,rfl,by rw [List.drop_zero];rfl,by omega,by omega,St _ _ _ _,g0,g1,hbw2⟩)
   have c2:w2.cell? ⟨w.heap.size,0,none⟩=some (.slice ra0 xs.length rc0):=Sh _ _ 0 _ 75 (0,0) g0
   have Du:=h_ La
   clear g0 g1 hbw2 Bv Ba hmx Oi hI hJ hneg La
   go_wp2_with fail
   go_loopw [7,8,30] (fun v av kv wr=>∃ (k:Nat) (A:Int),k≤xs.length∧kv=.int .i64 k∧av=.int .i64 A∧kt ⟨ra0,rc0,xs⟩ I J w k A v wr) (fun _ _ kv _=>xs.length-(intOf kv).toNat)
   case atStart=>exact⟨0,0,by omega,rfl,rfl,ym.out⟩
   case round =>
    clear ym
    obtain⟨k,A,hk,rfl,rfl,hrel⟩:=hrel
    obtain⟨zs,e1,e2,e3,e4,e5,e6,e7,e8,e9⟩:=hrel
    simp only at e1 e3 e7
    by_cases hlt:k<xs.length
    · obtain⟨b,off,x,rfl,hbl,hx,hc,_⟩:=ah.at_ (HR.out wr e9) hlt
      have hfx:=jR.out.1 x (List.mem_of_getElem? hx)
      have h0:0≤lenB x.text:=by
       rcases Int.lt_or_le (lenB x.text) 0 with h|h
       · have hq:=e3
         rw [ch xs k x hx,cT,if_pos h,Du.out] at hq
         omega
       · exact h
      have hll:=mN x.text
      have kY:=h_ (fun(w2 w3:Si) (v':Sl) (cs:Array Sl) (hcs:cs.toList=(jZ I J A x).enc) (hb:Sn wr.heap.size wr w2) (hown:w3.ownsRow (w.heap.size+2) 77 5 v' (zs.length+1) (zs.flatMap Run.enc++cs.toList)) (hg:(w2.alloc (.cells cs 77)).grownBy w3 u7.ownBlock)=>kt.step (r:=⟨some ⟨b,off,none⟩,rc0,xs⟩) hx h0 hfx.1 hcs e1 e2 e3 e4 e5 e6 e7 e8 e9 hb hown hg)
      have HOW:=h_ e6
      have EV:=e9
      have hsw:=e9.size
      have hzl:zs.length≤4000000:=by omega
      have l7:=aR e7
      have l8:=aR e8
      obtain⟨t,c,i,u,ru⟩:=x
      have d0:=hc 0 _ rfl;have d1:=hc 1 _ rfl;have d2:=hc 2 _ rfl;have d3:=hc 3 _ rfl;have d4:=hc 4 _ rfl
      simp only [Nat.add_zero,Run.enc] at d0 d1 d2 d3 d4 hfx h0 hll
      have F1:=h_ (fun(w1:Si) (h:Sn w.heap.size w w1)=>se t w1 hfx.1 (hE.below h (Sp _)))
      clear e1 e2 e3 e6 e7 e8 e9 hc hx
      go_upto_region 9 with fail
      have hbW:Sn wr.heap.size wr (wr.alloc (.cells #[.string t,.int .u8 c,.bool i,.bool u,.string ru] 77)):=(Sq _ _).alloc (Sp _) _
      have pW:=Sm wr (.cells #[.string t,.int .u8 c,.bool i,.bool u,.string ru] 77)
      have Ch:wr.heap.size+1≤(wr.alloc (.cells #[.string t,.int .u8 c,.bool i,.bool u,.string ru] 77)).heap.size:=by simp
      generalize wr.alloc (.cells #[.string t,.int .u8 c,.bool i,.bool u,.string ru] 77)=W at *
      obtain⟨gx,hgx⟩:∃ g,g=wr.heap.size:=⟨_,rfl⟩
      rw [←hgx] at pW ⊢
      have hg1:wr.heap.size≤gx:=by omega
      have x0:W.cell? ⟨gx,0,none⟩=some (.string t):=Sh _ _ 0 _ 77 (0,0) pW
      have IM:=h_ (F1.out W (EV.trans (hbW.mono hsw)))
      have PW:=h_ pW
      have bA:=h_ hbW
      clear d0 d1 d2 d3 d4 hgx pW hbW F1
      have hL4:lenB t≤4000000:=by have:=hfx.1;simp only at this;omega
      generalize hL:lenB t=L at *
      go_wp2_with fail
      refine IM.out.mono ?_
      rintro e V ⟨rfl,hb1⟩
      have p1:=(hb1.block gx (aR PW.out)).trans PW.out
      have yH:=bA.out.trans (hb1.mono (by omega))
      have NF:=hb1.size
      have hw1:Sv.wrap (I-A)=I-A:=by rw [Su];omega
      have hw2:Sv.wrap (J-A)=J-A:=by rw [Su];omega
      have P1:=h_ p1
      have BB:=h_ yH
      clear x0 IM hb1 p1 yH PW bA
      go_wp2_with fail
      refine(jK L (I-A) (J-A) V).mono ?_
      rintro e w_ ⟨rfl,bn⟩
      rw [bn]
      clear bn w_ hw1 hw2
      have CX:=h_ (show jZ I J A ⟨t,c,i,u,ru⟩=⟨dQ t (limA L (I-A)) (limB L (I-A) (J-A)),c,i,u,if limB L (I-A) (J-A)-limA L (I-A)<L then uj else ru⟩ from by rw [←hL];rfl)
      have hA1:0≤limA L (I-A)∧limA L (I-A)≤L:=by simp only [limA];omega
      have hB1:limA L (I-A)≤limB L (I-A) (J-A)∧limB L (I-A) (J-A)≤L:=by simp only [limB,limA];omega
      clear hL
      generalize limA L (I-A)=A1 at *
      generalize limB L (I-A) (J-A)=B1 at *
      have hw3:Sv.wrap (B1-A1)=B1-A1:=by rw [Su];omega
      by_cases KB:B1-A1<L
      · have qN:=h_ (fun(w2 w3:Si) (v':Sl) (hb:Sn wr.heap.size wr w2)=>kY.out w2 w3 v' #[.string (dQ t A1 B1),.int .u8 c,.bool i,.bool u,.string uj] (by rw [CX.out,if_pos KB];rfl) hb)
        clear kY CX
        have v4:V.cell? ⟨gx,4,none⟩=some (.string ru):=Sh _ _ 4 _ 77 (0,0) P1.out
        have f4:V.frozen? ⟨gx,4,none⟩=false:=by simp [Ss,P1.out]
        go_upto_region 13 with fail
        have pV0:=heap_setCell_same V gx 4 _ 77 (.string ⟨#[]⟩) P1.out
        simp only [YA,YE,YF] at pV0
        have Hl:Sn wr.heap.size wr (V.setCell ⟨gx,4,none⟩ (.string ⟨#[]⟩)):=BB.out.setCell (by simp;omega) _
        clear v4 f4 BB P1 hw3
        generalize V.setCell ⟨gx,4,none⟩ (.string ⟨#[]⟩)=V' at *
        obtain⟨V,hV⟩:∃ x,x=V':=⟨_,rfl⟩
        subst hV
        have pV:V.heap[gx]? =some (.cells #[.string t,.int .u8 c,.bool i,.bool u,.string uj] 77 (0,0)):=pV0
        have yH:=Hl
        clear pV0 Hl
        have JB:=yH.size
        have v0:V.cell? ⟨gx,0,none⟩=some (.string t):=Sh _ _ 0 _ 77 (0,0) pV
        have hbv:Sn w.heap.size w V:=EV.trans (yH.mono hsw)
        have Bm:=h_ (kr t A1 B1 V hfx.1 (hE.below hbv (Sp _)))
        have PV:=h_ pV
        have BB:=h_ yH
        clear pV yH hbv
        go_wp2_with fail
        refine Bm.out.mono ?_
        rintro e V1 ⟨rfl,hb1⟩
        have hs1:=hb1.size
        have p1:=(hb1.block gx (aR PV.out)).trans PV.out
        have At:=BB.out.trans (hb1.mono JB)
        have fz:V1.frozen? ⟨gx,0,none⟩=false:=by simp [Ss,p1]
        have v10:V1.cell? ⟨gx,0,none⟩=some (.string t):=Sh _ _ 0 _ 77 (0,0) p1
        have p2:=heap_setCell_same V1 gx 0 _ 77 (.string (dQ t A1 B1)) p1
        simp only [YA,YE] at p2
        have hb2:Sn wr.heap.size wr (V1.setCell ⟨gx,0,none⟩ (.string (dQ t A1 B1))):=At.setCell (by simp;omega) _
        clear v0 Bm hb1 At BB PV p1
        generalize dQ t A1 B1=T at *
        go_upto_region 14 with fail
        generalize V1.setCell ⟨gx,0,none⟩ (.string T)=V2 at *
        have hs2:=hb2.size
        have y0:V2.cell? ⟨gx,0,none⟩=some (.string T):=Sh _ _ 0 _ 77 (0,0) p2
        have y1:V2.cell? ⟨gx,1,none⟩=some (.int .u8 c):=Sh _ _ 1 _ 77 (0,0) p2
        have y2:V2.cell? ⟨gx,2,none⟩=some (.bool i):=Sh _ _ 2 _ 77 (0,0) p2
        have y3:V2.cell? ⟨gx,3,none⟩=some (.bool u):=Sh _ _ 3 _ 77 (0,0) p2
        have y4:V2.cell? ⟨gx,4,none⟩=some (.string uj):=Sh _ _ 4 _ 77 (0,0) p2
        have HOWN:=h_ (aJ HOW.out hb2)
        have lP:=h_ (fun(v':Sl) (w3:Si)=>qN.out V2 w3 v' hb2)
        clear v10 fz p2 hb2 qN HOW
        go_wp2_with (at_builtin;refine aY _ _ rfl (.tmp 60) (.tmp 62) 73 rfl (w.heap.size+2) 77 j0 _ 5 40 Tryz.underlying73 JI.out J0.out J1.out J2.out rfl (by decide) _ _ _ rfl HOWN.out _ rfl rfl rfl ?h1 ?h63 ?hb ?hbase ?_)
        case h1=>exact⟨rfl,rfl,rfl,rfl,rfl⟩
        case h63=>unfold maxLen;omega
        case hb=>omega
        case hbase=>omega
        intro v' w3 hown' hgrow
        have R:=lP.out v' w3 hown' hgrow
        have Kn:Sv.wrap (A+L)=A+L:=by rw [Su];omega
        clear hown' hgrow lP HOWN y0 y1 y2 y3 y4
        go_wp2_with fail
        go_roundw
        case rel=>exact⟨k+1,A+L,by omega,by go_num,(by first|rfl|rw [Kn]),R⟩
        case measure=>simp [intOf];omega
      · have NI:L≤B1-A1:=by omega
        have qN:=h_ (fun(w2 w3:Si) (v':Sl) (hb:Sn wr.heap.size wr w2)=>kY.out w2 w3 v' #[.string (dQ t A1 B1),.int .u8 c,.bool i,.bool u,.string ru] (by rw [CX.out,if_neg KB];rfl) hb)
        clear kY CX KB
        have pV:=P1.out
        have yH:=BB.out
        clear P1 BB
        go_upto_region 13 with fail
        have JB:=yH.size
        have v0:V.cell? ⟨gx,0,none⟩=some (.string t):=Sh _ _ 0 _ 77 (0,0) pV
        have hbv:Sn w.heap.size w V:=EV.trans (yH.mono hsw)
        have Bm:=h_ (kr t A1 B1 V hfx.1 (hE.below hbv (Sp _)))
        have PV:=h_ pV
        have BB:=h_ yH
        clear pV yH hbv
        go_wp2_with fail
        refine Bm.out.mono ?_
        rintro e V1 ⟨rfl,hb1⟩
        have hs1:=hb1.size
        have p1:=(hb1.block gx (aR PV.out)).trans PV.out
        have At:=BB.out.trans (hb1.mono JB)
        have fz:V1.frozen? ⟨gx,0,none⟩=false:=by simp [Ss,p1]
        have v10:V1.cell? ⟨gx,0,none⟩=some (.string t):=Sh _ _ 0 _ 77 (0,0) p1
        have p2:=heap_setCell_same V1 gx 0 _ 77 (.string (dQ t A1 B1)) p1
        simp only [YA,YE] at p2
        have hb2:Sn wr.heap.size wr (V1.setCell ⟨gx,0,none⟩ (.string (dQ t A1 B1))):=At.setCell (by simp;omega) _
        clear v0 Bm hb1 At BB PV p1
        generalize dQ t A1 B1=T at *
        go_upto_region 14 with fail
        generalize V1.setCell ⟨gx,0,none⟩ (.string T)=V2 at *
        have hs2:=hb2.size
        have y0:V2.cell? ⟨gx,0,none⟩=some (.string T):=Sh _ _ 0 _ 77 (0,0) p2
        have y1:V2.cell? ⟨gx,1,none⟩=some (.int .u8 c):=Sh _ _ 1 _ 77 (0,0) p2
        have y2:V2.cell? ⟨gx,2,none⟩=some (.bool i):=Sh _ _ 2 _ 77 (0,0) p2
        have y3:V2.cell? ⟨gx,3,none⟩=some (.bool u):=Sh _ _ 3 _ 77 (0,0) p2
        have y4:V2.cell? ⟨gx,4,none⟩=some (.string ru):=Sh _ _ 4 _ 77 (0,0) p2
        have HOWN:=h_ (aJ HOW.out hb2)
        have lP:=h_ (fun(v':Sl) (w3:Si)=>qN.out V2 w3 v' hb2)
        clear v10 fz p2 hb2 qN HOW
        go_wp2_with (at_builtin;refine aY _ _ rfl (.tmp 60) (.tmp 62) 73 rfl (w.heap.size+2) 77 j0 _ 5 40 Tryz.underlying73 JI.out J0.out J1.out J2.out rfl (by decide) _ _ _ rfl HOWN.out _ rfl rfl rfl ?h1 ?h63 ?hb ?hbase ?_)
        case h1=>exact⟨rfl,rfl,rfl,rfl,rfl⟩
        case h63=>unfold maxLen;omega
        case hb=>omega
        case hbase=>omega
        intro v' w3 hown' hgrow
        have R:=lP.out v' w3 hown' hgrow
        have Kn:Sv.wrap (A+L)=A+L:=by rw [Su];omega
        clear hown' hgrow lP HOWN y0 y1 y2 y3 y4
        go_wp2_with fail
        go_roundw
        case rel=>exact⟨k+1,A+L,by omega,by go_num,(by first|rfl|rw [Kn]),R⟩
        case measure=>simp [intOf];omega
    · obtain rfl:k=xs.length:=by omega
      rw [List.drop_length,sliceAt,List.append_nil] at e1
      obtain⟨⟨va,vc⟩,hv,hnn⟩:=jd.out zs I J e1 _ _ wr e6
      subst hv
      have yL:=h_ hnn
      have HZ:=h_ (show cG zs=bQ xs i j from by rw [HS2.out,e1])
      have G1:=h_ e8
      have hbe:=e9
      have hse:=e9.size
      have l8:=aR e8
      simp only at yL
      clear hnn e1 e2 e3 e4 e5 e6 e7 e8 e9 jd HS2 Du c2 HR jR
      go_wp2_with fail
      refine yL.out.mono ?_
      rintro e w3 ⟨⟨ra,rc,rr⟩,rfl,hr3,hor,hb3⟩
      have z3:=(hb3.block (w.heap.size+1) (by omega)).trans G1.out
      have cN:=hbe.trans (hb3.mono hse)
      have f3:w3.frozen? ⟨w.heap.size+1,0,none⟩=false:=by simp [Ss,z3]
      have c3:w3.cell? ⟨w.heap.size+1,0,none⟩=some (.slice none 0 0):=Sh _ _ 0 _ 75 (0,0) z3
      have r9:=heap_setCell_same w3 (w.heap.size+1) 0 _ 75 (.slice ra rr.length rc) z3
      simp only at hr3 hor
      have Ak:=aB (w':=w3.setCell ⟨w.heap.size+1,0,none⟩ (.slice ra rr.length rc)) hor fun b e=>Sr _ _ _ _ (by have:=(hor.lt b e).1;simp;omega)
      have HF:=h_ (HQ.out (cG zs) HZ.out ⟨ra,rc,rr⟩ _ (w3.setCell ⟨w.heap.size+1,0,none⟩ (.slice ra rr.length rc)) hr3 (by omega) Ak (cN.setCell (by simp) _))
      clear hr3 hor Ak hb3 cN hbe z3 yL HQ HZ G1
      simp only [Row.enc] at *
      go_wp2_with fail
      generalize w3.setCell ⟨w.heap.size+1,0,none⟩ (.slice ra rr.length rc)=w9 at *
      have fin4:∀ j,w9.cell? ⟨w.heap.size+1,j,none⟩=_:=fun j=>Sh _ _ j _ 75 (0,0) r9
      refine Sj (v:=.agg #[.slice ra rr.length rc]) (by simp [results,Tryz.results137,go_sem,fin4]) rfl ?_
      exact HF.out
theorem wY (r:Row)(i j c:Int)(it un:Bool)(w:Si)(hE:Env w)(hr:r.lies w)(hf:r.fits):Sk Tryz.prog 89 #[.agg r.enc.toArray,.int .i64 i,.int .i64 j,.agg #[.int .u8 c,.bool it,.bool un]] w (bZ (gH r.runs i j c it un) w):=by
 have lN:=h_ (fun(w1:Si) (h:Sn w.heap.size w w1)=>eX r w1 (hE.below h (Sp _)) (Row.keeps _ _ _ h hr) hf)
 have CW:=h_ (fun(i j:Int) (w1:Si) (h:Sn w.heap.size w w1)=>lR r i j w1 (hE.below h (Sp _)) (Row.keeps _ _ _ h hr) hf)
 have hrl:-1≤rowLen r.runs∧rowLen r.runs≤4000000:=oS hf
 have JF:r.runs.length≤4000000:=hf.2.1
 have htx:az r.runs≤4000000:=by rw [ij];exact hf.2.2
 have IJ:=h_ (show rowLen r.runs<0→gH r.runs i j c it un=[] from fun h=>by unfold gH;rw [if_pos h])
 have F0:=h_ (show ¬ rowLen r.runs<0→gH r.runs i j c it un=cV (cV (bQ r.runs 0 (limA (rowLen r.runs) i)) ((bQ r.runs (limA (rowLen r.runs) i) (limB (rowLen r.runs) i j)).map (eD c it un))) (bQ r.runs (limB (rowLen r.runs) i j) (rowLen r.runs)) from fun h=>by unfold gH;rw [if_neg h];rfl)
 have HQ:=h_ (fun(y:Row) (B:Nat) (w':Si) (h:y.runs=gH r.runs i j c it un) (hB:w.heap.size≤B) (ho:w'.ownsRow B 77 5 (.slice y.at_ y.runs.length y.cap) y.runs.length (y.runs.flatMap Run.enc)) (hb:Sn w.heap.size w w')=>(show bZ (gH r.runs i j c it un) w (.returned (.agg y.enc.toArray)) w' from⟨y,rfl,h,kW ho hB,hb⟩))
 have cQ:=h_ (box3 w #[.slice r.at_ r.runs.length r.cap] #[.int .u8 c,.bool it,.bool un] #[.slice none 0 0] 75 34 75)
 have hb3:∀ o1 o2 o3:Obj,Sn w.heap.size w (((w.alloc o1).alloc o2).alloc o3):=fun o1 o2 o3=>(((Sq _ _).alloc (Sp _) _).alloc (by simp) _).alloc (by simp;try omega) _
 have db:∀ o1 o2 o3:Obj,w.heap.size+3≤(((w.alloc o1).alloc o2).alloc o3).heap.size:=fun o1 o2 o3=>by simp
 generalize bZ (gH r.runs i j c it un) w=Q at *
 clear hr hf
 obtain⟨ra0,rc0,xs⟩:=r
 simp only at *
 show Sk Tryz.prog 89 #[.agg #[.slice ra0 xs.length rc0],.int .i64 i,.int .i64 j,.agg #[.int .u8 c,.bool it,.bool un]] w Q
 go_enter Tryz.func89,Tryz.ntmps89
 go_upto_region 1 with fail
 have h0:=cQ.out.1
 have h1:=cQ.out.2.1
 have h2:=cQ.out.2.2
 have hbw:=hb3 (.cells #[.slice ra0 xs.length rc0] 75) (.cells #[.int .u8 c,.bool it,.bool un] 34) (.cells #[.slice none 0 0] 75)
 have hsz:=db (.cells #[.slice ra0 xs.length rc0] 75) (.cells #[.int .u8 c,.bool it,.bool un] 34) (.cells #[.slice none 0 0] 75)
 clear cQ hb3 db
 generalize ((w.alloc (.cells #[.slice ra0 xs.length rc0] 75)).alloc (.cells #[.int .u8 c,.bool it,.bool un] 34)).alloc (.cells #[.slice none 0 0] 75)=W0 at *
 have c0:W0.cell? ⟨w.heap.size,0,none⟩=some (.slice ra0 xs.length rc0):=Sh _ _ 0 _ 75 (0,0) h0
 have IP:=h_ (lN.out W0 hbw)
 have H0:=h_ h0
 have H1:=h_ h1
 have H2:=h_ h2
 have bA:=h_ hbw
 clear h0 h1 h2 hbw lN
 generalize La:rowLen xs=RL at *
 go_wp2_with fail
 refine IP.out.mono ?_
 rintro e w1 ⟨rfl,hb1⟩
 have hs1:=hb1.size
 have aK:=bA.out.trans (hb1.mono (by omega))
 have g0:=(hb1.block w.heap.size (by omega)).trans H0.out
 have g1:=(hb1.block (w.heap.size+1) (by omega)).trans H1.out
 have g2:=(hb1.block (w.heap.size+1+1) (by omega)).trans H2.out
 clear IP hb1 bA H0 H1 H2 c0
 by_cases hneg:RL<0
 · have c1:w1.cell? ⟨w.heap.size+1+1,0,none⟩=some (.slice none 0 0):=Sh _ _ 0 _ 75 (0,0) g2
   have f1:w1.frozen? ⟨w.heap.size+1+1,0,none⟩=false:=by simp [Ss,g2]
   have HF:=h_ (HQ.out ⟨none,0,[]⟩ w.heap.size (w1.setCell ⟨w.heap.size+1+1,0,none⟩ (.slice none 0 0)) (IJ.out hneg).symm (Sp _) (St _ _ _ _) (aK.setCell (by simp;omega) _))
   have r9:=heap_setCell_same w1 (w.heap.size+1+1) 0 _ 75 (.slice none 0 0) g2
   clear HQ IJ F0 CW aK g0 g1 g2
   go_wp2_with fail
   generalize w1.setCell ⟨w.heap.size+1+1,0,none⟩ (.slice none 0 0)=w9 at *
   have fin4:∀ j,w9.cell? ⟨w.heap.size+1+1,j,none⟩=_:=fun j=>Sh _ _ j _ 75 (0,0) r9
   refine Sj (v:=.agg #[.slice none 0 0]) (by simp [results,Tryz.results89,go_sem,fin4]) rfl ?_
   exact HF.out
 · have hpos:0≤RL:=by omega
   have Fz:=h_ (F0.out (by omega))
   have G0:=h_ g0
   have G1:=h_ g1
   have G2:=h_ g2
   have jS:=h_ aK
   clear IJ F0 g0 g1 g2 aK hneg
   go_wp2_with fail
   refine(jK RL i j w1).mono ?_
   rintro e w_ ⟨rfl,bn⟩
   rw [bn]
   clear bn w_
   have Om:0≤limA RL i∧limA RL i≤RL:=by simp only [limA];omega
   have Ol:limA RL i≤limB RL i j∧limB RL i j≤RL:=by simp only [limB,limA];omega
   have Ba:=h_ (CW.out (limA RL i) (limB RL i j) w1 jS.out)
   generalize limA RL i=I at *
   generalize limB RL i j=J at *
   have c1:w1.cell? ⟨w.heap.size,0,none⟩=some (.slice ra0 xs.length rc0):=Sh _ _ 0 _ 75 (0,0) G0.out
   go_wp2_with fail
   refine Ba.out.mono ?_
   rintro e w2 ⟨⟨ma,mc,ms⟩,rfl,hms,hmo,hb2⟩
   simp only at hms hmo
   have JV:=h_ hms
   have NT:ms.length≤4000000:=by rw [hms];exact Nat.le_trans (ji _ _ _) JF
   clear Ba c1 hms
   have hs2:=hb2.size
   have hbw2:=jS.out.trans (hb2.mono (by omega))
   have g0:=(hb2.block w.heap.size (by omega)).trans G0.out
   have g1:=(hb2.block (w.heap.size+1) (by omega)).trans G1.out
   have g2:=(hb2.block (w.heap.size+1+1) (by omega)).trans G2.out
   clear G0 G1 G2 jS hb2
   simp only [Row.enc]
   go_upto_region 6 with fail
   have gn:Sn w2.heap.size w2 (w2.alloc (.cells #[.slice ma ms.length mc] 75)):=(Sq _ _).alloc (Sp _) _
   have hA:=Sm w2 (.cells #[.slice ma ms.length mc] 75)
   have hlA:w2.heap.size<(w2.alloc (.cells #[.slice ma ms.length mc] 75)).heap.size:=by simp
   generalize w2.alloc (.cells #[.slice ma ms.length mc] 75)=W at *
   obtain⟨gm,hgm⟩:∃ g,g=w2.heap.size:=⟨_,rfl⟩
   rw [←hgm] at hA hlA ⊢
   have N4:w2.heap.size≤gm:=by omega
   clear hgm
   have Ch:=gn.size
   have c0:W.cell? ⟨gm,0,none⟩=some (.slice ma ms.length mc):=Sh _ _ 0 _ 75 (0,0) hA
   have MZ:=h_ (aJ hmo gn)
   have yK:=h_ (fun b (e:(Sw ma ms.length mc).ownBlock=some b)=>(show w1.heap.size≤b∧b<w2.heap.size from hmo.lt b e))
   have p0:=(gn.block w.heap.size (by omega)).trans g0
   have p1:=(gn.block (w.heap.size+1) (by omega)).trans g1
   have p2:=(gn.block (w.heap.size+1+1) (by omega)).trans g2
   have oc:=hbw2.trans (gn.mono (by omega))
   have P0:=h_ p0
   have P1:=h_ p1
   have P2:=h_ p2
   have PM:=h_ hA
   have bA:=h_ oc
   clear g0 g1 g2 hbw2 gn hA p0 p1 p2 oc hmo
   go_wp2_with fail
   go_loopw [31] (fun kv wr=>∃ (k:Nat) (zs:List Run),k≤ms.length∧kv=.int .i64 k∧dN (eD c it un) ms zs k∧wr.ownsRow w1.heap.size 77 5 (.slice ma ms.length mc) ms.length (zs.flatMap Run.enc)∧Kept (fun b=>(Sw ma ms.length mc).ownBlock=some b) W wr) (fun kv _=>ms.length-(intOf kv).toNat)
   case atStart=>exact⟨0,ms,by omega,rfl,dN.start _ _,MZ.out,Kept.refl _ _⟩
   case round =>
    clear MZ c0
    obtain⟨k,zs,hk,rfl,hup,how,hkp⟩:=hrel
    have hsk:=hkp.size
    have hnb:∀ b,b<w1.heap.size→¬ (Sw ma ms.length mc).ownBlock=some b:=fun b hb e=>by have:=yK.out b e;omega
    have cm:wr.cell? ⟨gm,0,none⟩=some (.slice ma ms.length mc):=Sh _ _ 0 _ 75 (0,0) ((hkp.block gm (by omega) (fun e=>by have:=yK.out gm e;omega)).trans PM.out)
    by_cases hlt:k<ms.length
    · have q1:=(hkp.block (w.heap.size+1) (by omega) (hnb _ (by omega))).trans P1.out
      have e0:wr.cell? ⟨w.heap.size+1,0,none⟩=some (.int .u8 c):=Sh _ _ 0 _ 34 (0,0) q1
      have e1:wr.cell? ⟨w.heap.size+1,1,none⟩=some (.bool it):=Sh _ _ 1 _ 34 (0,0) q1
      have e2:wr.cell? ⟨w.heap.size+1,2,none⟩=some (.bool un):=Sh _ _ 2 _ 34 (0,0) q1
      obtain⟨gb,cp,he⟩:=dw how (by omega)
      simp only [Sw.injEq,true_and] at he
      obtain⟨rfl,rfl⟩:=he
      have hx:ms[k]? =some ms[k]:=List.getElem?_eq_getElem hlt
      generalize ms[k]=x at hx
      have qf:=hup.at_ hx
      have hgb:=how.lt gb rfl
      have fP:∀ j v,x.enc[j]? =some v→wr.cell? ⟨gb,k*5+j,none⟩=some v:=fun j v hv=>by
       have hj:j<5:=(List.getElem?_eq_some_iff.1 hv).1
       rw [how.cellAt (k*5+j) (by omega)]
       exact cD Run.enc 5 (fun _=>rfl) zs k x j _ qf hv
      have z1:=fP 1 _ rfl;have z2:=fP 2 _ rfl;have z3:=fP 3 _ rfl
      have fz:∀ j,wr.frozen? ⟨gb,j,none⟩=false:=fun j=>how.frozenAt j
      have R:=h_ (show ∃ zs',dN (eD c it un) ms zs' (k+1)∧(((wr.setCell ⟨gb,k*5+1,none⟩ (.int .u8 c)).setCell ⟨gb,k*5+2,none⟩ (.bool it)).setCell ⟨gb,k*5+3,none⟩ (.bool un)).ownsRow w1.heap.size 77 5 (.slice (some ⟨gb,0,none⟩) ms.length mc) ms.length (zs'.flatMap Run.enc)∧Kept (fun b=>(Sw (some ⟨gb,0,none⟩) ms.length mc).ownBlock=some b) W (((wr.setCell ⟨gb,k*5+1,none⟩ (.int .u8 c)).setCell ⟨gb,k*5+2,none⟩ (.bool it)).setCell ⟨gb,k*5+3,none⟩ (.bool un)) from
       ⟨_,hup.step hx,zy c it un how qf,((hkp.setCell (p:=⟨gb,k*5+1,none⟩) (.inr rfl) _).setCell (p:=⟨gb,k*5+2,none⟩) (.inr rfl) _).setCell (p:=⟨gb,k*5+3,none⟩) (.inr rfl) _⟩)
      clear hup how hkp fP hx qf q1
      go_wp2_with fail
      obtain⟨zs',q1,q2,q3⟩:=R.out
      exact⟨⟨k+1,zs',by omega,by go_num,q1,q2,q3⟩,by simp [intOf];omega⟩
    · obtain rfl:k=ms.length:=by omega
      obtain rfl:=hup.all
      have M0:=h_ (fun(v:Si) (h:Sn wr.heap.size wr v)=>(show Runs v ma (ms.map (eD c it un)) from by
       have h2:=aJ how h
       obtain⟨a',c',he,hS⟩:=aA (k:=5) (enc:=Run.enc) (Ok:=Flat) (xs:=ms.map (eD c it un)) (fun _=>rfl) (by rw [Sx];exact h2) (fun _ _=>trivial)
       simp only [Sw.injEq] at he
       obtain⟨rfl,_,_⟩:=he
       exact hS))
      have r0:=(hkp.block w.heap.size (by omega) (hnb _ (by omega))).trans P0.out
      have r2:=(hkp.block (w.heap.size+1+1) (by omega) (hnb _ (by omega))).trans P2.out
      have px:=h_ (bA.out.trans (hkp.below (by omega) fun b hb=>hnb b (by omega)))
      have hse:=px.out.size
      have c0:wr.cell? ⟨w.heap.size,0,none⟩=some (.slice ra0 xs.length rc0):=Sh _ _ 0 _ 75 (0,0) r0
      have Z3:=h_ r2
      have Fu:=h_ (fun(p q:Int) (v:Si) (h:Sn wr.heap.size wr v)=>(show Sk Tryz.prog 137 #[.agg #[.slice ra0 xs.length rc0],.int .i64 p,.int .i64 q] v (bZ (bQ xs p q) v) from CW.out p q v (px.out.trans (h.mono hse))))
      have O2:=h_ (fun(ya:Option Addr) (yc:Nat) (ys:List Run) (v:Si) (h:Sn wr.heap.size wr v) (hl:Runs v ya ys) (hr:ys=bQ xs 0 I)=>(show Sk Tryz.prog 138 #[.agg #[.slice ya ys.length yc],.agg #[.slice ma ms.length mc]] v (bZ (cV ys (ms.map (eD c it un))) v) from by
       have q1:=ji xs 0 I
       have q2:=gS xs 0 I
       have q3:=gS xs I J
       have:=kp ⟨ya,yc,ys⟩ ⟨ma,mc,ms.map (eD c it un)⟩ v hl (M0.out v h) (by show ys.length≤_;rw [hr];omega) (by show(ms.map _).length≤_;rw [Sx];omega) (by show az ys+az (ms.map _)≤_;rw [iw,hr,JV.out];omega)
       simp only [Row.enc,Sx] at this
       exact this))
      have BA:=h_ (fun(ya:Option Addr) (yc:Nat) (ys:List Run) (za:Option Addr) (zc:Nat) (zs:List Run) (v:Si) (h:Sn wr.heap.size wr v) (hl:Runs v ya ys) (hl2:Runs v za zs) (hr:ys=cV (bQ xs 0 I) (ms.map (eD c it un))) (hz:zs=bQ xs J RL)=>(show Sk Tryz.prog 138 #[.agg #[.slice ya ys.length yc],.agg #[.slice za zs.length zc]] v (bZ (cV ys zs) v) from by
       have q1:=ji xs 0 I
       have q2:=gS xs 0 I
       have q3:=gS xs I J
       have q4:=ji xs J RL
       have q5:=gS xs J RL
       have q6:=uU (bQ xs 0 I) (ms.map (eD c it un))
       have q7:=jP (bQ xs 0 I) (ms.map (eD c it un))
       rw [Sx] at q6
       rw [iw,JV.out] at q7
       exact kp ⟨ya,yc,ys⟩ ⟨za,zc,zs⟩ v hl hl2 (by show ys.length≤_;rw [hr];omega) (by show zs.length≤_;rw [hz];omega) (by show az ys+az zs≤_;rw [hz,hr,JV.out,q7];omega)))
      have ic:=h_ (fun(v:Si) (h:Sn wr.heap.size wr v)=>(show Kept (fun b=>b=w.heap.size+1+1) wr v from Kept.of_below h))
      have jo:=h_ (fun(v:Si) (h:Kept (fun b=>b=w.heap.size+1+1) wr v)=>(show v.cell? ⟨w.heap.size,0,none⟩=some (.slice ra0 xs.length rc0)∧v.cell? ⟨gm,0,none⟩=some (.slice ma ms.length mc) from
       ⟨Sh _ _ 0 _ 75 (0,0) ((h.block w.heap.size (by omega) (by omega)).trans r0),Sh _ _ 0 _ 75 (0,0) ((h.block gm (by omega) (by omega)).trans ((hkp.block gm (by omega) (fun e=>by have:=yK.out gm e;omega)).trans PM.out))⟩))
      clear how hkp hnb r0 r2 hup CW P0 P1 P2 PM bA yK M0
      go_upto_region 11 with fail
      clear cm c0
      have hd0:Sn wr.heap.size wr wr.drew:=(Sq _ _).drew
      refine wp_region_held_drew (S:=fun w'=>Kept (fun b=>b=w.heap.size+1+1) wr w') (by kernel_rfl) (ic.out _ hd0) (fun _=>?_)
      generalize wr.drew=v0 at *
      refine ab 0 (.agg #[.slice ra0 xs.length rc0]) (ic.out _ hd0) ?_ (hy:=.inl ⟨by rfl,fun w_ aH=>by have q_:=(jo.out w_ aH).1;go_simp⟩)
      refine ab 1 (.int .i64 I) (ic.out _ hd0) ?_
      refine ab 3 (.agg #[.slice ma ms.length mc]) (ic.out _ hd0) ?_ (hy:=.inl ⟨by rfl,fun w_ aH=>by have q_:=(jo.out w_ aH).2;go_simp⟩)
      refine ab 5 (.agg #[.slice ra0 xs.length rc0]) (ic.out _ hd0) ?_ (hy:=.inl ⟨by rfl,fun w_ aH=>by have q_:=(jo.out w_ aH).1;go_simp⟩)
      refine ab 6 (.int .i64 J) (ic.out _ hd0) ?_
      refine ab 7 (.int .i64 RL) (ic.out _ hd0) ?_
      refine aq 2 (fun K hK=>?_)
      go_simp
      refine(Fu.out 0 I v0 hd0).mono ?_
      rintro e_ v1 ⟨⟨y1a,y1c,y1s⟩,rfl,El,Gy,ar⟩
      simp only at El Gy
      have hv1:Sn wr.heap.size wr v1:=ak hd0 ar
      have hs1:=hv1.size
      have hl1:=mG Gy
      clear ar
      have Ln:=h_ El
      clear El
      simp only [Row.enc]
      go_wp2_with fail
      refine goOn hK (ic.out _ hv1) ?_
      clear hK
      refine aq 4 (fun K hK=>?_)
      go_simp
      refine(O2.out y1a y1c y1s v1 hv1 hl1 Ln.out).mono ?_
      rintro e_ v2 ⟨⟨y2a,y2c,y2s⟩,rfl,Ek,Gx,ar⟩
      simp only at Ek Gx
      have hv2:Sn wr.heap.size wr v2:=ak hv1 ar
      have hs2:=hv2.size
      have hl2:=mG Gx
      clear ar
      have MJ:=h_ Ek
      clear Ek
      simp only [Row.enc]
      go_wp2_with fail
      refine goOn hK (ic.out _ hv2) ?_
      clear hK
      refine aq 8 (fun K hK=>?_)
      go_simp
      refine(Fu.out J RL v2 hv2).mono ?_
      rintro e_ v3 ⟨⟨y3a,y3c,y3s⟩,rfl,Ej,Gw,ar⟩
      simp only at Ej Gw
      have hv3:Sn wr.heap.size wr v3:=ak hv2 ar
      have hs3:=hv3.size
      have hl3:=mG Gw
      replace hl2:=Runs.later hl2 ar
      clear ar
      have MI:=h_ Ej
      clear Ej
      simp only [Row.enc]
      go_wp2_with fail
      refine goOn hK (ic.out _ hv3) ?_
      clear hK
      refine aq 9 (fun K hK=>?_)
      go_simp
      refine(BA.out y2a y2c y2s y3a y3c y3s v3 hv3 hl2 hl3 (by rw [MJ.out,Ln.out]) MI.out).mono ?_
      rintro e_ v4 ⟨⟨y4a,y4c,y4s⟩,rfl,Eh,Ei,ar⟩
      simp only at Eh Ei
      have hv4:Sn wr.heap.size wr v4:=ak hv3 ar
      have hs4:=hv4.size
      clear ar
      have OF:=h_ Eh
      clear Eh
      simp only [Row.enc]
      go_wp2_with fail
      refine goOn hK (ic.out _ hv4) ?_
      clear hK
      refine aq 10 (fun K hK=>?_)
      have z4:=((hv4).block (w.heap.size+1+1) (by omega)).trans Z3.out
      have c4:v4.cell? ⟨w.heap.size+1+1,0,none⟩=some (.slice none 0 0):=Sh _ _ 0 _ 75 (0,0) z4
      have f4:v4.frozen? ⟨w.heap.size+1+1,0,none⟩=false:=by simp [Ss,z4]
      go_simp
      have hst:Kept (fun b=>b=w.heap.size+1+1) wr (v4.setCell ⟨w.heap.size+1+1,0,none⟩ (.slice y4a y4s.length y4c)):=(ic.out _ hv4).setCell (p:=⟨w.heap.size+1+1,0,none⟩) (.inr rfl) _
      refine goOn hK hst ?_
      clear hK
      refine wpAnyH_done (by kernel_rfl) ?_ _
      have r9:=heap_setCell_same v4 (w.heap.size+1+1) 0 _ 75 (.slice y4a y4s.length y4c) z4
      have Dn:=aB (w':=v4.setCell ⟨w.heap.size+1+1,0,none⟩ (.slice y4a y4s.length y4c)) Ei fun b e=>Sr _ _ _ _ (by have:=(Ei.lt b e).1;simp;omega)
      have HF:=h_ (HQ.out ⟨y4a,y4c,y4s⟩ _ _ (by rw [Fz.out];show y4s=_;rw [OF.out,MJ.out,Ln.out,MI.out,JV.out]) (by omega) Dn ((px.out.trans (hv4.mono (by omega))).setCell (by simp;omega) _))
      clear hst c4 f4 Dn z4 HQ jo
      generalize v4.setCell ⟨w.heap.size+1+1,0,none⟩ (.slice y4a y4s.length y4c)=w9 at *
      simp only [Row.enc] at HF
      have fin4:∀ j,w9.cell? ⟨w.heap.size+1+1,j,none⟩=_:=fun j=>Sh _ _ j _ 75 (0,0) r9
      go_wp2_with fail
      refine Sj (v:=.agg #[.slice y4a y4s.length y4c]) (by simp [results,Tryz.results89,go_sem,fin4]) rfl ?_
      exact HF.out
end Go.Proofs.YtjebaagkomejaaaGreatDoor
