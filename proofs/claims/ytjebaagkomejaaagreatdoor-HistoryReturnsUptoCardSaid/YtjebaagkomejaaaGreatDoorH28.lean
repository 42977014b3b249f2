/- style.norm: runes in normal form. slices.Concat of two slices of runs; style.Concat. -/
import Derived.Test.YtjebaagkomejaaaGreatDoorH19
import Derived.Test.YtjebaagkomejaaaGreatDoorH20
set_option linter.unusedVariables false
set_option linter.unusedSimpArgs false
set_option maxRecDepth 100000
set_option maxHeartbeats 12800000
open Go.Lib renaming hid→h_
open List renaming setIfInBounds_toArray→YA,getElem_cons_zero→YB,getElem_cons_succ→YC,getElem_toArray→YD,set_cons_zero→YE,set_cons_succ→YF
open Array renaming toArray_toList→YG
open Go renaming cell_of_row→Sh,World→Si,rounds_succ→Sj,heap_alloc_last→Sk,Value→Sl
open Go.RowKit renaming Below→Sm
open Go.RowKit.Below renaming refl→Sn,heap_setCell→Sp
open Nat renaming le_refl→Sq,le_trans→Sr,add_zero→Ss
open List renaming length_eq_zero_iff→St,mem_of_getElem?→Su
open Go.World renaming frozen?→Sv
namespace Go.Proofs.YtjebaagkomejaaaGreatDoor
open Go.RowKit
theorem oV (a:Option Addr)(cap:Nat)(l:List Run)(w:Si)(h:Runs w a l)(hl:l.length≤40000000)(hs:az l≤2305843009213693952):Calls Tryz.prog 190 #[.slice a l.length cap] w (qK l w):=by
 obtain⟨j0,hj,hy0,hy1,hy2⟩:=info_parts Tryz.info77
 have JI:=h_ hj;have J0:=h_ hy0;have J1:=h_ hy1;have J2:=h_ hy2
 clear hj hy0 hy1 hy2
 have HL:=h_ h
 have HS:=h_ hs
 have HQ:=h_ (fun(av:Option Addr) (cv:Nat) (w':Si) (ho:w'.ownsRow w.heap.size 77 5 (.slice av (cG l).length cv) (cG l).length ((cG l).flatMap Run.enc)) (hb:Sm w.heap.size w w')=>(show qK l w (.returned (.agg #[.slice av (cG l).length cv])) w' from⟨⟨av,cv,cG l⟩,rfl,rfl,ho,hb⟩))
 have H0:=h_ (show gN l w 0 ((w.alloc (.cells #[.slice none 0 0] 75)).alloc (.cells #[.slice none 0 0] 75)) from⟨none,0,by
  have:=Sk (w.alloc (.cells #[.slice none 0 0] 75)) (.cells #[.slice none 0 0] 75)
  rw [Si.size_alloc] at this
  exact this,Si.ownsRow_nil _ _ _ _,(heap_alloc_old _ _ (by simp)).trans (Sk _ _),((Sn _ _).alloc (Sq _) _).alloc (by simp) _⟩)
 generalize qK l w=Q at *
 clear h hs
 go_enter Tryz.func190,Tryz.ntmps190
 go_wp2_with fail
 go_loopw [9] (fun i wr=>∃ k:Nat,k≤l.length∧i=.int .i64 k∧gN l w k wr) (fun i _=>l.length-(intOf i).toNat)
 case atStart=>exact⟨0,by omega,rfl,H0.out⟩
 case round =>
  clear H0
  obtain⟨k,hk,rfl,hrel⟩:=hrel
  have hbe:Sm w.heap.size w wr:=by obtain⟨_,_,_,_,_,h⟩:=hrel;exact h
  by_cases hlt:k<l.length
  · obtain⟨b,off,x,rfl,hbl,hx,hc,_⟩:=ah.at_ (HL.out.later hbe) hlt
    have ym:=h_ hrel
    have HX:=h_ hx
    have HN:=h_ (kM l k x hx)
    have hnl:=gG l k
    have hts:az (cG (l.take k))≤2305843009213693952:=by rw [gF];exact Sr (mj l k) HS.out
    have htx:x.text.size≤2305843009213693952:=Sr (ik l x (Su hx)) HS.out
    obtain⟨av,cv,h1,h2,h3,h4⟩:=hrel
    have l1:=aR h1
    have hs4:=h4.size
    have HH:=h_ (And.intro h1 (And.intro h2 (And.intro h3 h4)))
    generalize hzs:cG (l.take k)=zs at *
    have Ph:=h_ hzs
    have HE:=h_ (show x.enc=x.enc from rfl)
    have hxe:x=⟨x.text,x.color,x.it,x.un,x.ruby⟩:=rfl
    have FN:=h_ (fun(y:Run) (w1:Si)=>nC y x w1)
    have qN:=h_ (fun(zs':List Run) (hz:zs'=zs++[x]) (w2 w3:Si) (v':Sl) (hb:Sm wr.heap.size wr w2) (hown:w3.ownsRow (w.heap.size+2) 77 5 v' (zs.length+1) (zs.flatMap Run.enc++x.enc.toArray.toList)) (hg:(w2.alloc (.cells x.enc.toArray 77)).grownBy w3 (Sl.slice av zs.length cv).ownBlock)=>zH (cs:=x.enc.toArray) rfl hz HH.out.1 HH.out.2.1 HH.out.2.2.1 HH.out.2.2.2 hb hown hg)
    have wm:=h_ (fun(h:x.text.size=0)=>HN.out.trans (iW h))
    have qQ:=h_ (fun(h:¬ x.text.size=0) (h0:zs=[])=>HN.out.trans (h0▸iv h))
    have wq:=h_ (fun(h:¬ x.text.size=0) (y:Run) (hy:zs[zs.length-1]? =some y) (ha:eB y x=true)=>HN.out.trans (iX h hy ha))
    have qO:=h_ (fun(h:¬ x.text.size=0) (y:Run) (hy:zs[zs.length-1]? =some y) (ha:eB y x=false)=>HN.out.trans (iu h hy ha))
    clear hxe HE hx HN hzs h1 h2 h3 h4 hbe
    obtain⟨t,c,i,u,ru⟩:=x
    have d0:=hc 0 _ rfl;have d1:=hc 1 _ rfl;have d2:=hc 2 _ rfl;have d3:=hc 3 _ rfl;have d4:=hc 4 _ rfl
    simp only [Ss,Run.enc] at d0 d1 d2 d3 d4
    clear hc
    go_upto_block 1 with fail
    go_cut [5,6] from 11 to 50 (fun _ _ wx=>gN l w (k+1) wx)
    case first =>
     go_upto_region 5 with fail
     have hbW:Sm wr.heap.size wr (wr.alloc (.cells #[.string t,.int .u8 c,.bool i,.bool u,.string ru] 77)):=(Sn _ _).alloc (Sq _) _
     have pW:=Sk wr (.cells #[.string t,.int .u8 c,.bool i,.bool u,.string ru] 77)
     have Ch:wr.heap.size+1≤(wr.alloc (.cells #[.string t,.int .u8 c,.bool i,.bool u,.string ru] 77)).heap.size:=by simp
     generalize wr.alloc (.cells #[.string t,.int .u8 c,.bool i,.bool u,.string ru] 77)=W1 at *
     obtain⟨gx,hgx⟩:∃ g,g=wr.heap.size:=⟨_,rfl⟩
     have Pm:=h_ hgx
     rw [←hgx] at pW ⊢
     have HW1:=h_ hbW
     have c1:W1.cell? ⟨w.heap.size+1,0,none⟩=some (.slice av zs.length cv):=Sh _ _ 0 _ 75 (0,0) ((hbW.block _ l1).trans HH.out.1)
     have x0:W1.cell? ⟨gx,0,none⟩=some (.string t):=Sh _ _ 0 _ 77 (0,0) pW
     have hg1:wr.heap.size≤gx:=by omega
     have hg2:gx+1≤W1.heap.size:=by have:=aR pW;omega
     clear hbW hgx d0 d1 d2 d3 d4 Ch
     by_cases hte:t.size=0
     · have htn:t.toList.isEmpty=true:=by rw [lu];simpa using hte
       have R:gN l w (k+1) W1:=by
        obtain⟨a1,a2,a3,a4⟩:=HH.out
        exact gN.below ⟨av,cv,by rw [wm.out hte];exact a1,by rw [wm.out hte];exact a2,a3,a4⟩ HW1.out
       clear wm qQ wq qO qN HH FN
       go_wp2_with fail
       go_meet
       exact R
     · have htn:t.toList.isEmpty=false:=by rw [lu];simpa using hte
       have Lt:=h_ hte
       have x1:W1.cell? ⟨gx,1,none⟩=some (.int .u8 c):=Sh _ _ 1 _ 77 (0,0) pW
       have x2:W1.cell? ⟨gx,2,none⟩=some (.bool i):=Sh _ _ 2 _ 77 (0,0) pW
       have x3:W1.cell? ⟨gx,3,none⟩=some (.bool u):=Sh _ _ 3 _ 77 (0,0) pW
       have x4:W1.cell? ⟨gx,4,none⟩=some (.string ru):=Sh _ _ 4 _ 77 (0,0) pW
       clear hte wm
       rcases Nat.eq_zero_or_pos zs.length with hz|hz
       · have hkd:decide (0<zs.length)=false:=decide_eq_false (by omega)
         have lP:=h_ (fun(w2 w3:Si) (v':Sl) (hb:Sm wr.heap.size wr w2)=>qN.out (cG (l.take (k+1))) ((qQ.out Lt.out (St.1 hz)).trans (by rw [St.1 hz])) w2 w3 v' hb)
         clear qQ wq qO FN qN hz
         go_wp2_with fail
         go_quiet (fail)
         have HB2:=h_ (HW1.out.trans ((Go.below_drewN (Sn W1.heap.size W1) nq).mono (by omega)))
         have PW2:=h_ (show(W1.drewN nq).heap[gx]? =_ from pW)
         clear c1 x0 x1 x2 x3 x4 pW HW1
         generalize W1.drewN nq=W2 at *
         have hb2:Sm wr.heap.size wr W2:=HB2.out
         have hsb:=hb2.size
         have ti:=h_ (aJ HH.out.2.1 hb2)
         have Bi:=h_ (fun(v':Sl) (w3:Si)=>lP.out W2 w3 v' hb2)
         have c2:W2.cell? ⟨w.heap.size+1,0,none⟩=some (.slice av zs.length cv):=Sh _ _ 0 _ 75 (0,0) ((hb2.block _ l1).trans HH.out.1)
         have x0':W2.cell? ⟨gx,0,none⟩=some (.string t):=Sh _ _ 0 _ 77 (0,0) PW2.out
         have x1':W2.cell? ⟨gx,1,none⟩=some (.int .u8 c):=Sh _ _ 1 _ 77 (0,0) PW2.out
         have x2':W2.cell? ⟨gx,2,none⟩=some (.bool i):=Sh _ _ 2 _ 77 (0,0) PW2.out
         have x3':W2.cell? ⟨gx,3,none⟩=some (.bool u):=Sh _ _ 3 _ 77 (0,0) PW2.out
         have x4':W2.cell? ⟨gx,4,none⟩=some (.string ru):=Sh _ _ 4 _ 77 (0,0) PW2.out
         clear lP PW2 HB2 hb2
         go_wp2_with (at_builtin;refine aY _ _ rfl (.tmp 17) (.tmp 19) 73 rfl (w.heap.size+2) 77 j0 _ 5 40 Tryz.underlying73 JI.out J0.out J1.out J2.out rfl (by decide) _ _ _ rfl ti.out _ rfl rfl rfl ?h1 ?h63 ?hb ?hbase ?_)
         case h1=>exact⟨rfl,rfl,rfl,rfl,rfl⟩
         case h63=>unfold maxLen;omega
         case hb=>omega
         case hbase=>have:=HH.out.2.2.2.size;omega
         intro v' w3 hown' hgrow
         have h3:=Bi.out v' w3 hown' hgrow
         have f3:w3.frozen? ⟨w.heap.size+1,0,none⟩=false:=by simp [Sv,h3.1]
         have c3:w3.cell? ⟨w.heap.size+1,0,none⟩=some (.slice av zs.length cv):=Sh _ _ 0 _ 75 (0,0) h3.1
         obtain⟨av',cv',rfl⟩:=j5 hown'
         have R:=vH h3.1 h3.2.1 h3.2.2.1 h3.2.2.2
         clear hown' hgrow ti Bi h3 HH c2 x0' x1' x2' x3' x4'
         go_wp2_with fail
         go_meet
         exact R
       · obtain⟨m,hm⟩:∃ m,zs.length=m+1:=⟨zs.length-1,by omega⟩
         have hy:zs[m]? =some zs[m]:=List.getElem?_eq_getElem (by omega)
         generalize zs[m]=y at hy
         obtain⟨zb,zc,he⟩:=dw HH.out.2.1 (by omega)
         simp only [Sl.slice.injEq,true_and] at he
         obtain⟨FQ, -⟩:=he
         have hown1:=aJ HH.out.2.1 HW1.out
         have hzb:=hown1.lt zb (by rw [FQ];rfl)
         have O4:=HH.out.2.1.lt zb (by rw [FQ];rfl)
         have fP:∀ j v,y.enc[j]? =some v→W1.cell? ⟨zb,m*5+j,none⟩=some v:=fun j v hv=>by
          have hj:j<5:=(List.getElem?_eq_some_iff.1 hv).1
          rw [FQ] at hown1
          rw [hown1.cellAt (m*5+j) (by omega)]
          exact cD Run.enc 5 (fun _=>rfl) zs m y j _ hy hv
         have hkd:decide (0<zs.length)=true:=decide_eq_true hz
         have hwr:IntKind.i64.wrap ((zs.length:Int)-1)=(m:Int):=by rw [IntKind.wrap_i64];omega
         have hmz:(m:Int)<(zs.length:Int):=by omega
         have O_:m<zs.length:=by omega
         have Kp:y.text.size≤az zs:=ik zs y (Su hy)
         have hmm:zs.length-1=m:=by omega
         have qP:=h_ (fun(ha:eB y ⟨t,c,i,u,ru⟩=true)=>(wq.out Lt.out y (by rw [hmm];exact hy) ha).trans (by rw [hmm]))
         have wj:=h_ (fun(ha:eB y ⟨t,c,i,u,ru⟩=false)=>qO.out Lt.out y (by rw [hmm];exact hy) ha)
         have Jv:=h_ (fun(w1:Si)=>FN.out y w1)
         have C3:=h_ (fun(v0:Si) (ho:v0.ownsRow (w.heap.size+2) 77 5 (.slice (some ⟨zb,0,none⟩) zs.length cv) zs.length (zs.flatMap Run.enc))=>fN (enc:=Run.enc) (y:={ y with text:=y.text++t }) (v:=.string (y.text++t)) (j:=0) (fun _=>rfl) ho hy rfl (by omega))
         have Jr:=h_ FQ
         clear wq qO qQ FN hown1 hy hmm hm
         generalize eB y ⟨t,c,i,u,ru⟩=AL at *
         obtain⟨yt,yc,yi,yu,yr⟩:=y
         have y0:=fP 0 _ rfl;have y1:=fP 1 _ rfl;have y2:=fP 2 _ rfl;have y3:=fP 3 _ rfl;have y4:=fP 4 _ rfl
         simp only [Ss,Run.enc] at y0 y1 y2 y3 y4 Kp htx
         rw [FQ] at c1
         clear fP FQ
         go_upto_region 8 with fail
         go_cut [26] from 27 to 38 (fun v wx=>v=.bool AL∧Sm W1.heap.size W1 wx)
         case first =>
          clear qP wj qN HH C3 HW1
          go_wp2_with fail
          have hbd:Sm W1.heap.size W1 W1.drew:=(Sn _ _).drew
          go_region_with (go_at_call 183;refine(Jv.out _).mono ?_;rintro e w4 ⟨rfl,hb4⟩;replace hb4:Sm W1.heap.size W1 w4:=hbd.trans (hb4.mono hbd.size))
          all_goals
           go_wp2_with fail
           go_meet
           exact⟨rfl,hb4⟩
         case rest =>
          obtain⟨rfl,hbc⟩:=hcut
          obtain⟨W2,hW2⟩:∃ x,x=wc:=⟨_,rfl⟩
          subst hW2
          have HB2:=h_ (HW1.out.trans (hbc.mono (by omega)))
          have PW2:=h_ ((hbc.block gx (by omega)).trans pW)
          have hsc:=hbc.size
          have yt2:W2.cell? ⟨zb,m*5,none⟩=some (.string yt):=(hbc.cell (p:=⟨zb,m*5,none⟩) (by simp only;omega)).trans y0
          clear c1 x0 x1 x2 x3 x4 y0 y1 y2 y3 y4 pW HW1 hbc Jv
          cases AL with
          | false =>
            have lP:=h_ (fun(w2 w3:Si) (v':Sl) (hb:Sm wr.heap.size wr w2)=>qN.out (cG (l.take (k+1))) (wj.out (by first|rfl|trivial)) w2 w3 v' hb)
            clear qN qP wj C3 yt2
            have hb2:Sm wr.heap.size wr W2:=HB2.out
            have hsb:=hb2.size
            have ti:=h_ (aJ HH.out.2.1 hb2)
            have Bi:=h_ (fun(v':Sl) (w3:Si)=>lP.out W2 w3 v' hb2)
            have c2:W2.cell? ⟨w.heap.size+1,0,none⟩=some (.slice av zs.length cv):=Sh _ _ 0 _ 75 (0,0) ((hb2.block _ l1).trans HH.out.1)
            have x0':W2.cell? ⟨gx,0,none⟩=some (.string t):=Sh _ _ 0 _ 77 (0,0) PW2.out
            have x1':W2.cell? ⟨gx,1,none⟩=some (.int .u8 c):=Sh _ _ 1 _ 77 (0,0) PW2.out
            have x2':W2.cell? ⟨gx,2,none⟩=some (.bool i):=Sh _ _ 2 _ 77 (0,0) PW2.out
            have x3':W2.cell? ⟨gx,3,none⟩=some (.bool u):=Sh _ _ 3 _ 77 (0,0) PW2.out
            have x4':W2.cell? ⟨gx,4,none⟩=some (.string ru):=Sh _ _ 4 _ 77 (0,0) PW2.out
            clear lP PW2 HB2 hb2
            go_wp2_with (at_builtin;refine aY _ _ rfl (.tmp 17) (.tmp 19) 73 rfl (w.heap.size+2) 77 j0 _ 5 40 Tryz.underlying73 JI.out J0.out J1.out J2.out rfl (by decide) _ _ _ rfl ti.out _ rfl rfl rfl ?h1 ?h63 ?hb ?hbase ?_)
            case h1=>exact⟨rfl,rfl,rfl,rfl,rfl⟩
            case h63=>unfold maxLen;omega
            case hb=>omega
            case hbase=>have:=HH.out.2.2.2.size;omega
            intro v' w3 hown' hgrow
            have h3:=Bi.out v' w3 hown' hgrow
            have f3:w3.frozen? ⟨w.heap.size+1,0,none⟩=false:=by simp [Sv,h3.1]
            have c3:w3.cell? ⟨w.heap.size+1,0,none⟩=some (.slice av zs.length cv):=Sh _ _ 0 _ 75 (0,0) h3.1
            obtain⟨av',cv',rfl⟩:=j5 hown'
            have R:=vH h3.1 h3.2.1 h3.2.2.1 h3.2.2.2
            clear hown' hgrow ti Bi h3 HH c2 x0' x1' x2' x3' x4'
            go_wp2_with fail
            go_meet
            exact R
          | true =>
            have HZ:=h_ (qP.out (by first|rfl|trivial))
            have hb2:=HB2.out
            have hcx:¬ 9223372036854775807<yt.size+t.size:=by omega
            have ho2:=aJ HH.out.2.1 hb2
            have HP:=h_ (fun(v0:Si) (hd0:Kept (fun b=>b=zb) W2 v0) (ho:v0.ownsRow (w.heap.size+2) 77 5 (.slice av zs.length cv) zs.length (zs.flatMap Run.enc))=>(show gN l w (k+1) (v0.setCell ⟨zb,m*5,none⟩ (.string (yt++t))) from by
             have hs0:=hd0.size
             have hs2:=hb2.size
             have q1:(v0.setCell ⟨zb,m*5,none⟩ (.string (yt++t))).heap[w.heap.size+1]? =some (.cells #[.slice av zs.length cv] 75 (0,0)):=(Sp _ _ _ _ (by simp;omega)).trans ((hd0.block _ (by omega) (by omega)).trans ((hb2.block _ l1).trans HH.out.1))
             have q3:(v0.setCell ⟨zb,m*5,none⟩ (.string (yt++t))).heap[w.heap.size]? =some (.cells #[.slice none 0 0] 75 (0,0)):=(Sp _ _ _ _ (by simp;omega)).trans ((hd0.block _ (by omega) (by omega)).trans ((hb2.block _ (by omega)).trans HH.out.2.2.1))
             have hbe:Sm w.heap.size w v0:=(HH.out.2.2.2.trans (hb2.mono (by omega))).trans (hd0.below (by omega) fun b hb e=>by omega)
             rw [Jr.out] at ho
             have q2:=C3.out v0 ho
             have hl2:(cG (l.take (k+1))).length=zs.length:=by rw [HZ.out];simp
             refine⟨av,cv,by rw [hl2];exact q1,?_,q3,hbe.setCell (by simp;omega) _⟩
             rw [hl2,HZ.out,Jr.out]
             exact q2))
            have c2:W2.cell? ⟨w.heap.size+1,0,none⟩=some (.slice (some ⟨zb,0,none⟩) zs.length cv):=by rw [←Jr.out];exact Sh _ _ 0 _ 75 (0,0) ((hb2.block _ l1).trans HH.out.1)
            have JS:=h_ (fun(w':Si) (h:Kept (fun b=>b=zb) W2 w')=>(show w'.cell? ⟨w.heap.size+1,0,none⟩=some (.slice (some ⟨zb,0,none⟩) zs.length cv)∧w'.cell? ⟨gx,0,none⟩=some (.string t) from by
             have hsb:=hb2.size
             exact⟨(by rw [←Jr.out];exact Sh _ _ 0 _ 75 (0,0) ((h.block _ (by omega) (by omega)).trans ((hb2.block _ l1).trans HH.out.1))),Sh _ _ 0 _ 77 (0,0) ((h.block gx (by omega) (by omega)).trans PW2.out)⟩))
            go_upto_region 9 with fail
            have hd0:Kept (fun b=>b=zb) W2 W2.drew:=Kept.of_below ((Sn _ _).drew)
            have Ly:=h_ (HP.out W2.drew hd0 ho2)
            have fz:W2.drew.frozen? ⟨zb,m*5,none⟩=false:=by
             have:=ho2
             rw [Jr.out] at this
             exact this.frozenAt (m*5)
            have yt3:W2.drew.cell? ⟨zb,m*5,none⟩=some (.string yt):=yt2
            refine wp_region_held_drew (S:=fun w'=>Kept (fun b=>b=zb) W2 w') (by kernel_rfl) hd0 (fun _=>?_)
            generalize W2.drew=v0 at *
            clear HP ho2 qN qP wj C3 yt2 c2 HZ HH PW2 HB2 hb2
            refine ab 0 (.pointer (some ⟨w.heap.size+1,0,none⟩)) hd0 ?_
            refine ab 1 (.slice (some ⟨zb,0,none⟩) zs.length cv) hd0 ?_ (hy:=.inl ⟨by rfl,fun w_ aH=>by have q_:=(JS.out w_ aH).1;go_simp⟩)
            refine ab 2 (.int .i64 zs.length) hd0 ?_
            refine ab 3 (.int .i64 m) hd0 ?_
            refine ab 4 (.pointer (some ⟨zb,m*5,none⟩)) hd0 ?_
            refine ab 5 (.pointer (some ⟨zb,m*5,none⟩)) hd0 ?_
            refine ab 7 (.pointer (some ⟨gx,0,none⟩)) hd0 ?_
            refine ab 8 (.string t) hd0 ?_ (hy:=.inl ⟨by rfl,fun w_ aH=>by have q_:=(JS.out w_ aH).2;go_simp⟩)
            refine aq 6 (fun K hK=>?_)
            go_simp
            refine goOn hK hd0 ?_
            clear hK
            refine ab 9 (.string (yt++t)) hd0 ?_
            refine ab 10 (.pointer (some ⟨zb,m*5,none⟩)) hd0 ?_
            refine ab 11 (.pointer (some ⟨zb,m*5,none⟩)) hd0 ?_
            refine aq 12 (fun K hK=>?_)
            go_simp
            have hS2:Kept (fun b=>b=zb) W2 (v0.setCell ⟨zb,m*5,none⟩ (.string (yt++t))):=hd0.setCell (p:=⟨zb,m*5,none⟩) (.inr rfl) _
            refine goOn hK hS2 ?_
            clear hK
            refine wpAnyH_done (by kernel_rfl) ?_ _
            go_wp2_with fail
            go_meet
            exact Ly.out
    case rest =>
     have HR:=h_ hcut
     clear hcut d0 d1 d2 d3 d4 HH
     go_wp2_with fail
     go_roundw
     case rel=>exact⟨k+1,by omega,by go_num,HR.out⟩
     case measure=>simp [intOf];omega
  · obtain rfl:k=l.length:=by omega
    obtain⟨av,cv,h1,h2,h3,h4⟩:=hrel
    rw [List.take_length] at h1 h2
    have c1:wr.cell? ⟨w.heap.size+1,0,none⟩=some (.slice av (cG l).length cv):=Sh _ _ 0 _ 75 (0,0) h1
    have c2:wr.cell? ⟨w.heap.size,0,none⟩=some (.slice none 0 0):=Sh _ _ 0 _ 75 (0,0) h3
    have f2:wr.frozen? ⟨w.heap.size,0,none⟩=false:=by simp [Sv,h3]
    have r9:=heap_setCell_same wr w.heap.size 0 _ 75 (.slice av (cG l).length cv) h3
    have fh:Kept (fun b=>b=w.heap.size) wr (wr.setCell ⟨w.heap.size,0,none⟩ (.slice av (cG l).length cv)):=bH (Kept.refl _ _) 0 _
    have HF:=h_ (HQ.out av cv (wr.setCell ⟨w.heap.size,0,none⟩ (.slice av (cG l).length cv)) (kW (aB h2 fun b e=>fh.block b (h2.lt b e).2 (by have:=(h2.lt b e).1;omega)) (by omega)) (h4.setCell (by simp) _))
    clear h1 h2 h4 HQ HL fh
    generalize cG l=N at *
    go_wp2_with fail
    generalize wr.setCell ⟨w.heap.size,0,none⟩ (.slice av N.length cv)=w9 at *
    have fin4:∀ j,w9.cell? ⟨w.heap.size,j,none⟩=_:=fun j=>Sh _ _ j _ 75 (0,0) r9
    refine bodyPost_ret (v:=.agg #[.slice av N.length cv]) (by simp [results,Tryz.results190,go_sem,fin4]) rfl ?_
    exact HF.out
theorem nv (g c1 c2:Nat)(a1 a2:Option Addr)(xs ys:List Run)(w:Si)(d0:w.cell? ⟨g,0,none⟩=some (.slice a1 xs.length c1))(d1:w.cell? ⟨g,1,none⟩=some (.slice a2 ys.length c2))(hg:g<w.heap.size)
 (h1:Runs w a1 xs) (h2:Runs w a2 ys) (hx:xs.length≤20000000) (hy:ys.length≤20000000) :
 Calls Tryz.prog 191 #[.slice (some ⟨g,0,none⟩) 2 2] w (bG 77 5 Run.enc (xs++ys) w):=by
 have HG:=h_ (xN (xs.length+ys.length) w (by omega))
 have H1:=h_ (fun(w':Si) (hb:Sm w.heap.size w w')=>h1.later hb)
 have H2:=h_ (fun(w':Si) (hb:Sm w.heap.size w w')=>h2.later hb)
 have HQ:=h_ (fun(v:Sl) (w':Si) (ho:w'.ownsRow w.heap.size 77 5 v (xs.length+ys.length) (xs.flatMap Run.enc++ys.flatMap Run.enc)) (hb:Sm w.heap.size w w')=>(show bG 77 5 Run.enc (xs++ys) w (.returned v) w' from⟨v,by first|rfl|simp,by simpa using ho,hb⟩))
 obtain⟨j0,hj,hy0,hy1,hy2⟩:=info_parts Tryz.info77
 have JI:=h_ hj;have J0:=h_ hy0;have J1:=h_ hy1;have J2:=h_ hy2
 have hp:¬ ((xs.length:Int)<0):=by omega
 have hp2:¬ ((xs.length:Int)+(ys.length:Int)<0):=by omega
 generalize bG 77 5 Run.enc (xs++ys) w=Q at *
 clear hj hy0 hy1 hy2 h1 h2
 go_enter Tryz.func191,Tryz.ntmps191
 go_wp2_with fail
 refine wp_loop_rounds 3 ?_
 rw [Sj]
 go_wp2_with fail
 rw [Sj]
 go_wp2_with fail
 rw [Sj]
 go_wp2_with fail
 rw [show((xs.length:Int)+(ys.length:Int))=((xs.length+ys.length:Nat):Int) by omega]
 refine HG.out.mono ?_
 rintro e w1 ⟨v,rfl,ho1,hb1⟩
 have e0:w1.cell? ⟨g,0,none⟩=some (.slice a1 xs.length c1):=(hb1.cell (p:=⟨g,0,none⟩) hg).trans d0
 have e1:w1.cell? ⟨g,1,none⟩=some (.slice a2 ys.length c2):=(hb1.cell (p:=⟨g,1,none⟩) hg).trans d1
 have Bx:=h_ ho1
 have HB1:=h_ hb1
 have hs1:=hb1.size
 clear ho1 hb1 d0 d1 HG
 go_wp2_with fail
 refine wp_loop_rounds 3 ?_
 rw [Sj]
 go_wp2_with (at_builtin;refine aI (enc:=Run.enc) (Ok:=Flat) _ rfl (.tmp 31) (.tmp 32) 73 rfl w.heap.size 77 j0 _ 5 40 Tryz.underlying73 JI.out J0.out J1.out J2.out rfl (by decide) (fun _=>rfl) Run.one _ 0 [] rfl Bx.out a1 c1 xs rfl (H1.out _ HB1.out) ?h63 ?hb ?hbase ?_)
 case h63=>unfold maxLen;omega
 case hb=>omega
 case hbase=>exact hs1
 intro v2 w2 ho2 hg2 _
 have hb2:Sm w.heap.size w w2:=HB1.out.grown hg2 hs1 (fun j hj=>(Bx.out.lt j hj).1)
 have f1:w2.cell? ⟨g,1,none⟩=some (.slice a2 ys.length c2):=hg2.cell e1 (fun e=>absurd (Bx.out.lt g e.symm).1 (by omega))
 have tj:=h_ ho2
 have HB2:=h_ hb2
 have hs2:=hb2.size
 clear ho2 hb2 hg2 e0 e1
 go_wp2_with fail
 rw [Sj]
 go_wp2_with (at_builtin;refine aI (enc:=Run.enc) (Ok:=Flat) _ rfl (.tmp 31) (.tmp 32) 73 rfl w.heap.size 77 j0 _ 5 40 Tryz.underlying73 JI.out J0.out J1.out J2.out rfl (by decide) (fun _=>rfl) Run.one _ _ _ rfl tj.out a2 c2 ys rfl (H2.out _ HB2.out) ?h63 ?hb ?hbase ?_)
 case h63=>unfold maxLen;omega
 case hb=>omega
 case hbase=>exact hs2
 intro v3 w3 ho3 hg3 _
 have hb3:Sm w.heap.size w w3:=HB2.out.grown hg3 hs2 (fun j hj=>(tj.out.lt j hj).1)
 have Dx:=h_ ho3
 have HB3:=h_ hb3
 clear ho3 hb3 hg3 f1
 go_wp2_with fail
 rw [Sj]
 go_wp2_with fail
 exact HQ.out v3 _ (by simpa using Dx.out) HB3.out
def bZ (R:List Run)(w:Si)(e:Ending)(w':Si):Prop:=∃ r:Row,e=.returned (.agg r.enc.toArray)∧r.runs=R∧w'.ownsRow w.heap.size 77 5 (.slice r.at_ r.runs.length r.cap) r.runs.length (r.runs.flatMap Run.enc)∧Sm w.heap.size w w'
theorem bZ.lies {r:Row} {B:Nat} {w:Si} (h:w.ownsRow B 77 5 (.slice r.at_ r.runs.length r.cap) r.runs.length (r.runs.flatMap Run.enc)):r.lies w:=by
 obtain⟨a,c,he,hS⟩:=aA (k:=5) (enc:=Run.enc) (Ok:=Flat) (fun _=>rfl) h (fun _ _=>trivial)
 simp only [Sl.slice.injEq] at he
 obtain⟨rfl,_,rfl⟩:=he
 exact hS
theorem kp (a b:Row)(w:Si)(ha:a.lies w)(hb:b.lies w)(la:a.runs.length≤20000000)(lb:b.runs.length≤20000000)(hs:az a.runs+az b.runs≤2305843009213693952):Calls Tryz.prog 138 #[.agg a.enc.toArray,.agg b.enc.toArray] w (bZ (cV a.runs b.runs) w):=by
 obtain⟨aa,ac,xs⟩:=a
 obtain⟨ba,bc,ys⟩:=b
 simp only at la lb hs
 have HC:=h_ (fun(g:Nat) (w1:Si) (d0:w1.cell? ⟨g,0,none⟩=some (.slice aa xs.length ac)) (d1:w1.cell? ⟨g,1,none⟩=some (.slice ba ys.length bc)) (hg:g<w1.heap.size) (h:Sm w.heap.size w w1)=>nv g ac bc aa ba xs ys w1 d0 d1 hg (Runs.later ha h) (Runs.later hb h) la lb)
 have HN:=h_ (fun(v:Sl) (w0 w1:Si) (ho:w1.ownsRow w0.heap.size 77 5 v (xs++ys).length ((xs++ys).flatMap Run.enc))=>(show ∃ c:Option Addr × Nat,v=.slice c.1 (xs.length+ys.length) c.2∧Calls Tryz.prog 190 #[.slice c.1 (xs.length+ys.length) c.2] w1 (bZ (cV xs ys) w1) from by
  rw [←List.length_append]
  obtain⟨a,c,he,hS⟩:=aA (k:=5) (enc:=Run.enc) (Ok:=Flat) (fun _=>rfl) ho (fun _ _=>trivial)
  exact⟨(a,c),he,oV a c (xs++ys) w1 hS (by simp;omega) (by rw [df];omega)⟩))
 have HQ:=h_ (fun(r:Row) (B:Nat) (w':Si) (h:r.runs=cV xs ys) (hB:w.heap.size≤B) (ho:w'.ownsRow B 77 5 (.slice r.at_ r.runs.length r.cap) r.runs.length (r.runs.flatMap Run.enc)) (hb:Sm w.heap.size w w')=>(show bZ (cV xs ys) w (.returned (.agg r.enc.toArray)) w' from⟨r,rfl,h,kW ho hB,hb⟩))
 have cQ:=h_ (box3 w #[.slice aa xs.length ac] #[.slice ba ys.length bc] #[.slice none 0 0] 75 75 75)
 have hb3:∀ o1 o2 o3:Obj,Sm w.heap.size w (((w.alloc o1).alloc o2).alloc o3):=fun o1 o2 o3=>(((Sn _ _).alloc (Sq _) _).alloc (by simp) _).alloc (by simp;try omega) _
 have db:∀ o1 o2 o3:Obj,w.heap.size+3≤(((w.alloc o1).alloc o2).alloc o3).heap.size:=fun o1 o2 o3=>by simp
 generalize bZ (cV xs ys) w=Q at *
 clear ha hb hs
 show Calls Tryz.prog 138 #[.agg #[.slice aa xs.length ac],.agg #[.slice ba ys.length bc]] w Q
 go_enter Tryz.func138,Tryz.ntmps138
 go_upto_region 1 with fail
 have h0:=cQ.out.1
 have h1:=cQ.out.2.1
 have h2:=cQ.out.2.2
 have hbw:=hb3 (.cells #[.slice aa xs.length ac] 75) (.cells #[.slice ba ys.length bc] 75) (.cells #[.slice none 0 0] 75)
 have hsz:=db (.cells #[.slice aa xs.length ac] 75) (.cells #[.slice ba ys.length bc] 75) (.cells #[.slice none 0 0] 75)
 clear cQ hb3 db
 generalize ((w.alloc (.cells #[.slice aa xs.length ac] 75)).alloc (.cells #[.slice ba ys.length bc] 75)).alloc (.cells #[.slice none 0 0] 75)=W0 at *
 have c0:W0.cell? ⟨w.heap.size,0,none⟩=some (.slice aa xs.length ac):=Sh _ _ 0 _ 75 (0,0) h0
 have c1:W0.cell? ⟨w.heap.size+1,0,none⟩=some (.slice ba ys.length bc):=Sh _ _ 0 _ 75 (0,0) h1
 have H2:=h_ h2
 have bA:=h_ hbw
 clear h0 h1 h2 hbw
 go_wp2_with fail
 have gn:Sm W0.heap.size W0 (W0.alloc (.cells #[.slice aa xs.length ac,.slice ba ys.length bc] 73)):=(Sn _ _).alloc (Sq _) _
 have hA:=Sk W0 (.cells #[.slice aa xs.length ac,.slice ba ys.length bc] 73)
 have hlA:W0.heap.size<(W0.alloc (.cells #[.slice aa xs.length ac,.slice ba ys.length bc] 73)).heap.size:=by simp
 generalize W0.alloc (.cells #[.slice aa xs.length ac,.slice ba ys.length bc] 73)=W1 at *
 have k0:W1.cell? ⟨W0.heap.size,0,none⟩=some (.slice aa xs.length ac):=Sh _ _ 0 _ 73 (0,0) hA
 have k1:W1.cell? ⟨W0.heap.size,1,none⟩=some (.slice ba ys.length bc):=Sh _ _ 1 _ 73 (0,0) hA
 have aK:=bA.out.trans (gn.mono (by omega))
 have z1:=(gn.block (w.heap.size+1+1) (by omega)).trans H2.out
 refine(HC.out _ W1 k0 k1 hlA aK).mono ?_
 rintro e w2 ⟨v,rfl,ho,hb2⟩
 obtain⟨⟨va,vc⟩,rfl,hnn⟩:=HN.out v W1 w2 ho
 have yL:=h_ hnn
 have hs1:=aK.size
 have hs2:=hb2.size
 have hbw2:=aK.trans (hb2.mono hs1)
 have z2:=(hb2.block (w.heap.size+1+1) (by omega)).trans z1
 clear hnn ho hb2 aK k0 k1 hA gn HC HN z1 c0 c1 bA H2
 simp only at *
 go_wp2_with fail
 refine yL.out.mono ?_
 rintro e w3 ⟨⟨ra,rc,rr⟩,rfl,hr,hor,hb3⟩
 have z3:=(hb3.block (w.heap.size+1+1) (by omega)).trans z2
 have cN:=hbw2.trans (hb3.mono (by omega))
 have f3:w3.frozen? ⟨w.heap.size+1+1,0,none⟩=false:=by simp [Sv,z3]
 have c3:w3.cell? ⟨w.heap.size+1+1,0,none⟩=some (.slice none 0 0):=Sh _ _ 0 _ 75 (0,0) z3
 have r9:=heap_setCell_same w3 (w.heap.size+1+1) 0 _ 75 (.slice ra rr.length rc) z3
 simp only at hr hor
 have Ak:=aB (w':=w3.setCell ⟨w.heap.size+1+1,0,none⟩ (.slice ra rr.length rc)) hor fun b e=>Sp _ _ _ _ (by have:=(hor.lt b e).1;simp;omega)
 have HF:=h_ (HQ.out ⟨ra,rc,rr⟩ _ (w3.setCell ⟨w.heap.size+1+1,0,none⟩ (.slice ra rr.length rc)) hr (by omega) Ak (cN.setCell (by simp;omega) _))
 clear hr hor Ak hb3 cN hbw2 z2 z3 yL HQ
 simp only [Row.enc] at *
 go_wp2_with fail
 generalize w3.setCell ⟨w.heap.size+1+1,0,none⟩ (.slice ra rr.length rc)=w9 at *
 have fin4:∀ j,w9.cell? ⟨w.heap.size+1+1,j,none⟩=_:=fun j=>Sh _ _ j _ 75 (0,0) r9
 refine bodyPost_ret (v:=.agg #[.slice ra rr.length rc]) (by simp [results,Tryz.results138,go_sem,fin4]) rfl ?_
 exact HF.out
end Go.Proofs.YtjebaagkomejaaaGreatDoor
