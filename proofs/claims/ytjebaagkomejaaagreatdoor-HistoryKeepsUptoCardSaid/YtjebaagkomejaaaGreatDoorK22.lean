/- style.norm: runes in normal form. slices.Concat of two slices of runs; style.Concat. -/
import Derived.Test.YtjebaagkomejaaaGreatDoorK18
import Derived.Test.YtjebaagkomejaaaGreatDoorK19
set_option linter.unusedVariables false
set_option linter.unusedSimpArgs false
set_option maxRecDepth 100000
set_option maxHeartbeats 12800000
open Go.Lib renaming hid→h_
open List renaming setIfInBounds_toArray→YA,getElem_cons_zero→YB,getElem_cons_succ→YC,getElem_toArray→YD,set_cons_zero→YE,set_cons_succ→YF
open Array renaming toArray_toList→YG
open Go renaming cell_of_row→Sj,World→Sk,rounds_succ→Sl,heap_alloc_last→Sm,Value→Sn
open Go.RowKit renaming Below→Sp
open Go.RowKit.Below renaming refl→Sq,heap_setCell→Sr
open Nat renaming le_refl→Ss,le_trans→St,add_zero→Su
open List renaming length_eq_zero_iff→Sv,mem_of_getElem?→Sw
open Go.World renaming frozen?→Sx
namespace Go.Proofs.YtjebaagkomejaaaGreatDoor
open Go.RowKit
theorem pf (a:Option Addr)(cap:Nat)(l:List Run)(w:Sk)(h:Runs w a l)(hl:l.length≤40000000)(hs:az l≤2305843009213693952):Calls Tryz.prog 190 #[.slice a l.length cap] w (qZ l w):=by
 obtain⟨j0,hj,hy0,hy1,hy2⟩:=info_parts Tryz.info77
 have JI:=h_ hj;have J0:=h_ hy0;have J1:=h_ hy1;have J2:=h_ hy2
 clear hj hy0 hy1 hy2
 have HL:=h_ h
 have HS:=h_ hs
 have HQ:=h_ (fun(av:Option Addr) (cv:Nat) (w':Sk) (ho:w'.ownsRow w.heap.size 77 5 (.slice av (cN l).length cv) (cN l).length ((cN l).flatMap Run.enc)) (hb:Sp w.heap.size w w')=>(show qZ l w (.returned (.agg #[.slice av (cN l).length cv])) w' from⟨⟨av,cv,cN l⟩,rfl,rfl,ho,hb⟩))
 have H0:=h_ (show gF l w 0 ((w.alloc (.cells #[.slice none 0 0] 75)).alloc (.cells #[.slice none 0 0] 75)) from⟨none,0,by
  have:=Sm (w.alloc (.cells #[.slice none 0 0] 75)) (.cells #[.slice none 0 0] 75)
  rw [Sk.size_alloc] at this
  exact this,Sk.ownsRow_nil _ _ _ _,(heap_alloc_old _ _ (by simp)).trans (Sm _ _),((Sq _ _).alloc (Ss _) _).alloc (by simp) _⟩)
 generalize qZ l w=Q at *
 clear h hs
 go_enter Tryz.func190,Tryz.ntmps190
 go_wp2_with fail
 go_loopw [9] (fun i wr=>∃ k:Nat,k≤l.length∧i=.int .i64 k∧gF l w k wr) (fun i _=>l.length-(intOf i).toNat)
 case atStart=>exact⟨0,by omega,rfl,H0.out⟩
 case round =>
  clear H0
  obtain⟨k,hk,rfl,hrel⟩:=hrel
  have hbe:Sp w.heap.size w wr:=by obtain⟨_,_,_,_,_,h⟩:=hrel;exact h
  by_cases hlt:k<l.length
  · obtain⟨b,off,x,rfl,hbl,hx,hc,_⟩:=ah.at_ (HL.out.later hbe) hlt
    have yN:=h_ hrel
    have HX:=h_ hx
    have HN:=h_ (kI l k x hx)
    have hnl:=gv l k
    have hts:az (cN (l.take k))≤2305843009213693952:=by rw [gu];exact St (mj l k) HS.out
    have htx:x.text.size≤2305843009213693952:=St (g_ l x (Sw hx)) HS.out
    obtain⟨av,cv,h1,h2,h3,h4⟩:=hrel
    have l1:=aR h1
    have hs4:=h4.size
    have HH:=h_ (And.intro h1 (And.intro h2 (And.intro h3 h4)))
    generalize hzs:cN (l.take k)=zs at *
    have Pq:=h_ hzs
    have HE:=h_ (show x.enc=x.enc from rfl)
    have hxe:x=⟨x.text,x.color,x.it,x.un,x.ruby⟩:=rfl
    have FR:=h_ (fun(y:Run) (w1:Sk)=>nI y x w1)
    have tH:=h_ (fun(zs':List Run) (hz:zs'=zs++[x]) (w2 w3:Sk) (v':Sn) (hb:Sp wr.heap.size wr w2) (hown:w3.ownsRow (w.heap.size+2) 77 5 v' (zs.length+1) (zs.flatMap Run.enc++x.enc.toArray.toList)) (hg:(w2.alloc (.cells x.enc.toArray 77)).grownBy w3 (Sn.slice av zs.length cv).ownBlock)=>zY (cs:=x.enc.toArray) rfl hz HH.out.1 HH.out.2.1 HH.out.2.2.1 HH.out.2.2.2 hb hown hg)
    have wT:=h_ (fun(h:x.text.size=0)=>HN.out.trans (iM h))
    have ry:=h_ (fun(h:¬ x.text.size=0) (h0:zs=[])=>HN.out.trans (h0▸ij h))
    have wV:=h_ (fun(h:¬ x.text.size=0) (y:Run) (hy:zs[zs.length-1]? =some y) (ha:eu y x=true)=>HN.out.trans (iN h hy ha))
    have ri:=h_ (fun(h:¬ x.text.size=0) (y:Run) (hy:zs[zs.length-1]? =some y) (ha:eu y x=false)=>HN.out.trans (ig h hy ha))
    clear hxe HE hx HN hzs h1 h2 h3 h4 hbe
    obtain⟨t,c,i,u,ru⟩:=x
    have d0:=hc 0 _ rfl;have d1:=hc 1 _ rfl;have d2:=hc 2 _ rfl;have d3:=hc 3 _ rfl;have d4:=hc 4 _ rfl
    simp only [Su,Run.enc] at d0 d1 d2 d3 d4
    clear hc
    go_upto_block 1 with fail
    go_cut [5,6] from 11 to 50 (fun _ _ wx=>gF l w (k+1) wx)
    case first =>
     go_upto_region 5 with fail
     have hbW:Sp wr.heap.size wr (wr.alloc (.cells #[.string t,.int .u8 c,.bool i,.bool u,.string ru] 77)):=(Sq _ _).alloc (Ss _) _
     have pW:=Sm wr (.cells #[.string t,.int .u8 c,.bool i,.bool u,.string ru] 77)
     have Cl:wr.heap.size+1≤(wr.alloc (.cells #[.string t,.int .u8 c,.bool i,.bool u,.string ru] 77)).heap.size:=by simp
     generalize wr.alloc (.cells #[.string t,.int .u8 c,.bool i,.bool u,.string ru] 77)=W1 at *
     obtain⟨gx,hgx⟩:∃ g,g=wr.heap.size:=⟨_,rfl⟩
     have Pt:=h_ hgx
     rw [←hgx] at pW ⊢
     have HW1:=h_ hbW
     have c1:W1.cell? ⟨w.heap.size+1,0,none⟩=some (.slice av zs.length cv):=Sj _ _ 0 _ 75 (0,0) ((hbW.block _ l1).trans HH.out.1)
     have x0:W1.cell? ⟨gx,0,none⟩=some (.string t):=Sj _ _ 0 _ 77 (0,0) pW
     have hg1:wr.heap.size≤gx:=by omega
     have hg2:gx+1≤W1.heap.size:=by have:=aR pW;omega
     clear hbW hgx d0 d1 d2 d3 d4 Cl
     by_cases hte:t.size=0
     · have htn:t.toList.isEmpty=true:=by rw [lq];simpa using hte
       have R:gF l w (k+1) W1:=by
        obtain⟨a1,a2,a3,a4⟩:=HH.out
        exact gF.below ⟨av,cv,by rw [wT.out hte];exact a1,by rw [wT.out hte];exact a2,a3,a4⟩ HW1.out
       clear wT ry wV ri tH HH FR
       go_wp2_with fail
       go_meet
       exact R
     · have htn:t.toList.isEmpty=false:=by rw [lq];simpa using hte
       have Le:=h_ hte
       have x1:W1.cell? ⟨gx,1,none⟩=some (.int .u8 c):=Sj _ _ 1 _ 77 (0,0) pW
       have x2:W1.cell? ⟨gx,2,none⟩=some (.bool i):=Sj _ _ 2 _ 77 (0,0) pW
       have x3:W1.cell? ⟨gx,3,none⟩=some (.bool u):=Sj _ _ 3 _ 77 (0,0) pW
       have x4:W1.cell? ⟨gx,4,none⟩=some (.string ru):=Sj _ _ 4 _ 77 (0,0) pW
       clear hte wT
       rcases Nat.eq_zero_or_pos zs.length with hz|hz
       · have hkd:decide (0<zs.length)=false:=decide_eq_false (by omega)
         have lM:=h_ (fun(w2 w3:Sk) (v':Sn) (hb:Sp wr.heap.size wr w2)=>tH.out (cN (l.take (k+1))) ((ry.out Le.out (Sv.1 hz)).trans (by rw [Sv.1 hz])) w2 w3 v' hb)
         clear ry wV ri FR tH hz
         go_wp2_with fail
         go_quiet (fail)
         have HB2:=h_ (HW1.out.trans ((Go.below_drewN (Sq W1.heap.size W1) nq).mono (by omega)))
         have PW2:=h_ (show(W1.drewN nq).heap[gx]? =_ from pW)
         clear c1 x0 x1 x2 x3 x4 pW HW1
         generalize W1.drewN nq=W2 at *
         have hb2:Sp wr.heap.size wr W2:=HB2.out
         have hsb:=hb2.size
         have tJ:=h_ (aI HH.out.2.1 hb2)
         have Bp:=h_ (fun(v':Sn) (w3:Sk)=>lM.out W2 w3 v' hb2)
         have c2:W2.cell? ⟨w.heap.size+1,0,none⟩=some (.slice av zs.length cv):=Sj _ _ 0 _ 75 (0,0) ((hb2.block _ l1).trans HH.out.1)
         have x0':W2.cell? ⟨gx,0,none⟩=some (.string t):=Sj _ _ 0 _ 77 (0,0) PW2.out
         have x1':W2.cell? ⟨gx,1,none⟩=some (.int .u8 c):=Sj _ _ 1 _ 77 (0,0) PW2.out
         have x2':W2.cell? ⟨gx,2,none⟩=some (.bool i):=Sj _ _ 2 _ 77 (0,0) PW2.out
         have x3':W2.cell? ⟨gx,3,none⟩=some (.bool u):=Sj _ _ 3 _ 77 (0,0) PW2.out
         have x4':W2.cell? ⟨gx,4,none⟩=some (.string ru):=Sj _ _ 4 _ 77 (0,0) PW2.out
         clear lM PW2 HB2 hb2
         go_wp2_with (at_builtin;refine aX _ _ rfl (.tmp 17) (.tmp 19) 73 rfl (w.heap.size+2) 77 j0 _ 5 40 Tryz.underlying73 JI.out J0.out J1.out J2.out rfl (by decide) _ _ _ rfl tJ.out _ rfl rfl rfl ?h1 ?h63 ?hb ?hbase ?_)
         case h1=>exact⟨rfl,rfl,rfl,rfl,rfl⟩
         case h63=>unfold maxLen;omega
         case hb=>omega
         case hbase=>have:=HH.out.2.2.2.size;omega
         intro v' w3 hown' hgrow
         have h3:=Bp.out v' w3 hown' hgrow
         have f3:w3.frozen? ⟨w.heap.size+1,0,none⟩=false:=by simp [Sx,h3.1]
         have c3:w3.cell? ⟨w.heap.size+1,0,none⟩=some (.slice av zs.length cv):=Sj _ _ 0 _ 75 (0,0) h3.1
         obtain⟨av',cv',rfl⟩:=j6 hown'
         have R:=wo h3.1 h3.2.1 h3.2.2.1 h3.2.2.2
         clear hown' hgrow tJ Bp h3 HH c2 x0' x1' x2' x3' x4'
         go_wp2_with fail
         go_meet
         exact R
       · obtain⟨m,hm⟩:∃ m,zs.length=m+1:=⟨zs.length-1,by omega⟩
         have hy:zs[m]? =some zs[m]:=List.getElem?_eq_getElem (by omega)
         generalize zs[m]=y at hy
         obtain⟨zb,zc,he⟩:=dD HH.out.2.1 (by omega)
         simp only [Sn.slice.injEq,true_and] at he
         obtain⟨FV, -⟩:=he
         have hown1:=aI HH.out.2.1 HW1.out
         have hzb:=hown1.lt zb (by rw [FV];rfl)
         have Pb:=HH.out.2.1.lt zb (by rw [FV];rfl)
         have ff:∀ j v,y.enc[j]? =some v→W1.cell? ⟨zb,m*5+j,none⟩=some v:=fun j v hv=>by
          have hj:j<5:=(List.getElem?_eq_some_iff.1 hv).1
          rw [FV] at hown1
          rw [hown1.cellAt (m*5+j) (by omega)]
          exact cK Run.enc 5 (fun _=>rfl) zs m y j _ hy hv
         have hkd:decide (0<zs.length)=true:=decide_eq_true hz
         have hwr:IntKind.i64.wrap ((zs.length:Int)-1)=(m:Int):=by rw [IntKind.wrap_i64];omega
         have hmz:(m:Int)<(zs.length:Int):=by omega
         have Pg:m<zs.length:=by omega
         have J9:y.text.size≤az zs:=g_ zs y (Sw hy)
         have hmm:zs.length-1=m:=by omega
         have rj:=h_ (fun(ha:eu y ⟨t,c,i,u,ru⟩=true)=>(wV.out Le.out y (by rw [hmm];exact hy) ha).trans (by rw [hmm]))
         have wS:=h_ (fun(ha:eu y ⟨t,c,i,u,ru⟩=false)=>ri.out Le.out y (by rw [hmm];exact hy) ha)
         have Je:=h_ (fun(w1:Sk)=>FR.out y w1)
         have CZ:=h_ (fun(v0:Sk) (ho:v0.ownsRow (w.heap.size+2) 77 5 (.slice (some ⟨zb,0,none⟩) zs.length cv) zs.length (zs.flatMap Run.enc))=>fH (enc:=Run.enc) (y:={ y with text:=y.text++t }) (v:=.string (y.text++t)) (j:=0) (fun _=>rfl) ho hy rfl (by omega))
         have Jb:=h_ FV
         clear wV ri ry FR hown1 hy hmm hm
         generalize eu y ⟨t,c,i,u,ru⟩=AL at *
         obtain⟨yt,yc,yi,yu,yr⟩:=y
         have y0:=ff 0 _ rfl;have y1:=ff 1 _ rfl;have y2:=ff 2 _ rfl;have y3:=ff 3 _ rfl;have y4:=ff 4 _ rfl
         simp only [Su,Run.enc] at y0 y1 y2 y3 y4 J9 htx
         rw [FV] at c1
         clear ff FV
         go_upto_region 8 with fail
         go_cut [26] from 27 to 38 (fun v wx=>v=.bool AL∧Sp W1.heap.size W1 wx)
         case first =>
          clear rj wS tH HH CZ HW1
          go_wp2_with fail
          have hbd:Sp W1.heap.size W1 W1.drew:=(Sq _ _).drew
          go_region_with (go_at_call 183;refine(Je.out _).mono ?_;rintro e w4 ⟨rfl,hb4⟩;replace hb4:Sp W1.heap.size W1 w4:=hbd.trans (hb4.mono hbd.size))
          all_goals
           go_wp2_with fail
           go_meet
           exact⟨rfl,hb4⟩
         case rest =>
          obtain⟨rfl,hbc⟩:=hcut
          obtain⟨W2,hW2⟩:∃ x,x=wc:=⟨_,rfl⟩
          subst hW2
          have HB2:=h_ (HW1.out.trans (hbc.mono (by omega)))
          have PW2:=h_ ((hbc.block gx (by omega)).trans pW)
          have hsc:=hbc.size
          have yt2:W2.cell? ⟨zb,m*5,none⟩=some (.string yt):=(hbc.cell (p:=⟨zb,m*5,none⟩) (by simp only;omega)).trans y0
          clear c1 x0 x1 x2 x3 x4 y0 y1 y2 y3 y4 pW HW1 hbc Je
          cases AL with
          | false =>
            have lM:=h_ (fun(w2 w3:Sk) (v':Sn) (hb:Sp wr.heap.size wr w2)=>tH.out (cN (l.take (k+1))) (wS.out (by first|rfl|trivial)) w2 w3 v' hb)
            clear tH rj wS CZ yt2
            have hb2:Sp wr.heap.size wr W2:=HB2.out
            have hsb:=hb2.size
            have tJ:=h_ (aI HH.out.2.1 hb2)
            have Bp:=h_ (fun(v':Sn) (w3:Sk)=>lM.out W2 w3 v' hb2)
            have c2:W2.cell? ⟨w.heap.size+1,0,none⟩=some (.slice av zs.length cv):=Sj _ _ 0 _ 75 (0,0) ((hb2.block _ l1).trans HH.out.1)
            have x0':W2.cell? ⟨gx,0,none⟩=some (.string t):=Sj _ _ 0 _ 77 (0,0) PW2.out
            have x1':W2.cell? ⟨gx,1,none⟩=some (.int .u8 c):=Sj _ _ 1 _ 77 (0,0) PW2.out
            have x2':W2.cell? ⟨gx,2,none⟩=some (.bool i):=Sj _ _ 2 _ 77 (0,0) PW2.out
            have x3':W2.cell? ⟨gx,3,none⟩=some (.bool u):=Sj _ _ 3 _ 77 (0,0) PW2.out
            have x4':W2.cell? ⟨gx,4,none⟩=some (.string ru):=Sj _ _ 4 _ 77 (0,0) PW2.out
            clear lM PW2 HB2 hb2
            go_wp2_with (at_builtin;refine aX _ _ rfl (.tmp 17) (.tmp 19) 73 rfl (w.heap.size+2) 77 j0 _ 5 40 Tryz.underlying73 JI.out J0.out J1.out J2.out rfl (by decide) _ _ _ rfl tJ.out _ rfl rfl rfl ?h1 ?h63 ?hb ?hbase ?_)
            case h1=>exact⟨rfl,rfl,rfl,rfl,rfl⟩
            case h63=>unfold maxLen;omega
            case hb=>omega
            case hbase=>have:=HH.out.2.2.2.size;omega
            intro v' w3 hown' hgrow
            have h3:=Bp.out v' w3 hown' hgrow
            have f3:w3.frozen? ⟨w.heap.size+1,0,none⟩=false:=by simp [Sx,h3.1]
            have c3:w3.cell? ⟨w.heap.size+1,0,none⟩=some (.slice av zs.length cv):=Sj _ _ 0 _ 75 (0,0) h3.1
            obtain⟨av',cv',rfl⟩:=j6 hown'
            have R:=wo h3.1 h3.2.1 h3.2.2.1 h3.2.2.2
            clear hown' hgrow tJ Bp h3 HH c2 x0' x1' x2' x3' x4'
            go_wp2_with fail
            go_meet
            exact R
          | true =>
            have HZ:=h_ (rj.out (by first|rfl|trivial))
            have hb2:=HB2.out
            have hcx:¬ 9223372036854775807<yt.size+t.size:=by omega
            have ho2:=aI HH.out.2.1 hb2
            have HP:=h_ (fun(v0:Sk) (hd0:Kept (fun b=>b=zb) W2 v0) (ho:v0.ownsRow (w.heap.size+2) 77 5 (.slice av zs.length cv) zs.length (zs.flatMap Run.enc))=>(show gF l w (k+1) (v0.setCell ⟨zb,m*5,none⟩ (.string (yt++t))) from by
             have hs0:=hd0.size
             have hs2:=hb2.size
             have q1:(v0.setCell ⟨zb,m*5,none⟩ (.string (yt++t))).heap[w.heap.size+1]? =some (.cells #[.slice av zs.length cv] 75 (0,0)):=(Sr _ _ _ _ (by simp;omega)).trans ((hd0.block _ (by omega) (by omega)).trans ((hb2.block _ l1).trans HH.out.1))
             have q3:(v0.setCell ⟨zb,m*5,none⟩ (.string (yt++t))).heap[w.heap.size]? =some (.cells #[.slice none 0 0] 75 (0,0)):=(Sr _ _ _ _ (by simp;omega)).trans ((hd0.block _ (by omega) (by omega)).trans ((hb2.block _ (by omega)).trans HH.out.2.2.1))
             have hbe:Sp w.heap.size w v0:=(HH.out.2.2.2.trans (hb2.mono (by omega))).trans (hd0.below (by omega) fun b hb e=>by omega)
             rw [Jb.out] at ho
             have q2:=CZ.out v0 ho
             have hl2:(cN (l.take (k+1))).length=zs.length:=by rw [HZ.out];simp
             refine⟨av,cv,by rw [hl2];exact q1,?_,q3,hbe.setCell (by simp;omega) _⟩
             rw [hl2,HZ.out,Jb.out]
             exact q2))
            have c2:W2.cell? ⟨w.heap.size+1,0,none⟩=some (.slice (some ⟨zb,0,none⟩) zs.length cv):=by rw [←Jb.out];exact Sj _ _ 0 _ 75 (0,0) ((hb2.block _ l1).trans HH.out.1)
            have Jw:=h_ (fun(w':Sk) (h:Kept (fun b=>b=zb) W2 w')=>(show w'.cell? ⟨w.heap.size+1,0,none⟩=some (.slice (some ⟨zb,0,none⟩) zs.length cv)∧w'.cell? ⟨gx,0,none⟩=some (.string t) from by
             have hsb:=hb2.size
             exact⟨(by rw [←Jb.out];exact Sj _ _ 0 _ 75 (0,0) ((h.block _ (by omega) (by omega)).trans ((hb2.block _ l1).trans HH.out.1))),Sj _ _ 0 _ 77 (0,0) ((h.block gx (by omega) (by omega)).trans PW2.out)⟩))
            go_upto_region 9 with fail
            have hd0:Kept (fun b=>b=zb) W2 W2.drew:=Kept.of_below ((Sq _ _).drew)
            have Lk:=h_ (HP.out W2.drew hd0 ho2)
            have fz:W2.drew.frozen? ⟨zb,m*5,none⟩=false:=by
             have:=ho2
             rw [Jb.out] at this
             exact this.frozenAt (m*5)
            have yt3:W2.drew.cell? ⟨zb,m*5,none⟩=some (.string yt):=yt2
            refine wp_region_held_drew (S:=fun w'=>Kept (fun b=>b=zb) W2 w') (by kernel_rfl) hd0 (fun _=>?_)
            generalize W2.drew=v0 at *
            clear HP ho2 tH rj wS CZ yt2 c2 HZ HH PW2 HB2 hb2
            refine ab 0 (.pointer (some ⟨w.heap.size+1,0,none⟩)) hd0 ?_
            refine ab 1 (.slice (some ⟨zb,0,none⟩) zs.length cv) hd0 ?_ (hy:=.inl ⟨by rfl,fun w_ aH=>by have q_:=(Jw.out w_ aH).1;go_simp⟩)
            refine ab 2 (.int .i64 zs.length) hd0 ?_
            refine ab 3 (.int .i64 m) hd0 ?_
            refine ab 4 (.pointer (some ⟨zb,m*5,none⟩)) hd0 ?_
            refine ab 5 (.pointer (some ⟨zb,m*5,none⟩)) hd0 ?_
            refine ab 7 (.pointer (some ⟨gx,0,none⟩)) hd0 ?_
            refine ab 8 (.string t) hd0 ?_ (hy:=.inl ⟨by rfl,fun w_ aH=>by have q_:=(Jw.out w_ aH).2;go_simp⟩)
            refine aq 6 (fun K hK=>?_)
            go_simp
            refine goOn hK hd0 ?_
            clear hK
            refine ab 9 (.string (yt++t)) hd0 ?_
            refine ab 10 (.pointer (some ⟨zb,m*5,none⟩)) hd0 ?_
            refine ab 11 (.pointer (some ⟨zb,m*5,none⟩)) hd0 ?_
            refine aq 12 (fun K hK=>?_)
            go_simp
            have hS2:Kept (fun b=>b=zb) W2 (v0.setCell ⟨zb,m*5,none⟩ (.string (yt++t))):=hd0.setCell (p:=⟨zb,m*5,none⟩) (.inr rfl) _
            refine goOn hK hS2 ?_
            clear hK
            refine wpAnyH_done (by kernel_rfl) ?_ _
            go_wp2_with fail
            go_meet
            exact Lk.out
    case rest =>
     have HR:=h_ hcut
     clear hcut d0 d1 d2 d3 d4 HH
     go_wp2_with fail
     go_roundw
     case rel=>exact⟨k+1,by omega,by go_num,HR.out⟩
     case measure=>simp [intOf];omega
  · obtain rfl:k=l.length:=by omega
    obtain⟨av,cv,h1,h2,h3,h4⟩:=hrel
    rw [List.take_length] at h1 h2
    have c1:wr.cell? ⟨w.heap.size+1,0,none⟩=some (.slice av (cN l).length cv):=Sj _ _ 0 _ 75 (0,0) h1
    have c2:wr.cell? ⟨w.heap.size,0,none⟩=some (.slice none 0 0):=Sj _ _ 0 _ 75 (0,0) h3
    have f2:wr.frozen? ⟨w.heap.size,0,none⟩=false:=by simp [Sx,h3]
    have r9:=heap_setCell_same wr w.heap.size 0 _ 75 (.slice av (cN l).length cv) h3
    have eX:Kept (fun b=>b=w.heap.size) wr (wr.setCell ⟨w.heap.size,0,none⟩ (.slice av (cN l).length cv)):=bG (Kept.refl _ _) 0 _
    have HF:=h_ (HQ.out av cv (wr.setCell ⟨w.heap.size,0,none⟩ (.slice av (cN l).length cv)) (kT (aB h2 fun b e=>eX.block b (h2.lt b e).2 (by have:=(h2.lt b e).1;omega)) (by omega)) (h4.setCell (by simp) _))
    clear h1 h2 h4 HQ HL eX
    generalize cN l=N at *
    go_wp2_with fail
    generalize wr.setCell ⟨w.heap.size,0,none⟩ (.slice av N.length cv)=w9 at *
    have fin4:∀ j,w9.cell? ⟨w.heap.size,j,none⟩=_:=fun j=>Sj _ _ j _ 75 (0,0) r9
    refine bodyPost_ret (v:=.agg #[.slice av N.length cv]) (by simp [results,Tryz.results190,go_sem,fin4]) rfl ?_
    exact HF.out
theorem nD (g c1 c2:Nat)(a1 a2:Option Addr)(xs ys:List Run)(w:Sk)(d0:w.cell? ⟨g,0,none⟩=some (.slice a1 xs.length c1))(d1:w.cell? ⟨g,1,none⟩=some (.slice a2 ys.length c2))(hg:g<w.heap.size)
 (h1:Runs w a1 xs) (h2:Runs w a2 ys) (hx:xs.length≤20000000) (hy:ys.length≤20000000) :
 Calls Tryz.prog 191 #[.slice (some ⟨g,0,none⟩) 2 2] w (bF 77 5 Run.enc (xs++ys) w):=by
 have HG:=h_ (yo (xs.length+ys.length) w (by omega))
 have H1:=h_ (fun(w':Sk) (hb:Sp w.heap.size w w')=>h1.later hb)
 have H2:=h_ (fun(w':Sk) (hb:Sp w.heap.size w w')=>h2.later hb)
 have HQ:=h_ (fun(v:Sn) (w':Sk) (ho:w'.ownsRow w.heap.size 77 5 v (xs.length+ys.length) (xs.flatMap Run.enc++ys.flatMap Run.enc)) (hb:Sp w.heap.size w w')=>(show bF 77 5 Run.enc (xs++ys) w (.returned v) w' from⟨v,by first|rfl|simp,by simpa using ho,hb⟩))
 obtain⟨j0,hj,hy0,hy1,hy2⟩:=info_parts Tryz.info77
 have JI:=h_ hj;have J0:=h_ hy0;have J1:=h_ hy1;have J2:=h_ hy2
 have hp:¬ ((xs.length:Int)<0):=by omega
 have hp2:¬ ((xs.length:Int)+(ys.length:Int)<0):=by omega
 generalize bF 77 5 Run.enc (xs++ys) w=Q at *
 clear hj hy0 hy1 hy2 h1 h2
 go_enter Tryz.func191,Tryz.ntmps191
 go_wp2_with fail
 refine wp_loop_rounds 3 ?_
 rw [Sl]
 go_wp2_with fail
 rw [Sl]
 go_wp2_with fail
 rw [Sl]
 go_wp2_with fail
 rw [show((xs.length:Int)+(ys.length:Int))=((xs.length+ys.length:Nat):Int) by omega]
 refine HG.out.mono ?_
 rintro e w1 ⟨v,rfl,ho1,hb1⟩
 have e0:w1.cell? ⟨g,0,none⟩=some (.slice a1 xs.length c1):=(hb1.cell (p:=⟨g,0,none⟩) hg).trans d0
 have e1:w1.cell? ⟨g,1,none⟩=some (.slice a2 ys.length c2):=(hb1.cell (p:=⟨g,1,none⟩) hg).trans d1
 have BA:=h_ ho1
 have HB1:=h_ hb1
 have hs1:=hb1.size
 clear ho1 hb1 d0 d1 HG
 go_wp2_with fail
 refine wp_loop_rounds 3 ?_
 rw [Sl]
 go_wp2_with (at_builtin;refine aJ (enc:=Run.enc) (Ok:=Flat) _ rfl (.tmp 31) (.tmp 32) 73 rfl w.heap.size 77 j0 _ 5 40 Tryz.underlying73 JI.out J0.out J1.out J2.out rfl (by decide) (fun _=>rfl) Run.one _ 0 [] rfl BA.out a1 c1 xs rfl (H1.out _ HB1.out) ?h63 ?hb ?hbase ?_)
 case h63=>unfold maxLen;omega
 case hb=>omega
 case hbase=>exact hs1
 intro v2 w2 ho2 hg2 _
 have hb2:Sp w.heap.size w w2:=HB1.out.grown hg2 hs1 (fun j hj=>(BA.out.lt j hj).1)
 have f1:w2.cell? ⟨g,1,none⟩=some (.slice a2 ys.length c2):=hg2.cell e1 (fun e=>absurd (BA.out.lt g e.symm).1 (by omega))
 have tK:=h_ ho2
 have HB2:=h_ hb2
 have hs2:=hb2.size
 clear ho2 hb2 hg2 e0 e1
 go_wp2_with fail
 rw [Sl]
 go_wp2_with (at_builtin;refine aJ (enc:=Run.enc) (Ok:=Flat) _ rfl (.tmp 31) (.tmp 32) 73 rfl w.heap.size 77 j0 _ 5 40 Tryz.underlying73 JI.out J0.out J1.out J2.out rfl (by decide) (fun _=>rfl) Run.one _ _ _ rfl tK.out a2 c2 ys rfl (H2.out _ HB2.out) ?h63 ?hb ?hbase ?_)
 case h63=>unfold maxLen;omega
 case hb=>omega
 case hbase=>exact hs2
 intro v3 w3 ho3 hg3 _
 have hb3:Sp w.heap.size w w3:=HB2.out.grown hg3 hs2 (fun j hj=>(tK.out.lt j hj).1)
 have Dv:=h_ ho3
 have HB3:=h_ hb3
 clear ho3 hb3 hg3 f1
 go_wp2_with fail
 rw [Sl]
 go_wp2_with fail
 exact HQ.out v3 _ (by simpa using Dv.out) HB3.out
def bY (R:List Run)(w:Sk)(e:Ending)(w':Sk):Prop:=∃ r:Row,e=.returned (.agg r.enc.toArray)∧r.runs=R∧w'.ownsRow w.heap.size 77 5 (.slice r.at_ r.runs.length r.cap) r.runs.length (r.runs.flatMap Run.enc)∧Sp w.heap.size w w'
theorem bY.lies {r:Row} {B:Nat} {w:Sk} (h:w.ownsRow B 77 5 (.slice r.at_ r.runs.length r.cap) r.runs.length (r.runs.flatMap Run.enc)):r.lies w:=by
 obtain⟨a,c,he,hS⟩:=aA (k:=5) (enc:=Run.enc) (Ok:=Flat) (fun _=>rfl) h (fun _ _=>trivial)
 simp only [Sn.slice.injEq] at he
 obtain⟨rfl,_,rfl⟩:=he
 exact hS
theorem kn (a b:Row)(w:Sk)(ha:a.lies w)(hb:b.lies w)(la:a.runs.length≤20000000)(lb:b.runs.length≤20000000)(hs:az a.runs+az b.runs≤2305843009213693952):Calls Tryz.prog 138 #[.agg a.enc.toArray,.agg b.enc.toArray] w (bY (cZ a.runs b.runs) w):=by
 obtain⟨aa,ac,xs⟩:=a
 obtain⟨ba,bc,ys⟩:=b
 simp only at la lb hs
 have HC:=h_ (fun(g:Nat) (w1:Sk) (d0:w1.cell? ⟨g,0,none⟩=some (.slice aa xs.length ac)) (d1:w1.cell? ⟨g,1,none⟩=some (.slice ba ys.length bc)) (hg:g<w1.heap.size) (h:Sp w.heap.size w w1)=>nD g ac bc aa ba xs ys w1 d0 d1 hg (Runs.later ha h) (Runs.later hb h) la lb)
 have HN:=h_ (fun(v:Sn) (w0 w1:Sk) (ho:w1.ownsRow w0.heap.size 77 5 v (xs++ys).length ((xs++ys).flatMap Run.enc))=>(show ∃ c:Option Addr × Nat,v=.slice c.1 (xs.length+ys.length) c.2∧Calls Tryz.prog 190 #[.slice c.1 (xs.length+ys.length) c.2] w1 (bY (cZ xs ys) w1) from by
  rw [←List.length_append]
  obtain⟨a,c,he,hS⟩:=aA (k:=5) (enc:=Run.enc) (Ok:=Flat) (fun _=>rfl) ho (fun _ _=>trivial)
  exact⟨(a,c),he,pf a c (xs++ys) w1 hS (by simp;omega) (by rw [df];omega)⟩))
 have HQ:=h_ (fun(r:Row) (B:Nat) (w':Sk) (h:r.runs=cZ xs ys) (hB:w.heap.size≤B) (ho:w'.ownsRow B 77 5 (.slice r.at_ r.runs.length r.cap) r.runs.length (r.runs.flatMap Run.enc)) (hb:Sp w.heap.size w w')=>(show bY (cZ xs ys) w (.returned (.agg r.enc.toArray)) w' from⟨r,rfl,h,kT ho hB,hb⟩))
 have dp:=h_ (box3 w #[.slice aa xs.length ac] #[.slice ba ys.length bc] #[.slice none 0 0] 75 75 75)
 have hb3:∀ o1 o2 o3:Obj,Sp w.heap.size w (((w.alloc o1).alloc o2).alloc o3):=fun o1 o2 o3=>(((Sq _ _).alloc (Ss _) _).alloc (by simp) _).alloc (by simp;try omega) _
 have dv:∀ o1 o2 o3:Obj,w.heap.size+3≤(((w.alloc o1).alloc o2).alloc o3).heap.size:=fun o1 o2 o3=>by simp
 generalize bY (cZ xs ys) w=Q at *
 clear ha hb hs
 show Calls Tryz.prog 138 #[.agg #[.slice aa xs.length ac],.agg #[.slice ba ys.length bc]] w Q
 go_enter Tryz.func138,Tryz.ntmps138
 go_upto_region 1 with fail
 have h0:=dp.out.1
 have h1:=dp.out.2.1
 have h2:=dp.out.2.2
 have hbw:=hb3 (.cells #[.slice aa xs.length ac] 75) (.cells #[.slice ba ys.length bc] 75) (.cells #[.slice none 0 0] 75)
 have hsz:=dv (.cells #[.slice aa xs.length ac] 75) (.cells #[.slice ba ys.length bc] 75) (.cells #[.slice none 0 0] 75)
 clear dp hb3 dv
 generalize ((w.alloc (.cells #[.slice aa xs.length ac] 75)).alloc (.cells #[.slice ba ys.length bc] 75)).alloc (.cells #[.slice none 0 0] 75)=W0 at *
 have c0:W0.cell? ⟨w.heap.size,0,none⟩=some (.slice aa xs.length ac):=Sj _ _ 0 _ 75 (0,0) h0
 have c1:W0.cell? ⟨w.heap.size+1,0,none⟩=some (.slice ba ys.length bc):=Sj _ _ 0 _ 75 (0,0) h1
 have H2:=h_ h2
 have bE:=h_ hbw
 clear h0 h1 h2 hbw
 go_wp2_with fail
 have fW:Sp W0.heap.size W0 (W0.alloc (.cells #[.slice aa xs.length ac,.slice ba ys.length bc] 73)):=(Sq _ _).alloc (Ss _) _
 have hA:=Sm W0 (.cells #[.slice aa xs.length ac,.slice ba ys.length bc] 73)
 have hlA:W0.heap.size<(W0.alloc (.cells #[.slice aa xs.length ac,.slice ba ys.length bc] 73)).heap.size:=by simp
 generalize W0.alloc (.cells #[.slice aa xs.length ac,.slice ba ys.length bc] 73)=W1 at *
 have k0:W1.cell? ⟨W0.heap.size,0,none⟩=some (.slice aa xs.length ac):=Sj _ _ 0 _ 73 (0,0) hA
 have k1:W1.cell? ⟨W0.heap.size,1,none⟩=some (.slice ba ys.length bc):=Sj _ _ 1 _ 73 (0,0) hA
 have aM:=bE.out.trans (fW.mono (by omega))
 have z1:=(fW.block (w.heap.size+1+1) (by omega)).trans H2.out
 refine(HC.out _ W1 k0 k1 hlA aM).mono ?_
 rintro e w2 ⟨v,rfl,ho,hb2⟩
 obtain⟨⟨va,vc⟩,rfl,hnn⟩:=HN.out v W1 w2 ho
 have zi:=h_ hnn
 have hs1:=aM.size
 have hs2:=hb2.size
 have hbw2:=aM.trans (hb2.mono hs1)
 have z2:=(hb2.block (w.heap.size+1+1) (by omega)).trans z1
 clear hnn ho hb2 aM k0 k1 hA fW HC HN z1 c0 c1 bE H2
 simp only at *
 go_wp2_with fail
 refine zi.out.mono ?_
 rintro e w3 ⟨⟨ra,rc,rr⟩,rfl,hr,hor,hb3⟩
 have z3:=(hb3.block (w.heap.size+1+1) (by omega)).trans z2
 have cR:=hbw2.trans (hb3.mono (by omega))
 have f3:w3.frozen? ⟨w.heap.size+1+1,0,none⟩=false:=by simp [Sx,z3]
 have c3:w3.cell? ⟨w.heap.size+1+1,0,none⟩=some (.slice none 0 0):=Sj _ _ 0 _ 75 (0,0) z3
 have r9:=heap_setCell_same w3 (w.heap.size+1+1) 0 _ 75 (.slice ra rr.length rc) z3
 simp only at hr hor
 have Av:=aB (w':=w3.setCell ⟨w.heap.size+1+1,0,none⟩ (.slice ra rr.length rc)) hor fun b e=>Sr _ _ _ _ (by have:=(hor.lt b e).1;simp;omega)
 have HF:=h_ (HQ.out ⟨ra,rc,rr⟩ _ (w3.setCell ⟨w.heap.size+1+1,0,none⟩ (.slice ra rr.length rc)) hr (by omega) Av (cR.setCell (by simp;omega) _))
 clear hr hor Av hb3 cR hbw2 z2 z3 zi HQ
 simp only [Row.enc] at *
 go_wp2_with fail
 generalize w3.setCell ⟨w.heap.size+1+1,0,none⟩ (.slice ra rr.length rc)=w9 at *
 have fin4:∀ j,w9.cell? ⟨w.heap.size+1+1,j,none⟩=_:=fun j=>Sj _ _ j _ 75 (0,0) r9
 refine bodyPost_ret (v:=.agg #[.slice ra rr.length rc]) (by simp [results,Tryz.results138,go_sem,fin4]) rfl ?_
 exact HF.out
end Go.Proofs.YtjebaagkomejaaaGreatDoor
