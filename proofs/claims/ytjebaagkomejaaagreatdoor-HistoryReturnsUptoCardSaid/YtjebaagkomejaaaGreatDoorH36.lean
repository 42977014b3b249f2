/- edit.Check: the error of a command by itself. -/
import Derived.Test.YtjebaagkomejaaaGreatDoorH29
import Derived.Test.YtjebaagkomejaaaGreatDoorH25
import Derived.Test.YtjebaagkomejaaaGreatDoorH22
set_option linter.unusedVariables false
set_option linter.unusedSimpArgs false
set_option maxRecDepth 100000
set_option maxHeartbeats 12800000
open Go.Lib renaming hid→h_
open List renaming setIfInBounds_toArray→YA,getElem_cons_zero→YB,getElem_cons_succ→YC,getElem_toArray→YD,set_cons_zero→YE,set_cons_succ→YF
open Array renaming toArray_toList→YG
open Go renaming cell_of_row→Sh,heap_alloc_last→Si,World→Sj
open Go.RowKit renaming Below→Sk
open Go.RowKit.Below renaming refl→Sl
open Nat renaming le_refl→Sm
namespace Go.Proofs.YtjebaagkomejaaaGreatDoor
open Go.RowKit
theorem qv (x:Ed)(w:Sj)(hE:Env w)(hx:x.lies w)(hf:x.fits):Calls Tryz.prog 27 #[.agg x.enc.toArray] w fun e w'=>e=.returned (.int .i64 (gM x.c))∧Sk w.heap.size w w':=by
 have HQ:=h_ (fun(q:Int) (hq:gM x.c=q) (w':Sj) (hb:Sk w.heap.size w w')=>(show Ending.returned (.int .i64 q)=Ending.returned (.int .i64 (gM x.c))∧Sk w.heap.size w w' from⟨by rw [hq],hb⟩))
 have HB:=h_ (CL w x.enc.toArray 40)
 have gn:Sk w.heap.size w (w.alloc (.cells x.enc.toArray 40)):=(Sl _ _).alloc (Sm _) _
 have hsA:w.heap.size+1≤(w.alloc (.cells x.enc.toArray 40)).heap.size:=by simp
 have hop:0≤x.op∧x.op≤255:=hf.1
 have jR:=h_ (And.intro hE (And.intro hx hf))
 obtain⟨n,hn⟩:∃ n:Nat,x.op=(n:Int):=⟨x.op.toNat,by omega⟩
 have DA:=h_ (show(n<1∨19<n)→gM x.c=3 from fun h=>if_pos (by show x.op<1∨19<x.op;omega))
 have JY:=h_ (fun(h1:1≤n) (h19:n≤19)=>xT x n hn h1 h19)
 generalize gM x.c=G at *
 have Mh:n≤255:=by omega
 have hN:=h_ hn
 clear hE hx hf hop
 go_enter Tryz.func27,Tryz.ntmps27
 go_upto_region 1 with fail
 have h0:=HB.out
 clear HB
 generalize w.alloc (.cells x.enc.toArray 40)=W at *
 have bA:=h_ gn
 have H0:=h_ h0
 have e0:W.cell? ⟨w.heap.size,0,none⟩=some (.int .u8 (n:Int)):=by rw [←hn];exact Sh _ _ 0 _ 40 (0,0) h0
 clear gn h0 hn
 by_cases hlo:n<1
 · have HF:=h_ (HQ.out 3 (DA.out (.inl hlo)) W bA.out)
   have KP:(n:Int)<1:=by omega
   clear HQ DA JY hlo
   go_wp2_with fail
   go_ret
   exact HF.out
 · have KP:(1:Int)≤(n:Int):=by omega
   by_cases hhi:19<n
   · have HF:=h_ (HQ.out 3 (DA.out (.inr hhi)) W bA.out)
     have KW:(19:Int)<(n:Int):=by omega
     clear HQ DA JY hlo hhi
     go_wp2_with fail
     go_ret
     exact HF.out
   · have KW:(n:Int)≤19:=by omega
     have hn1:1≤n:=by omega
     have EJ:n≤19:=by omega
     have HG:=h_ (JY.out hn1 EJ)
     clear DA JY hlo hhi
     go_upto_region 3 with fail
     go_cut [3] from 14 to 20 (fun v wx=>∃ g3,v=.pointer (some ⟨g3,0,none⟩)∧W.heap.size≤g3∧wx.heap[g3]? =some (.cells #[.int .i64 (aN n)] 3 (0,0))∧Sk W.heap.size W wx)
     case first =>
      have hd0:Sk W.heap.size W W.drew:=(Sl _ _).drew
      have HX0:=h_ (fun(w':Sj) (h:Sk W.heap.size W w')=>(show w'.cell? ⟨w.heap.size,0,none⟩=some (.int .u8 (n:Int)) from(h.cell (p:=⟨w.heap.size,0,none⟩) (by simp only;omega)).trans e0))
      have hsub:(n:Int)-1=((n-1:Nat):Int):=by omega
      have hwr:IntKind.u8.wrap ((n:Int)-1)=((n-1:Nat):Int):=by rw [hsub];exact wrap_u8 (by omega)
      have Mk:((n-1:Nat):Int)<19:=by omega
      have KO:n-1<19:=by omega
      clear HG jR HQ bA H0 e0 hsub
      refine wp_region_held_drew (S:=fun w'=>Sk W.heap.size W w') (by kernel_rfl) hd0 (fun _=>?_)
      generalize W.drew=v0 at *
      have hs0:=hd0.size
      refine ab 1 (.pointer (some ⟨w.heap.size,0,none⟩)) hd0 ?_
      refine ab 2 (.int .u8 n) hd0 ?_ (hy:=.inl ⟨by rfl,fun w_ aH=>by have q_:=HX0.out w_ aH;go_simp⟩)
      refine ab 3 (.int .u8 (n-1:Nat)) hd0 ?_
      refine dH 0 7 (fun K hK=>?_) (fun K hK=>?_)
      focus
       go_simp
       refine(nc v0).mono ?_
       rintro e_ v1 ⟨gf,rfl,KX,hgf,hfc,ar⟩
       have zf:=hfc n hn1 EJ
       have hv1:=hd0.trans (ar.mono hd0.size)
       have hs1:=ar.size
       clear hfc ar
       go_wp2_with fail
       refine goOn hK hv1 ?_
       clear hK
       refine ab 4 (.pointer (some ⟨gf,(n-1)*2,none⟩)) hv1 ?_
       refine ab 5 (.pointer (some ⟨gf,(n-1)*2+1,none⟩)) hv1 ?_
       refine dH 6 7 (fun K hK=>?_) (fun K hK=>?_)
       focus
        go_simp
        refine goOn hK hv1 ?_
        clear hK
        refine aq 7 (fun K hK=>?_)
        go_simp
        have z3:=Si v1 (.cells #[.int .i64 0] 3)
        have ar:Sk v1.heap.size v1 (v1.alloc (.cells #[.int .i64 0] 3)):=(Sl _ _).alloc (Sm _) _
        have l3:v1.heap.size<(v1.alloc (.cells #[.int .i64 0] 3)).heap.size:=by simp
        generalize v1.alloc (.cells #[.int .i64 0] 3)=v2 at *
        obtain⟨g3,hg3⟩:∃ g,g=v1.heap.size:=⟨_,rfl⟩
        rw [←hg3] at z3 l3 ⊢
        have q3:v1.heap.size≤g3∧g3≤v1.heap.size:=by omega
        clear hg3
        have hv2:=hv1.trans (ar.mono hv1.size)
        have hs2:=ar.size
        replace zf:=(ar.cell (p:=⟨gf,(n-1)*2+1,none⟩) (by simp only;omega)).trans zf
        clear ar
       rotate_left
       focus
        go_simp
        have z3:=Si v1 (.cells #[.int .i64 0] 3)
        have ar:Sk v1.heap.size v1 (v1.alloc (.cells #[.int .i64 0] 3)):=(Sl _ _).alloc (Sm _) _
        have l3:v1.heap.size<(v1.alloc (.cells #[.int .i64 0] 3)).heap.size:=by simp
        generalize v1.alloc (.cells #[.int .i64 0] 3)=v2 at *
        obtain⟨g3,hg3⟩:∃ g,g=v1.heap.size:=⟨_,rfl⟩
        rw [←hg3] at z3 l3 ⊢
        have q3:v1.heap.size≤g3∧g3≤v1.heap.size:=by omega
        clear hg3
        have hv2:=hv1.trans (ar.mono hv1.size)
        have hs2:=ar.size
        replace zf:=(ar.cell (p:=⟨gf,(n-1)*2+1,none⟩) (by simp only;omega)).trans zf
        clear ar
        refine goOn hK hv2 ?_
        clear hK
        refine aq 6 (fun K hK=>?_)
        go_simp
      rotate_left 2
      focus
       go_simp
       have z3:=Si v0 (.cells #[.int .i64 0] 3)
       have ar:Sk v0.heap.size v0 (v0.alloc (.cells #[.int .i64 0] 3)):=(Sl _ _).alloc (Sm _) _
       have l3:v0.heap.size<(v0.alloc (.cells #[.int .i64 0] 3)).heap.size:=by simp
       generalize v0.alloc (.cells #[.int .i64 0] 3)=v1 at *
       obtain⟨g3,hg3⟩:∃ g,g=v0.heap.size:=⟨_,rfl⟩
       rw [←hg3] at z3 l3 ⊢
       have q3:v0.heap.size≤g3∧g3≤v0.heap.size:=by omega
       clear hg3
       have hv1:=hd0.trans (ar.mono hd0.size)
       have hs1:=ar.size
       clear ar
       refine goOn hK hv1 ?_
       clear hK
       refine aq 0 (fun K hK=>?_)
       go_simp
       refine(nc v1).mono ?_
       rintro e_ v2 ⟨gf,rfl,KX,hgf,hfc,ar⟩
       have zf:=hfc n hn1 EJ
       have hv2:=hv1.trans (ar.mono hv1.size)
       have hs2:=ar.size
       replace z3:=(ar.block g3 (by omega)).trans z3
       clear hfc ar
       go_wp2_with fail
       refine goOn hK hv2 ?_
       clear hK
       refine ab 4 (.pointer (some ⟨gf,(n-1)*2,none⟩)) hv2 ?_
       refine ab 5 (.pointer (some ⟨gf,(n-1)*2+1,none⟩)) hv2 ?_
       refine aq 6 (fun K hK=>?_)
       go_simp
      all_goals
       refine goOn hK hv2 ?_
       clear hK
       refine aq 8 (fun K hK=>?_)
       have c3:=Sh _ _ 0 _ 3 (0,0) z3
       have f3:v2.frozen? ⟨g3,0,none⟩=false:=by simp [Sj.frozen?,z3]
       go_simp
       have hst:Sk W.heap.size W (v2.setCell ⟨g3,0,none⟩ (.int .i64 (aN n))):=hv2.setCell (by have:=hv2.size;have:=hd0.size;simp;omega) _
       refine goOn hK hst ?_
       clear hK c3 f3
       refine wpAnyH_done (by kernel_rfl) ?_ _
       go_wp2_with fail
       go_meet
       exact⟨g3,rfl,by have:=hd0.size;omega,heap_setCell_same v2 g3 0 _ 3 (.int .i64 (aN n)) z3,hst⟩
     case rest =>
      obtain⟨g3,rfl,hg3,hz3,hb3⟩:=hcut
      obtain⟨w3,bn⟩:∃ x,x=wc:=⟨_,rfl⟩
      subst bn
      have hs3:=hb3.size
      have HX:=h_ (fun(w':Sj) (h:Sk w3.heap.size w3 w')=>(show w'.heap[w.heap.size]? =some (.cells x.enc.toArray 40 (0,0))∧w'.heap[g3]? =some (.cells #[.int .i64 (aN n)] 3 (0,0)) from
       ⟨(h.block w.heap.size (by omega)).trans ((hb3.block w.heap.size (by omega)).trans H0.out),(h.block g3 (aR hz3)).trans hz3⟩))
      have fE:=h_ (fun(w':Sj) (h:Sk w3.heap.size w3 w')=>bA.out.trans ((hb3.trans (h.mono hs3)).mono (show w.heap.size≤W.heap.size by omega)))
      have tu:=h_ (fun(w':Sj) (h:Sk w.heap.size w w')=>sM x w' (jR.out.1.below h (Sm _)) jR.out.2.2)
      have jt:=h_ (fun(w':Sj)=>(show Calls Tryz.prog 80 #[.agg #[.string x.reg.name,.int .i64 x.reg.top,.int .i64 x.reg.bm,.int .i64 x.reg.left,.int .i64 x.reg.width,.int .u8 x.reg.align,.bool x.reg.bottom]] w' _ from gE x.reg w' jR.out.2.2.2.2.2.2.2.2.1))
      have HRW:=h_ (fun(w':Sj) (h:Sk w.heap.size w w')=>sN x.at_ x.cap x.rows w' (jR.out.1.below h (Sm _)) (Ed.later jR.out.2.1 h) jR.out.2.2.2.2.2.2.2.2.2.1 jR.out.2.2.2.2.2.2.2.2.2.2)
      have hb4:Sk w3.heap.size w3 w3:=Sl _ _
      generalize ((aN (n:Int):Nat):Int)=U at *
      clear hz3 hb3 H0 bA e0
      have q0:=(HX.out w3 hb4).1
      have qz:w3.cell? ⟨g3,0,none⟩=some (.int .i64 U):=Sh _ _ 0 _ 3 (0,0) (HX.out w3 hb4).2
      have r0:=ai q0
      go_wp2_with (refine aj 40 (.tmp 1) rfl w.heap.size 0 rfl x.enc _ r0 Tryz.underlying40 rfl cS (by rfl) ?_)
      refine(tK x U w3).mono ?_
      rintro e_ w4 ⟨rfl,hb5⟩
      replace hb5:Sk w3.heap.size w3 w4:=hb4.trans (hb5.mono hb4.size)
      clear r0 q0 qz
      have q0:=(HX.out w4 hb5).1
      have qz:w4.cell? ⟨g3,0,none⟩=some (.int .i64 U):=Sh _ _ 0 _ 3 (0,0) (HX.out w4 hb5).2
      generalize (gR x).all (okS U)=SPB at *
      cases SPB with
      | false =>
        have HF:=h_ (HQ.out (1) (HG.out.trans (if_pos (by first|rfl|trivial))) w4 (fE.out w4 hb5))
        clear HG HX jR HQ fE tu jt HRW q0 qz
        go_wp2_with fail
        go_ret
        exact HF.out
      | true =>
        have HG:=h_ (HG.out.trans (if_neg (by intro h;first|cases h|exact absurd h (by decide))))
        have r0:=ai q0
        go_wp2_with (refine aj 40 (.tmp 1) rfl w.heap.size 0 rfl x.enc _ r0 Tryz.underlying40 rfl cS (by rfl) ?_)
        refine(rR x U w4).mono ?_
        rintro e_ w5 ⟨rfl,hb6⟩
        replace hb6:Sk w3.heap.size w3 w5:=hb5.trans (hb6.mono hb5.size)
        clear r0 q0 qz
        have q0:=(HX.out w5 hb6).1
        have qz:w5.cell? ⟨g3,0,none⟩=some (.int .i64 U):=Sh _ _ 0 _ 3 (0,0) (HX.out w5 hb6).2
        generalize (eJ x).all (okR U)=RGB at *
        cases RGB with
        | false =>
          have HF:=h_ (HQ.out (2) (HG.out.trans (if_pos (by first|rfl|trivial))) w5 (fE.out w5 hb6))
          clear HG HX jR HQ fE tu jt HRW q0 qz
          go_wp2_with fail
          go_ret
          exact HF.out
        | true =>
          have HG:=h_ (HG.out.trans (if_neg (by intro h;first|cases h|exact absurd h (by decide))))
          go_upto_region 9 with fail
          go_cut [32] from 33 to 40 (fun v wx=>v=.bool (hasB U 64&&(kindName x.kind).toList.isEmpty)∧Sk w5.heap.size w5 wx)
          case first =>
           clear HG HQ tu jt HRW fE
           go_wp2_with fail
           refine(ej U 64 g3 w5 qz).mono ?_
           rintro e_ w_ ⟨rfl,bn⟩
           rw [bn]
           clear bn w_
           generalize hasB U 64=B at *
           cases B with
           | false =>
             go_wp2_with fail
             go_meet
             exact⟨rfl,Sl _ _⟩
           | true =>
             have qk:w5.cell? ⟨w.heap.size,9,none⟩=some (.int .u8 x.kind):=Sh _ _ 9 _ 40 (0,0) q0
             have hkk:=jR.out.2.2.2.2.1
             have OQ:=h_ (jz x.kind w5 hkk.1 hkk.2)
             clear hkk
             go_wp2_with fail
             refine OQ.out.mono ?_
             rintro e_ wk ⟨rfl,hbk⟩
             generalize (kindName x.kind)=KN at *
             cases hke:KN.toList.isEmpty
             · go_wp2_with fail
               go_meet
               exact⟨by rw [hke];rfl,hbk⟩
             · go_wp2_with fail
               go_meet
               exact⟨by rw [hke];rfl,hbk⟩
          case rest =>
           obtain⟨rfl,hbc⟩:=hcut
           obtain⟨w6,bn⟩:∃ x,x=wc:=⟨_,rfl⟩
           subst bn
           have Aw:Sk w3.heap.size w3 w6:=hb6.trans (hbc.mono hb6.size)
           clear hbc q0 qz
           have q0:=(HX.out w6 Aw).1
           have qz:w6.cell? ⟨g3,0,none⟩=some (.int .i64 U):=Sh _ _ 0 _ 3 (0,0) (HX.out w6 Aw).2
           generalize hC:(hasB U 64&&(kindName x.kind).toList.isEmpty)=CC at *
           have HC:=h_ hC
           clear hC
           cases CC with
           | true =>
             have HF:=h_ (HQ.out (3) (HG.out.trans (if_pos (by first|rfl|trivial|exact HC.out))) w6 (fE.out w6 Aw))
             clear HG HX jR HQ fE tu jt HRW q0 qz
             go_wp2_with fail
             go_ret
             exact HF.out
           | false =>
             have HG:=h_ (HG.out.trans (if_neg (by intro h;first|cases h|(rw [HC.out] at h;cases h)|exact absurd h (by decide))))
             clear HC
             go_upto_region 11 with fail
             go_cut [41] from 42 to 49 (fun v wx=>v=.bool (hasB U 128&&!decide (x.color≤6))∧Sk w6.heap.size w6 wx)
             case first =>
              clear HG HQ tu jt HRW fE
              go_wp2_with fail
              refine(ej U 128 g3 w6 qz).mono ?_
              rintro e_ w_ ⟨rfl,bn⟩
              rw [bn]
              clear bn w_
              generalize hasB U 128=B at *
              cases B with
              | false =>
                go_wp2_with fail
                go_meet
                exact⟨rfl,Sl _ _⟩
              | true =>
                have qa:w6.cell? ⟨w.heap.size,10,none⟩=some (.int .u8 x.color):=Sh _ _ 10 _ 40 (0,0) q0
                have qb:w6.cell? ⟨w.heap.size,11,none⟩=some (.bool x.it):=Sh _ _ 11 _ 40 (0,0) q0
                have qc:w6.cell? ⟨w.heap.size,12,none⟩=some (.bool x.un):=Sh _ _ 12 _ 40 (0,0) q0
                go_wp2_with fail
                refine(cu x.color x.it x.un w6).mono ?_
                rintro e_ wk ⟨rfl,hbk⟩
                go_wp2_with fail
                go_meet
                exact⟨by simp,hbk⟩
             case rest =>
              obtain⟨rfl,hbc⟩:=hcut
              obtain⟨w7,bn⟩:∃ x,x=wc:=⟨_,rfl⟩
              subst bn
              have iP:Sk w3.heap.size w3 w7:=Aw.trans (hbc.mono Aw.size)
              clear hbc q0 qz
              have q0:=(HX.out w7 iP).1
              have qz:w7.cell? ⟨g3,0,none⟩=some (.int .i64 U):=Sh _ _ 0 _ 3 (0,0) (HX.out w7 iP).2
              generalize hC:(hasB U 128&&!decide (x.color≤6))=CC at *
              have HC:=h_ hC
              clear hC
              cases CC with
              | true =>
                have HF:=h_ (HQ.out (12) (HG.out.trans (if_pos (by first|rfl|trivial|exact HC.out))) w7 (fE.out w7 iP))
                clear HG HX jR HQ fE tu jt HRW q0 qz
                go_wp2_with fail
                go_ret
                exact HF.out
              | false =>
                have HG:=h_ (HG.out.trans (if_neg (by intro h;first|cases h|(rw [HC.out] at h;cases h)|exact absurd h (by decide))))
                clear HC
                go_upto_region 13 with fail
                go_cut [50] from 51 to 68 (fun v wx=>v=.bool (hasB U 256&&!c_ x.name&&(!x.name.toList.isEmpty||!hasB U 4096))∧Sk w7.heap.size w7 wx)
                case first =>
                 clear HG HQ tu jt HRW fE
                 go_wp2_with fail
                 refine(ej U 256 g3 w7 qz).mono ?_
                 rintro e_ w_ ⟨rfl,bn⟩
                 rw [bn]
                 clear bn w_
                 generalize hasB U 256=B at *
                 cases B with
                 | false =>
                   go_wp2_with fail
                   go_meet
                   exact⟨rfl,Sl _ _⟩
                 | true =>
                   have qa:w7.cell? ⟨w.heap.size,13,none⟩=some (.string x.name):=Sh _ _ 13 _ 40 (0,0) q0
                   have jd:=h_ (eK x.name w7 jR.out.2.2.2.2.2.2.1)
                   go_wp2_with fail
                   refine jd.out.mono ?_
                   rintro e_ w_ ⟨rfl,rfl⟩
                   clear jd
                   generalize c_ x.name=NB at *
                   cases NB with
                   | true =>
                     go_wp2_with fail
                     go_meet
                     exact⟨rfl,Sl _ _⟩
                   | false =>
                     cases hne:x.name.toList.isEmpty with
                     | false =>
                       go_wp2_with fail
                       go_meet
                       exact⟨by rw [hne];rfl,Sl _ _⟩
                     | true =>
                       go_wp2_with fail
                       refine(ej U 4096 g3 w7 qz).mono ?_
                       rintro e_ w_ ⟨rfl,bn⟩
                       rw [bn]
                       clear bn w_
                       generalize hasB U 4096=B12 at *
                       cases B12
                       · go_wp2_with fail
                         go_meet
                         exact⟨by rw [hne];rfl,Sl _ _⟩
                       · go_wp2_with fail
                         go_meet
                         exact⟨by rw [hne];rfl,Sl _ _⟩
                case rest =>
                 obtain⟨rfl,hbc⟩:=hcut
                 obtain⟨w8,bn⟩:∃ x,x=wc:=⟨_,rfl⟩
                 subst bn
                 have gP:Sk w3.heap.size w3 w8:=iP.trans (hbc.mono iP.size)
                 clear hbc q0 qz
                 have q0:=(HX.out w8 gP).1
                 have qz:w8.cell? ⟨g3,0,none⟩=some (.int .i64 U):=Sh _ _ 0 _ 3 (0,0) (HX.out w8 gP).2
                 generalize hC:(hasB U 256&&!c_ x.name&&(!x.name.toList.isEmpty||!hasB U 4096))=CC at *
                 have HC:=h_ hC
                 clear hC
                 cases CC with
                 | true =>
                   have HF:=h_ (HQ.out (5) (HG.out.trans (if_pos (by first|rfl|trivial|exact HC.out))) w8 (fE.out w8 gP))
                   clear HG HX jR HQ fE tu jt HRW q0 qz
                   go_wp2_with fail
                   go_ret
                   exact HF.out
                 | false =>
                   have HG:=h_ (HG.out.trans (if_neg (by intro h;first|cases h|(rw [HC.out] at h;cases h)|exact absurd h (by decide))))
                   clear HC
                   go_wp2_with fail
                   refine(ej U 512 g3 w8 qz).mono ?_
                   rintro e_ w_ ⟨rfl,bn⟩
                   rw [bn]
                   clear bn w_
                   generalize hasB U 512=B9 at *
                   cases B9 with
                   | false =>
                     have HG:=h_ (HG.out.trans (if_neg (by intro h;exact absurd h.1 (by decide))))
                     go_wp2_with fail
                     refine(ej U 1024 g3 w8 qz).mono ?_
                     rintro e_ w_ ⟨rfl,bn⟩
                     rw [bn]
                     clear bn w_
                     generalize hasB U 1024=B10 at *
                     cases B10 with
                     | true =>
                       have HG:=h_ (HG.out.trans (if_pos (by first|rfl|trivial)))
                       have qr0:w8.cell? ⟨w.heap.size,15,none⟩=some (.string x.reg.name):=Sh _ _ 15 _ 40 (0,0) q0
                       have qr1:w8.cell? ⟨w.heap.size,16,none⟩=some (.int .i64 x.reg.top):=Sh _ _ 16 _ 40 (0,0) q0
                       have qr2:w8.cell? ⟨w.heap.size,17,none⟩=some (.int .i64 x.reg.bm):=Sh _ _ 17 _ 40 (0,0) q0
                       have qr3:w8.cell? ⟨w.heap.size,18,none⟩=some (.int .i64 x.reg.left):=Sh _ _ 18 _ 40 (0,0) q0
                       have qr4:w8.cell? ⟨w.heap.size,19,none⟩=some (.int .i64 x.reg.width):=Sh _ _ 19 _ 40 (0,0) q0
                       have qr5:w8.cell? ⟨w.heap.size,20,none⟩=some (.int .u8 x.reg.align):=Sh _ _ 20 _ 40 (0,0) q0
                       have qr6:w8.cell? ⟨w.heap.size,21,none⟩=some (.bool x.reg.bottom):=Sh _ _ 21 _ 40 (0,0) q0
                       have HR:=h_ (jt.out w8)
                       have nM:=h_ (fE.out w8 gP)
                       generalize fo x.reg=E at *
                       have HF:=h_ (HQ.out E HG.out)
                       clear HG HX jR HQ fE tu jt HRW q0 qz
                       go_wp2_with fail
                       refine HR.out.mono ?_
                       rintro e_ wz ⟨rfl,hbz⟩
                       have Bk:=h_ (HF.out wz (nM.out.trans (hbz.mono nM.out.size)))
                       clear HF hbz
                       go_wp2_with fail
                       go_ret
                       exact Bk.out
                     | false =>
                       have HG:=h_ (HG.out.trans (if_neg (by intro h;first|cases h|exact absurd h (by decide))))
                       go_wp2_with fail
                       refine(ej U 2048 g3 w8 qz).mono ?_
                       rintro e_ w_ ⟨rfl,bn⟩
                       rw [bn]
                       clear bn w_
                       generalize hasB U 2048=B11 at *
                       cases B11 with
                       | false =>
                         have HF:=h_ (HQ.out (0) (HG.out.trans (if_neg (by intro h;first|cases h|exact absurd h (by decide)))) w8 (fE.out w8 gP))
                         clear HG HX jR HQ fE tu jt HRW q0 qz
                         go_wp2_with fail
                         go_ret
                         exact HF.out
                       | true =>
                         have HG:=h_ (HG.out.trans (if_pos (by first|rfl|trivial)))
                         have qr:w8.cell? ⟨w.heap.size,22,none⟩=some (.slice x.at_ x.rows.length x.cap):=Sh _ _ 22 _ 40 (0,0) q0
                         have HR:=h_ (HRW.out w8 (fE.out w8 gP))
                         have nM:=h_ (fE.out w8 gP)
                         generalize dx (x.rows.map Row.runs)=E at *
                         have HF:=h_ (HQ.out E HG.out)
                         clear HG HX jR HQ fE tu jt HRW q0 qz
                         go_wp2_with fail
                         refine HR.out.mono ?_
                         rintro e_ wz ⟨rfl,hbz⟩
                         have Bk:=h_ (HF.out wz (nM.out.trans (hbz.mono nM.out.size)))
                         clear HF hbz
                         go_wp2_with fail
                         go_ret
                         exact Bk.out
                   | true =>
                     have r0:=ai q0
                     have HT:=h_ (tu.out w8 (fE.out w8 gP))
                     go_wp2_with (refine aj 40 (.tmp 1) rfl w.heap.size 0 rfl x.enc _ r0 Tryz.underlying40 rfl cS (by rfl) ?_)
                     refine HT.out.mono ?_
                     rintro e_ w9 ⟨rfl,js⟩
                     replace js:Sk w3.heap.size w3 w9:=gP.trans (js.mono gP.size)
                     clear r0 q0 qz HT
                     have q0:=(HX.out w9 js).1
                     have qz:w9.cell? ⟨g3,0,none⟩=some (.int .i64 U):=Sh _ _ 0 _ 3 (0,0) (HX.out w9 js).2
                     generalize dJ x.c=TE at *
                     by_cases hte:TE=0
                     · subst hte
                       have HG:=h_ (HG.out.trans (if_neg (by intro h;exact h.2 rfl)))
                       go_wp2_with fail
                       refine(ej U 1024 g3 w9 qz).mono ?_
                       rintro e_ w_ ⟨rfl,bn⟩
                       rw [bn]
                       clear bn w_
                       generalize hasB U 1024=B10 at *
                       cases B10 with
                       | true =>
                         have HG:=h_ (HG.out.trans (if_pos (by first|rfl|trivial)))
                         have qr0:w9.cell? ⟨w.heap.size,15,none⟩=some (.string x.reg.name):=Sh _ _ 15 _ 40 (0,0) q0
                         have qr1:w9.cell? ⟨w.heap.size,16,none⟩=some (.int .i64 x.reg.top):=Sh _ _ 16 _ 40 (0,0) q0
                         have qr2:w9.cell? ⟨w.heap.size,17,none⟩=some (.int .i64 x.reg.bm):=Sh _ _ 17 _ 40 (0,0) q0
                         have qr3:w9.cell? ⟨w.heap.size,18,none⟩=some (.int .i64 x.reg.left):=Sh _ _ 18 _ 40 (0,0) q0
                         have qr4:w9.cell? ⟨w.heap.size,19,none⟩=some (.int .i64 x.reg.width):=Sh _ _ 19 _ 40 (0,0) q0
                         have qr5:w9.cell? ⟨w.heap.size,20,none⟩=some (.int .u8 x.reg.align):=Sh _ _ 20 _ 40 (0,0) q0
                         have qr6:w9.cell? ⟨w.heap.size,21,none⟩=some (.bool x.reg.bottom):=Sh _ _ 21 _ 40 (0,0) q0
                         have HR:=h_ (jt.out w9)
                         have nM:=h_ (fE.out w9 js)
                         generalize fo x.reg=E at *
                         have HF:=h_ (HQ.out E HG.out)
                         clear HG HX jR HQ fE tu jt HRW q0 qz
                         go_wp2_with fail
                         refine HR.out.mono ?_
                         rintro e_ wz ⟨rfl,hbz⟩
                         have Bk:=h_ (HF.out wz (nM.out.trans (hbz.mono nM.out.size)))
                         clear HF hbz
                         go_wp2_with fail
                         go_ret
                         exact Bk.out
                       | false =>
                         have HG:=h_ (HG.out.trans (if_neg (by intro h;first|cases h|exact absurd h (by decide))))
                         go_wp2_with fail
                         refine(ej U 2048 g3 w9 qz).mono ?_
                         rintro e_ w_ ⟨rfl,bn⟩
                         rw [bn]
                         clear bn w_
                         generalize hasB U 2048=B11 at *
                         cases B11 with
                         | false =>
                           have HF:=h_ (HQ.out (0) (HG.out.trans (if_neg (by intro h;first|cases h|exact absurd h (by decide)))) w9 (fE.out w9 js))
                           clear HG HX jR HQ fE tu jt HRW q0 qz
                           go_wp2_with fail
                           go_ret
                           exact HF.out
                         | true =>
                           have HG:=h_ (HG.out.trans (if_pos (by first|rfl|trivial)))
                           have qr:w9.cell? ⟨w.heap.size,22,none⟩=some (.slice x.at_ x.rows.length x.cap):=Sh _ _ 22 _ 40 (0,0) q0
                           have HR:=h_ (HRW.out w9 (fE.out w9 js))
                           have nM:=h_ (fE.out w9 js)
                           generalize dx (x.rows.map Row.runs)=E at *
                           have HF:=h_ (HQ.out E HG.out)
                           clear HG HX jR HQ fE tu jt HRW q0 qz
                           go_wp2_with fail
                           refine HR.out.mono ?_
                           rintro e_ wz ⟨rfl,hbz⟩
                           have Bk:=h_ (HF.out wz (nM.out.trans (hbz.mono nM.out.size)))
                           clear HF hbz
                           go_wp2_with fail
                           go_ret
                           exact Bk.out
                     · have Nr:(TE != 0)=true:=by simpa using hte
                       have HF:=h_ (HQ.out (TE) (HG.out.trans (if_pos ⟨by first|rfl|trivial,hte⟩)) w9 (fE.out w9 js))
                       clear HG HX jR HQ fE tu jt HRW q0 qz
                       go_wp2_with fail
                       go_ret
                       exact HF.out
end Go.Proofs.YtjebaagkomejaaaGreatDoor
