/- edit.Check: the error of a command by itself. -/
import Derived.Test.YtjebaagkomejaaaGreatDoorK27
import Derived.Test.YtjebaagkomejaaaGreatDoorK25
import Derived.Test.YtjebaagkomejaaaGreatDoorK28
set_option linter.unusedVariables false
set_option linter.unusedSimpArgs false
set_option maxRecDepth 100000
set_option maxHeartbeats 12800000
open Go.Lib renaming hid→h_
open List renaming setIfInBounds_toArray→YA,getElem_cons_zero→YB,getElem_cons_succ→YC,getElem_toArray→YD,set_cons_zero→YE,set_cons_succ→YF
open Array renaming toArray_toList→YG
open Go renaming cell_of_row→Sj,heap_alloc_last→Sk,World→Sl
open Go.RowKit renaming Below→Sm
open Go.RowKit.Below renaming refl→Sn
open Nat renaming le_refl→Sp
namespace Go.Proofs.YtjebaagkomejaaaGreatDoor
open Go.RowKit
theorem qK (x:Ed)(w:Sl)(hE:Env w)(hx:x.lies w)(hf:x.fits):Calls Tryz.prog 27 #[.agg x.enc.toArray] w fun e w'=>e=.returned (.int .i64 (gE x.c))∧Sm w.heap.size w w':=by
 have HQ:=h_ (fun(q:Int) (hq:gE x.c=q) (w':Sl) (hb:Sm w.heap.size w w')=>(show Ending.returned (.int .i64 q)=Ending.returned (.int .i64 (gE x.c))∧Sm w.heap.size w w' from⟨by rw [hq],hb⟩))
 have HB:=h_ (CO w x.enc.toArray 40)
 have fW:Sm w.heap.size w (w.alloc (.cells x.enc.toArray 40)):=(Sn _ _).alloc (Sp _) _
 have hsA:w.heap.size+1≤(w.alloc (.cells x.enc.toArray 40)).heap.size:=by simp
 have hop:0≤x.op∧x.op≤255:=hf.1
 have jo:=h_ (And.intro hE (And.intro hx hf))
 obtain⟨n,hn⟩:∃ n:Nat,x.op=(n:Int):=⟨x.op.toNat,by omega⟩
 have DD:=h_ (show(n<1∨19<n)→gE x.c=3 from fun h=>if_pos (by show x.op<1∨19<x.op;omega))
 have JD:=h_ (fun(h1:1≤n) (h19:n≤19)=>yz x n hn h1 h19)
 generalize gE x.c=G at *
 have L6:n≤255:=by omega
 have hN:=h_ hn
 clear hE hx hf hop
 go_enter Tryz.func27,Tryz.ntmps27
 go_upto_region 1 with fail
 have h0:=HB.out
 clear HB
 generalize w.alloc (.cells x.enc.toArray 40)=W at *
 have bE:=h_ fW
 have H0:=h_ h0
 have e0:W.cell? ⟨w.heap.size,0,none⟩=some (.int .u8 (n:Int)):=by rw [←hn];exact Sj _ _ 0 _ 40 (0,0) h0
 clear fW h0 hn
 by_cases hlo:n<1
 · have HF:=h_ (HQ.out 3 (DD.out (.inl hlo)) W bE.out)
   have Kz:(n:Int)<1:=by omega
   clear HQ DD JD hlo
   go_wp2_with fail
   go_ret
   exact HF.out
 · have Kz:(1:Int)≤(n:Int):=by omega
   by_cases hhi:19<n
   · have HF:=h_ (HQ.out 3 (DD.out (.inr hhi)) W bE.out)
     have KG:(19:Int)<(n:Int):=by omega
     clear HQ DD JD hlo hhi
     go_wp2_with fail
     go_ret
     exact HF.out
   · have KG:(n:Int)≤19:=by omega
     have hn1:1≤n:=by omega
     have EN:n≤19:=by omega
     have HG:=h_ (JD.out hn1 EN)
     clear DD JD hlo hhi
     go_upto_region 3 with fail
     go_cut [3] from 14 to 20 (fun v wx=>∃ g3,v=.pointer (some ⟨g3,0,none⟩)∧W.heap.size≤g3∧wx.heap[g3]? =some (.cells #[.int .i64 (aN n)] 3 (0,0))∧Sm W.heap.size W wx)
     case first =>
      have hd0:Sm W.heap.size W W.drew:=(Sn _ _).drew
      have HX0:=h_ (fun(w':Sl) (h:Sm W.heap.size W w')=>(show w'.cell? ⟨w.heap.size,0,none⟩=some (.int .u8 (n:Int)) from(h.cell (p:=⟨w.heap.size,0,none⟩) (by simp only;omega)).trans e0))
      have hsub:(n:Int)-1=((n-1:Nat):Int):=by omega
      have hwr:IntKind.u8.wrap ((n:Int)-1)=((n-1:Nat):Int):=by rw [hsub];exact wrap_u8 (by omega)
      have L9:((n-1:Nat):Int)<19:=by omega
      have Ky:n-1<19:=by omega
      clear HG jo HQ bE H0 e0 hsub
      refine wp_region_held_drew (S:=fun w'=>Sm W.heap.size W w') (by kernel_rfl) hd0 (fun _=>?_)
      generalize W.drew=v0 at *
      have hs0:=hd0.size
      refine ab 1 (.pointer (some ⟨w.heap.size,0,none⟩)) hd0 ?_
      refine ab 2 (.int .u8 n) hd0 ?_ (hy:=.inl ⟨by rfl,fun w_ aH=>by have q_:=HX0.out w_ aH;go_simp⟩)
      refine ab 3 (.int .u8 (n-1:Nat)) hd0 ?_
      refine dP 0 7 (fun K hK=>?_) (fun K hK=>?_)
      focus
       go_simp
       refine(nk v0).mono ?_
       rintro e_ v1 ⟨gf,rfl,KH,hgf,hfc,ar⟩
       have zf:=hfc n hn1 EN
       have hv1:=hd0.trans (ar.mono hd0.size)
       have hs1:=ar.size
       clear hfc ar
       go_wp2_with fail
       refine goOn hK hv1 ?_
       clear hK
       refine ab 4 (.pointer (some ⟨gf,(n-1)*2,none⟩)) hv1 ?_
       refine ab 5 (.pointer (some ⟨gf,(n-1)*2+1,none⟩)) hv1 ?_
       refine dP 6 7 (fun K hK=>?_) (fun K hK=>?_)
       focus
        go_simp
        refine goOn hK hv1 ?_
        clear hK
        refine aq 7 (fun K hK=>?_)
        go_simp
        have z3:=Sk v1 (.cells #[.int .i64 0] 3)
        have ar:Sm v1.heap.size v1 (v1.alloc (.cells #[.int .i64 0] 3)):=(Sn _ _).alloc (Sp _) _
        have l3:v1.heap.size<(v1.alloc (.cells #[.int .i64 0] 3)).heap.size:=by simp
        generalize v1.alloc (.cells #[.int .i64 0] 3)=v2 at *
        obtain⟨g3,hg3⟩:∃ g,g=v1.heap.size:=⟨_,rfl⟩
        rw [←hg3] at z3 l3 ⊢
        have q3:v1.heap.size≤g3∧g3≤v1.heap.size:=by omega
        clear hg3
        have hv2:=hv1.trans (ar.mono hv1.size)
        have hs2:=ar.size
        replace zf:=(ar.cell (p:=⟨gf,(n-1)*2+1,none⟩) (by simp only;omega)).trans zf
        clear ar
       rotate_left
       focus
        go_simp
        have z3:=Sk v1 (.cells #[.int .i64 0] 3)
        have ar:Sm v1.heap.size v1 (v1.alloc (.cells #[.int .i64 0] 3)):=(Sn _ _).alloc (Sp _) _
        have l3:v1.heap.size<(v1.alloc (.cells #[.int .i64 0] 3)).heap.size:=by simp
        generalize v1.alloc (.cells #[.int .i64 0] 3)=v2 at *
        obtain⟨g3,hg3⟩:∃ g,g=v1.heap.size:=⟨_,rfl⟩
        rw [←hg3] at z3 l3 ⊢
        have q3:v1.heap.size≤g3∧g3≤v1.heap.size:=by omega
        clear hg3
        have hv2:=hv1.trans (ar.mono hv1.size)
        have hs2:=ar.size
        replace zf:=(ar.cell (p:=⟨gf,(n-1)*2+1,none⟩) (by simp only;omega)).trans zf
        clear ar
        refine goOn hK hv2 ?_
        clear hK
        refine aq 6 (fun K hK=>?_)
        go_simp
      rotate_left 2
      focus
       go_simp
       have z3:=Sk v0 (.cells #[.int .i64 0] 3)
       have ar:Sm v0.heap.size v0 (v0.alloc (.cells #[.int .i64 0] 3)):=(Sn _ _).alloc (Sp _) _
       have l3:v0.heap.size<(v0.alloc (.cells #[.int .i64 0] 3)).heap.size:=by simp
       generalize v0.alloc (.cells #[.int .i64 0] 3)=v1 at *
       obtain⟨g3,hg3⟩:∃ g,g=v0.heap.size:=⟨_,rfl⟩
       rw [←hg3] at z3 l3 ⊢
       have q3:v0.heap.size≤g3∧g3≤v0.heap.size:=by omega
       clear hg3
       have hv1:=hd0.trans (ar.mono hd0.size)
       have hs1:=ar.size
       clear ar
       refine goOn hK hv1 ?_
       clear hK
       refine aq 0 (fun K hK=>?_)
       go_simp
       refine(nk v1).mono ?_
       rintro e_ v2 ⟨gf,rfl,KH,hgf,hfc,ar⟩
       have zf:=hfc n hn1 EN
       have hv2:=hv1.trans (ar.mono hv1.size)
       have hs2:=ar.size
       replace z3:=(ar.block g3 (by omega)).trans z3
       clear hfc ar
       go_wp2_with fail
       refine goOn hK hv2 ?_
       clear hK
       refine ab 4 (.pointer (some ⟨gf,(n-1)*2,none⟩)) hv2 ?_
       refine ab 5 (.pointer (some ⟨gf,(n-1)*2+1,none⟩)) hv2 ?_
       refine aq 6 (fun K hK=>?_)
       go_simp
      all_goals
       refine goOn hK hv2 ?_
       clear hK
       refine aq 8 (fun K hK=>?_)
       have c3:=Sj _ _ 0 _ 3 (0,0) z3
       have f3:v2.frozen? ⟨g3,0,none⟩=false:=by simp [Sl.frozen?,z3]
       go_simp
       have hst:Sm W.heap.size W (v2.setCell ⟨g3,0,none⟩ (.int .i64 (aN n))):=hv2.setCell (by have:=hv2.size;have:=hd0.size;simp;omega) _
       refine goOn hK hst ?_
       clear hK c3 f3
       refine wpAnyH_done (by kernel_rfl) ?_ _
       go_wp2_with fail
       go_meet
       exact⟨g3,rfl,by have:=hd0.size;omega,heap_setCell_same v2 g3 0 _ 3 (.int .i64 (aN n)) z3,hst⟩
     case rest =>
      obtain⟨g3,rfl,hg3,hz3,hb3⟩:=hcut
      obtain⟨w3,bm⟩:∃ x,x=wc:=⟨_,rfl⟩
      subst bm
      have hs3:=hb3.size
      have HX:=h_ (fun(w':Sl) (h:Sm w3.heap.size w3 w')=>(show w'.heap[w.heap.size]? =some (.cells x.enc.toArray 40 (0,0))∧w'.heap[g3]? =some (.cells #[.int .i64 (aN n)] 3 (0,0)) from
       ⟨(h.block w.heap.size (by omega)).trans ((hb3.block w.heap.size (by omega)).trans H0.out),(h.block g3 (aR hz3)).trans hz3⟩))
      have fB:=h_ (fun(w':Sl) (h:Sm w3.heap.size w3 w')=>bE.out.trans ((hb3.trans (h.mono hs3)).mono (show w.heap.size≤W.heap.size by omega)))
      have tS:=h_ (fun(w':Sl) (h:Sm w.heap.size w w')=>tl x w' (jo.out.1.below h (Sp _)) jo.out.2.2)
      have js:=h_ (fun(w':Sl)=>(show Calls Tryz.prog 80 #[.agg #[.string x.reg.name,.int .i64 x.reg.top,.int .i64 x.reg.aZ,.int .i64 x.reg.left,.int .i64 x.reg.width,.int .u8 x.reg.align,.bool x.reg.bottom]] w' _ from gq x.reg w' jo.out.2.2.2.2.2.2.2.2.1))
      have HRW:=h_ (fun(w':Sl) (h:Sm w.heap.size w w')=>tm x.at_ x.cap x.rows w' (jo.out.1.below h (Sp _)) (Ed.later jo.out.2.1 h) jo.out.2.2.2.2.2.2.2.2.2.1 jo.out.2.2.2.2.2.2.2.2.2.2)
      have hb4:Sm w3.heap.size w3 w3:=Sn _ _
      generalize ((aN (n:Int):Nat):Int)=U at *
      clear hz3 hb3 H0 bE e0
      have q0:=(HX.out w3 hb4).1
      have qz:w3.cell? ⟨g3,0,none⟩=some (.int .i64 U):=Sj _ _ 0 _ 3 (0,0) (HX.out w3 hb4).2
      have r0:=ai q0
      go_wp2_with (refine aj 40 (.tmp 1) rfl w.heap.size 0 rfl x.enc _ r0 Tryz.underlying40 rfl dX (by rfl) ?_)
      refine(ui x U w3).mono ?_
      rintro e_ w4 ⟨rfl,hb5⟩
      replace hb5:Sm w3.heap.size w3 w4:=hb4.trans (hb5.mono hb4.size)
      clear r0 q0 qz
      have q0:=(HX.out w4 hb5).1
      have qz:w4.cell? ⟨g3,0,none⟩=some (.int .i64 U):=Sj _ _ 0 _ 3 (0,0) (HX.out w4 hb5).2
      generalize (gI x).all (okS U)=SPB at *
      cases SPB with
      | false =>
        have HF:=h_ (HQ.out (1) (HG.out.trans (if_pos (by first|rfl|trivial))) w4 (fB.out w4 hb5))
        clear HG HX jo HQ fB tS js HRW q0 qz
        go_wp2_with fail
        go_ret
        exact HF.out
      | true =>
        have HG:=h_ (HG.out.trans (if_neg (by intro h;first|cases h|exact absurd h (by decide))))
        have r0:=ai q0
        go_wp2_with (refine aj 40 (.tmp 1) rfl w.heap.size 0 rfl x.enc _ r0 Tryz.underlying40 rfl dX (by rfl) ?_)
        refine(sl x U w4).mono ?_
        rintro e_ w5 ⟨rfl,hb6⟩
        replace hb6:Sm w3.heap.size w3 w5:=hb5.trans (hb6.mono hb5.size)
        clear r0 q0 qz
        have q0:=(HX.out w5 hb6).1
        have qz:w5.cell? ⟨g3,0,none⟩=some (.int .i64 U):=Sj _ _ 0 _ 3 (0,0) (HX.out w5 hb6).2
        generalize (eF x).all (okR U)=RGB at *
        cases RGB with
        | false =>
          have HF:=h_ (HQ.out (2) (HG.out.trans (if_pos (by first|rfl|trivial))) w5 (fB.out w5 hb6))
          clear HG HX jo HQ fB tS js HRW q0 qz
          go_wp2_with fail
          go_ret
          exact HF.out
        | true =>
          have HG:=h_ (HG.out.trans (if_neg (by intro h;first|cases h|exact absurd h (by decide))))
          go_upto_region 9 with fail
          go_cut [32] from 33 to 40 (fun v wx=>v=.bool (hasB U 64&&(kindName x.kind).toList.isEmpty)∧Sm w5.heap.size w5 wx)
          case first =>
           clear HG HQ tS js HRW fB
           go_wp2_with fail
           refine(eh U 64 g3 w5 qz).mono ?_
           rintro e_ w_ ⟨rfl,bm⟩
           rw [bm]
           clear bm w_
           generalize hasB U 64=B at *
           cases B with
           | false =>
             go_wp2_with fail
             go_meet
             exact⟨rfl,Sn _ _⟩
           | true =>
             have qk:w5.cell? ⟨w.heap.size,9,none⟩=some (.int .u8 x.kind):=Sj _ _ 9 _ 40 (0,0) q0
             have hkk:=jo.out.2.2.2.2.1
             have OY:=h_ (jA x.kind w5 hkk.1 hkk.2)
             clear hkk
             go_wp2_with fail
             refine OY.out.mono ?_
             rintro e_ wk ⟨rfl,hbk⟩
             generalize (kindName x.kind)=KN at *
             cases hke:KN.toList.isEmpty
             · go_wp2_with fail
               go_meet
               exact⟨by rw [hke];rfl,hbk⟩
             · go_wp2_with fail
               go_meet
               exact⟨by rw [hke];rfl,hbk⟩
          case rest =>
           obtain⟨rfl,hbc⟩:=hcut
           obtain⟨w6,bm⟩:∃ x,x=wc:=⟨_,rfl⟩
           subst bm
           have AH:Sm w3.heap.size w3 w6:=hb6.trans (hbc.mono hb6.size)
           clear hbc q0 qz
           have q0:=(HX.out w6 AH).1
           have qz:w6.cell? ⟨g3,0,none⟩=some (.int .i64 U):=Sj _ _ 0 _ 3 (0,0) (HX.out w6 AH).2
           generalize hC:(hasB U 64&&(kindName x.kind).toList.isEmpty)=CC at *
           have HC:=h_ hC
           clear hC
           cases CC with
           | true =>
             have HF:=h_ (HQ.out (3) (HG.out.trans (if_pos (by first|rfl|trivial|exact HC.out))) w6 (fB.out w6 AH))
             clear HG HX jo HQ fB tS js HRW q0 qz
             go_wp2_with fail
             go_ret
             exact HF.out
           | false =>
             have HG:=h_ (HG.out.trans (if_neg (by intro h;first|cases h|(rw [HC.out] at h;cases h)|exact absurd h (by decide))))
             clear HC
             go_upto_region 11 with fail
             go_cut [41] from 42 to 49 (fun v wx=>v=.bool (hasB U 128&&!decide (x.color≤6))∧Sm w6.heap.size w6 wx)
             case first =>
              clear HG HQ tS js HRW fB
              go_wp2_with fail
              refine(eh U 128 g3 w6 qz).mono ?_
              rintro e_ w_ ⟨rfl,bm⟩
              rw [bm]
              clear bm w_
              generalize hasB U 128=B at *
              cases B with
              | false =>
                go_wp2_with fail
                go_meet
                exact⟨rfl,Sn _ _⟩
              | true =>
                have qa:w6.cell? ⟨w.heap.size,10,none⟩=some (.int .u8 x.color):=Sj _ _ 10 _ 40 (0,0) q0
                have qb:w6.cell? ⟨w.heap.size,11,none⟩=some (.bool x.it):=Sj _ _ 11 _ 40 (0,0) q0
                have qc:w6.cell? ⟨w.heap.size,12,none⟩=some (.bool x.un):=Sj _ _ 12 _ 40 (0,0) q0
                go_wp2_with fail
                refine(cC x.color x.it x.un w6).mono ?_
                rintro e_ wk ⟨rfl,hbk⟩
                go_wp2_with fail
                go_meet
                exact⟨by simp,hbk⟩
             case rest =>
              obtain⟨rfl,hbc⟩:=hcut
              obtain⟨w7,bm⟩:∃ x,x=wc:=⟨_,rfl⟩
              subst bm
              have jr:Sm w3.heap.size w3 w7:=AH.trans (hbc.mono AH.size)
              clear hbc q0 qz
              have q0:=(HX.out w7 jr).1
              have qz:w7.cell? ⟨g3,0,none⟩=some (.int .i64 U):=Sj _ _ 0 _ 3 (0,0) (HX.out w7 jr).2
              generalize hC:(hasB U 128&&!decide (x.color≤6))=CC at *
              have HC:=h_ hC
              clear hC
              cases CC with
              | true =>
                have HF:=h_ (HQ.out (12) (HG.out.trans (if_pos (by first|rfl|trivial|exact HC.out))) w7 (fB.out w7 jr))
                clear HG HX jo HQ fB tS js HRW q0 qz
                go_wp2_with fail
                go_ret
                exact HF.out
              | false =>
                have HG:=h_ (HG.out.trans (if_neg (by intro h;first|cases h|(rw [HC.out] at h;cases h)|exact absurd h (by decide))))
                clear HC
                go_upto_region 13 with fail
                go_cut [50] from 51 to 68 (fun v wx=>v=.bool (hasB U 256&&!da x.name&&(!x.name.toList.isEmpty||!hasB U 4096))∧Sm w7.heap.size w7 wx)
                case first =>
                 clear HG HQ tS js HRW fB
                 go_wp2_with fail
                 refine(eh U 256 g3 w7 qz).mono ?_
                 rintro e_ w_ ⟨rfl,bm⟩
                 rw [bm]
                 clear bm w_
                 generalize hasB U 256=B at *
                 cases B with
                 | false =>
                   go_wp2_with fail
                   go_meet
                   exact⟨rfl,Sn _ _⟩
                 | true =>
                   have qa:w7.cell? ⟨w.heap.size,13,none⟩=some (.string x.name):=Sj _ _ 13 _ 40 (0,0) q0
                   have i_:=h_ (eG x.name w7 jo.out.2.2.2.2.2.2.1)
                   go_wp2_with fail
                   refine i_.out.mono ?_
                   rintro e_ w_ ⟨rfl,rfl⟩
                   clear i_
                   generalize da x.name=NB at *
                   cases NB with
                   | true =>
                     go_wp2_with fail
                     go_meet
                     exact⟨rfl,Sn _ _⟩
                   | false =>
                     cases hne:x.name.toList.isEmpty with
                     | false =>
                       go_wp2_with fail
                       go_meet
                       exact⟨by rw [hne];rfl,Sn _ _⟩
                     | true =>
                       go_wp2_with fail
                       refine(eh U 4096 g3 w7 qz).mono ?_
                       rintro e_ w_ ⟨rfl,bm⟩
                       rw [bm]
                       clear bm w_
                       generalize hasB U 4096=B12 at *
                       cases B12
                       · go_wp2_with fail
                         go_meet
                         exact⟨by rw [hne];rfl,Sn _ _⟩
                       · go_wp2_with fail
                         go_meet
                         exact⟨by rw [hne];rfl,Sn _ _⟩
                case rest =>
                 obtain⟨rfl,hbc⟩:=hcut
                 obtain⟨w8,bm⟩:∃ x,x=wc:=⟨_,rfl⟩
                 subst bm
                 have iF:Sm w3.heap.size w3 w8:=jr.trans (hbc.mono jr.size)
                 clear hbc q0 qz
                 have q0:=(HX.out w8 iF).1
                 have qz:w8.cell? ⟨g3,0,none⟩=some (.int .i64 U):=Sj _ _ 0 _ 3 (0,0) (HX.out w8 iF).2
                 generalize hC:(hasB U 256&&!da x.name&&(!x.name.toList.isEmpty||!hasB U 4096))=CC at *
                 have HC:=h_ hC
                 clear hC
                 cases CC with
                 | true =>
                   have HF:=h_ (HQ.out (5) (HG.out.trans (if_pos (by first|rfl|trivial|exact HC.out))) w8 (fB.out w8 iF))
                   clear HG HX jo HQ fB tS js HRW q0 qz
                   go_wp2_with fail
                   go_ret
                   exact HF.out
                 | false =>
                   have HG:=h_ (HG.out.trans (if_neg (by intro h;first|cases h|(rw [HC.out] at h;cases h)|exact absurd h (by decide))))
                   clear HC
                   go_wp2_with fail
                   refine(eh U 512 g3 w8 qz).mono ?_
                   rintro e_ w_ ⟨rfl,bm⟩
                   rw [bm]
                   clear bm w_
                   generalize hasB U 512=B9 at *
                   cases B9 with
                   | false =>
                     have HG:=h_ (HG.out.trans (if_neg (by intro h;exact absurd h.1 (by decide))))
                     go_wp2_with fail
                     refine(eh U 1024 g3 w8 qz).mono ?_
                     rintro e_ w_ ⟨rfl,bm⟩
                     rw [bm]
                     clear bm w_
                     generalize hasB U 1024=B10 at *
                     cases B10 with
                     | true =>
                       have HG:=h_ (HG.out.trans (if_pos (by first|rfl|trivial)))
                       have qr0:w8.cell? ⟨w.heap.size,15,none⟩=some (.string x.reg.name):=Sj _ _ 15 _ 40 (0,0) q0
                       have qr1:w8.cell? ⟨w.heap.size,16,none⟩=some (.int .i64 x.reg.top):=Sj _ _ 16 _ 40 (0,0) q0
                       have qr2:w8.cell? ⟨w.heap.size,17,none⟩=some (.int .i64 x.reg.aZ):=Sj _ _ 17 _ 40 (0,0) q0
                       have qr3:w8.cell? ⟨w.heap.size,18,none⟩=some (.int .i64 x.reg.left):=Sj _ _ 18 _ 40 (0,0) q0
                       have qr4:w8.cell? ⟨w.heap.size,19,none⟩=some (.int .i64 x.reg.width):=Sj _ _ 19 _ 40 (0,0) q0
                       have qr5:w8.cell? ⟨w.heap.size,20,none⟩=some (.int .u8 x.reg.align):=Sj _ _ 20 _ 40 (0,0) q0
                       have qr6:w8.cell? ⟨w.heap.size,21,none⟩=some (.bool x.reg.bottom):=Sj _ _ 21 _ 40 (0,0) q0
                       have HR:=h_ (js.out w8)
                       have nS:=h_ (fB.out w8 iF)
                       generalize fj x.reg=E at *
                       have HF:=h_ (HQ.out E HG.out)
                       clear HG HX jo HQ fB tS js HRW q0 qz
                       go_wp2_with fail
                       refine HR.out.mono ?_
                       rintro e_ wz ⟨rfl,hbz⟩
                       have Bq:=h_ (HF.out wz (nS.out.trans (hbz.mono nS.out.size)))
                       clear HF hbz
                       go_wp2_with fail
                       go_ret
                       exact Bq.out
                     | false =>
                       have HG:=h_ (HG.out.trans (if_neg (by intro h;first|cases h|exact absurd h (by decide))))
                       go_wp2_with fail
                       refine(eh U 2048 g3 w8 qz).mono ?_
                       rintro e_ w_ ⟨rfl,bm⟩
                       rw [bm]
                       clear bm w_
                       generalize hasB U 2048=B11 at *
                       cases B11 with
                       | false =>
                         have HF:=h_ (HQ.out (0) (HG.out.trans (if_neg (by intro h;first|cases h|exact absurd h (by decide)))) w8 (fB.out w8 iF))
                         clear HG HX jo HQ fB tS js HRW q0 qz
                         go_wp2_with fail
                         go_ret
                         exact HF.out
                       | true =>
                         have HG:=h_ (HG.out.trans (if_pos (by first|rfl|trivial)))
                         have qr:w8.cell? ⟨w.heap.size,22,none⟩=some (.slice x.at_ x.rows.length x.cap):=Sj _ _ 22 _ 40 (0,0) q0
                         have HR:=h_ (HRW.out w8 (fB.out w8 iF))
                         have nS:=h_ (fB.out w8 iF)
                         generalize dw (x.rows.map Row.runs)=E at *
                         have HF:=h_ (HQ.out E HG.out)
                         clear HG HX jo HQ fB tS js HRW q0 qz
                         go_wp2_with fail
                         refine HR.out.mono ?_
                         rintro e_ wz ⟨rfl,hbz⟩
                         have Bq:=h_ (HF.out wz (nS.out.trans (hbz.mono nS.out.size)))
                         clear HF hbz
                         go_wp2_with fail
                         go_ret
                         exact Bq.out
                   | true =>
                     have r0:=ai q0
                     have HT:=h_ (tS.out w8 (fB.out w8 iF))
                     go_wp2_with (refine aj 40 (.tmp 1) rfl w.heap.size 0 rfl x.enc _ r0 Tryz.underlying40 rfl dX (by rfl) ?_)
                     refine HT.out.mono ?_
                     rintro e_ w9 ⟨rfl,jq⟩
                     replace jq:Sm w3.heap.size w3 w9:=iF.trans (jq.mono iF.size)
                     clear r0 q0 qz HT
                     have q0:=(HX.out w9 jq).1
                     have qz:w9.cell? ⟨g3,0,none⟩=some (.int .i64 U):=Sj _ _ 0 _ 3 (0,0) (HX.out w9 jq).2
                     generalize dF x.c=TE at *
                     by_cases hte:TE=0
                     · subst hte
                       have HG:=h_ (HG.out.trans (if_neg (by intro h;exact h.2 rfl)))
                       go_wp2_with fail
                       refine(eh U 1024 g3 w9 qz).mono ?_
                       rintro e_ w_ ⟨rfl,bm⟩
                       rw [bm]
                       clear bm w_
                       generalize hasB U 1024=B10 at *
                       cases B10 with
                       | true =>
                         have HG:=h_ (HG.out.trans (if_pos (by first|rfl|trivial)))
                         have qr0:w9.cell? ⟨w.heap.size,15,none⟩=some (.string x.reg.name):=Sj _ _ 15 _ 40 (0,0) q0
                         have qr1:w9.cell? ⟨w.heap.size,16,none⟩=some (.int .i64 x.reg.top):=Sj _ _ 16 _ 40 (0,0) q0
                         have qr2:w9.cell? ⟨w.heap.size,17,none⟩=some (.int .i64 x.reg.aZ):=Sj _ _ 17 _ 40 (0,0) q0
                         have qr3:w9.cell? ⟨w.heap.size,18,none⟩=some (.int .i64 x.reg.left):=Sj _ _ 18 _ 40 (0,0) q0
                         have qr4:w9.cell? ⟨w.heap.size,19,none⟩=some (.int .i64 x.reg.width):=Sj _ _ 19 _ 40 (0,0) q0
                         have qr5:w9.cell? ⟨w.heap.size,20,none⟩=some (.int .u8 x.reg.align):=Sj _ _ 20 _ 40 (0,0) q0
                         have qr6:w9.cell? ⟨w.heap.size,21,none⟩=some (.bool x.reg.bottom):=Sj _ _ 21 _ 40 (0,0) q0
                         have HR:=h_ (js.out w9)
                         have nS:=h_ (fB.out w9 jq)
                         generalize fj x.reg=E at *
                         have HF:=h_ (HQ.out E HG.out)
                         clear HG HX jo HQ fB tS js HRW q0 qz
                         go_wp2_with fail
                         refine HR.out.mono ?_
                         rintro e_ wz ⟨rfl,hbz⟩
                         have Bq:=h_ (HF.out wz (nS.out.trans (hbz.mono nS.out.size)))
                         clear HF hbz
                         go_wp2_with fail
                         go_ret
                         exact Bq.out
                       | false =>
                         have HG:=h_ (HG.out.trans (if_neg (by intro h;first|cases h|exact absurd h (by decide))))
                         go_wp2_with fail
                         refine(eh U 2048 g3 w9 qz).mono ?_
                         rintro e_ w_ ⟨rfl,bm⟩
                         rw [bm]
                         clear bm w_
                         generalize hasB U 2048=B11 at *
                         cases B11 with
                         | false =>
                           have HF:=h_ (HQ.out (0) (HG.out.trans (if_neg (by intro h;first|cases h|exact absurd h (by decide)))) w9 (fB.out w9 jq))
                           clear HG HX jo HQ fB tS js HRW q0 qz
                           go_wp2_with fail
                           go_ret
                           exact HF.out
                         | true =>
                           have HG:=h_ (HG.out.trans (if_pos (by first|rfl|trivial)))
                           have qr:w9.cell? ⟨w.heap.size,22,none⟩=some (.slice x.at_ x.rows.length x.cap):=Sj _ _ 22 _ 40 (0,0) q0
                           have HR:=h_ (HRW.out w9 (fB.out w9 jq))
                           have nS:=h_ (fB.out w9 jq)
                           generalize dw (x.rows.map Row.runs)=E at *
                           have HF:=h_ (HQ.out E HG.out)
                           clear HG HX jo HQ fB tS js HRW q0 qz
                           go_wp2_with fail
                           refine HR.out.mono ?_
                           rintro e_ wz ⟨rfl,hbz⟩
                           have Bq:=h_ (HF.out wz (nS.out.trans (hbz.mono nS.out.size)))
                           clear HF hbz
                           go_wp2_with fail
                           go_ret
                           exact Bq.out
                     · have Ns:(TE != 0)=true:=by simpa using hte
                       have HF:=h_ (HQ.out (TE) (HG.out.trans (if_pos ⟨by first|rfl|trivial,hte⟩)) w9 (fB.out w9 jq))
                       clear HG HX jo HQ fB tS js HRW q0 qz
                       go_wp2_with fail
                       go_ret
                       exact HF.out
end Go.Proofs.YtjebaagkomejaaaGreatDoor
