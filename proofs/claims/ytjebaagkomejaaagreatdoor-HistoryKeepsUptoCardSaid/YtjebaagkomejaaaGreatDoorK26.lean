/- event.Split: an event split. -/
import Derived.Test.YtjebaagkomejaaaGreatDoorK21
set_option linter.unusedVariables false
set_option linter.unusedSimpArgs false
set_option maxRecDepth 100000
set_option maxHeartbeats 12800000
open Go.Lib renaming hid→h_
open List renaming setIfInBounds_toArray→YA,getElem_cons_zero→YB,getElem_cons_succ→YC,getElem_toArray→YD,set_cons_zero→YE,set_cons_succ→YF
open Array renaming toArray_toList→YG
open Go renaming cell_of_row→Sj,yieldsIf_load_mid→Sk,wp_region_held_drew→Sl,wp_store_row→Sm,below_setRow→Sn,setRow_heap→Sp,World→Sq,wpAnyH_done→Sr,wpList_store_row→Ss
open Go.RowKit renaming Below→St
open Go.RowKit.Below renaming heap_setCell→Su,refl→Sv
open Go.AllReadyH renaming cons→Sw,nil→Sx
open Go.World renaming frozen?→Sy
namespace Go.Proofs.YtjebaagkomejaaaGreatDoor
open Go.RowKit
theorem uh (e:Ev)(fr row id:Int)(w:Sq)(he:e.lies w)(hf:e.fits):Calls Tryz.prog 90 #[.agg e.enc.toArray,.int .i64 fr,.int .i64 row,.int .i64 id] w (fO e.c fr row id w):=by
 have dA:=h_ (fun(w1:Sq) (h:St w.heap.size w w1)=>gD e w1 (Ev.keeps _ _ _ h he) (fun r hr=>(hf.2.2.2.2.2.2.2.1 r hr).2.1) hf.2.2.2.2.2.2.2.2)
 have bh:=h_ (fun(q:Int) (hq:bg e.c fr row id=q∧q≠0) (w':Sq) (h:St w.heap.size w w')=>(show fO e.c fr row id w (.returned (.tuple #[.agg zeE,.agg zeE,.int .i64 q])) w' from fO.bad hq.1 hq.2 h))
 have bD:=h_ (fun(A B:Ev) (w':Sq) (h:bg e.c fr row id=0∧A.c=fS e.c fr row∧B.c=iI e.c fr row id∧A.lies w'∧B.lies w'∧(∀ k,A.uses k→w.heap.size≤k)∧(∀ k,B.uses k→w.heap.size≤k)∧St w.heap.size w w')=>(show fO e.c fr row id w (.returned (.tuple #[.agg A.enc.toArray,.agg B.enc.toArray,.int .i64 0])) w' from⟨A,B,by rw [h.1],fun _=>⟨h.2.1,h.2.2.1⟩,h.2.2.2.1,h.2.2.2.2.1,h.2.2.2.2.2.1,h.2.2.2.2.2.2.1,h.2.2.2.2.2.2.2⟩))
 have hse:bg e.c fr row id=if row<1∨(e.rows.length:Int)≤row then 1 else if fr≤e.inn∨e.out≤fr∨id<1∨1099511627776<id then 2 else if id=e.id then 7 else 0:=by
  unfold bg
  show(if row<1∨((e.rows.map Row.runs).length:Int)≤row then _ else _)=_
  rw [List.length_map];rfl
 have HRW:=h_ (show bg e.c fr row id=0→1≤row∧row<(e.rows.length:Int) from fun h=>by
  rw [hse] at h
  by_cases h1:row<1∨(e.rows.length:Int)≤row
  · rw [if_pos h1] at h;cases h
  · omega)
 have fia:e.rows.length≤4000000:=hf.2.2.2.2.2.2.2.2
 have dp:=h_ (box3 w e.enc.toArray zeE zeE 72 72 72)
 have hb3:∀ o1 o2 o3:Obj,St w.heap.size w (((w.alloc o1).alloc o2).alloc o3):=fun o1 o2 o3=>(((Sv _ _).alloc (Nat.le_refl _) _).alloc (by simp) _).alloc (by simp;try omega) _
 have dv:∀ o1 o2 o3:Obj,w.heap.size+3≤(((w.alloc o1).alloc o2).alloc o3).heap.size:=fun o1 o2 o3=>by simp
 generalize Ol:bg e.c fr row id=SE at *
 have kA:=h_ hse
 generalize hQ:fO e.c fr row id w=Q at *
 clear he hf hse
 go_enter Tryz.func90,Tryz.ntmps90
 go_upto_block 0 with fail
 have h0:=dp.out.1
 have h8:=dp.out.2.1
 have h9:=dp.out.2.2
 have hbw:=hb3 (.cells e.enc.toArray 72) (.cells zeE 72) (.cells zeE 72)
 have hsz:=dv (.cells e.enc.toArray 72) (.cells zeE 72) (.cells zeE 72)
 clear dp hb3 dv
 generalize ((w.alloc (.cells e.enc.toArray 72)).alloc (.cells zeE 72)).alloc (.cells zeE 72)=W0 at *
 have c6:W0.cell? ⟨w.heap.size,6,none⟩=some (.slice e.at_ e.rows.length e.cap):=Sj _ _ 6 _ 72 (0,0) h0
 have c0:W0.cell? ⟨w.heap.size,0,none⟩=some (.int .i64 e.id):=Sj _ _ 0 _ 72 (0,0) h0
 have c1:W0.cell? ⟨w.heap.size,1,none⟩=some (.int .i64 e.inn):=Sj _ _ 1 _ 72 (0,0) h0
 have c2:W0.cell? ⟨w.heap.size,2,none⟩=some (.int .i64 e.out):=Sj _ _ 2 _ 72 (0,0) h0
 have H0:=h_ h0
 have H8:=h_ h8
 have H9:=h_ h9
 have bE:=h_ hbw
 clear h0 h8 h9 hbw
 go_cut [11] from 14 to 49 (fun v wx=>v=.int .i64 SE∧W0=wx)
 case first =>
  clear dA bh bD HRW H0 H8 H9 bE hQ
  by_cases h1:row<1
  · have HE:=h_ (show SE=1 from kA.out.trans (if_pos (.inl h1)))
    clear kA
    go_wp2_with (refine dL (.tmp 20) 38 rfl e.at_ e.rows.length e.cap rfl Tryz.underlying38 (by rfl) ?_)
    go_meet
    exact⟨by rw [HE.out],rfl⟩
  · have h1':1≤row:=by omega
    by_cases h2:(e.rows.length:Int)≤row
    · have HE:=h_ (show SE=1 from kA.out.trans (if_pos (.inr h2)))
      clear kA
      go_wp2_with (refine dL (.tmp 20) 38 rfl e.at_ e.rows.length e.cap rfl Tryz.underlying38 (by rfl) ?_)
      go_meet
      exact⟨by rw [HE.out],rfl⟩
    · have h2':row<(e.rows.length:Int):=by omega
      have kA:=h_ (kA.out.trans (if_neg (fun h=>by omega)))
      clear h1 h2
      by_cases h3:fr≤e.inn
      · have HE:=h_ (show SE=2 from kA.out.trans (if_pos (.inl h3)))
        clear kA
        go_wp2_with (refine dL (.tmp 20) 38 rfl e.at_ e.rows.length e.cap rfl Tryz.underlying38 (by rfl) ?_)
        go_meet
        exact⟨by rw [HE.out],rfl⟩
      · have h3':e.inn<fr:=by omega
        by_cases h4:e.out≤fr
        · have HE:=h_ (show SE=2 from kA.out.trans (if_pos (.inr (.inl h4))))
          clear kA
          go_wp2_with (refine dL (.tmp 20) 38 rfl e.at_ e.rows.length e.cap rfl Tryz.underlying38 (by rfl) ?_)
          go_meet
          exact⟨by rw [HE.out],rfl⟩
        · have h4':fr<e.out:=by omega
          by_cases h5:id<1
          · have HE:=h_ (show SE=2 from kA.out.trans (if_pos (.inr (.inr (.inl h5)))))
            clear kA
            go_wp2_with (refine dL (.tmp 20) 38 rfl e.at_ e.rows.length e.cap rfl Tryz.underlying38 (by rfl) ?_)
            go_meet
            exact⟨by rw [HE.out],rfl⟩
          · have h5':1≤id:=by omega
            by_cases h6:1099511627776<id
            · have HE:=h_ (show SE=2 from kA.out.trans (if_pos (.inr (.inr (.inr h6)))))
              clear kA
              go_wp2_with (refine dL (.tmp 20) 38 rfl e.at_ e.rows.length e.cap rfl Tryz.underlying38 (by rfl) ?_)
              go_meet
              exact⟨by rw [HE.out],rfl⟩
            · have h6':id≤1099511627776:=by omega
              have kA:=h_ (kA.out.trans (if_neg (fun h=>by omega)))
              clear h3 h4 h5 h6
              by_cases h7:id=e.id
              · have HE:=h_ (show SE=7 from kA.out.trans (if_pos h7))
                have OD:(id==e.id)=true:=by simpa using h7
                clear kA h7
                go_wp2_with (refine dL (.tmp 20) 38 rfl e.at_ e.rows.length e.cap rfl Tryz.underlying38 (by rfl) ?_)
                go_meet
                exact⟨by rw [HE.out],rfl⟩
              · have HE:=h_ (show SE=0 from kA.out.trans (if_neg h7))
                have OD:(id==e.id)=false:=by simpa using h7
                clear kA h7
                go_wp2_with (refine dL (.tmp 20) 38 rfl e.at_ e.rows.length e.cap rfl Tryz.underlying38 (by rfl) ?_)
                go_meet
                exact⟨by rw [HE.out],rfl⟩
 case rest =>
  obtain⟨rfl,rfl⟩:=hcut
  clear c6 c0 c1 c2 kA
  by_cases hq:SE=0
  · subst hq
    obtain⟨hr1,hr2⟩:=HRW.out rfl
    obtain⟨n,hn⟩:∃ n:Nat,row=(n:Int):=⟨row.toNat,by omega⟩
    subst hn
    clear HRW bh
    go_upto_region 10 with fail
    have hd0:St W0.heap.size W0 W0.drew:=(Sv _ _).drew
    have gY:=h_ (fun(w':Sq) (h:St W0.heap.size W0 w')=>ai ((h.block w.heap.size (by omega)).trans H0.out))
    have ja:=h_ (fun(w':Sq) (h:St W0.heap.size W0 w')=>dA.out w' (bE.out.trans (h.mono (by omega))))
    go_cut [12,13] from 55 to 58 (fun p q wx=>∃ (g1 g2:Nat) (A B:Ev),p=.pointer (some ⟨g1,0,none⟩)∧q=.pointer (some ⟨g2,0,none⟩)∧qW e.c W0.heap.size g1 g2 A B wx∧St W0.heap.size W0 wx)
    case first =>
     clear dA bD hQ H0 H8 H9
     refine Sl (S:=fun w'=>St W0.heap.size W0 w') (by kernel_rfl) hd0 (fun _=>?_)
     generalize W0.drew=v0 at *
     have NH:=hd0.size
     refine ab 0 (.agg e.enc.toArray) hd0 ?_ (hy:=Sk (by rfl) 72 (.tmp 4) rfl (w.heap.size) 0 rfl e.enc _ (fun w_ h_=>gY.out w_ h_) Tryz.underlying72 rfl aV)
     refine ab 2 (.agg e.enc.toArray) hd0 ?_ (hy:=Sk (by rfl) 72 (.tmp 4) rfl (w.heap.size) 0 rfl e.enc _ (fun w_ h_=>gY.out w_ h_) Tryz.underlying72 rfl aV)
     refine wpAnyH_ready (rs:=[1,4,5]) (by kernel_rfl) (by simp) ?_
     refine Sw rfl (fun K hK=>?_) (Sw rfl (fun K hK=>?_) (Sw rfl (fun K hK=>?_) Sx))
     focus
      go_simp
      refine(ja.out _ hd0).mono ?_
      rintro e_ v1 ⟨A,rfl,yY,cG,tR,s_,yX,ar⟩
      have hv1:St W0.heap.size W0 v1:=ak hd0 ar
      have hs1:=ar.size
      have GM:=hv1.size
      have CD:=dE s_
      have hAt:∀ b,A.uses b→b<v1.heap.size:=fun b h=>Ev.uses_lt cG h
      clear s_ yX
      clear ar
      go_wp2_with fail
      refine goOn hK hv1 ?_
      clear hK
      refine wpAnyH_ready (rs:=[3,4,5]) (by kernel_rfl) (by simp) ?_
      refine Sw rfl (fun K hK=>?_) (Sw rfl (fun K hK=>?_) (Sw rfl (fun K hK=>?_) Sx))
      focus
       go_simp
       refine(ja.out _ hv1).mono ?_
       rintro e_ v2 ⟨B,rfl,wC,hBl,ou,jB,ov,ar⟩
       have hv2:St W0.heap.size W0 v2:=ak hv1 ar
       have hs2:=ar.size
       have xY:=hv2.size
       have AM:=dE jB
       have lz:∀ b,B.uses b→b<v2.heap.size:=fun b h=>Ev.uses_lt hBl h
       clear jB ov
       replace cG:=Ev.keeps _ _ _ ar cG
       clear ar
       go_wp2_with fail
       refine goOn hK hv2 ?_
       clear hK
       refine dP 4 5 (fun K hK=>?_) (fun K hK=>?_)
       focus
        go_simp
        obtain⟨v3,g1,ea,eb,z1,ar,l1,q1⟩:=cL v2 (.cells zeE 72)
        rw [ea,eb]
        clear ea eb
        have hv3:St W0.heap.size W0 v3:=ak hv2 ar
        have hs3:=ar.size
        have ni:=hv3.size
        replace cG:=Ev.keeps _ _ _ ar cG
        replace hBl:=Ev.keeps _ _ _ ar hBl
        clear ar
        refine goOn hK hv3 ?_
        clear hK
        refine aq 5 (fun K hK=>?_)
        go_simp
        obtain⟨v4,g2,ea,eb,z2,ar,l2,q2⟩:=cL v3 (.cells zeE 72)
        rw [ea,eb]
        clear ea eb
        have hv4:St W0.heap.size W0 v4:=ak hv3 ar
        have hs4:=ar.size
        have nh:=hv4.size
        replace cG:=Ev.keeps _ _ _ ar cG
        replace hBl:=Ev.keeps _ _ _ ar hBl
        replace z1:=(ar.block g1 (by omega)).trans z1
        clear ar
        refine goOn hK hv4 ?_
        clear hK
       rotate_left
       focus
        go_simp
        obtain⟨v3,g2,ea,eb,z2,ar,l2,q2⟩:=cL v2 (.cells zeE 72)
        rw [ea,eb]
        clear ea eb
        have hv3:St W0.heap.size W0 v3:=ak hv2 ar
        have hs3:=ar.size
        have ni:=hv3.size
        replace cG:=Ev.keeps _ _ _ ar cG
        replace hBl:=Ev.keeps _ _ _ ar hBl
        clear ar
        refine goOn hK hv3 ?_
        clear hK
        refine aq 4 (fun K hK=>?_)
        go_simp
        obtain⟨v4,g1,ea,eb,z1,ar,l1,q1⟩:=cL v3 (.cells zeE 72)
        rw [ea,eb]
        clear ea eb
        have hv4:St W0.heap.size W0 v4:=ak hv3 ar
        have hs4:=ar.size
        have nh:=hv4.size
        replace cG:=Ev.keeps _ _ _ ar cG
        replace hBl:=Ev.keeps _ _ _ ar hBl
        replace z2:=(ar.block g2 (by omega)).trans z2
        clear ar
        refine goOn hK hv4 ?_
        clear hK
      rotate_left 2
      focus
       go_simp
       obtain⟨v2,g1,ea,eb,z1,ar,l1,q1⟩:=cL v1 (.cells zeE 72)
       rw [ea,eb]
       clear ea eb
       have hv2:St W0.heap.size W0 v2:=ak hv1 ar
       have hs2:=ar.size
       have xY:=hv2.size
       replace cG:=Ev.keeps _ _ _ ar cG
       clear ar
       refine goOn hK hv2 ?_
       clear hK
       refine dP 3 5 (fun K hK=>?_) (fun K hK=>?_)
       focus
        go_simp
        refine(ja.out _ hv2).mono ?_
        rintro e_ v3 ⟨B,rfl,wC,hBl,ou,jB,ov,ar⟩
        have hv3:St W0.heap.size W0 v3:=ak hv2 ar
        have hs3:=ar.size
        have ni:=hv3.size
        have AM:=dE jB
        have lz:∀ b,B.uses b→b<v3.heap.size:=fun b h=>Ev.uses_lt hBl h
        clear jB ov
        replace cG:=Ev.keeps _ _ _ ar cG
        replace z1:=(ar.block g1 (by omega)).trans z1
        clear ar
        go_wp2_with fail
        refine goOn hK hv3 ?_
        clear hK
        refine aq 5 (fun K hK=>?_)
        go_simp
        obtain⟨v4,g2,ea,eb,z2,ar,l2,q2⟩:=cL v3 (.cells zeE 72)
        rw [ea,eb]
        clear ea eb
        have hv4:St W0.heap.size W0 v4:=ak hv3 ar
        have hs4:=ar.size
        have nh:=hv4.size
        replace cG:=Ev.keeps _ _ _ ar cG
        replace z1:=(ar.block g1 (by omega)).trans z1
        replace hBl:=Ev.keeps _ _ _ ar hBl
        clear ar
        refine goOn hK hv4 ?_
        clear hK
       rotate_left
       focus
        go_simp
        obtain⟨v3,g2,ea,eb,z2,ar,l2,q2⟩:=cL v2 (.cells zeE 72)
        rw [ea,eb]
        clear ea eb
        have hv3:St W0.heap.size W0 v3:=ak hv2 ar
        have hs3:=ar.size
        have ni:=hv3.size
        replace cG:=Ev.keeps _ _ _ ar cG
        replace z1:=(ar.block g1 (by omega)).trans z1
        clear ar
        refine goOn hK hv3 ?_
        clear hK
        refine aq 3 (fun K hK=>?_)
        go_simp
        refine(ja.out _ hv3).mono ?_
        rintro e_ v4 ⟨B,rfl,wC,hBl,ou,jB,ov,ar⟩
        have hv4:St W0.heap.size W0 v4:=ak hv3 ar
        have hs4:=ar.size
        have nh:=hv4.size
        have AM:=dE jB
        have lz:∀ b,B.uses b→b<v4.heap.size:=fun b h=>Ev.uses_lt hBl h
        clear jB ov
        replace cG:=Ev.keeps _ _ _ ar cG
        replace z1:=(ar.block g1 (by omega)).trans z1
        replace z2:=(ar.block g2 (by omega)).trans z2
        clear ar
        go_wp2_with fail
        refine goOn hK hv4 ?_
        clear hK
      rotate_left 2
      focus
       go_simp
       obtain⟨v2,g2,ea,eb,z2,ar,l2,q2⟩:=cL v1 (.cells zeE 72)
       rw [ea,eb]
       clear ea eb
       have hv2:St W0.heap.size W0 v2:=ak hv1 ar
       have hs2:=ar.size
       have xY:=hv2.size
       replace cG:=Ev.keeps _ _ _ ar cG
       clear ar
       refine goOn hK hv2 ?_
       clear hK
       refine dP 3 4 (fun K hK=>?_) (fun K hK=>?_)
       focus
        go_simp
        refine(ja.out _ hv2).mono ?_
        rintro e_ v3 ⟨B,rfl,wC,hBl,ou,jB,ov,ar⟩
        have hv3:St W0.heap.size W0 v3:=ak hv2 ar
        have hs3:=ar.size
        have ni:=hv3.size
        have AM:=dE jB
        have lz:∀ b,B.uses b→b<v3.heap.size:=fun b h=>Ev.uses_lt hBl h
        clear jB ov
        replace cG:=Ev.keeps _ _ _ ar cG
        replace z2:=(ar.block g2 (by omega)).trans z2
        clear ar
        go_wp2_with fail
        refine goOn hK hv3 ?_
        clear hK
        refine aq 4 (fun K hK=>?_)
        go_simp
        obtain⟨v4,g1,ea,eb,z1,ar,l1,q1⟩:=cL v3 (.cells zeE 72)
        rw [ea,eb]
        clear ea eb
        have hv4:St W0.heap.size W0 v4:=ak hv3 ar
        have hs4:=ar.size
        have nh:=hv4.size
        replace cG:=Ev.keeps _ _ _ ar cG
        replace z2:=(ar.block g2 (by omega)).trans z2
        replace hBl:=Ev.keeps _ _ _ ar hBl
        clear ar
        refine goOn hK hv4 ?_
        clear hK
       rotate_left
       focus
        go_simp
        obtain⟨v3,g1,ea,eb,z1,ar,l1,q1⟩:=cL v2 (.cells zeE 72)
        rw [ea,eb]
        clear ea eb
        have hv3:St W0.heap.size W0 v3:=ak hv2 ar
        have hs3:=ar.size
        have ni:=hv3.size
        replace cG:=Ev.keeps _ _ _ ar cG
        replace z2:=(ar.block g2 (by omega)).trans z2
        clear ar
        refine goOn hK hv3 ?_
        clear hK
        refine aq 3 (fun K hK=>?_)
        go_simp
        refine(ja.out _ hv3).mono ?_
        rintro e_ v4 ⟨B,rfl,wC,hBl,ou,jB,ov,ar⟩
        have hv4:St W0.heap.size W0 v4:=ak hv3 ar
        have hs4:=ar.size
        have nh:=hv4.size
        have AM:=dE jB
        have lz:∀ b,B.uses b→b<v4.heap.size:=fun b h=>Ev.uses_lt hBl h
        clear jB ov
        replace cG:=Ev.keeps _ _ _ ar cG
        replace z2:=(ar.block g2 (by omega)).trans z2
        replace z1:=(ar.block g1 (by omega)).trans z1
        clear ar
        go_wp2_with fail
        refine goOn hK hv4 ?_
        clear hK
     rotate_left 6
     focus
      go_simp
      obtain⟨v1,g1,ea,eb,z1,ar,l1,q1⟩:=cL v0 (.cells zeE 72)
      rw [ea,eb]
      clear ea eb
      have hv1:St W0.heap.size W0 v1:=ak hd0 ar
      have hs1:=ar.size
      have GM:=hv1.size
      clear ar
      refine goOn hK hv1 ?_
      clear hK
      refine dP 1 5 (fun K hK=>?_) (fun K hK=>?_)
      focus
       go_simp
       refine(ja.out _ hv1).mono ?_
       rintro e_ v2 ⟨A,rfl,yY,cG,tR,s_,yX,ar⟩
       have hv2:St W0.heap.size W0 v2:=ak hv1 ar
       have hs2:=ar.size
       have xY:=hv2.size
       have CD:=dE s_
       have hAt:∀ b,A.uses b→b<v2.heap.size:=fun b h=>Ev.uses_lt cG h
       clear s_ yX
       replace z1:=(ar.block g1 (by omega)).trans z1
       clear ar
       go_wp2_with fail
       refine goOn hK hv2 ?_
       clear hK
       refine dP 3 5 (fun K hK=>?_) (fun K hK=>?_)
       focus
        go_simp
        refine(ja.out _ hv2).mono ?_
        rintro e_ v3 ⟨B,rfl,wC,hBl,ou,jB,ov,ar⟩
        have hv3:St W0.heap.size W0 v3:=ak hv2 ar
        have hs3:=ar.size
        have ni:=hv3.size
        have AM:=dE jB
        have lz:∀ b,B.uses b→b<v3.heap.size:=fun b h=>Ev.uses_lt hBl h
        clear jB ov
        replace z1:=(ar.block g1 (by omega)).trans z1
        replace cG:=Ev.keeps _ _ _ ar cG
        clear ar
        go_wp2_with fail
        refine goOn hK hv3 ?_
        clear hK
        refine aq 5 (fun K hK=>?_)
        go_simp
        obtain⟨v4,g2,ea,eb,z2,ar,l2,q2⟩:=cL v3 (.cells zeE 72)
        rw [ea,eb]
        clear ea eb
        have hv4:St W0.heap.size W0 v4:=ak hv3 ar
        have hs4:=ar.size
        have nh:=hv4.size
        replace z1:=(ar.block g1 (by omega)).trans z1
        replace cG:=Ev.keeps _ _ _ ar cG
        replace hBl:=Ev.keeps _ _ _ ar hBl
        clear ar
        refine goOn hK hv4 ?_
        clear hK
       rotate_left
       focus
        go_simp
        obtain⟨v3,g2,ea,eb,z2,ar,l2,q2⟩:=cL v2 (.cells zeE 72)
        rw [ea,eb]
        clear ea eb
        have hv3:St W0.heap.size W0 v3:=ak hv2 ar
        have hs3:=ar.size
        have ni:=hv3.size
        replace z1:=(ar.block g1 (by omega)).trans z1
        replace cG:=Ev.keeps _ _ _ ar cG
        clear ar
        refine goOn hK hv3 ?_
        clear hK
        refine aq 3 (fun K hK=>?_)
        go_simp
        refine(ja.out _ hv3).mono ?_
        rintro e_ v4 ⟨B,rfl,wC,hBl,ou,jB,ov,ar⟩
        have hv4:St W0.heap.size W0 v4:=ak hv3 ar
        have hs4:=ar.size
        have nh:=hv4.size
        have AM:=dE jB
        have lz:∀ b,B.uses b→b<v4.heap.size:=fun b h=>Ev.uses_lt hBl h
        clear jB ov
        replace z1:=(ar.block g1 (by omega)).trans z1
        replace cG:=Ev.keeps _ _ _ ar cG
        replace z2:=(ar.block g2 (by omega)).trans z2
        clear ar
        go_wp2_with fail
        refine goOn hK hv4 ?_
        clear hK
      rotate_left 2
      focus
       go_simp
       obtain⟨v2,g2,ea,eb,z2,ar,l2,q2⟩:=cL v1 (.cells zeE 72)
       rw [ea,eb]
       clear ea eb
       have hv2:St W0.heap.size W0 v2:=ak hv1 ar
       have hs2:=ar.size
       have xY:=hv2.size
       replace z1:=(ar.block g1 (by omega)).trans z1
       clear ar
       refine goOn hK hv2 ?_
       clear hK
       refine aq 1 (fun K hK=>?_)
       go_simp
       refine(ja.out _ hv2).mono ?_
       rintro e_ v3 ⟨A,rfl,yY,cG,tR,s_,yX,ar⟩
       have hv3:St W0.heap.size W0 v3:=ak hv2 ar
       have hs3:=ar.size
       have ni:=hv3.size
       have CD:=dE s_
       have hAt:∀ b,A.uses b→b<v3.heap.size:=fun b h=>Ev.uses_lt cG h
       clear s_ yX
       replace z1:=(ar.block g1 (by omega)).trans z1
       replace z2:=(ar.block g2 (by omega)).trans z2
       clear ar
       go_wp2_with fail
       refine goOn hK hv3 ?_
       clear hK
       refine aq 3 (fun K hK=>?_)
       go_simp
       refine(ja.out _ hv3).mono ?_
       rintro e_ v4 ⟨B,rfl,wC,hBl,ou,jB,ov,ar⟩
       have hv4:St W0.heap.size W0 v4:=ak hv3 ar
       have hs4:=ar.size
       have nh:=hv4.size
       have AM:=dE jB
       have lz:∀ b,B.uses b→b<v4.heap.size:=fun b h=>Ev.uses_lt hBl h
       clear jB ov
       replace z1:=(ar.block g1 (by omega)).trans z1
       replace z2:=(ar.block g2 (by omega)).trans z2
       replace cG:=Ev.keeps _ _ _ ar cG
       clear ar
       go_wp2_with fail
       refine goOn hK hv4 ?_
       clear hK
     rotate_left 3
     focus
      go_simp
      obtain⟨v1,g2,ea,eb,z2,ar,l2,q2⟩:=cL v0 (.cells zeE 72)
      rw [ea,eb]
      clear ea eb
      have hv1:St W0.heap.size W0 v1:=ak hd0 ar
      have hs1:=ar.size
      have GM:=hv1.size
      clear ar
      refine goOn hK hv1 ?_
      clear hK
      refine dP 1 4 (fun K hK=>?_) (fun K hK=>?_)
      focus
       go_simp
       refine(ja.out _ hv1).mono ?_
       rintro e_ v2 ⟨A,rfl,yY,cG,tR,s_,yX,ar⟩
       have hv2:St W0.heap.size W0 v2:=ak hv1 ar
       have hs2:=ar.size
       have xY:=hv2.size
       have CD:=dE s_
       have hAt:∀ b,A.uses b→b<v2.heap.size:=fun b h=>Ev.uses_lt cG h
       clear s_ yX
       replace z2:=(ar.block g2 (by omega)).trans z2
       clear ar
       go_wp2_with fail
       refine goOn hK hv2 ?_
       clear hK
       refine dP 3 4 (fun K hK=>?_) (fun K hK=>?_)
       focus
        go_simp
        refine(ja.out _ hv2).mono ?_
        rintro e_ v3 ⟨B,rfl,wC,hBl,ou,jB,ov,ar⟩
        have hv3:St W0.heap.size W0 v3:=ak hv2 ar
        have hs3:=ar.size
        have ni:=hv3.size
        have AM:=dE jB
        have lz:∀ b,B.uses b→b<v3.heap.size:=fun b h=>Ev.uses_lt hBl h
        clear jB ov
        replace z2:=(ar.block g2 (by omega)).trans z2
        replace cG:=Ev.keeps _ _ _ ar cG
        clear ar
        go_wp2_with fail
        refine goOn hK hv3 ?_
        clear hK
        refine aq 4 (fun K hK=>?_)
        go_simp
        obtain⟨v4,g1,ea,eb,z1,ar,l1,q1⟩:=cL v3 (.cells zeE 72)
        rw [ea,eb]
        clear ea eb
        have hv4:St W0.heap.size W0 v4:=ak hv3 ar
        have hs4:=ar.size
        have nh:=hv4.size
        replace z2:=(ar.block g2 (by omega)).trans z2
        replace cG:=Ev.keeps _ _ _ ar cG
        replace hBl:=Ev.keeps _ _ _ ar hBl
        clear ar
        refine goOn hK hv4 ?_
        clear hK
       rotate_left
       focus
        go_simp
        obtain⟨v3,g1,ea,eb,z1,ar,l1,q1⟩:=cL v2 (.cells zeE 72)
        rw [ea,eb]
        clear ea eb
        have hv3:St W0.heap.size W0 v3:=ak hv2 ar
        have hs3:=ar.size
        have ni:=hv3.size
        replace z2:=(ar.block g2 (by omega)).trans z2
        replace cG:=Ev.keeps _ _ _ ar cG
        clear ar
        refine goOn hK hv3 ?_
        clear hK
        refine aq 3 (fun K hK=>?_)
        go_simp
        refine(ja.out _ hv3).mono ?_
        rintro e_ v4 ⟨B,rfl,wC,hBl,ou,jB,ov,ar⟩
        have hv4:St W0.heap.size W0 v4:=ak hv3 ar
        have hs4:=ar.size
        have nh:=hv4.size
        have AM:=dE jB
        have lz:∀ b,B.uses b→b<v4.heap.size:=fun b h=>Ev.uses_lt hBl h
        clear jB ov
        replace z2:=(ar.block g2 (by omega)).trans z2
        replace cG:=Ev.keeps _ _ _ ar cG
        replace z1:=(ar.block g1 (by omega)).trans z1
        clear ar
        go_wp2_with fail
        refine goOn hK hv4 ?_
        clear hK
      rotate_left 2
      focus
       go_simp
       obtain⟨v2,g1,ea,eb,z1,ar,l1,q1⟩:=cL v1 (.cells zeE 72)
       rw [ea,eb]
       clear ea eb
       have hv2:St W0.heap.size W0 v2:=ak hv1 ar
       have hs2:=ar.size
       have xY:=hv2.size
       replace z2:=(ar.block g2 (by omega)).trans z2
       clear ar
       refine goOn hK hv2 ?_
       clear hK
       refine aq 1 (fun K hK=>?_)
       go_simp
       refine(ja.out _ hv2).mono ?_
       rintro e_ v3 ⟨A,rfl,yY,cG,tR,s_,yX,ar⟩
       have hv3:St W0.heap.size W0 v3:=ak hv2 ar
       have hs3:=ar.size
       have ni:=hv3.size
       have CD:=dE s_
       have hAt:∀ b,A.uses b→b<v3.heap.size:=fun b h=>Ev.uses_lt cG h
       clear s_ yX
       replace z2:=(ar.block g2 (by omega)).trans z2
       replace z1:=(ar.block g1 (by omega)).trans z1
       clear ar
       go_wp2_with fail
       refine goOn hK hv3 ?_
       clear hK
       refine aq 3 (fun K hK=>?_)
       go_simp
       refine(ja.out _ hv3).mono ?_
       rintro e_ v4 ⟨B,rfl,wC,hBl,ou,jB,ov,ar⟩
       have hv4:St W0.heap.size W0 v4:=ak hv3 ar
       have hs4:=ar.size
       have nh:=hv4.size
       have AM:=dE jB
       have lz:∀ b,B.uses b→b<v4.heap.size:=fun b h=>Ev.uses_lt hBl h
       clear jB ov
       replace z2:=(ar.block g2 (by omega)).trans z2
       replace z1:=(ar.block g1 (by omega)).trans z1
       replace cG:=Ev.keeps _ _ _ ar cG
       clear ar
       go_wp2_with fail
       refine goOn hK hv4 ?_
       clear hK
     all_goals
      refine aq 6 (fun K hK=>?_)
      rw [if_pos (by rfl)]
      refine Sm 72 (.tmp 12) (.tmp 56) rfl g1 A.enc.toArray rfl rfl 72 _ z1 aV rfl (mL _) ?_
      have fq:St W0.heap.size W0 (v4.setRow g1 A.enc.toArray):=Sn hv4 (by omega) _
      refine goOn hK fq ?_
      clear hK
      refine aq 7 (fun K hK=>?_)
      have z9:=(aK v4 g1 g2 A.enc.toArray (by omega)).trans z2
      rw [if_pos (by rfl)]
      refine Sm 72 (.tmp 13) (.tmp 58) rfl g2 B.enc.toArray rfl rfl 72 _ z9 aV rfl (mL _) ?_
      have om:St W0.heap.size W0 ((v4.setRow g1 A.enc.toArray).setRow g2 B.enc.toArray):=Sn fq (by omega) _
      refine goOn hK om ?_
      clear hK
      refine Sr (by kernel_rfl) ?_ _
      go_wp2_with fail
      go_meet
      exact⟨g1,g2,A,B,rfl,rfl,zv (v:=v4) (k1:=g1) (k2:=g2) yY wC cG hBl CD AM (fun k h=>by have:=tR k h;have:=hAt k h;refine⟨?_,?_,?_⟩<;>omega) (fun k h=>by have:=ou k h;have:=lz k h;refine⟨?_,?_,?_⟩<;>omega) z1 z2 (by omega) (by omega) (by omega) (.inl ⟨rfl,rfl,rfl⟩),om⟩
    case rest =>
     obtain⟨g1,g2,A,B,rfl,rfl,hm,hbc⟩:=hcut
     have hsc:=hbc.size
     have hn1:=hm.n1
     have hn2:=hm.n2
     have hne:=hm.ne
     have r1:=hm.z1
     have r2:=hm.z2
     have Ng:=h_ ((hbc.block (w.heap.size+1) (by omega)).trans H8.out)
     have Nf:=h_ ((hbc.block (w.heap.size+1+1) (by omega)).trans H9.out)
     have HM:=h_ hm
     have vO:=h_ (bE.out.trans (hbc.mono (by omega)))
     clear hm hbc dA ja H0 H8 H9 bE hQ gY hd0
     have f1:∀ j,wc.frozen? ⟨g1,j,none⟩=false:=fun j=>by simp [Sy,r1]
     have f2:∀ j,wc.frozen? ⟨g2,j,none⟩=false:=fun j=>by simp [Sy,r2]
     have c1:wc.cell? ⟨g1,2,none⟩=some (.int .i64 A.out):=Sj _ _ 2 _ 72 (0,0) r1
     have c2:wc.cell? ⟨g2,1,none⟩=some (.int .i64 B.inn):=Sj _ _ 1 _ 72 (0,0) r2
     have R1:=h_ r1
     have R2:=h_ r2
     clear r1 r2
     go_upto_region 12 with fail
     clear f1 f2 c1 c2
     obtain⟨A1,hA1⟩:∃ A1:Ev,A1={ A with out:=fr }:=⟨_,rfl⟩
     obtain⟨B1,hB1⟩:∃ B1:Ev,B1={ B with inn:=fr }:=⟨_,rfl⟩
     have r1:((wc.setCell ⟨g1,2,none⟩ (.int .i64 fr)).setCell ⟨g2,1,none⟩ (.int .i64 fr)).heap[g1]? =some (.cells A1.enc.toArray 72 (0,0)):=by
      rw [Su _ _ _ _ (by simpa using hne),heap_setCell_same wc g1 2 _ 72 _ R1.out,hA1]
      simp [Ev.enc]
     have r2:((wc.setCell ⟨g1,2,none⟩ (.int .i64 fr)).setCell ⟨g2,1,none⟩ (.int .i64 fr)).heap[g2]? =some (.cells B1.enc.toArray 72 (0,0)):=by
      rw [heap_setCell_same (wc.setCell ⟨g1,2,none⟩ (.int .i64 fr)) g2 1 _ 72 _ ((Su _ _ _ _ (by simpa using hne.symm)).trans R2.out),hB1]
      simp [Ev.enc]
     have hk1:Kept (fun b=>b=g1∨b=g2) wc ((wc.setCell ⟨g1,2,none⟩ (.int .i64 fr)).setCell ⟨g2,1,none⟩ (.int .i64 fr)):=((Kept.refl _ _).setCell (p:=⟨g1,2,none⟩) (.inr (.inl rfl)) _).setCell (p:=⟨g2,1,none⟩) (.inr (.inr rfl)) _
     generalize (wc.setCell ⟨g1,2,none⟩ (.int .i64 fr)).setCell ⟨g2,1,none⟩ (.int .i64 fr)=W at *
     have Cl:=hk1.size
     have hla:A1.rows.length=e.rows.length:=by
      have:=congrArg List.length (congrArg EvC.rows HM.out.ac)
      rw [hA1];simpa [Ev.c] using this
     have hlb:B1.rows.length=e.rows.length:=by
      have:=congrArg List.length (congrArg EvC.rows HM.out.bc)
      rw [hB1];simpa [Ev.c] using this
     obtain⟨ba,Jn,oq⟩:∃ ba,A1.at_=some ⟨ba,0,none⟩∧A1.rows.length≤A1.cap:=by
      rcases HM.out.af with h|h
      · exfalso;rw [hA1] at hla;rw [h] at hla;simp at hla;omega
      · rw [hA1];exact h
     obtain⟨bb,hbb,hcb⟩:∃ bb,B1.at_=some ⟨bb,0,none⟩∧B1.rows.length≤B1.cap:=by
      rcases HM.out.bf with h|h
      · exfalso;rw [hB1] at hlb;rw [h] at hlb;simp at hlb;omega
      · rw [hB1];exact h
     have NQ:n≤A1.cap:=by omega
     have NO:n≤B1.rows.length:=by omega
     have NP:n≤A1.rows.length:=by omega
     have F8:=h_ (And.intro hla (And.intro Jn hA1))
     have F7:=h_ (And.intro hlb (And.intro hbb hB1))
     go_cut [] from 65 to 75 (fun wx=>wx.heap[g1]? =some (.cells ({ A1 with cap:=n,rows:=A1.rows.take n }:Ev).enc.toArray 72 (0,0))∧wx.heap[g2]? =some (.cells ({ B1 with at_:=some ⟨bb,n,none⟩,cap:=B1.cap-n,rows:=B1.rows.drop n }:Ev).enc.toArray 72 (0,0))∧Kept (fun b=>b=g1∨b=g2) W wx)
     case first =>
      have hd0:Kept (fun b=>b=g1∨b=g2) W W.drew:=Kept.of_below ((Sv _ _).drew)
      refine Sl (S:=fun w'=>Kept (fun b=>b=g1∨b=g2) W w') (by kernel_rfl) hd0 (fun _=>?_)
      replace r1:W.drew.heap[g1]? =_:=r1
      replace r2:W.drew.heap[g2]? =_:=r2
      generalize W.drew=v0 at *
      have cA:v0.cell? ⟨g1,6,none⟩=some (.slice (some ⟨ba,0,none⟩) A1.rows.length A1.cap):=by
       rw [←Jn];exact Sj _ _ 6 _ 72 (0,0) r1
      have cB:v0.cell? ⟨g2,6,none⟩=some (.slice (some ⟨bb,0,none⟩) B1.rows.length B1.cap):=by
       rw [←hbb];exact Sj _ _ 6 _ 72 (0,0) r2
      have EK:1≤n:=by omega
      have hcn:¬ B1.cap=n:=by omega
      clear hA1 hB1 hla hlb Jn hbb hr1 hr2
      refine ab 0 (.pointer (some ⟨g1,6,none⟩)) hd0 ?_
      refine ab 2 (.int .i64 n) hd0 ?_
      refine ab 3 (.int .i64 n) hd0 ?_
      refine ab 5 (.pointer (some ⟨g2,6,none⟩)) hd0 ?_
      refine ab 7 (.int .i64 n) hd0 ?_
      refine dP 1 6 (fun K hK=>?_) (fun K hK=>?_)
      focus
       have q_:=cA
       go_simp
       refine goOn hK hd0 ?_
       clear hK q_
       refine ab 4 (.slice (some ⟨ba,0,none⟩) n n) hd0 ?_
       refine ab 9 (.pointer (some ⟨g1,6,none⟩)) hd0 ?_
       refine dP 6 10 (fun K hK=>?_) (fun K hK=>?_)
       focus
        have q_:=cB
        go_simp
        refine goOn hK hd0 ?_
        clear hK q_
        refine ab 8 (.slice (some ⟨bb,n,none⟩) (B1.rows.length-n) (B1.cap-n)) hd0 ?_
        refine aq 10 (fun K hK=>?_)
        have cg:=Sj _ _ 6 _ 72 (0,0) r1
        have fg:v0.frozen? ⟨g1,6,none⟩=false:=by simp [Sy,r1]
        go_simp
        have hS1:Kept (fun b=>b=g1∨b=g2) W (v0.setCell ⟨g1,6,none⟩ (.slice (some ⟨ba,0,none⟩) n n)):=hd0.setCell (p:=⟨g1,6,none⟩) (.inr (.inl rfl)) _
        refine goOn hK hS1 ?_
        clear hK cg fg
       rotate_left
       focus
        have cg:=Sj _ _ 6 _ 72 (0,0) r1
        have fg:v0.frozen? ⟨g1,6,none⟩=false:=by simp [Sy,r1]
        go_simp
        have hS1:Kept (fun b=>b=g1∨b=g2) W (v0.setCell ⟨g1,6,none⟩ (.slice (some ⟨ba,0,none⟩) n n)):=hd0.setCell (p:=⟨g1,6,none⟩) (.inr (.inl rfl)) _
        refine goOn hK hS1 ?_
        clear hK cg fg
        refine aq 6 (fun K hK=>?_)
        have q_:=cB
        go_simp
        refine goOn hK hS1 ?_
        clear hK q_
        refine ab 8 (.slice (some ⟨bb,n,none⟩) (B1.rows.length-n) (B1.cap-n)) hS1 ?_
      rotate_left 2
      focus
       have q_:=cB
       go_simp
       refine goOn hK hd0 ?_
       clear hK q_
       refine ab 8 (.slice (some ⟨bb,n,none⟩) (B1.rows.length-n) (B1.cap-n)) hd0 ?_
       refine aq 1 (fun K hK=>?_)
       have q_:=cA
       go_simp
       refine goOn hK hd0 ?_
       clear hK q_
       refine ab 4 (.slice (some ⟨ba,0,none⟩) n n) hd0 ?_
       refine ab 9 (.pointer (some ⟨g1,6,none⟩)) hd0 ?_
       refine aq 10 (fun K hK=>?_)
       have cg:=Sj _ _ 6 _ 72 (0,0) r1
       have fg:v0.frozen? ⟨g1,6,none⟩=false:=by simp [Sy,r1]
       go_simp
       have hS1:Kept (fun b=>b=g1∨b=g2) W (v0.setCell ⟨g1,6,none⟩ (.slice (some ⟨ba,0,none⟩) n n)):=hd0.setCell (p:=⟨g1,6,none⟩) (.inr (.inl rfl)) _
       refine goOn hK hS1 ?_
       clear hK cg fg
      all_goals
       refine ab 11 (.pointer (some ⟨g2,6,none⟩)) hS1 ?_
       refine aq 12 (fun K hK=>?_)
       have r29:=(Su v0 ⟨g1,6,none⟩ (.slice (some ⟨ba,0,none⟩) n n) g2 (by simpa using hne.symm)).trans r2
       have cg:=Sj _ _ 6 _ 72 (0,0) r29
       have fg:(v0.setCell ⟨g1,6,none⟩ (.slice (some ⟨ba,0,none⟩) n n)).frozen? ⟨g2,6,none⟩=false:=by simp [Sy,r29]
       go_simp
       have hS2:Kept (fun b=>b=g1∨b=g2) W ((v0.setCell ⟨g1,6,none⟩ (.slice (some ⟨ba,0,none⟩) n n)).setCell ⟨g2,6,none⟩ (.slice (some ⟨bb,n,none⟩) (B1.rows.length-n) (B1.cap-n))):=hS1.setCell (p:=⟨g2,6,none⟩) (.inr (.inr rfl)) _
       refine goOn hK hS2 ?_
       clear hK cg fg
       refine Sr (by kernel_rfl) ?_ _
       go_wp2_with fail
       go_meet
       exact⟨by rw [Su _ _ _ _ (by simpa using hne),heap_setCell_same v0 g1 6 _ 72 _ r1];simp [Ev.enc,F8.out.2.1];omega,by rw [heap_setCell_same _ g2 6 _ 72 _ r29];simp [Ev.enc,F7.out.2.1],hS2⟩
     case rest =>
      obtain⟨h1,h2,hk2⟩:=hcut
      obtain⟨wd,hwd⟩:∃ x,x=wc:=⟨_,rfl⟩
      subst hwd
      have f2:∀ j,wd.frozen? ⟨g2,j,none⟩=false:=fun j=>by simp [Sy,h2]
      have c2:wd.cell? ⟨g2,0,none⟩=some (.int .i64 B1.id):=Sj _ _ 0 _ 72 (0,0) h2
      obtain⟨A2,hA2⟩:∃ A2:Ev,A2={ A1 with cap:=n,rows:=A1.rows.take n }:=⟨_,rfl⟩
      rw [←hA2] at h1
      have H1:=h_ h1
      have H2:=h_ h2
      clear h1 h2
      go_upto_region 14 with fail
      clear f2 c2
      obtain⟨B3,hB3⟩:∃ B3:Ev,B3={ B1 with id:=id,at_:=some ⟨bb,n,none⟩,cap:=B1.cap-n,rows:=B1.rows.drop n }:=⟨_,rfl⟩
      have r1:=(Su wd ⟨g2,0,none⟩ (.int .i64 id) g1 (by simpa using hne)).trans H1.out
      have r2:=heap_setCell_same wd g2 0 _ 72 (.int .i64 id) H2.out
      rw [show({ B1 with at_:=some ⟨bb,n,none⟩,cap:=B1.cap-n,rows:=B1.rows.drop n }:Ev).enc.toArray.setIfInBounds 0 (.int .i64 id)=B3.enc.toArray from by rw [hB3];simp [Ev.enc]] at r2
      have hk3:Kept (fun b=>b=g1∨b=g2) W (wd.setCell ⟨g2,0,none⟩ (.int .i64 id)):=hk2.setCell (p:=⟨g2,0,none⟩) (.inr (.inr rfl)) _
      generalize wd.setCell ⟨g2,0,none⟩ (.int .i64 id)=V at *
      have Ji:=hk3.size
      have fR:=h_ (fun(w':Sq) (_:True=True) (hk:Kept (fun b=>b=w.heap.size+1∨b=w.heap.size+1+1) V w')=>bD.out A2 B3 w' (zw HM.out hsz hsc vO.out hk1 hk3 hk F8.out F7.out hA2 hB3))
      have z1:=(hk3.block (w.heap.size+1) (by omega) (by omega)).trans ((hk1.block (w.heap.size+1) (by omega) (by omega)).trans Ng.out)
      have z2:=(hk3.block (w.heap.size+1+1) (by omega) (by omega)).trans ((hk1.block (w.heap.size+1+1) (by omega) (by omega)).trans Nf.out)
      have gY:=h_ (fun(w':Sq) (h:Kept (fun b=>b=w.heap.size+1∨b=w.heap.size+1+1) V w')=>(show w'.rangeAt g1 0 A2.enc∧w'.rangeAt g2 0 B3.enc from⟨ai ((h.block g1 (aR r1) (by omega)).trans r1),ai ((h.block g2 (aR r2) (by omega)).trans r2)⟩))
      clear HM vO hk1 hk2 hk3 F8 F7 hA1 hB1 hA2 hB3 H1 H2 Ng Nf R1 R2 hla hlb Jn hbb oq hcb hr1 hr2 NQ NO r1 r2 Ol bD
      have hd0:Kept (fun b=>b=w.heap.size+1∨b=w.heap.size+1+1) V V.drew:=Kept.of_below ((Sv _ _).drew)
      refine Sl (S:=fun w'=>Kept (fun b=>b=w.heap.size+1∨b=w.heap.size+1+1) V w') (by kernel_rfl) hd0 (fun _=>?_)
      replace z1:V.drew.heap[w.heap.size+1]? =_:=z1
      replace z2:V.drew.heap[w.heap.size+1+1]? =_:=z2
      generalize V.drew=v0 at *
      refine ab 0 (.agg A2.enc.toArray) hd0 ?_ (hy:=Sk (by rfl) 72 (.tmp 12) rfl g1 0 rfl A2.enc _ (fun w_ h_=>(gY.out w_ h_).1) Tryz.underlying72 rfl aV)
      refine ab 1 (.agg B3.enc.toArray) hd0 ?_ (hy:=Sk (by rfl) 72 (.tmp 13) rfl g2 0 rfl B3.enc _ (fun w_ h_=>(gY.out w_ h_).2) Tryz.underlying72 rfl aV)
      refine aq 2 (fun K hK=>?_)
      rw [if_pos (by rfl)]
      refine Sm 72 (.tmp 8) (.tmp 78) rfl (w.heap.size+1) A2.enc.toArray rfl rfl 72 _ z1 aV rfl (mL _) ?_
      have hS1:Kept (fun b=>b=w.heap.size+1∨b=w.heap.size+1+1) V (v0.setRow (w.heap.size+1) A2.enc.toArray):=hd0.trans (wu (.inl rfl) _ _) fun i _ h=>h
      refine goOn hK hS1 ?_
      clear hK
      refine aq 3 (fun K hK=>?_)
      have z29:=(aK v0 (w.heap.size+1) (w.heap.size+1+1) A2.enc.toArray (by omega)).trans z2
      rw [if_pos (by rfl)]
      refine Sm 72 (.tmp 9) (.tmp 79) rfl (w.heap.size+1+1) B3.enc.toArray rfl rfl 72 _ z29 aV rfl (mL _) ?_
      have hS2:Kept (fun b=>b=w.heap.size+1∨b=w.heap.size+1+1) V ((v0.setRow (w.heap.size+1) A2.enc.toArray).setRow (w.heap.size+1+1) B3.enc.toArray):=hS1.trans (wu (.inr rfl) _ _) fun i _ h=>h
      refine goOn hK hS2 ?_
      clear hK
      refine ab 4 (.int .i64 0) hS2 ?_
      refine Sr (by kernel_rfl) ?_ _
      have HE:=h_ (fR.out _ rfl hS2)
      have e8:=(aK (v0.setRow (w.heap.size+1) A2.enc.toArray) (w.heap.size+1+1) (w.heap.size+1) B3.enc.toArray (by omega)).trans (Sp v0 (w.heap.size+1) _ A2.enc.toArray 72 (0,0) z1)
      have e9:=Sp (v0.setRow (w.heap.size+1) A2.enc.toArray) (w.heap.size+1+1) _ B3.enc.toArray 72 (0,0) z29
      generalize (v0.setRow (w.heap.size+1) A2.enc.toArray).setRow (w.heap.size+1+1) B3.enc.toArray=w9 at *
      clear z1 z2 z29 hS1 hS2 fR gY
      obtain⟨aid,ain,aout,are,aki,asp,aat,acap,arows⟩:=A2
      obtain⟨bid,bin,bout,bre,bki,bsp,bat,bcap,brows⟩:=B3
      simp only [Ev.enc] at e8 e9 HE
      have fin8:∀ j,w9.cell? ⟨w.heap.size+1,j,none⟩=_:=fun j=>Sj _ _ j _ 72 (0,0) e8
      have fin9:∀ j,w9.cell? ⟨w.heap.size+1+1,j,none⟩=_:=fun j=>Sj _ _ j _ 72 (0,0) e9
      go_wp2_with fail
      refine bodyPost_ret (v:=.tuple #[.agg #[.int .i64 aid,.int .i64 ain,.int .i64 aout,.string are,.int .u8 aki,.string asp,.slice aat arows.length acap],.agg #[.int .i64 bid,.int .i64 bin,.int .i64 bout,.string bre,.int .u8 bki,.string bsp,.slice bat brows.length bcap],.int .i64 0]) (by simp [results,Tryz.results90,go_sem,fin8,fin9]) rfl ?_
      exact HE.out
  · have hne:(SE != 0)=true:=by simpa using hq
    have HE:=h_ (bh.out SE ⟨rfl,hq⟩ ((W0.setRow (w.heap.size+1) zeE).setRow (w.heap.size+1+1) zeE) (Sn (Sn bE.out (by omega) _) (by omega) _))
    have h8:=H8.out
    have h9:=(aK W0 (w.heap.size+1) (w.heap.size+1+1) zeE (by omega)).trans H9.out
    have r8:=(aK (W0.setRow (w.heap.size+1) zeE) (w.heap.size+1+1) (w.heap.size+1) zeE (by omega)).trans (Sp W0 (w.heap.size+1) _ zeE 72 (0,0) h8)
    have r9:=Sp (W0.setRow (w.heap.size+1) zeE) (w.heap.size+1+1) _ zeE 72 (0,0) h9
    clear dA bh bD HRW H0 H8 H9 bE hQ
    go_wp2_with (first|(refine Ss rfl 72 (.tmp 8) (.tmp 52) rfl (w.heap.size+1) zeE rfl rfl 72 _ h8 aV rfl wj ?_)|(refine Ss rfl 72 (.tmp 9) (.tmp 53) rfl (w.heap.size+1+1) zeE rfl rfl 72 _ h9 aV rfl wj ?_))
    generalize (W0.setRow (w.heap.size+1) zeE).setRow (w.heap.size+1+1) zeE=w9 at *
    have fin8:∀ j,w9.cell? ⟨w.heap.size+1,j,none⟩=_:=fun j=>Sj _ _ j _ 72 (0,0) r8
    have fin9:∀ j,w9.cell? ⟨w.heap.size+1+1,j,none⟩=_:=fun j=>Sj _ _ j _ 72 (0,0) r9
    refine bodyPost_ret (v:=.tuple #[.agg zeE,.agg zeE,.int .i64 SE]) (by simp [results,Tryz.results90,go_sem,fin8,fin9]) rfl ?_
    exact HE.out
end Go.Proofs.YtjebaagkomejaaaGreatDoor
