/- edit.ranged: are the numbers of a command that are used in their ranges? -/
import Derived.Test.YtjebaagkomejaaaGreatDoorK21
set_option linter.unusedVariables false
set_option linter.unusedSimpArgs false
set_option maxRecDepth 100000
set_option maxHeartbeats 12800000
open Go.Lib renaming hid→h_
open List renaming setIfInBounds_toArray→YA,getElem_cons_zero→YB,getElem_cons_succ→YC,getElem_toArray→YD,set_cons_zero→YE,set_cons_succ→YF
open Array renaming toArray_toList→YG
open Go.RowKit renaming Below→Sj
open Go renaming heap_alloc_last→Sk,wpAnyH_done→Sl,cell_of_row→Sm
namespace Go.Proofs.YtjebaagkomejaaaGreatDoor
open Go.RowKit
theorem sl (x:Ed)(u:Int)(w:World):Calls Tryz.prog 75 #[.agg x.enc.toArray,.int .i64 u] w fun e w'=>e=.returned (.bool ((eF x).all (okR u)))∧Sj w.heap.size w w':=by
 have hq0:((eF x).drop 0).all (okR u)=(eF x).all (okR u):=rfl
 have HL:=h_ (show eF x=[(1,inB x.id 1 1099511627776),(2,if x.op=11 then inB x.other (-5184000) 5184000 else inB x.other 1 1099511627776),(4,cQ x.inn x.out),(8,inB x.frame 0 5184000),(16,inB x.row 0 3),(32,inB x.frm 0 262144&&inB x.til 0 262144)] from rfl)
 have hlen:(eF x).length=6:=rfl
 have HP:=h_ hq0
 have HQ:=h_ (fun(b:Bool) (hb:(eF x).all (okR u)=b) (w':World) (h:Sj w.heap.size w w')=>(show Ending.returned (.bool b)=Ending.returned (.bool ((eF x).all (okR u)))∧Sj w.heap.size w w' from⟨by rw [hb],h⟩))
 have HLEN:=h_ hlen
 have HB:=h_ (CO w x.enc.toArray 40)
 have fW:Sj w.heap.size w (w.alloc (.cells x.enc.toArray 40)):=(Sj.refl _ _).alloc (Nat.le_refl _) _
 have hsA:w.heap.size+1≤(w.alloc (.cells x.enc.toArray 40)).heap.size:=by simp
 generalize (eF x).all (okR u)=ANS at *
 generalize eF x=fs at *
 clear hq0 hlen
 go_enter Tryz.func75,Tryz.ntmps75
 go_upto_region 1 with fail
 have h0:=HB.out
 clear HB
 generalize w.alloc (.cells x.enc.toArray 40)=W at *
 have bE:=h_ fW
 have H0:=h_ h0
 have e2:W.cell? ⟨w.heap.size,2,none⟩=some (.int .i64 x.other):=Sm _ _ 2 _ 40 (0,0) h0
 have e0:W.cell? ⟨w.heap.size,0,none⟩=some (.int .u8 x.op):=Sm _ _ 0 _ 40 (0,0) h0
 clear fW h0
 go_wp2_with fail
 refine(aD x.other 1 1099511627776 W).mono ?_
 rintro e_ w_ ⟨rfl,bm⟩
 rw [bm]
 clear bm w_
 have OS:=h_ (show(if x.op=11 then inB x.other (-5184000) 5184000 else inB x.other 1 1099511627776)=(if x.op=11 then inB x.other (-5184000) 5184000 else inB x.other 1 1099511627776) from rfl)
 generalize Mo:inB x.other 1 1099511627776=O1 at *
 generalize Mn:(if x.op=11 then inB x.other (-5184000) 5184000 else O1)=OT at *
 have HO:=h_ Mn
 have BA:=h_ Mo
 clear Mn Mo OS
 go_upto_if 13 with fail
 generalize lz:(x.op==11)=Bt at *
 have JH:=h_ lz
 clear lz
 go_cut [5] from 14 to 16 (fun v wx=>v=.bool OT∧W=wx)
 case first =>
  clear HP HQ HLEN HL bE H0
  cases Bt with
  | true =>
    have h11:x.op=11:=by simpa using JH.out
    have tK:=HO.out
    rw [if_pos h11] at tK
    have Dv:=h_ tK
    clear tK HO h11 JH
    go_wp2_with fail
    refine(aD x.other (-5184000) 5184000 W).mono ?_
    rintro e_ w_ ⟨rfl,bm⟩
    rw [bm]
    clear bm w_
    go_wp2_with fail
    go_meet
    exact⟨by rw [←Dv.out],rfl⟩
  | false =>
    have h11:¬ x.op=11:=by simpa using JH.out
    have tK:=HO.out
    rw [if_neg h11] at tK
    have Dv:=h_ tK
    clear tK HO h11 JH
    go_wp2_with fail
    go_meet
    exact⟨by rw [←Dv.out],rfl⟩
 case rest =>
  obtain⟨rfl,rfl⟩:=hcut
  clear HO BA e2 e0
  go_upto_region 4 with fail
  go_cut [65,66,67] from 17 to 64 (fun a b c wx=>∃ gs,a=.slice (some ⟨gs,0,none⟩) 6 6∧b=.int .i64 6∧c=.int .i64 0∧W.heap.size≤gs∧wx.heap[gs]? =some (.cells (pairs fs).toArray 171 (0,0))∧Sj W.heap.size W wx)
  case first =>
   have hd0:Sj W.heap.size W W.drew:=(Sj.refl _ _).drew
   have HV:=h_ (fun(w':World) (h:Sj W.heap.size W w') (j:Nat) (v:Value) (hv:x.enc[j]? =some v)=>(show w'.cell? ⟨w.heap.size,j,none⟩=some v from by
    have:=ai ((h.block w.heap.size (by omega)).trans H0.out) j v hv
    rwa [Nat.zero_add] at this))
   clear H0 bE HP HQ HLEN
   obtain⟨op,id,other,inn,out,frame,row,frm,til,kind,color,it,un,name,text,⟨rn,rt,rh,rl,rwd,ra,rb⟩,at_,cap,rows⟩:=x
   simp only at HL
   refine wp_region_held_drew (S:=fun w'=>Sj W.heap.size W w') (by kernel_rfl) hd0 (fun _=>?_)
   generalize W.drew=v0 at *
   refine ab 0 (.pointer (some ⟨w.heap.size,1,none⟩)) hd0 ?_
   refine ab 1 (.int .i64 id) hd0 ?_ (hy:=.inl ⟨by rfl,fun w_ aH=>by have q1:=HV.out w_ aH 1 _ rfl;go_simp⟩)
   refine ab 4 (.bool OT) hd0 ?_
   refine ab 5 (.agg #[.int .i64 2,.bool OT]) hd0 ?_
   refine ab 6 (.pointer (some ⟨w.heap.size,3,none⟩)) hd0 ?_
   refine ab 7 (.pointer (some ⟨w.heap.size,3,none⟩)) hd0 ?_
   refine ab 8 (.int .i64 inn) hd0 ?_ (hy:=.inl ⟨by rfl,fun w_ aH=>by have q3:=HV.out w_ aH 3 _ rfl;go_simp⟩)
   refine ab 26 (.pointer (some ⟨w.heap.size,5,none⟩)) hd0 ?_
   refine ab 27 (.int .i64 frame) hd0 ?_ (hy:=.inl ⟨by rfl,fun w_ aH=>by have q5:=HV.out w_ aH 5 _ rfl;go_simp⟩)
   refine ab 30 (.pointer (some ⟨w.heap.size,6,none⟩)) hd0 ?_
   refine ab 31 (.int .i64 row) hd0 ?_ (hy:=.inl ⟨by rfl,fun w_ aH=>by have q6:=HV.out w_ aH 6 _ rfl;go_simp⟩)
   refine ab 39 (.pointer (some ⟨w.heap.size,7,none⟩)) hd0 ?_
   refine ab 40 (.int .i64 frm) hd0 ?_ (hy:=.inl ⟨by rfl,fun w_ aH=>by have q7:=HV.out w_ aH 7 _ rfl;go_simp⟩)
   refine ab 50 (.int .i64 0) hd0 ?_
   by_cases hc1:0≤inn
   · by_cases hc2:inn<out
     · have fV:cQ inn out=decide (out≤5184000):=by simp [cQ,hc1,hc2]
       refine ab 9 (.bool true) hd0 ?_
       by_cases hr1:0≤row
       · have hrow:inB row 0 3=decide (row<4):=uV hr1
         refine ab 32 (.bool true) hd0 ?_
         refine aq 2 (fun K hK=>?_)
         go_simp
         refine(aD id 1 1099511627776 _).mono ?_
         rintro e_ w_ ⟨rfl,bm⟩
         rw [bm]
         clear bm w_
         go_wp2_with fail
         refine goOn hK hd0 ?_
         clear hK
         refine ab 3 (.agg #[.int .i64 1,.bool (inB id 1 1099511627776)]) hd0 ?_
         refine ab 10 (.bool true) hd0 ?_
         refine ab 11 (.pointer (some ⟨w.heap.size,3,none⟩)) hd0 ?_
         refine ab 12 (.pointer (some ⟨w.heap.size,3,none⟩)) hd0 ?_
         refine ab 13 (.int .i64 inn) hd0 ?_ (hy:=.inl ⟨by rfl,fun w_ aH=>by have q3:=HV.out w_ aH 3 _ rfl;go_simp⟩)
         refine ab 14 (.pointer (some ⟨w.heap.size,3,none⟩)) hd0 ?_
         refine ab 15 (.pointer (some ⟨w.heap.size,4,none⟩)) hd0 ?_
         refine ab 16 (.int .i64 out) hd0 ?_ (hy:=.inl ⟨by rfl,fun w_ aH=>by have q4:=HV.out w_ aH 4 _ rfl;go_simp⟩)
         refine ab 17 (.bool true) hd0 ?_
         refine ab 18 (.bool true) hd0 ?_
         refine ab 19 (.bool true) hd0 ?_
         refine ab 20 (.pointer (some ⟨w.heap.size,3,none⟩)) hd0 ?_
         refine ab 21 (.pointer (some ⟨w.heap.size,4,none⟩)) hd0 ?_
         refine ab 22 (.int .i64 out) hd0 ?_ (hy:=.inl ⟨by rfl,fun w_ aH=>by have q4:=HV.out w_ aH 4 _ rfl;go_simp⟩)
         refine ab 23 (.bool (decide (out≤5184000))) hd0 ?_
         refine ab 24 (.bool (decide (out≤5184000))) hd0 ?_
         refine ab 25 (.agg #[.int .i64 4,.bool (decide (out≤5184000))]) hd0 ?_
         refine aq 28 (fun K hK=>?_)
         go_simp
         refine(aD frame 0 5184000 _).mono ?_
         rintro e_ w_ ⟨rfl,bm⟩
         rw [bm]
         clear bm w_
         go_wp2_with fail
         refine goOn hK hd0 ?_
         clear hK
         refine ab 29 (.agg #[.int .i64 8,.bool (inB frame 0 5184000)]) hd0 ?_
         refine ab 33 (.bool true) hd0 ?_
         refine ab 34 (.pointer (some ⟨w.heap.size,6,none⟩)) hd0 ?_
         refine ab 35 (.int .i64 row) hd0 ?_ (hy:=.inl ⟨by rfl,fun w_ aH=>by have q6:=HV.out w_ aH 6 _ rfl;go_simp⟩)
         refine ab 36 (.bool (decide (row<4))) hd0 ?_
         refine ab 37 (.bool (decide (row<4))) hd0 ?_
         refine ab 38 (.agg #[.int .i64 16,.bool (decide (row<4))]) hd0 ?_
         refine aq 41 (fun K hK=>?_)
         go_simp
         refine(aD frm 0 262144 _).mono ?_
         rintro e_ w_ ⟨rfl,bm⟩
         rw [bm]
         clear bm w_
         go_wp2_with fail
         refine goOn hK hd0 ?_
         clear hK
         cases kM:inB frm 0 262144
         · have fJ:(inB frm 0 262144&&inB til 0 262144)=false:=by rw [kM];rfl
           refine ab 42 (.bool false) hd0 ?_
           refine ax 43 hd0 ?_
           refine ax 44 hd0 ?_
           refine ax 45 hd0 ?_
           refine ab 46 (.bool false) hd0 ?_
           refine ab 47 (.agg #[.int .i64 32,.bool false]) hd0 ?_
           refine aq 48 (fun K hK=>?_)
           go_simp
           have hal:=Sk v0 (.cells (pairs [(1,inB id 1 1099511627776),(2,OT),(4,(decide (out≤5184000))),(8,inB frame 0 5184000),(16,(decide (row<4))),(32,false)]).toArray 171)
           have hS2:Sj W.heap.size W (v0.alloc (.cells (pairs [(1,inB id 1 1099511627776),(2,OT),(4,(decide (out≤5184000))),(8,inB frame 0 5184000),(16,(decide (row<4))),(32,false)]).toArray 171)):=hd0.alloc (by have:=hd0.size;omega) _
           have hbq:fs=[(1,inB id 1 1099511627776),(2,OT),(4,(decide (out≤5184000))),(8,inB frame 0 5184000),(16,(decide (row<4))),(32,false)]:=HL.out.trans (by rw [fV,hrow,fJ])
           refine goOn hK hS2 ?_
           clear hK
           refine ab 49 (.int .i64 6) hS2 ?_
           refine Sl (by kernel_rfl) ?_ _
           go_wp2_with fail
           go_meet
           exact⟨v0.heap.size,rfl,rfl,rfl,hd0.size,by rw [hbq];exact hal,hS2⟩
         · have fJ:(inB frm 0 262144&&inB til 0 262144)=inB til 0 262144:=by rw [kM];rfl
           refine ab 42 (.bool true) hd0 ?_
           refine ab 43 (.pointer (some ⟨w.heap.size,8,none⟩)) hd0 ?_
           refine ab 44 (.int .i64 til) hd0 ?_ (hy:=.inl ⟨by rfl,fun w_ aH=>by have q8:=HV.out w_ aH 8 _ rfl;go_simp⟩)
           refine aq 45 (fun K hK=>?_)
           go_simp
           refine(aD til 0 262144 _).mono ?_
           rintro e_ w_ ⟨rfl,bm⟩
           rw [bm]
           clear bm w_
           go_wp2_with fail
           refine goOn hK hd0 ?_
           clear hK
           refine ab 46 (.bool (inB til 0 262144)) hd0 ?_
           refine ab 47 (.agg #[.int .i64 32,.bool (inB til 0 262144)]) hd0 ?_
           refine aq 48 (fun K hK=>?_)
           go_simp
           have hal:=Sk v0 (.cells (pairs [(1,inB id 1 1099511627776),(2,OT),(4,(decide (out≤5184000))),(8,inB frame 0 5184000),(16,(decide (row<4))),(32,(inB til 0 262144))]).toArray 171)
           have hS2:Sj W.heap.size W (v0.alloc (.cells (pairs [(1,inB id 1 1099511627776),(2,OT),(4,(decide (out≤5184000))),(8,inB frame 0 5184000),(16,(decide (row<4))),(32,(inB til 0 262144))]).toArray 171)):=hd0.alloc (by have:=hd0.size;omega) _
           have hbq:fs=[(1,inB id 1 1099511627776),(2,OT),(4,(decide (out≤5184000))),(8,inB frame 0 5184000),(16,(decide (row<4))),(32,(inB til 0 262144))]:=HL.out.trans (by rw [fV,hrow,fJ])
           refine goOn hK hS2 ?_
           clear hK
           refine ab 49 (.int .i64 6) hS2 ?_
           refine Sl (by kernel_rfl) ?_ _
           go_wp2_with fail
           go_meet
           exact⟨v0.heap.size,rfl,rfl,rfl,hd0.size,by rw [hbq];exact hal,hS2⟩
       · have hrow:inB row 0 3=false:=mW (fun h=>hr1 h.1)
         have EK:row<0:=by omega
         clear hr1
         refine ab 32 (.bool false) hd0 ?_
         refine aq 2 (fun K hK=>?_)
         go_simp
         refine(aD id 1 1099511627776 _).mono ?_
         rintro e_ w_ ⟨rfl,bm⟩
         rw [bm]
         clear bm w_
         go_wp2_with fail
         refine goOn hK hd0 ?_
         clear hK
         refine ab 3 (.agg #[.int .i64 1,.bool (inB id 1 1099511627776)]) hd0 ?_
         refine ab 10 (.bool true) hd0 ?_
         refine ab 11 (.pointer (some ⟨w.heap.size,3,none⟩)) hd0 ?_
         refine ab 12 (.pointer (some ⟨w.heap.size,3,none⟩)) hd0 ?_
         refine ab 13 (.int .i64 inn) hd0 ?_ (hy:=.inl ⟨by rfl,fun w_ aH=>by have q3:=HV.out w_ aH 3 _ rfl;go_simp⟩)
         refine ab 14 (.pointer (some ⟨w.heap.size,3,none⟩)) hd0 ?_
         refine ab 15 (.pointer (some ⟨w.heap.size,4,none⟩)) hd0 ?_
         refine ab 16 (.int .i64 out) hd0 ?_ (hy:=.inl ⟨by rfl,fun w_ aH=>by have q4:=HV.out w_ aH 4 _ rfl;go_simp⟩)
         refine ab 17 (.bool true) hd0 ?_
         refine ab 18 (.bool true) hd0 ?_
         refine ab 19 (.bool true) hd0 ?_
         refine ab 20 (.pointer (some ⟨w.heap.size,3,none⟩)) hd0 ?_
         refine ab 21 (.pointer (some ⟨w.heap.size,4,none⟩)) hd0 ?_
         refine ab 22 (.int .i64 out) hd0 ?_ (hy:=.inl ⟨by rfl,fun w_ aH=>by have q4:=HV.out w_ aH 4 _ rfl;go_simp⟩)
         refine ab 23 (.bool (decide (out≤5184000))) hd0 ?_
         refine ab 24 (.bool (decide (out≤5184000))) hd0 ?_
         refine ab 25 (.agg #[.int .i64 4,.bool (decide (out≤5184000))]) hd0 ?_
         refine aq 28 (fun K hK=>?_)
         go_simp
         refine(aD frame 0 5184000 _).mono ?_
         rintro e_ w_ ⟨rfl,bm⟩
         rw [bm]
         clear bm w_
         go_wp2_with fail
         refine goOn hK hd0 ?_
         clear hK
         refine ab 29 (.agg #[.int .i64 8,.bool (inB frame 0 5184000)]) hd0 ?_
         refine ab 33 (.bool false) hd0 ?_
         refine ax 34 hd0 ?_
         refine ax 35 hd0 ?_
         refine ax 36 hd0 ?_
         refine ab 37 (.bool false) hd0 ?_
         refine ab 38 (.agg #[.int .i64 16,.bool false]) hd0 ?_
         refine aq 41 (fun K hK=>?_)
         go_simp
         refine(aD frm 0 262144 _).mono ?_
         rintro e_ w_ ⟨rfl,bm⟩
         rw [bm]
         clear bm w_
         go_wp2_with fail
         refine goOn hK hd0 ?_
         clear hK
         cases kM:inB frm 0 262144
         · have fJ:(inB frm 0 262144&&inB til 0 262144)=false:=by rw [kM];rfl
           refine ab 42 (.bool false) hd0 ?_
           refine ax 43 hd0 ?_
           refine ax 44 hd0 ?_
           refine ax 45 hd0 ?_
           refine ab 46 (.bool false) hd0 ?_
           refine ab 47 (.agg #[.int .i64 32,.bool false]) hd0 ?_
           refine aq 48 (fun K hK=>?_)
           go_simp
           have hal:=Sk v0 (.cells (pairs [(1,inB id 1 1099511627776),(2,OT),(4,(decide (out≤5184000))),(8,inB frame 0 5184000),(16,false),(32,false)]).toArray 171)
           have hS2:Sj W.heap.size W (v0.alloc (.cells (pairs [(1,inB id 1 1099511627776),(2,OT),(4,(decide (out≤5184000))),(8,inB frame 0 5184000),(16,false),(32,false)]).toArray 171)):=hd0.alloc (by have:=hd0.size;omega) _
           have hbq:fs=[(1,inB id 1 1099511627776),(2,OT),(4,(decide (out≤5184000))),(8,inB frame 0 5184000),(16,false),(32,false)]:=HL.out.trans (by rw [fV,hrow,fJ])
           refine goOn hK hS2 ?_
           clear hK
           refine ab 49 (.int .i64 6) hS2 ?_
           refine Sl (by kernel_rfl) ?_ _
           go_wp2_with fail
           go_meet
           exact⟨v0.heap.size,rfl,rfl,rfl,hd0.size,by rw [hbq];exact hal,hS2⟩
         · have fJ:(inB frm 0 262144&&inB til 0 262144)=inB til 0 262144:=by rw [kM];rfl
           refine ab 42 (.bool true) hd0 ?_
           refine ab 43 (.pointer (some ⟨w.heap.size,8,none⟩)) hd0 ?_
           refine ab 44 (.int .i64 til) hd0 ?_ (hy:=.inl ⟨by rfl,fun w_ aH=>by have q8:=HV.out w_ aH 8 _ rfl;go_simp⟩)
           refine aq 45 (fun K hK=>?_)
           go_simp
           refine(aD til 0 262144 _).mono ?_
           rintro e_ w_ ⟨rfl,bm⟩
           rw [bm]
           clear bm w_
           go_wp2_with fail
           refine goOn hK hd0 ?_
           clear hK
           refine ab 46 (.bool (inB til 0 262144)) hd0 ?_
           refine ab 47 (.agg #[.int .i64 32,.bool (inB til 0 262144)]) hd0 ?_
           refine aq 48 (fun K hK=>?_)
           go_simp
           have hal:=Sk v0 (.cells (pairs [(1,inB id 1 1099511627776),(2,OT),(4,(decide (out≤5184000))),(8,inB frame 0 5184000),(16,false),(32,(inB til 0 262144))]).toArray 171)
           have hS2:Sj W.heap.size W (v0.alloc (.cells (pairs [(1,inB id 1 1099511627776),(2,OT),(4,(decide (out≤5184000))),(8,inB frame 0 5184000),(16,false),(32,(inB til 0 262144))]).toArray 171)):=hd0.alloc (by have:=hd0.size;omega) _
           have hbq:fs=[(1,inB id 1 1099511627776),(2,OT),(4,(decide (out≤5184000))),(8,inB frame 0 5184000),(16,false),(32,(inB til 0 262144))]:=HL.out.trans (by rw [fV,hrow,fJ])
           refine goOn hK hS2 ?_
           clear hK
           refine ab 49 (.int .i64 6) hS2 ?_
           refine Sl (by kernel_rfl) ?_ _
           go_wp2_with fail
           go_meet
           exact⟨v0.heap.size,rfl,rfl,rfl,hd0.size,by rw [hbq];exact hal,hS2⟩
     · have fV:cQ inn out=false:=by simp [cQ,hc1,hc2]
       have hc2':out≤inn:=by omega
       clear hc2
       refine ab 9 (.bool true) hd0 ?_
       by_cases hr1:0≤row
       · have hrow:inB row 0 3=decide (row<4):=uV hr1
         refine ab 32 (.bool true) hd0 ?_
         refine aq 2 (fun K hK=>?_)
         go_simp
         refine(aD id 1 1099511627776 _).mono ?_
         rintro e_ w_ ⟨rfl,bm⟩
         rw [bm]
         clear bm w_
         go_wp2_with fail
         refine goOn hK hd0 ?_
         clear hK
         refine ab 3 (.agg #[.int .i64 1,.bool (inB id 1 1099511627776)]) hd0 ?_
         refine ab 10 (.bool true) hd0 ?_
         refine ab 11 (.pointer (some ⟨w.heap.size,3,none⟩)) hd0 ?_
         refine ab 12 (.pointer (some ⟨w.heap.size,3,none⟩)) hd0 ?_
         refine ab 13 (.int .i64 inn) hd0 ?_ (hy:=.inl ⟨by rfl,fun w_ aH=>by have q3:=HV.out w_ aH 3 _ rfl;go_simp⟩)
         refine ab 14 (.pointer (some ⟨w.heap.size,3,none⟩)) hd0 ?_
         refine ab 15 (.pointer (some ⟨w.heap.size,4,none⟩)) hd0 ?_
         refine ab 16 (.int .i64 out) hd0 ?_ (hy:=.inl ⟨by rfl,fun w_ aH=>by have q4:=HV.out w_ aH 4 _ rfl;go_simp⟩)
         refine ab 17 (.bool false) hd0 ?_
         refine ab 18 (.bool false) hd0 ?_
         refine ab 19 (.bool false) hd0 ?_
         refine ax 20 hd0 ?_
         refine ax 21 hd0 ?_
         refine ax 22 hd0 ?_
         refine ax 23 hd0 ?_
         refine ab 24 (.bool false) hd0 ?_
         refine ab 25 (.agg #[.int .i64 4,.bool false]) hd0 ?_
         refine aq 28 (fun K hK=>?_)
         go_simp
         refine(aD frame 0 5184000 _).mono ?_
         rintro e_ w_ ⟨rfl,bm⟩
         rw [bm]
         clear bm w_
         go_wp2_with fail
         refine goOn hK hd0 ?_
         clear hK
         refine ab 29 (.agg #[.int .i64 8,.bool (inB frame 0 5184000)]) hd0 ?_
         refine ab 33 (.bool true) hd0 ?_
         refine ab 34 (.pointer (some ⟨w.heap.size,6,none⟩)) hd0 ?_
         refine ab 35 (.int .i64 row) hd0 ?_ (hy:=.inl ⟨by rfl,fun w_ aH=>by have q6:=HV.out w_ aH 6 _ rfl;go_simp⟩)
         refine ab 36 (.bool (decide (row<4))) hd0 ?_
         refine ab 37 (.bool (decide (row<4))) hd0 ?_
         refine ab 38 (.agg #[.int .i64 16,.bool (decide (row<4))]) hd0 ?_
         refine aq 41 (fun K hK=>?_)
         go_simp
         refine(aD frm 0 262144 _).mono ?_
         rintro e_ w_ ⟨rfl,bm⟩
         rw [bm]
         clear bm w_
         go_wp2_with fail
         refine goOn hK hd0 ?_
         clear hK
         cases kM:inB frm 0 262144
         · have fJ:(inB frm 0 262144&&inB til 0 262144)=false:=by rw [kM];rfl
           refine ab 42 (.bool false) hd0 ?_
           refine ax 43 hd0 ?_
           refine ax 44 hd0 ?_
           refine ax 45 hd0 ?_
           refine ab 46 (.bool false) hd0 ?_
           refine ab 47 (.agg #[.int .i64 32,.bool false]) hd0 ?_
           refine aq 48 (fun K hK=>?_)
           go_simp
           have hal:=Sk v0 (.cells (pairs [(1,inB id 1 1099511627776),(2,OT),(4,false),(8,inB frame 0 5184000),(16,(decide (row<4))),(32,false)]).toArray 171)
           have hS2:Sj W.heap.size W (v0.alloc (.cells (pairs [(1,inB id 1 1099511627776),(2,OT),(4,false),(8,inB frame 0 5184000),(16,(decide (row<4))),(32,false)]).toArray 171)):=hd0.alloc (by have:=hd0.size;omega) _
           have hbq:fs=[(1,inB id 1 1099511627776),(2,OT),(4,false),(8,inB frame 0 5184000),(16,(decide (row<4))),(32,false)]:=HL.out.trans (by rw [fV,hrow,fJ])
           refine goOn hK hS2 ?_
           clear hK
           refine ab 49 (.int .i64 6) hS2 ?_
           refine Sl (by kernel_rfl) ?_ _
           go_wp2_with fail
           go_meet
           exact⟨v0.heap.size,rfl,rfl,rfl,hd0.size,by rw [hbq];exact hal,hS2⟩
         · have fJ:(inB frm 0 262144&&inB til 0 262144)=inB til 0 262144:=by rw [kM];rfl
           refine ab 42 (.bool true) hd0 ?_
           refine ab 43 (.pointer (some ⟨w.heap.size,8,none⟩)) hd0 ?_
           refine ab 44 (.int .i64 til) hd0 ?_ (hy:=.inl ⟨by rfl,fun w_ aH=>by have q8:=HV.out w_ aH 8 _ rfl;go_simp⟩)
           refine aq 45 (fun K hK=>?_)
           go_simp
           refine(aD til 0 262144 _).mono ?_
           rintro e_ w_ ⟨rfl,bm⟩
           rw [bm]
           clear bm w_
           go_wp2_with fail
           refine goOn hK hd0 ?_
           clear hK
           refine ab 46 (.bool (inB til 0 262144)) hd0 ?_
           refine ab 47 (.agg #[.int .i64 32,.bool (inB til 0 262144)]) hd0 ?_
           refine aq 48 (fun K hK=>?_)
           go_simp
           have hal:=Sk v0 (.cells (pairs [(1,inB id 1 1099511627776),(2,OT),(4,false),(8,inB frame 0 5184000),(16,(decide (row<4))),(32,(inB til 0 262144))]).toArray 171)
           have hS2:Sj W.heap.size W (v0.alloc (.cells (pairs [(1,inB id 1 1099511627776),(2,OT),(4,false),(8,inB frame 0 5184000),(16,(decide (row<4))),(32,(inB til 0 262144))]).toArray 171)):=hd0.alloc (by have:=hd0.size;omega) _
           have hbq:fs=[(1,inB id 1 1099511627776),(2,OT),(4,false),(8,inB frame 0 5184000),(16,(decide (row<4))),(32,(inB til 0 262144))]:=HL.out.trans (by rw [fV,hrow,fJ])
           refine goOn hK hS2 ?_
           clear hK
           refine ab 49 (.int .i64 6) hS2 ?_
           refine Sl (by kernel_rfl) ?_ _
           go_wp2_with fail
           go_meet
           exact⟨v0.heap.size,rfl,rfl,rfl,hd0.size,by rw [hbq];exact hal,hS2⟩
       · have hrow:inB row 0 3=false:=mW (fun h=>hr1 h.1)
         have EK:row<0:=by omega
         clear hr1
         refine ab 32 (.bool false) hd0 ?_
         refine aq 2 (fun K hK=>?_)
         go_simp
         refine(aD id 1 1099511627776 _).mono ?_
         rintro e_ w_ ⟨rfl,bm⟩
         rw [bm]
         clear bm w_
         go_wp2_with fail
         refine goOn hK hd0 ?_
         clear hK
         refine ab 3 (.agg #[.int .i64 1,.bool (inB id 1 1099511627776)]) hd0 ?_
         refine ab 10 (.bool true) hd0 ?_
         refine ab 11 (.pointer (some ⟨w.heap.size,3,none⟩)) hd0 ?_
         refine ab 12 (.pointer (some ⟨w.heap.size,3,none⟩)) hd0 ?_
         refine ab 13 (.int .i64 inn) hd0 ?_ (hy:=.inl ⟨by rfl,fun w_ aH=>by have q3:=HV.out w_ aH 3 _ rfl;go_simp⟩)
         refine ab 14 (.pointer (some ⟨w.heap.size,3,none⟩)) hd0 ?_
         refine ab 15 (.pointer (some ⟨w.heap.size,4,none⟩)) hd0 ?_
         refine ab 16 (.int .i64 out) hd0 ?_ (hy:=.inl ⟨by rfl,fun w_ aH=>by have q4:=HV.out w_ aH 4 _ rfl;go_simp⟩)
         refine ab 17 (.bool false) hd0 ?_
         refine ab 18 (.bool false) hd0 ?_
         refine ab 19 (.bool false) hd0 ?_
         refine ax 20 hd0 ?_
         refine ax 21 hd0 ?_
         refine ax 22 hd0 ?_
         refine ax 23 hd0 ?_
         refine ab 24 (.bool false) hd0 ?_
         refine ab 25 (.agg #[.int .i64 4,.bool false]) hd0 ?_
         refine aq 28 (fun K hK=>?_)
         go_simp
         refine(aD frame 0 5184000 _).mono ?_
         rintro e_ w_ ⟨rfl,bm⟩
         rw [bm]
         clear bm w_
         go_wp2_with fail
         refine goOn hK hd0 ?_
         clear hK
         refine ab 29 (.agg #[.int .i64 8,.bool (inB frame 0 5184000)]) hd0 ?_
         refine ab 33 (.bool false) hd0 ?_
         refine ax 34 hd0 ?_
         refine ax 35 hd0 ?_
         refine ax 36 hd0 ?_
         refine ab 37 (.bool false) hd0 ?_
         refine ab 38 (.agg #[.int .i64 16,.bool false]) hd0 ?_
         refine aq 41 (fun K hK=>?_)
         go_simp
         refine(aD frm 0 262144 _).mono ?_
         rintro e_ w_ ⟨rfl,bm⟩
         rw [bm]
         clear bm w_
         go_wp2_with fail
         refine goOn hK hd0 ?_
         clear hK
         cases kM:inB frm 0 262144
         · have fJ:(inB frm 0 262144&&inB til 0 262144)=false:=by rw [kM];rfl
           refine ab 42 (.bool false) hd0 ?_
           refine ax 43 hd0 ?_
           refine ax 44 hd0 ?_
           refine ax 45 hd0 ?_
           refine ab 46 (.bool false) hd0 ?_
           refine ab 47 (.agg #[.int .i64 32,.bool false]) hd0 ?_
           refine aq 48 (fun K hK=>?_)
           go_simp
           have hal:=Sk v0 (.cells (pairs [(1,inB id 1 1099511627776),(2,OT),(4,false),(8,inB frame 0 5184000),(16,false),(32,false)]).toArray 171)
           have hS2:Sj W.heap.size W (v0.alloc (.cells (pairs [(1,inB id 1 1099511627776),(2,OT),(4,false),(8,inB frame 0 5184000),(16,false),(32,false)]).toArray 171)):=hd0.alloc (by have:=hd0.size;omega) _
           have hbq:fs=[(1,inB id 1 1099511627776),(2,OT),(4,false),(8,inB frame 0 5184000),(16,false),(32,false)]:=HL.out.trans (by rw [fV,hrow,fJ])
           refine goOn hK hS2 ?_
           clear hK
           refine ab 49 (.int .i64 6) hS2 ?_
           refine Sl (by kernel_rfl) ?_ _
           go_wp2_with fail
           go_meet
           exact⟨v0.heap.size,rfl,rfl,rfl,hd0.size,by rw [hbq];exact hal,hS2⟩
         · have fJ:(inB frm 0 262144&&inB til 0 262144)=inB til 0 262144:=by rw [kM];rfl
           refine ab 42 (.bool true) hd0 ?_
           refine ab 43 (.pointer (some ⟨w.heap.size,8,none⟩)) hd0 ?_
           refine ab 44 (.int .i64 til) hd0 ?_ (hy:=.inl ⟨by rfl,fun w_ aH=>by have q8:=HV.out w_ aH 8 _ rfl;go_simp⟩)
           refine aq 45 (fun K hK=>?_)
           go_simp
           refine(aD til 0 262144 _).mono ?_
           rintro e_ w_ ⟨rfl,bm⟩
           rw [bm]
           clear bm w_
           go_wp2_with fail
           refine goOn hK hd0 ?_
           clear hK
           refine ab 46 (.bool (inB til 0 262144)) hd0 ?_
           refine ab 47 (.agg #[.int .i64 32,.bool (inB til 0 262144)]) hd0 ?_
           refine aq 48 (fun K hK=>?_)
           go_simp
           have hal:=Sk v0 (.cells (pairs [(1,inB id 1 1099511627776),(2,OT),(4,false),(8,inB frame 0 5184000),(16,false),(32,(inB til 0 262144))]).toArray 171)
           have hS2:Sj W.heap.size W (v0.alloc (.cells (pairs [(1,inB id 1 1099511627776),(2,OT),(4,false),(8,inB frame 0 5184000),(16,false),(32,(inB til 0 262144))]).toArray 171)):=hd0.alloc (by have:=hd0.size;omega) _
           have hbq:fs=[(1,inB id 1 1099511627776),(2,OT),(4,false),(8,inB frame 0 5184000),(16,false),(32,(inB til 0 262144))]:=HL.out.trans (by rw [fV,hrow,fJ])
           refine goOn hK hS2 ?_
           clear hK
           refine ab 49 (.int .i64 6) hS2 ?_
           refine Sl (by kernel_rfl) ?_ _
           go_wp2_with fail
           go_meet
           exact⟨v0.heap.size,rfl,rfl,rfl,hd0.size,by rw [hbq];exact hal,hS2⟩
   · have fV:cQ inn out=false:=by simp [cQ,hc1]
     have hc1':inn<0:=by omega
     clear hc1
     refine ab 9 (.bool false) hd0 ?_
     by_cases hr1:0≤row
     · have hrow:inB row 0 3=decide (row<4):=uV hr1
       refine ab 32 (.bool true) hd0 ?_
       refine aq 2 (fun K hK=>?_)
       go_simp
       refine(aD id 1 1099511627776 _).mono ?_
       rintro e_ w_ ⟨rfl,bm⟩
       rw [bm]
       clear bm w_
       go_wp2_with fail
       refine goOn hK hd0 ?_
       clear hK
       refine ab 3 (.agg #[.int .i64 1,.bool (inB id 1 1099511627776)]) hd0 ?_
       refine ab 10 (.bool false) hd0 ?_
       refine ax 11 hd0 ?_
       refine ax 12 hd0 ?_
       refine ax 13 hd0 ?_
       refine ax 14 hd0 ?_
       refine ax 15 hd0 ?_
       refine ax 16 hd0 ?_
       refine ax 17 hd0 ?_
       refine ab 18 (.bool false) hd0 ?_
       refine ab 19 (.bool false) hd0 ?_
       refine ax 20 hd0 ?_
       refine ax 21 hd0 ?_
       refine ax 22 hd0 ?_
       refine ax 23 hd0 ?_
       refine ab 24 (.bool false) hd0 ?_
       refine ab 25 (.agg #[.int .i64 4,.bool false]) hd0 ?_
       refine aq 28 (fun K hK=>?_)
       go_simp
       refine(aD frame 0 5184000 _).mono ?_
       rintro e_ w_ ⟨rfl,bm⟩
       rw [bm]
       clear bm w_
       go_wp2_with fail
       refine goOn hK hd0 ?_
       clear hK
       refine ab 29 (.agg #[.int .i64 8,.bool (inB frame 0 5184000)]) hd0 ?_
       refine ab 33 (.bool true) hd0 ?_
       refine ab 34 (.pointer (some ⟨w.heap.size,6,none⟩)) hd0 ?_
       refine ab 35 (.int .i64 row) hd0 ?_ (hy:=.inl ⟨by rfl,fun w_ aH=>by have q6:=HV.out w_ aH 6 _ rfl;go_simp⟩)
       refine ab 36 (.bool (decide (row<4))) hd0 ?_
       refine ab 37 (.bool (decide (row<4))) hd0 ?_
       refine ab 38 (.agg #[.int .i64 16,.bool (decide (row<4))]) hd0 ?_
       refine aq 41 (fun K hK=>?_)
       go_simp
       refine(aD frm 0 262144 _).mono ?_
       rintro e_ w_ ⟨rfl,bm⟩
       rw [bm]
       clear bm w_
       go_wp2_with fail
       refine goOn hK hd0 ?_
       clear hK
       cases kM:inB frm 0 262144
       · have fJ:(inB frm 0 262144&&inB til 0 262144)=false:=by rw [kM];rfl
         refine ab 42 (.bool false) hd0 ?_
         refine ax 43 hd0 ?_
         refine ax 44 hd0 ?_
         refine ax 45 hd0 ?_
         refine ab 46 (.bool false) hd0 ?_
         refine ab 47 (.agg #[.int .i64 32,.bool false]) hd0 ?_
         refine aq 48 (fun K hK=>?_)
         go_simp
         have hal:=Sk v0 (.cells (pairs [(1,inB id 1 1099511627776),(2,OT),(4,false),(8,inB frame 0 5184000),(16,(decide (row<4))),(32,false)]).toArray 171)
         have hS2:Sj W.heap.size W (v0.alloc (.cells (pairs [(1,inB id 1 1099511627776),(2,OT),(4,false),(8,inB frame 0 5184000),(16,(decide (row<4))),(32,false)]).toArray 171)):=hd0.alloc (by have:=hd0.size;omega) _
         have hbq:fs=[(1,inB id 1 1099511627776),(2,OT),(4,false),(8,inB frame 0 5184000),(16,(decide (row<4))),(32,false)]:=HL.out.trans (by rw [fV,hrow,fJ])
         refine goOn hK hS2 ?_
         clear hK
         refine ab 49 (.int .i64 6) hS2 ?_
         refine Sl (by kernel_rfl) ?_ _
         go_wp2_with fail
         go_meet
         exact⟨v0.heap.size,rfl,rfl,rfl,hd0.size,by rw [hbq];exact hal,hS2⟩
       · have fJ:(inB frm 0 262144&&inB til 0 262144)=inB til 0 262144:=by rw [kM];rfl
         refine ab 42 (.bool true) hd0 ?_
         refine ab 43 (.pointer (some ⟨w.heap.size,8,none⟩)) hd0 ?_
         refine ab 44 (.int .i64 til) hd0 ?_ (hy:=.inl ⟨by rfl,fun w_ aH=>by have q8:=HV.out w_ aH 8 _ rfl;go_simp⟩)
         refine aq 45 (fun K hK=>?_)
         go_simp
         refine(aD til 0 262144 _).mono ?_
         rintro e_ w_ ⟨rfl,bm⟩
         rw [bm]
         clear bm w_
         go_wp2_with fail
         refine goOn hK hd0 ?_
         clear hK
         refine ab 46 (.bool (inB til 0 262144)) hd0 ?_
         refine ab 47 (.agg #[.int .i64 32,.bool (inB til 0 262144)]) hd0 ?_
         refine aq 48 (fun K hK=>?_)
         go_simp
         have hal:=Sk v0 (.cells (pairs [(1,inB id 1 1099511627776),(2,OT),(4,false),(8,inB frame 0 5184000),(16,(decide (row<4))),(32,(inB til 0 262144))]).toArray 171)
         have hS2:Sj W.heap.size W (v0.alloc (.cells (pairs [(1,inB id 1 1099511627776),(2,OT),(4,false),(8,inB frame 0 5184000),(16,(decide (row<4))),(32,(inB til 0 262144))]).toArray 171)):=hd0.alloc (by have:=hd0.size;omega) _
         have hbq:fs=[(1,inB id 1 1099511627776),(2,OT),(4,false),(8,inB frame 0 5184000),(16,(decide (row<4))),(32,(inB til 0 262144))]:=HL.out.trans (by rw [fV,hrow,fJ])
         refine goOn hK hS2 ?_
         clear hK
         refine ab 49 (.int .i64 6) hS2 ?_
         refine Sl (by kernel_rfl) ?_ _
         go_wp2_with fail
         go_meet
         exact⟨v0.heap.size,rfl,rfl,rfl,hd0.size,by rw [hbq];exact hal,hS2⟩
     · have hrow:inB row 0 3=false:=mW (fun h=>hr1 h.1)
       have EK:row<0:=by omega
       clear hr1
       refine ab 32 (.bool false) hd0 ?_
       refine aq 2 (fun K hK=>?_)
       go_simp
       refine(aD id 1 1099511627776 _).mono ?_
       rintro e_ w_ ⟨rfl,bm⟩
       rw [bm]
       clear bm w_
       go_wp2_with fail
       refine goOn hK hd0 ?_
       clear hK
       refine ab 3 (.agg #[.int .i64 1,.bool (inB id 1 1099511627776)]) hd0 ?_
       refine ab 10 (.bool false) hd0 ?_
       refine ax 11 hd0 ?_
       refine ax 12 hd0 ?_
       refine ax 13 hd0 ?_
       refine ax 14 hd0 ?_
       refine ax 15 hd0 ?_
       refine ax 16 hd0 ?_
       refine ax 17 hd0 ?_
       refine ab 18 (.bool false) hd0 ?_
       refine ab 19 (.bool false) hd0 ?_
       refine ax 20 hd0 ?_
       refine ax 21 hd0 ?_
       refine ax 22 hd0 ?_
       refine ax 23 hd0 ?_
       refine ab 24 (.bool false) hd0 ?_
       refine ab 25 (.agg #[.int .i64 4,.bool false]) hd0 ?_
       refine aq 28 (fun K hK=>?_)
       go_simp
       refine(aD frame 0 5184000 _).mono ?_
       rintro e_ w_ ⟨rfl,bm⟩
       rw [bm]
       clear bm w_
       go_wp2_with fail
       refine goOn hK hd0 ?_
       clear hK
       refine ab 29 (.agg #[.int .i64 8,.bool (inB frame 0 5184000)]) hd0 ?_
       refine ab 33 (.bool false) hd0 ?_
       refine ax 34 hd0 ?_
       refine ax 35 hd0 ?_
       refine ax 36 hd0 ?_
       refine ab 37 (.bool false) hd0 ?_
       refine ab 38 (.agg #[.int .i64 16,.bool false]) hd0 ?_
       refine aq 41 (fun K hK=>?_)
       go_simp
       refine(aD frm 0 262144 _).mono ?_
       rintro e_ w_ ⟨rfl,bm⟩
       rw [bm]
       clear bm w_
       go_wp2_with fail
       refine goOn hK hd0 ?_
       clear hK
       cases kM:inB frm 0 262144
       · have fJ:(inB frm 0 262144&&inB til 0 262144)=false:=by rw [kM];rfl
         refine ab 42 (.bool false) hd0 ?_
         refine ax 43 hd0 ?_
         refine ax 44 hd0 ?_
         refine ax 45 hd0 ?_
         refine ab 46 (.bool false) hd0 ?_
         refine ab 47 (.agg #[.int .i64 32,.bool false]) hd0 ?_
         refine aq 48 (fun K hK=>?_)
         go_simp
         have hal:=Sk v0 (.cells (pairs [(1,inB id 1 1099511627776),(2,OT),(4,false),(8,inB frame 0 5184000),(16,false),(32,false)]).toArray 171)
         have hS2:Sj W.heap.size W (v0.alloc (.cells (pairs [(1,inB id 1 1099511627776),(2,OT),(4,false),(8,inB frame 0 5184000),(16,false),(32,false)]).toArray 171)):=hd0.alloc (by have:=hd0.size;omega) _
         have hbq:fs=[(1,inB id 1 1099511627776),(2,OT),(4,false),(8,inB frame 0 5184000),(16,false),(32,false)]:=HL.out.trans (by rw [fV,hrow,fJ])
         refine goOn hK hS2 ?_
         clear hK
         refine ab 49 (.int .i64 6) hS2 ?_
         refine Sl (by kernel_rfl) ?_ _
         go_wp2_with fail
         go_meet
         exact⟨v0.heap.size,rfl,rfl,rfl,hd0.size,by rw [hbq];exact hal,hS2⟩
       · have fJ:(inB frm 0 262144&&inB til 0 262144)=inB til 0 262144:=by rw [kM];rfl
         refine ab 42 (.bool true) hd0 ?_
         refine ab 43 (.pointer (some ⟨w.heap.size,8,none⟩)) hd0 ?_
         refine ab 44 (.int .i64 til) hd0 ?_ (hy:=.inl ⟨by rfl,fun w_ aH=>by have q8:=HV.out w_ aH 8 _ rfl;go_simp⟩)
         refine aq 45 (fun K hK=>?_)
         go_simp
         refine(aD til 0 262144 _).mono ?_
         rintro e_ w_ ⟨rfl,bm⟩
         rw [bm]
         clear bm w_
         go_wp2_with fail
         refine goOn hK hd0 ?_
         clear hK
         refine ab 46 (.bool (inB til 0 262144)) hd0 ?_
         refine ab 47 (.agg #[.int .i64 32,.bool (inB til 0 262144)]) hd0 ?_
         refine aq 48 (fun K hK=>?_)
         go_simp
         have hal:=Sk v0 (.cells (pairs [(1,inB id 1 1099511627776),(2,OT),(4,false),(8,inB frame 0 5184000),(16,false),(32,(inB til 0 262144))]).toArray 171)
         have hS2:Sj W.heap.size W (v0.alloc (.cells (pairs [(1,inB id 1 1099511627776),(2,OT),(4,false),(8,inB frame 0 5184000),(16,false),(32,(inB til 0 262144))]).toArray 171)):=hd0.alloc (by have:=hd0.size;omega) _
         have hbq:fs=[(1,inB id 1 1099511627776),(2,OT),(4,false),(8,inB frame 0 5184000),(16,false),(32,(inB til 0 262144))]:=HL.out.trans (by rw [fV,hrow,fJ])
         refine goOn hK hS2 ?_
         clear hK
         refine ab 49 (.int .i64 6) hS2 ?_
         refine Sl (by kernel_rfl) ?_ _
         go_wp2_with fail
         go_meet
         exact⟨v0.heap.size,rfl,rfl,rfl,hd0.size,by rw [hbq];exact hal,hS2⟩
  case rest =>
   obtain⟨gs,rfl,rfl,rfl,hgs,hc,hb⟩:=hcut
   have hs:=bE.out.size
   have hsb:=hb.size
   have EP:=aR hc
   have hl2:fs.length=6:=HLEN.out
   have hce:∀ (k:Nat) (p:Int × Bool),fs[k]? =some p→∀ w',Sj wc.heap.size wc w'→w'.cell? ⟨gs,k*2,none⟩=some (.int .i64 p.1)∧w'.cell? ⟨gs,k*2+1,none⟩=some (.bool p.2):=fun k p hp w' hbw=>by
    have h2:=(hbw.block gs EP).trans hc
    refine⟨?_,?_⟩
    · rw [Sm _ _ (k*2) _ 171 (0,0) h2]
      have:=cK (fun p:Int × Bool=>[Value.int .i64 p.1,.bool p.2]) 2 (fun _=>rfl) fs k p 0 _ hp rfl
      rw [Nat.add_zero] at this
      simpa [pairs] using this
    · rw [Sm _ _ (k*2+1) _ 171 (0,0) h2]
      have:=cK (fun p:Int × Bool=>[Value.int .i64 p.1,.bool p.2]) 2 (fun _=>rfl) fs k p 1 _ hp rfl
      simpa [pairs] using this
   have wZ:=h_ hce
   have HB0:=h_ (bE.out.trans (hb.mono (by omega)))
   have hsc:w.heap.size≤wc.heap.size:=by omega
   clear hc hb hce HL H0 bE HLEN
   go_wp2_with fail
   go_loopw [67] (fun kv wr=>∃ k:Nat,k≤fs.length∧kv=.int .i64 k∧(fs.drop k).all (okR u)=ANS∧Sj wc.heap.size wc wr) (fun kv _=>fs.length-(intOf kv).toNat)
   case atStart=>exact⟨0,by omega,rfl,HP.out,Sj.refl _ _⟩
   case round =>
    clear HP
    obtain⟨k,hk,rfl,hp,hbk⟩:=hrel
    have hsk:=hbk.size
    by_cases hlt:k<6
    · have hx:fs[k]? =some fs[k]:=List.getElem?_eq_getElem (by omega)
      generalize fs[k]=q at hx
      obtain⟨d0,d1⟩:=wZ.out k q hx wr hbk
      have hd:=ck fs k q hx
      rw [hd,List.all_cons] at hp
      have jm:=h_ hp
      have hok:okR u q=(!hasB u q.1||q.2):=rfl
      have EO:hasB u q.1=(bits BinOp.and IntKind.i64 u q.1 != 0):=rfl
      obtain⟨b,z⟩:=q
      simp only at d0 d1 hok EO
      have lJ:=h_ hok
      have rq:=EO
      have fW:Sj wc.heap.size wc (wr.alloc (.cells #[.int .i64 b,.bool z] 171)):=hbk.alloc hsk _
      have oQ:=h_ fW
      have fB:=h_ (HB0.out.trans (fW.mono hsc))
      clear hp hd hx hok EO fW hbk
      by_cases hv:bits BinOp.and IntKind.i64 u b=0
      · rw [hv] at rq
        have hp2:(fs.drop (k+1)).all (okR u)=ANS:=by rw [←jm.out,lJ.out,rq];simp
        clear jm lJ rq fB HQ
        go_wp2_with fail
        go_roundw
        case rel=>exact⟨k+1,by omega,by go_num,hp2,oQ.out⟩
        case measure=>simp [intOf];omega
      · have hv':(bits BinOp.and IntKind.i64 u b != 0)=true:=by simpa using hv
        cases z with
        | false =>
          have HF:=h_ (HQ.out false (by rw [←jm.out,lJ.out,rq,hv'];rfl) _ fB.out)
          clear jm lJ rq oQ fB HQ hv'
          go_wp2_with fail
          go_ret
          exact HF.out
        | true =>
          have hp2:(fs.drop (k+1)).all (okR u)=ANS:=by rw [←jm.out,lJ.out];simp
          clear jm lJ rq fB HQ hv'
          go_wp2_with fail
          go_roundw
          case rel=>exact⟨k+1,by omega,by go_num,hp2,oQ.out⟩
          case measure=>simp [intOf];omega
    · obtain rfl:k=6:=by omega
      rw [List.drop_of_length_le (by omega)] at hp
      have HF:=h_ (HQ.out true (hp.symm.trans rfl) wr (HB0.out.trans (hbk.mono hsc)))
      clear hp hbk HQ
      go_wp2_with fail
      go_ret
      exact HF.out
end Go.Proofs.YtjebaagkomejaaaGreatDoor
