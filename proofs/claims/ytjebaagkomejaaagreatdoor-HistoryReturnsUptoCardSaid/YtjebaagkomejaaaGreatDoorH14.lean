/- slices.Insert of one element at regions, events and comments. slices.Delete (all other blocks are kept) at regions, events and comments: one element of an own row is taken out. -/
import Derived.Test.YtjebaagkomejaaaGreatDoorH12
set_option linter.unusedVariables false
set_option linter.unusedSimpArgs false
set_option maxRecDepth 100000
set_option maxHeartbeats 12800000
open Go.Lib renaming hid→h_
open Go renaming step_append_room→Sh,info_parts→Si,World→Sj
open Go.Value.slice renaming injEq→Sk
open Option.some renaming injEq→Sl
open Go.Addr.mk renaming injEq→Sm
open List renaming getElem?_eq_some_iff→Sn,getElem?_eq_getElem→Sp,length_drop→Sq,getElem?_append_right→Sr,take_append_drop→Ss,flatMap_append→St,length_take→Su
open Nat renaming le_refl→Sv,min_eq_left→Sw,zero_add→Sx,mul_le_mul_right→Sy,min_def→Sz,add_mul→SA
open Go.Addr renaming add_lit→SB
open Go.Builtin renaming zeroCells→SC,clear_→SD,copy_→SF
open Go.World renaming frozen?_setCells→SG,cell?_setCells_out→SH,cell?_alloc_past→SI,cell?_alloc_at→SJ
open Go.Lib renaming below_setCells→SK,isSome_setCells→SL
open Go.RowKit.Below renaming refl→SM
open Go.Departure renaming mixedOrders→SN
open Go.IntKind renaming wrap_i64→SO,i64→SQ
open Go.Act renaming eval→SR,put→SS
open Go.World.ownsRow renaming drew→SU
namespace Go.Proofs.YtjebaagkomejaaaGreatDoor
open Go.RowKit Go.Lib
theorem n9 (base b i g cap vc:Nat)(xs:List Reg)(x:Reg)(w:Sj)(h:w.ownsRow base 37 7 (.slice (some ⟨b,0,none⟩) xs.length cap) xs.length (xs.flatMap Reg.enc))(hv:w.heap[g]? =some (.cells x.enc.toArray 37 (0,0)))(hi:i<xs.length)(hroom:cap<xs.length+1)(hl:xs.length≤8000000)(hbw:base≤w.heap.size) :
 Calls Tryz.prog 97 #[.slice (some ⟨b,0,none⟩) xs.length cap,.int .i64 i,.slice (some ⟨g,0,none⟩) 1 vc] w (dC 7 Reg.enc base (some b) (fk xs i x) w):=by
 obtain⟨hbb,hbl⟩:=h.lt b rfl
 have hnc:xs.length≤cap:=by
  rcases h.2 with⟨he,h0⟩|⟨g,cap,cur,he,_,hg,hc,hm,hz,_⟩
  · simp at he
  · simp only [Sk,Sl,Sm,and_true,true_and] at he
    obtain⟨rfl,rfl⟩:=he
    exact hc
 have hcell:∀ j u,(xs.flatMap Reg.enc)[j]? =some u→w.cell? ⟨b,j,none⟩=some u:=fun j u hu=>by
  have hj:=(Sn.1 hu).1
  rw [h.cellAt j (by rw [←h.1];exact hj)]
  exact hu
 have GA:∀ j u,x.enc[j]? =some u→w.cell? ⟨g,j,none⟩=some u:=fun j u hu=>by
  rw [cell_of_row w g j _ 37 (0,0) hv]
  simpa using hu
 have hvw:g<w.heap.size:=(Array.getElem?_eq_some_iff.1 hv).1
 obtain⟨i0,hi0,hz0,hzs,hzb⟩:=Si Tryz.info37
 have hz2:¬ ((i:Int)=(xs.length:Int)):=by omega
 have hz3:(cap:Int)<(xs.length:Int)+1:=by omega
 have hsz:(Tryz.prog.info? 37).map (·.size)=some 7:=by kernel_rfl
 have kP:=bE Reg.enc 7 (fun _=>rfl) (xs.take i)
 have qj:=bE Reg.enc 7 (fun _=>rfl) (xs.drop i)
 rw [Su,Sw (by omega)] at kP
 rw [Sq] at qj
 have hsplit:xs.flatMap Reg.enc=(xs.take i).flatMap Reg.enc++(xs.drop i).flatMap Reg.enc:=by rw [←St,Ss]
 have hc1:∀ j u,((xs.take i).flatMap Reg.enc)[j]? =some u→w.cell? ⟨b,j,none⟩=some u:=fun j u hu=>hcell j u (by
  rw [hsplit,List.getElem?_append_left (Sn.1 hu).1];exact hu)
 have hc2:∀ j u,((xs.drop i).flatMap Reg.enc)[j]? =some u→w.cell? ⟨b,i*7+j,none⟩=some u:=fun j u hu=>hcell (i*7+j) u (by
  rw [hsplit,Sr (by omega),kP,Nat.add_sub_cancel_left];exact hu)
 have hfl:=o0 Reg.enc xs i x
 have hil:=sk xs i x (by omega)
 have hxl:x.enc.length=7:=rfl
 have hkk:(xs.length:Int)+1-(i:Int)=((xs.length+1-i:Nat):Int):=by omega
 have hik:i+(xs.length+1-i)=xs.length+1:=by omega
 have hold:(Builtin.firstCells i0.size i (.slice (some ⟨b,0,none⟩) i cap)).run Tryz.prog w.drew=.ok ((xs.take i).flatMap Reg.enc).toArray w.drew:=by
  rw [hzs]
  exact run_firstCells_some w.drew 7 i ⟨b,0,none⟩ i cap _ kP (fun j v hj=>by
   rw [SB,Sx]
   exact hc1 j v hj)
 have hbig:(xs.length+1)*56≤140737488355328:=by omega
 have hrz:∀ ty,(Builtin.append_ #[23,3] ty #[.slice (some ⟨b,0,none⟩) i cap,.int .i64 ((xs.length:Int)+1-(i:Int))]).run Tryz.prog w =
  .ok (.slice (some ⟨w.heap.size,0,none⟩) (xs.length+1) (grownCap w (xs.length+1) cap 37)) (w.drew.alloc (.cells (((xs.take i).flatMap Reg.enc).toArray++SC (Value.agg #[.string ⟨#[]⟩,.int .i64 0,.int .i64 0,.int .i64 0,.int .i64 0,.int .u8 0,.bool false]).cells (xs.length+1-i)++SC (Value.agg #[.string ⟨#[]⟩,.int .i64 0,.int .i64 0,.int .i64 0,.int .i64 0,.int .u8 0,.bool false]).cells (grownCap w (xs.length+1) cap 37-(xs.length+1))) 37)):=fun ty=>by
  have h:=Lib.run_append_grow_zeros w 23 3 ty 37 i0 _ .i64 .i64 Tryz.underlying23 Tryz.underlying3 hi0 hz0 (some ⟨b,0,none⟩) i cap _ hold (xs.length+1-i) (by omega) (by omega) (by omega) (by omega) (by rw [hzb];omega) (by rw [hzb,hik];exact growslice_fits hroom hbig)
  rw [hik] at h
  rw [hkk]
  exact h
 obtain⟨G,hG⟩:∃ G,G=grownCap w (xs.length+1) cap 37:=⟨_,rfl⟩
 obtain⟨ROW,hROW⟩:∃ ROW:Array Value,ROW=((xs.take i).flatMap Reg.enc).toArray++SC (Value.agg #[.string ⟨#[]⟩,.int .i64 0,.int .i64 0,.int .i64 0,.int .i64 0,.int .u8 0,.bool false]).cells (xs.length+1-i)++SC (Value.agg #[.string ⟨#[]⟩,.int .i64 0,.int .i64 0,.int .i64 0,.int .i64 0,.int .u8 0,.bool false]).cells (G-(xs.length+1)):=⟨_,rfl⟩
 rw [←hG] at hrz
 rw [←hROW] at hrz
 have hRl:(xs.length+1)*7≤ROW.size:=by
  rw [hROW]
  simp [SC,Value.cells,kP]
  omega
 have Mz:∀ j u,((xs.take i).flatMap Reg.enc)[j]? =some u→ROW[j]? =some u:=fun j u hu=>by
  have hj:=(Sn.1 hu).1
  rw [hROW,Array.append_assoc,Array.getElem?_append_left (by simpa using hj)]
  simpa using hu
 obtain⟨W1,hW1⟩:∃ W1,W1=w.drew.alloc (.cells ROW 37):=⟨_,rfl⟩
 rw [←hW1] at hrz
 have hN:∀ j,j<(xs.length+1)*7→(W1.cell? ⟨w.heap.size,j,none⟩).isSome=true:=fun j hj=>by
  rw [hW1,SJ (w:=w.drew) ROW _ w.heap.size j rfl,Array.getElem?_eq_getElem (by omega)];rfl
 have hN1:∀ j u,((xs.take i).flatMap Reg.enc)[j]? =some u→W1.cell? ⟨w.heap.size,j,none⟩=some u:=fun j u hu=>by
  rw [hW1,SJ (w:=w.drew) ROW _ w.heap.size j rfl];exact Mz j u hu
 have hNf:∀ j,W1.frozen? ⟨w.heap.size,j,none⟩=false:=fun j=>by rw [hW1];exact Sj.frozen?_alloc_at (w:=w.drew) ROW _ w.heap.size j rfl
 have hOb:∀ j v,w.cell? ⟨b,j,none⟩=some v→W1.cell? ⟨b,j,none⟩=some v:=fun j v h=>by rw [hW1,SI (w:=w.drew) _ b j hbl];exact h
 have hOv:∀ j v,w.cell? ⟨g,j,none⟩=some v→W1.cell? ⟨g,j,none⟩=some v:=fun j v h=>by rw [hW1,SI (w:=w.drew) _ g j hvw];exact h
 have hcpA:∀ (W:Sj),(∀ x,W.cell? x=W1.cell? x)→(∀ x,W.frozen? x=W1.frozen? x)→∀ ty dc,(SF #[23,23] ty #[.slice (some ⟨w.heap.size,i*7,none⟩) (xs.length+1-i) dc,.slice (some ⟨g,0,none⟩) 1 vc]).run Tryz.prog W=.ok (goInt (1:Nat)) (W.setCells w.heap.size (i*7) x.enc):=fun W hWc hWf ty dc =>
  jj W _ _ ty 37 7 w.heap.size (i*7) (xs.length+1-i) dc ⟨g,0,none⟩ 1 vc 1 _ Tryz.underlying23 hsz (by simp only [Sz];split<;>omega) (by rw [hxl])
   (fun j v hj=>by rw [SB,hWc,Sx];exact hOv _ v (GA j v hj))
   (fun j hj=>by rw [hWc];exact hN _ (by omega)) (fun j hj=>by rw [hWf];exact hNf _) (Reg.one x)
 have hGn:xs.length+1≤G:=by rw [hG];exact grownCap_ge w _ _ _
 have hG63:G≤9223372036854775807:=by
  have:=grownCap_le_maxLen w (xs.length+1) cap 37 (by unfold maxLen;omega)
  rw [←hG] at this
  unfold maxLen at this
  omega
 have hGi:¬ (G=i):=by omega
 have hGim:¬ (G=i+1):=by omega
 have hci:¬ (cap=i):=by omega
 have hbN:b≠w.heap.size:=by omega
 have hcpB:∀ (W:Sj),(∀ y,W.cell? y=(W1.setCells w.heap.size (i*7) x.enc).cell? y)→(∀ y,W.frozen? y=(W1.setCells w.heap.size (i*7) x.enc).frozen? y)→∀ ty dc sc,(SF #[23,23] ty #[.slice (some ⟨w.heap.size,(i+1)*7,none⟩) (xs.length-i) dc,.slice (some ⟨b,i*7,none⟩) (xs.length-i) sc]).run Tryz.prog W=.ok (goInt (xs.length-i:Nat)) (W.setCells w.heap.size ((i+1)*7) ((xs.drop i).flatMap Reg.enc)):=fun W hWc hWf ty dc sc =>
  jj W _ _ ty 37 7 w.heap.size ((i+1)*7) (xs.length-i) dc ⟨b,i*7,none⟩ (xs.length-i) sc (xs.length-i) _ Tryz.underlying23 hsz (by simp only [Sz];split<;>omega) qj
   (fun j v hj=>by
    rw [SB,hWc,SH _ _ _ _ _ (fun h _=>absurd h hbN)]
    exact hOb _ v (hc2 j v hj))
   (fun j hj=>by rw [hWc];exact SL _ _ _ _ _ (hN _ (by omega)))
   (fun j hj=>by rw [hWf,SG];exact hNf _) (ek Reg.one _)
 have HQ:=h_ (fun(W:Sj) (hW:W.heap=W1.heap) (hbel:Below base w W) (K7:Below w.heap.size w W)=>(show dC 7 Reg.enc base (some b) (fk xs i x) w (.returned (.slice (some ⟨w.heap.size,0,none⟩) (xs.length+1) G)) ((W.setCells w.heap.size (i*7) x.enc).setCells w.heap.size ((i+1)*7) ((xs.drop i).flatMap Reg.enc)) from by
  have hWc:∀ y,W.cell? y=W1.cell? y:=fun y=>by simp [Sj.cell?,hW]
  have hb2:Below base w ((W.setCells w.heap.size (i*7) x.enc).setCells w.heap.size ((i+1)*7) ((xs.drop i).flatMap Reg.enc)):=SK _ hbw _ _ (SK _ hbw _ _ hbel)
  refine⟨⟨some ⟨w.heap.size,0,none⟩,G,by rw [hil],iT (enc:=Reg.enc) (fun _=>rfl) ?_ ?_,fun ad had=>?_,hb2⟩,uM (SK _ (Sv _) _ _ (SK _ (Sv _) _ _ K7))⟩
  · have h2:=(SK w.heap.size (Sv _) ((xs.drop i).flatMap Reg.enc) ((i+1)*7) (SK w.heap.size (Sv _) x.enc (i*7) (SM w.heap.size W))).size
    have h3:W.heap.size=w.heap.size+1:=by rw [hW,hW1];simp
    omega
  · rw [hfl]
    have:=xM (W:=W) (g:=w.heap.size) (L1:=(xs.take i).flatMap Reg.enc) (V:=x.enc) (L2:=(xs.drop i).flatMap Reg.enc) (fun j u hu=>by rw [Sx,hWc];exact hN1 j u hu) (fun j hj=>by rw [hWc];exact hN j (by rw [kP,qj,hxl] at hj;omega))
    rw [kP,hxl,show i*7+7=(i+1)*7 by omega] at this
    exact this
  · obtain rfl:=Option.some.inj had
    exact hbw))
 have hE1:∀ x,((w.alloc (.cells ROW 37)).drew).cell? x=(w.drew.alloc (.cells ROW 37)).cell? x:=fun x=>rfl
 have hE2:∀ x,((w.alloc (.cells ROW 37)).drew).frozen? x=(w.drew.alloc (.cells ROW 37)).frozen? x:=fun x=>rfl
 have hF1:=qC w (.cells ROW 37) w.heap.size (i*7) x.enc
 have hF2:=sD w (.cells ROW 37) w.heap.size (i*7) x.enc
 subst hW1
 generalize dC 7 Reg.enc base (some b) (fk xs i x) w=Q at *
 have mixed:Tryz.prog.follows SN=true:=by kernel_rfl
 have OK:=h_ hrz
 have tD:=h_ (hcpA _ hE1 hE2)
 have oG:=h_ (hcpB _ hF1 hF2)
 have hw1:SQ.wrap ((i:Int)+1)=(i:Int)+1:=by rw [SO];omega
 have hw2:SQ.wrap ((xs.length:Int)+1)=(xs.length:Int)+1:=by rw [SO];omega
 have hw3:SQ.wrap ((xs.length:Int)+1-(i:Int))=(xs.length:Int)+1-(i:Int):=by rw [SO];omega
 have hb1:(0:Int)≤(i:Int)+1:=by omega
 have hin:i≤xs.length:=by omega
 have htn:((i:Int)+1).toNat=i+1:=by omega
 have hb3:(i:Int)≤(xs.length:Int):=by omega
 have HB1:=h_ (show Below base w ((w.alloc (.cells ROW 37)).drew) from((SM _ _).alloc hbw _).drew)
 have HB2:=h_ (show Below w.heap.size w ((w.alloc (.cells ROW 37)).drew) from((SM _ _).alloc (Sv _) _).drew)
 clear hkk hik hold hROW hG hRl hrz hcpA hcpB Mz hN hN1 hNf hOb hOv hc1 hc2 hcell GA hsplit hfl hil kP qj h hv hE1 hE2 hF1 hF2 hi0 hz0 hzs hzb hsz hbig
 generalize (xs.drop i).flatMap Reg.enc=ds at *
 generalize x.enc=xe at *
 generalize xs.length=n at *
 go_enter Tryz.func97,Tryz.ntmps97
 go_wp2_with (first
  | (at_builtin;refine Lib.wpList_append_run _ rfl _ _ _ _ rfl _ _ rfl rfl _ _ (OK.out _) ?_)
  | (refine wpList_copy_runI _ rfl _ _ 23 23 rfl _ _ rfl rfl (tD.out _ _) ?_))
 go_region_law_o (refine step_copy_runI rfl _ _ 23 23 rfl (.slice (some ⟨w.heap.size,(i+1)*7,none⟩) (n-i) (G-(i+1))) (.slice (some ⟨b,i*7,none⟩) (n-i) (cap-i)) (by simp [SR,SS]) (by simp [SR,SS]) (oG.out 3 (G-(i+1)) (cap-i)) ?_)
 go_wp2_with fail
 rw [show((w.alloc (.cells ROW 37)).drew.setCells w.heap.size (i*7) xe).drew=(w.alloc (.cells ROW 37)).drew.drew.setCells w.heap.size (i*7) xe from drew_setCells _ _ _ _]
 exact HQ.out _ rfl HB1.out.drew HB2.out.drew
end Go.Proofs.YtjebaagkomejaaaGreatDoor
namespace Go.Proofs.YtjebaagkomejaaaGreatDoor
open Go.RowKit
theorem ix (g:Nat):∀ (vs:List Value)(o:Nat) {a w:Sj},Kept (fun b=>b=g) a w→Kept (fun b=>b=g) a (w.setCells g o vs)
 | [],_,_,_,h=>h
 | v::vs,o,a,w,h=>ix g vs (o+1) (h.setCell (.inr rfl) v)
theorem ja {α:Type} {T K:Nat} {enc:α→List Value} (hke:∀ x,(enc x).length=K) {w:Sj} {g cap k:Nat} {base:Nat} {xs:List α} (h:w.ownsRow base T K (.slice (some ⟨g,0,none⟩) xs.length cap) xs.length (xs.flatMap enc))(hk:k<xs.length)(zs:List Value)(hz:zs.length=K) :
 ah K enc Flat ((w.setCells g (k*K) ((xs.drop (k+1)).flatMap enc)).setCells g ((xs.length-1)*K) zs) (some ⟨g,0,none⟩) (bI xs k)∧Below base w ((w.setCells g (k*K) ((xs.drop (k+1)).flatMap enc)).setCells g ((xs.length-1)*K) zs)∧Kept (fun b=>b=g) w ((w.setCells g (k*K) ((xs.drop (k+1)).flatMap enc)).setCells g ((xs.length-1)*K) zs):=by
 have hg:=h.lt g rfl
 refine⟨.inr ⟨g,0,rfl,?_,fun i x hx=>⟨fun j v hv=>?_,trivial⟩⟩,SK g hg.1 _ _ (SK g hg.1 _ _ (SM _ _)),ix g _ _ (ix g _ _ (Kept.refl _ _))⟩
 · have h1:=(SK g (Sv g) zs ((xs.length-1)*K) (SK g (Sv g) ((xs.drop (k+1)).flatMap enc) (k*K) (SM g w))).size
   omega
 · have hj:j<K:=by rw [←hke x];exact(Sn.1 hv).1
   have hi:i<xs.length-1:=by rw [←jl xs k hk];exact(Sn.1 hx).1
   have hmul:∀ a b:Nat,a+1≤b→a*K+K≤b*K:=fun a b h=>by rw [←Nat.succ_mul];exact Sy K h
   have hm1:=hmul i (xs.length-1) (by omega)
   rw [SH g zs _ _ _ (fun _ _=>.inl (by simp only;omega))]
   rcases xU xs k i x hx hk with⟨hik,hxi⟩|⟨hik,hxi⟩
   · have hm2:=hmul i k (by omega)
     rw [SH g _ _ _ _ (fun _ _=>.inl (by simp only;omega))]
     have:=BU hke h hxi j v hv
     rw [show 0+i*K+j=i*K+j by omega]
     exact this
   · have hlen:=bE enc K hke (xs.drop (k+1))
     rw [Sq] at hlen
     have e:=cD enc K hke (xs.drop (k+1)) (i-k) x j v (by rw [List.getElem?_drop,←hxi];congr 1;omega) hv
     have hlt:=(Sn.1 e).1
     have htot:k*K+(xs.drop (k+1)).length*K≤xs.length*K:=by rw [←SA];exact Sy K (by rw [Sq];omega)
     rw [Sq] at htot
     have hin:=Sj.cell?_setCells_in g ((xs.drop (k+1)).flatMap enc) (k*K) w (fun t ht=>by
      rw [h.cellAt (k*K+t) (by omega),Sp (by rw [h.1];omega)];rfl) ((i-k)*K+j) hlt
     have N2:i*K=k*K+(i-k)*K:=by rw [←SA];congr 1;omega
     rw [show 0+i*K+j=k*K+((i-k)*K+j) by omega,hin,←e,Sp]
theorem sO (base g cap k:Nat)(xs:List Reg)(w:Sj)(h:w.ownsRow base 37 7 (.slice (some ⟨g,0,none⟩) xs.length cap) xs.length (xs.flatMap Reg.enc))(hk:k<xs.length)(hl:xs.length≤4000000) :
 Calls Tryz.prog 100 #[.slice (some ⟨g,0,none⟩) xs.length cap,.int .i64 k,.int .i64 ((k:Int)+1)] w fun e w'=>e=.returned (.slice (some ⟨g,0,none⟩) (xs.length-1) cap)∧ah 7 Reg.enc Flat w' (some ⟨g,0,none⟩) (bI xs k)∧Below base w w'∧Kept (fun b=>b=g) w w':=by
 have hcap:xs.length≤cap∧cap≤maxLen:=by
  rcases h.2 with⟨h',_⟩|⟨g',cap',cur,h',_,hg,h1,h2,h3,_⟩
  · simp at h'
  · simp only [Sk,Sl,Sm,and_true,true_and] at h'
    obtain⟨rfl,rfl⟩:=h'
    exact⟨h1,h2⟩
 have hm:cap≤9223372036854775807:=by have:=hcap.2;simp only [maxLen] at this;omega
 have hc1:=hcap.1
 obtain⟨j0,hj,hy0,hy1,hy2⟩:=Si Tryz.info37
 have hlen:=bE Reg.enc 7 (fun _=>rfl) (xs.drop (k+1))
 rw [Sq] at hlen
 have hcell:∀ t,t<xs.length*7→(w.cell? ⟨g,t,none⟩).isSome=true:=fun t ht=>by
  rw [h.cellAt t ht,Sp (by rw [h.1];omega)];rfl
 have hsrc:∀ t u,((xs.drop (k+1)).flatMap Reg.enc)[t]? =some u→w.cell? ⟨g,(k+1)*7+t,none⟩=some u:=fun t u hu=>by
  have ht:=(Sn.1 hu).1
  rw [h.cellAt ((k+1)*7+t) (by omega)]
  have e:xs.flatMap Reg.enc=(xs.take (k+1)).flatMap Reg.enc++(xs.drop (k+1)).flatMap Reg.enc:=by rw [←St,Ss]
  have l1:=bE Reg.enc 7 (fun _=>rfl) (xs.take (k+1))
  rw [Su,Sw (by omega)] at l1
  rw [e,Sr (by omega),←hu]
  congr 1
  omega
 obtain⟨A,hA,hsA⟩:∃ A:Addr,(if cap=k+1 then some (⟨g,0,none⟩:Addr) else some ⟨g,(k+1)*7,none⟩)=some A∧Hid (∀ t u,((xs.drop (k+1)).flatMap Reg.enc)[t]? =some u→w.drew.cell? (A.add t)=some u):=by
  by_cases hq:cap=k+1
  · refine⟨⟨g,0,none⟩,by simp [hq],fun t u hu=>?_⟩
    have:=(Sn.1 hu).1
    omega
  · refine⟨⟨g,(k+1)*7,none⟩,by simp [hq],fun t u hu=>?_⟩
    rw [SB]
    exact hsrc t u hu
 have s1:=h_ (show((xs.drop (k+1)).flatMap Reg.enc).length=(xs.length-(k+1))*7 from hlen)
 have s2:=h_ (ek Reg.one (xs.drop (k+1)))
 have s3:=h_ (show ∀ t,t<((xs.drop (k+1)).flatMap Reg.enc).length→(w.drew.cell? ⟨g,0+k*7+t,none⟩).isSome=true∧w.drew.frozen? ⟨g,0+k*7+t,none⟩=false from fun t ht=>⟨hcell _ (by omega),h.frozenAt _⟩)
 obtain⟨W1,hW1⟩:∃ W1,W1=w.drew.setCells g (0+k*7) ((xs.drop (k+1)).flatMap Reg.enc):=⟨_,rfl⟩
 have hcl:∀ ty,(SD #[23] ty #[.slice (some ⟨g,(xs.length-1)*7,none⟩) 1 (cap-(xs.length-1))]).run Tryz.prog W1=.ok (.tuple #[]) (W1.setCells g ((xs.length-1)*7) [.string ⟨#[]⟩,.int .i64 0,.int .i64 0,.int .i64 0,.int .i64 0,.int .u8 0,.bool false]):=fun ty=>rI W1 g _ _ ty (fun j hj=>by
  rw [hW1]
  refine SL g _ _ _ _ ?_
  exact hcell _ (by omega)) (fun j hj=>by rw [hW1,SG];exact h.frozenAt _)
 have hdone:=ja (enc:=Reg.enc) (fun _=>rfl) (w:=w.drew) (k:=k) (SU h) hk [.string ⟨#[]⟩,.int .i64 0,.int .i64 0,.int .i64 0,.int .i64 0,.int .u8 0,.bool false] rfl
 rw [show k*7=0+k*7 by omega,←hW1] at hdone
 have HD:=h_ hdone
 have HW:=h_ hW1
 have JI:=h_ hj;have J1:=h_ hy1
 have HB0:=h_ ((SM base w).drew)
 have IU:=h_ ((Kept.refl (fun b=>b=g) w).drew)
 clear hdone hW1 hj hy0 hy1 hy2 hlen hcell hsrc h hcap
 generalize (xs.drop (k+1)).flatMap Reg.enc=news at *
 generalize bI xs k=ds at *
 have mixed:Tryz.prog.follows SN=true:=by kernel_rfl
 obtain⟨m,hm1⟩:∃ m,xs.length=k+1+m:=⟨xs.length-(k+1),by omega⟩
 generalize xs.length=n at *
 have e1:n-(k+1)=m:=by omega
 have e2:n-1=k+m:=by omega
 have e3:n-(k+m)=1:=by omega
 rw [e1] at s1
 rw [e2] at hcl HD ⊢
 have hk0:(0:Int)≤(k:Int)+1:=by omega
 have hk1:(k:Int)+1≤(n:Int):=by omega
 have G6:k+m≤n:=by omega
 have G7:(k:Int)+(m:Int)≤(n:Int):=by omega
 have G9:(0:Int)≤(k:Int)+(m:Int):=by omega
 have hnc:n≤cap:=hc1
 have F0:=h_ hm1
 clear hm1
 have hic:k≤cap:=by omega
 have hjc:k+1≤cap:=by omega
 have KT:k+m≤cap:=by omega
 have G8:¬ cap=k+m:=by omega
 have hcm:cap≤maxLen:=by unfold maxLen;omega
 go_enter Tryz.func100,Tryz.ntmps100
 go_wp2_with fail
 go_region_law_o (refine Sh rfl (.tmp 22) (.tmp 25) 23 rfl 37 j0 7 Tryz.underlying23 JI.out J1.out g 0 k cap (by simp [SR,SS]) A m (cap-(k+1)) news (by simp [SR,SS]) s1.out hsA.out s2.out (by omega) s3.out ?_;rw [←HW.out])
 go_wp2_with fail
 go_ret
 exact⟨rfl,HD.out.1,HB0.out.trans HD.out.2.1,IU.out.trans HD.out.2.2 fun _ _ e=>e⟩
theorem uS (base g cap k:Nat)(xs:List Ev)(w:Sj)(h:w.ownsRow base 72 7 (.slice (some ⟨g,0,none⟩) xs.length cap) xs.length (xs.flatMap Ev.enc))(hk:k<xs.length)(hl:xs.length≤4000000) :
 Calls Tryz.prog 86 #[.slice (some ⟨g,0,none⟩) xs.length cap,.int .i64 k,.int .i64 ((k:Int)+1)] w fun e w'=>e=.returned (.slice (some ⟨g,0,none⟩) (xs.length-1) cap)∧ah 7 Ev.enc Flat w' (some ⟨g,0,none⟩) (bI xs k)∧Below base w w'∧Kept (fun b=>b=g) w w':=by
 have hcap:xs.length≤cap∧cap≤maxLen:=by
  rcases h.2 with⟨h',_⟩|⟨g',cap',cur,h',_,hg,h1,h2,h3,_⟩
  · simp at h'
  · simp only [Sk,Sl,Sm,and_true,true_and] at h'
    obtain⟨rfl,rfl⟩:=h'
    exact⟨h1,h2⟩
 have hm:cap≤9223372036854775807:=by have:=hcap.2;simp only [maxLen] at this;omega
 have hc1:=hcap.1
 obtain⟨j0,hj,hy0,hy1,hy2⟩:=Si Tryz.info72
 have hlen:=bE Ev.enc 7 (fun _=>rfl) (xs.drop (k+1))
 rw [Sq] at hlen
 have hcell:∀ t,t<xs.length*7→(w.cell? ⟨g,t,none⟩).isSome=true:=fun t ht=>by
  rw [h.cellAt t ht,Sp (by rw [h.1];omega)];rfl
 have hsrc:∀ t u,((xs.drop (k+1)).flatMap Ev.enc)[t]? =some u→w.cell? ⟨g,(k+1)*7+t,none⟩=some u:=fun t u hu=>by
  have ht:=(Sn.1 hu).1
  rw [h.cellAt ((k+1)*7+t) (by omega)]
  have e:xs.flatMap Ev.enc=(xs.take (k+1)).flatMap Ev.enc++(xs.drop (k+1)).flatMap Ev.enc:=by rw [←St,Ss]
  have l1:=bE Ev.enc 7 (fun _=>rfl) (xs.take (k+1))
  rw [Su,Sw (by omega)] at l1
  rw [e,Sr (by omega),←hu]
  congr 1
  omega
 obtain⟨A,hA,hsA⟩:∃ A:Addr,(if cap=k+1 then some (⟨g,0,none⟩:Addr) else some ⟨g,(k+1)*7,none⟩)=some A∧Hid (∀ t u,((xs.drop (k+1)).flatMap Ev.enc)[t]? =some u→w.drew.cell? (A.add t)=some u):=by
  by_cases hq:cap=k+1
  · refine⟨⟨g,0,none⟩,by simp [hq],fun t u hu=>?_⟩
    have:=(Sn.1 hu).1
    omega
  · refine⟨⟨g,(k+1)*7,none⟩,by simp [hq],fun t u hu=>?_⟩
    rw [SB]
    exact hsrc t u hu
 have s1:=h_ (show((xs.drop (k+1)).flatMap Ev.enc).length=(xs.length-(k+1))*7 from hlen)
 have s2:=h_ (ek Ev.one (xs.drop (k+1)))
 have s3:=h_ (show ∀ t,t<((xs.drop (k+1)).flatMap Ev.enc).length→(w.drew.cell? ⟨g,0+k*7+t,none⟩).isSome=true∧w.drew.frozen? ⟨g,0+k*7+t,none⟩=false from fun t ht=>⟨hcell _ (by omega),h.frozenAt _⟩)
 obtain⟨W1,hW1⟩:∃ W1,W1=w.drew.setCells g (0+k*7) ((xs.drop (k+1)).flatMap Ev.enc):=⟨_,rfl⟩
 have hcl:∀ ty,(SD #[24] ty #[.slice (some ⟨g,(xs.length-1)*7,none⟩) 1 (cap-(xs.length-1))]).run Tryz.prog W1=.ok (.tuple #[]) (W1.setCells g ((xs.length-1)*7) [.int .i64 0,.int .i64 0,.int .i64 0,.string ⟨#[]⟩,.int .u8 0,.string ⟨#[]⟩,.slice none 0 0]):=fun ty=>tW W1 g _ _ ty (fun j hj=>by
  rw [hW1]
  refine SL g _ _ _ _ ?_
  exact hcell _ (by omega)) (fun j hj=>by rw [hW1,SG];exact h.frozenAt _)
 have hdone:=ja (enc:=Ev.enc) (fun _=>rfl) (w:=w.drew) (k:=k) (SU h) hk [.int .i64 0,.int .i64 0,.int .i64 0,.string ⟨#[]⟩,.int .u8 0,.string ⟨#[]⟩,.slice none 0 0] rfl
 rw [show k*7=0+k*7 by omega,←hW1] at hdone
 have HD:=h_ hdone
 have HW:=h_ hW1
 have JI:=h_ hj;have J1:=h_ hy1
 have HB0:=h_ ((SM base w).drew)
 have IU:=h_ ((Kept.refl (fun b=>b=g) w).drew)
 clear hdone hW1 hj hy0 hy1 hy2 hlen hcell hsrc h hcap
 generalize (xs.drop (k+1)).flatMap Ev.enc=news at *
 generalize bI xs k=ds at *
 have mixed:Tryz.prog.follows SN=true:=by kernel_rfl
 obtain⟨m,hm1⟩:∃ m,xs.length=k+1+m:=⟨xs.length-(k+1),by omega⟩
 generalize xs.length=n at *
 have e1:n-(k+1)=m:=by omega
 have e2:n-1=k+m:=by omega
 have e3:n-(k+m)=1:=by omega
 rw [e1] at s1
 rw [e2] at hcl HD ⊢
 have hk0:(0:Int)≤(k:Int)+1:=by omega
 have hk1:(k:Int)+1≤(n:Int):=by omega
 have G6:k+m≤n:=by omega
 have G7:(k:Int)+(m:Int)≤(n:Int):=by omega
 have G9:(0:Int)≤(k:Int)+(m:Int):=by omega
 have hnc:n≤cap:=hc1
 have F0:=h_ hm1
 clear hm1
 have hic:k≤cap:=by omega
 have hjc:k+1≤cap:=by omega
 have KT:k+m≤cap:=by omega
 have G8:¬ cap=k+m:=by omega
 have hcm:cap≤maxLen:=by unfold maxLen;omega
 go_enter Tryz.func86,Tryz.ntmps86
 go_wp2_with fail
 go_region_law_o (refine Sh rfl (.tmp 22) (.tmp 25) 24 rfl 72 j0 7 Tryz.underlying24 JI.out J1.out g 0 k cap (by simp [SR,SS]) A m (cap-(k+1)) news (by simp [SR,SS]) s1.out hsA.out s2.out (by omega) s3.out ?_;rw [←HW.out])
 go_wp2_with fail
 go_ret
 exact⟨rfl,HD.out.1,HB0.out.trans HD.out.2.1,IU.out.trans HD.out.2.2 fun _ _ e=>e⟩
theorem uT (base g cap k:Nat)(xs:List Cm)(w:Sj)(h:w.ownsRow base 102 8 (.slice (some ⟨g,0,none⟩) xs.length cap) xs.length (xs.flatMap Cm.enc))(hk:k<xs.length)(hl:xs.length≤4000000) :
 Calls Tryz.prog 95 #[.slice (some ⟨g,0,none⟩) xs.length cap,.int .i64 k,.int .i64 ((k:Int)+1)] w fun e w'=>e=.returned (.slice (some ⟨g,0,none⟩) (xs.length-1) cap)∧ah 8 Cm.enc Flat w' (some ⟨g,0,none⟩) (bI xs k)∧Below base w w'∧Kept (fun b=>b=g) w w':=by
 have hcap:xs.length≤cap∧cap≤maxLen:=by
  rcases h.2 with⟨h',_⟩|⟨g',cap',cur,h',_,hg,h1,h2,h3,_⟩
  · simp at h'
  · simp only [Sk,Sl,Sm,and_true,true_and] at h'
    obtain⟨rfl,rfl⟩:=h'
    exact⟨h1,h2⟩
 have hm:cap≤9223372036854775807:=by have:=hcap.2;simp only [maxLen] at this;omega
 have hc1:=hcap.1
 obtain⟨j0,hj,hy0,hy1,hy2⟩:=Si Tryz.info102
 have hlen:=bE Cm.enc 8 (fun _=>rfl) (xs.drop (k+1))
 rw [Sq] at hlen
 have hcell:∀ t,t<xs.length*8→(w.cell? ⟨g,t,none⟩).isSome=true:=fun t ht=>by
  rw [h.cellAt t ht,Sp (by rw [h.1];omega)];rfl
 have hsrc:∀ t u,((xs.drop (k+1)).flatMap Cm.enc)[t]? =some u→w.cell? ⟨g,(k+1)*8+t,none⟩=some u:=fun t u hu=>by
  have ht:=(Sn.1 hu).1
  rw [h.cellAt ((k+1)*8+t) (by omega)]
  have e:xs.flatMap Cm.enc=(xs.take (k+1)).flatMap Cm.enc++(xs.drop (k+1)).flatMap Cm.enc:=by rw [←St,Ss]
  have l1:=bE Cm.enc 8 (fun _=>rfl) (xs.take (k+1))
  rw [Su,Sw (by omega)] at l1
  rw [e,Sr (by omega),←hu]
  congr 1
  omega
 obtain⟨A,hA,hsA⟩:∃ A:Addr,(if cap=k+1 then some (⟨g,0,none⟩:Addr) else some ⟨g,(k+1)*8,none⟩)=some A∧Hid (∀ t u,((xs.drop (k+1)).flatMap Cm.enc)[t]? =some u→w.drew.cell? (A.add t)=some u):=by
  by_cases hq:cap=k+1
  · refine⟨⟨g,0,none⟩,by simp [hq],fun t u hu=>?_⟩
    have:=(Sn.1 hu).1
    omega
  · refine⟨⟨g,(k+1)*8,none⟩,by simp [hq],fun t u hu=>?_⟩
    rw [SB]
    exact hsrc t u hu
 have s1:=h_ (show((xs.drop (k+1)).flatMap Cm.enc).length=(xs.length-(k+1))*8 from hlen)
 have s2:=h_ (ek Cm.one (xs.drop (k+1)))
 have s3:=h_ (show ∀ t,t<((xs.drop (k+1)).flatMap Cm.enc).length→(w.drew.cell? ⟨g,0+k*8+t,none⟩).isSome=true∧w.drew.frozen? ⟨g,0+k*8+t,none⟩=false from fun t ht=>⟨hcell _ (by omega),h.frozenAt _⟩)
 obtain⟨W1,hW1⟩:∃ W1,W1=w.drew.setCells g (0+k*8) ((xs.drop (k+1)).flatMap Cm.enc):=⟨_,rfl⟩
 have hcl:∀ ty,(SD #[25] ty #[.slice (some ⟨g,(xs.length-1)*8,none⟩) 1 (cap-(xs.length-1))]).run Tryz.prog W1=.ok (.tuple #[]) (W1.setCells g ((xs.length-1)*8) [.int .i64 0,.int .i64 0,.int .i64 0,.int .i64 0,.string ⟨#[]⟩,.string ⟨#[]⟩,.bool false,.bool false]):=fun ty=>tX W1 g _ _ ty (fun j hj=>by
  rw [hW1]
  refine SL g _ _ _ _ ?_
  exact hcell _ (by omega)) (fun j hj=>by rw [hW1,SG];exact h.frozenAt _)
 have hdone:=ja (enc:=Cm.enc) (fun _=>rfl) (w:=w.drew) (k:=k) (SU h) hk [.int .i64 0,.int .i64 0,.int .i64 0,.int .i64 0,.string ⟨#[]⟩,.string ⟨#[]⟩,.bool false,.bool false] rfl
 rw [show k*8=0+k*8 by omega,←hW1] at hdone
 have HD:=h_ hdone
 have HW:=h_ hW1
 have JI:=h_ hj;have J1:=h_ hy1
 have HB0:=h_ ((SM base w).drew)
 have IU:=h_ ((Kept.refl (fun b=>b=g) w).drew)
 clear hdone hW1 hj hy0 hy1 hy2 hlen hcell hsrc h hcap
 generalize (xs.drop (k+1)).flatMap Cm.enc=news at *
 generalize bI xs k=ds at *
 have mixed:Tryz.prog.follows SN=true:=by kernel_rfl
 obtain⟨m,hm1⟩:∃ m,xs.length=k+1+m:=⟨xs.length-(k+1),by omega⟩
 generalize xs.length=n at *
 have e1:n-(k+1)=m:=by omega
 have e2:n-1=k+m:=by omega
 have e3:n-(k+m)=1:=by omega
 rw [e1] at s1
 rw [e2] at hcl HD ⊢
 have hk0:(0:Int)≤(k:Int)+1:=by omega
 have hk1:(k:Int)+1≤(n:Int):=by omega
 have G6:k+m≤n:=by omega
 have G7:(k:Int)+(m:Int)≤(n:Int):=by omega
 have G9:(0:Int)≤(k:Int)+(m:Int):=by omega
 have hnc:n≤cap:=hc1
 have F0:=h_ hm1
 clear hm1
 have hic:k≤cap:=by omega
 have hjc:k+1≤cap:=by omega
 have KT:k+m≤cap:=by omega
 have G8:¬ cap=k+m:=by omega
 have hcm:cap≤maxLen:=by unfold maxLen;omega
 go_enter Tryz.func95,Tryz.ntmps95
 go_wp2_with fail
 go_region_law_o (refine Sh rfl (.tmp 22) (.tmp 25) 25 rfl 102 j0 8 Tryz.underlying25 JI.out J1.out g 0 k cap (by simp [SR,SS]) A m (cap-(k+1)) news (by simp [SR,SS]) s1.out hsA.out s2.out (by omega) s3.out ?_;rw [←HW.out])
 go_wp2_with fail
 go_ret
 exact⟨rfl,HD.out.1,HB0.out.trans HD.out.2.1,IU.out.trans HD.out.2.2 fun _ _ e=>e⟩
end Go.Proofs.YtjebaagkomejaaaGreatDoor
