/- slices.Insert of one element at regions, events and comments. (printed by gen_insert.py) The contract of diff.changed at regions, events, comments. (printed by gen_changed.py) -/
import Derived.Test.YtnlnmbcaongehaaGreatDoorA04
import Derived.Test.YtnlnmbcaongehaaGreatDoorB12
set_option linter.unusedVariables false
set_option linter.unusedSimpArgs false
set_option maxRecDepth 100000
set_option maxHeartbeats 12800000
open Go.Lib renaming hid→h_
open Go renaming World→e_,heap_alloc_last→fb,cell_of_row→fe,info_parts→ff,Calls→fg
open Go.Proofs.Tryz renaming prog→fh,underlying25→fi,ntmps190→fj,func190→fk
open Go.Value renaming agg→fm,slice→fo
open Go.RowKit.Below renaming refl→fp
open List renaming getElem?_eq_some_iff→fq,length_cons→fr,length_nil→ft,flatMap_append→fu,getElem?_append_right→fw,getElem?_append_left→fx,take_append_drop→fy,length_take→fz,length_drop→fA
open Go.Value.slice renaming injEq→fB
open Option.some renaming inj→fC,injEq→fD
open Nat renaming zero_add→fE,le_refl→fF,min_def→fG,add_sub_cancel_left→fH,mul_le_mul_right→fI,min_eq_left→fJ,le_trans→fK
open Go.World renaming cell?_setCells_out→fL,frozen?_setCells→fM,cell?_alloc_past→fN,cell?_alloc_at→fO,shape?→fP
open Go.Builtin renaming zeroCells→fQ,copy_→fR
open Go.Addr renaming add_lit→fS
open Go.Lib renaming below_setCells→fT,isSome_setCells→fU
open Go.RowKit renaming Below→fV
open Go.IntKind renaming wrap_i64→fW,i64→fX
open Go.Act renaming eval→fY,put→fZ
namespace Go.Proofs.YtnlnmbcaongehaaGreatDoor
open Go.RowKit Go.Lib
theorem zhk (base:Nat)(x:Cm)(g c:Nat)(w:e_)(hv:ab 8 Cm.enc Flat w (some ⟨g,0,none⟩) [x])(hb:base≤w.heap.size) :
 fg fh 190 #[.slice none 0 0,.int .i64 0,.slice (some ⟨g,0,none⟩) 1 c] w (aK 8 Cm.enc base [x] w):=by
 have HQ:=h_ (fun(v':Value) (w':e_) (ho:w'.ownsRow base 52 8 v' (0+[x].length) ([]++[x].flatMap Cm.enc)) (hg:w.grownBy w' (fo none 0 0).ownBlock)=>(show aK 8 Cm.enc base [x] w (.returned v') w' from by
  obtain⟨a,c,rfl,hS⟩:=ax (k:=8) (enc:=Cm.enc) (Ok:=Flat) (xs:=[x]) (fun _=>rfl) ho (fun _ _=>trivial)
  exact⟨a,c,rfl,hS,fun ad had=>(ho.lt ad.block (by rw [had];rfl)).1,(fp base w).grown hg hb (fun j hj=>by simp [Value.ownBlock] at hj)⟩))
 obtain⟨j0,hj,hy0,hy1,hy2⟩:=ff Tryz.info52
 have JI:=h_ hj;have J0:=h_ hy0;have J1:=h_ hy1;have J2:=h_ hy2
 have HV:=h_ hv
 clear hj hy0 hy1 hy2 hv
 generalize aK 8 Cm.enc base [x] w=Q at *
 go_enter fk,fj
 go_wp2_with (at_builtin;refine ai (enc:=Cm.enc) (Ok:=Flat) _ rfl (.tmp 23) (.tmp 24) 25 rfl base 52 j0 _ 8 72 fi JI.out J0.out J1.out J2.out rfl (by decide) (fun _=>rfl) Cm.one _ 0 [] rfl (e_.ownsRow_nil _ _ _ _) (some ⟨g,0,none⟩) c [x] rfl HV.out ?h63 ?hb ?hbase ?_)
 case h63=>simp only [fr,ft];unfold maxLen;omega
 case hb=>simp only [fr,ft];omega
 case hbase=>exact hb
 intro v' w' ho hg _
 have HF:=h_ (HQ.out v' w' ho hg)
 obtain⟨a',c',rfl⟩:∃ a' c',v'=.slice a' 1 c':=by
  rcases ho.2 with⟨rfl,h0⟩|⟨g,cap,_,rfl,_⟩
  · simp at h0
  · exact⟨_,_,rfl⟩
 clear ho hg
 go_wp2_with fail
 exact HF.out
theorem zhl (base b cap:Nat)(xs:List Cm)(x:Cm)(g c:Nat)(w:e_)(h:w.ownsRow base 52 8 (.slice (some ⟨b,0,none⟩) xs.length cap) xs.length (xs.flatMap Cm.enc))(hv:ab 8 Cm.enc Flat w (some ⟨g,0,none⟩) [x])(hl:xs.length≤8000000)(hb:base≤w.heap.size) :
 fg fh 190 #[.slice (some ⟨b,0,none⟩) xs.length cap,.int .i64 xs.length,.slice (some ⟨g,0,none⟩) 1 c] w (aK 8 Cm.enc base (xs++[x]) w):=by
 have HQ:=h_ (fun(cp:Nat) (v':Value) (w':e_) (ho:w'.ownsRow base 52 8 v' (xs.length+1) (xs.flatMap Cm.enc++[x].flatMap Cm.enc)) (hg:w.grownBy w' (fo (some ⟨b,0,none⟩) xs.length cp).ownBlock)=>(show aK 8 Cm.enc base (xs++[x]) w (.returned v') w' from by
  rw [←fu] at ho
  rw [show xs.length+1=(xs++[x]).length by simp] at ho
  obtain⟨a,c,rfl,hS⟩:=ax (k:=8) (enc:=Cm.enc) (Ok:=Flat) (fun _=>rfl) ho (fun _ _=>trivial)
  exact⟨a,c,rfl,hS,fun ad had=>(ho.lt ad.block (by rw [had];rfl)).1,(fp base w).grown hg hb (fun j hj=>(h.lt j hj).1)⟩))
 obtain⟨j0,hj,hy0,hy1,hy2⟩:=ff Tryz.info52
 have JI:=h_ hj;have J0:=h_ hy0;have J1:=h_ hy1;have J2:=h_ hy2
 have HO:=h_ h
 have HV:=h_ hv
 have hca:xs.length≤cap:=by
  rcases h.2 with⟨he,h0⟩|⟨g,cap,_,he,_,_,hc,_⟩
  · simp at he
  · simp only [fB] at he
    obtain⟨_,_,rfl⟩:=he
    exact hc
 have hcm:(cap:Int)≤9223372036854775807:=by
  rcases h.2 with⟨he,h0⟩|⟨g,cap,_,he,_,_,hc,hm,_⟩
  · simp at he
  · simp only [fB] at he
    obtain⟨_,_,rfl⟩:=he
    simp only [maxLen] at hm
    omega
 clear hj hy0 hy1 hy2 h hv
 generalize aK 8 Cm.enc base (xs++[x]) w=Q at *
 generalize xs.flatMap Cm.enc=cs at *
 generalize xs.length=n at *
 rcases(show cap=n∨¬ cap=n from Classical.em _) with hq|hq
 case' inl=>subst hq
 all_goals
  go_enter fk,fj
  go_wp2_with (at_builtin;refine ai (enc:=Cm.enc) (Ok:=Flat) _ rfl (.tmp 23) (.tmp 24) 25 rfl base 52 j0 _ 8 72 fi JI.out J0.out J1.out J2.out rfl (by decide) (fun _=>rfl) Cm.one _ _ cs rfl HO.out (some ⟨g,0,none⟩) c [x] rfl HV.out ?h63 ?hb ?hbase ?_)
  case h63=>simp only [fr,ft];unfold maxLen;omega
  case hb=>simp only [fr,ft];omega
  case hbase=>exact hb
  intro v' w' ho hg _
  have HF:=h_ (HQ.out _ v' w' ho hg)
  obtain⟨g',c',rfl⟩:=zci ho (by simp)
  clear ho hg
  go_wp2_with fail
  exact HF.out
theorem zeP (base b i g cap vc:Nat)(xs:List Cm)(x:Cm)(w:e_)(h:w.ownsRow base 52 8 (.slice (some ⟨b,0,none⟩) xs.length cap) xs.length (xs.flatMap Cm.enc))(hv:w.heap[g]? =some (.cells x.enc.toArray 52 (0,0)))(hi:i<xs.length)(hroom:xs.length+1≤cap)(hgb:g≠b)(hl:xs.length≤8000000)(hbw:base≤w.heap.size) :
 fg fh 190 #[.slice (some ⟨b,0,none⟩) xs.length cap,.int .i64 i,.slice (some ⟨g,0,none⟩) 1 vc] w (aK 8 Cm.enc base (bo xs i x) w):=by
 obtain⟨hbb,hbl⟩:=h.lt b rfl
 have hc63:cap≤9223372036854775807:=by
  rcases h.2 with⟨he,h0⟩|⟨g,cap,_,he,_,_,hc,hm,_⟩
  · simp at he
  · simp only [fB] at he
    obtain⟨_,_,rfl⟩:=he
    simp only [maxLen] at hm
    omega
 obtain⟨cur,hcur,hcs⟩:∃ cur,w.heap[b]? =some (.cells cur 52 (0,0))∧(xs.length+1)*8≤cur.size:=by
  rcases h.2 with⟨he,h0⟩|⟨g,cap,cur,he,_,hg,hc,hm,hz,_⟩
  · simp at he
  · simp only [fB,fD,Addr.mk.injEq,and_true,true_and] at he
    obtain⟨rfl,rfl⟩:=he
    exact⟨cur,hg,by first|(rw [hz];exact fI 8 hroom)|(rw [←hz];exact fI 8 hroom)|omega⟩
 have hfr:∀ j,w.frozen? ⟨b,j,none⟩=false:=h.frozenAt
 have hcell:∀ j u,(xs.flatMap Cm.enc)[j]? =some u→w.cell? ⟨b,j,none⟩=some u:=fun j u hu=>by
  have hj:=(fq.1 hu).1
  rw [h.cellAt j (by rw [←h.1];exact hj)]
  exact hu
 have hspc:∀ j,j<(xs.length+1)*8→(w.cell? ⟨b,j,none⟩).isSome=true:=fun j hj=>by
  rw [fe w b j cur 52 (0,0) hcur,Array.getElem?_eq_getElem (by omega)];rfl
 have hvc:∀ j u,x.enc[j]? =some u→w.cell? ⟨g,j,none⟩=some u:=fun j u hu=>by
  rw [fe w g j _ 52 (0,0) hv]
  simpa using hu
 have hsa:w.shape? g=some (52,8):=by
  have:x.enc.toArray.size=8:=rfl
  simp [fP,hv,this]
 have hsb:w.shape? b=some (52,cur.size):=by simp [fP,hcur]
 have hgf:∀ j,w.frozen? ⟨g,j,none⟩=false:=fun j=>by simp [e_.frozen?,hv]
 have hz2:¬ ((i:Int)=(xs.length:Int)):=by omega
 have hsz:(fh.info? 52).map (·.size)=some 8:=by kernel_rfl
 have hlen:=aC Cm.enc 8 (fun _=>rfl) xs
 have hln1:=aC Cm.enc 8 (fun _=>rfl) (xs.take i)
 have hln2:=aC Cm.enc 8 (fun _=>rfl) (xs.drop i)
 rw [fz,fJ (by omega)] at hln1
 rw [fA] at hln2
 have hsplit:xs.flatMap Cm.enc=(xs.take i).flatMap Cm.enc++(xs.drop i).flatMap Cm.enc:=by rw [←fu,fy]
 have hc1:∀ j u,((xs.take i).flatMap Cm.enc)[j]? =some u→w.cell? ⟨b,j,none⟩=some u:=fun j u hu=>hcell j u (by
  rw [hsplit,fx (fq.1 hu).1];exact hu)
 have hc2:∀ j u,((xs.drop i).flatMap Cm.enc)[j]? =some u→w.cell? ⟨b,i*8+j,none⟩=some u:=fun j u hu=>hcell (i*8+j) u (by
  rw [hsplit,fw (by omega),hln1,fH];exact hu)
 have ho2:∀ v∈(xs.drop i).flatMap Cm.enc,v.oneCell'=true:=bP Cm.one _
 have hfl:=dr Cm.enc xs i x
 have hil:=cT xs i x (by omega)
 have hxl:x.enc.length=8:=rfl
 have hov:∀ lb cb,(callFunc 250 #[.slice (some ⟨g,0,none⟩) 1 vc,.slice (some ⟨b,(i+1)*8,none⟩) lb cb]).run fh w=.ok (.value (.bool false)) w:=fun lb cb=>by
  rw [run_callFunc_extern Tryz.func250 (by kernel_rfl) (by kernel_rfl) (by kernel_rfl) (e:=Extern.SlicesOverlaps.overlaps #[25,25] #[4]) (by kernel_rfl),
   Lib.run_overlaps_apart w 25 4 52 fi 8 (fun w=>by kernel_rfl) ⟨g,0,none⟩ ⟨b,(i+1)*8,none⟩ 1 vc lb cb hgb 52 52 8 cur.size hsa hsb (by omega) (hgf 0) (hgf 8)]
  rfl
 have hcp1:∀ ty dc sc,(fR #[25,25] ty #[.slice (some ⟨b,(i+1)*8,none⟩) (xs.length-i) dc,.slice (some ⟨b,i*8,none⟩) (xs.length+1-i) sc]).run fh w.drew=.ok (goInt (xs.length-i:Nat)) (w.drew.setCells b ((i+1)*8) ((xs.drop i).flatMap Cm.enc)):=fun ty dc sc =>
  bz w.drew _ _ ty 52 8 b ((i+1)*8) (xs.length-i) dc ⟨b,i*8,none⟩ (xs.length+1-i) sc (xs.length-i) _ fi hsz (by simp only [fG];split<;>omega) hln2
   (fun j v hj=>by rw [fS];exact hc2 j v hj) (fun j hj=>hspc _ (by omega)) (fun j hj=>hfr _) ho2
 obtain⟨W1,hW1⟩:∃ W1,W1=w.drew.setCells b ((i+1)*8) ((xs.drop i).flatMap Cm.enc):=⟨_,rfl⟩
 have hsp1:∀ k,k<(xs.length+1)*8→(W1.cell? ⟨b,k,none⟩).isSome=true:=fun k hk=>by
  rw [hW1]
  exact fU _ _ _ _ _ (hspc k hk)
 have hcp2:∀ (W:e_),(∀ x,W.cell? x=W1.cell? x)→(∀ x,W.frozen? x=W1.frozen? x)→∀ ty dc,(fR #[25,25] ty #[.slice (some ⟨b,i*8,none⟩) (xs.length+1-i) dc,.slice (some ⟨g,0,none⟩) 1 vc]).run fh W=.ok (goInt (1:Nat)) (W.setCells b (i*8) x.enc):=fun W hWc hWf ty dc =>
  bz W _ _ ty 52 8 b (i*8) (xs.length+1-i) dc ⟨g,0,none⟩ 1 vc 1 _ fi hsz (by simp only [fG];split<;>omega) (by rw [hxl])
   (fun j v hj=>by
    rw [fS,hWc,hW1,fL b _ _ _ _ (fun h _=>absurd h hgb)]
    rw [fE]
    exact hvc j v hj)
   (fun j hj=>by rw [hWc];exact hsp1 _ (by omega)) (fun j hj=>by rw [hWf,hW1,fM];exact hfr _) (Cm.one x)
 rw [←hW1] at hcp1
 have HQ:=h_ (show aK 8 Cm.enc base (bo xs i x) w (.returned (.slice (some ⟨b,0,none⟩) (xs.length+1) cap)) (W1.setCells b (i*8) x.enc) from by
  have hbel:fV base w (W1.setCells b (i*8) x.enc):=by
   rw [hW1]
   exact fT b hbb _ _ (fT b hbb _ _ (fp base w).drew)
  refine⟨some ⟨b,0,none⟩,cap,by rw [hil],b9 (enc:=Cm.enc) (fun _=>rfl) ?_ ?_,fun ad had=>?_,hbel⟩
  · have:=hbel.size
    have h2:=(fT b (fF b) x.enc (i*8) (fT b (fF b) ((xs.drop i).flatMap Cm.enc) ((i+1)*8) (fp b w).drew)).size
    rw [←hW1] at h2
    omega
  · rw [hfl,hW1]
    have:=zbi (W:=w.drew) (g:=b) (L1:=(xs.take i).flatMap Cm.enc) (V:=x.enc) (L2:=(xs.drop i).flatMap Cm.enc) (fun j u hu=>by rw [fE];exact hc1 j u hu) (fun j hj=>hspc j (by rw [hln1,hln2,hxl] at hj;omega))
    rw [hln1,hxl,show i*8+8=(i+1)*8 by omega] at this
    exact this
  · obtain rfl:=fC had
    exact hbb)
 generalize aK 8 Cm.enc base (bo xs i x) w=Q at *
 have hHOV:=h_ hov
 have mixed:fh.follows Departure.mixedOrders=true:=by kernel_rfl
 clear hfl hil hsplit hlen hln1 hln2 hc1 hc2 hcell hspc hvc hsa hsb hgf hfr hcs hcur h hv hsp1 hW1 hov
 generalize (xs.drop i).flatMap Cm.enc=ds at *
 generalize x.enc=xe at *
 generalize xs.length=n at *
 have hw1:fX.wrap ((i:Int)+1)=(i:Int)+1:=by rw [fW];omega
 have hw2:fX.wrap ((n:Int)+1)=(n:Int)+1:=by rw [fW];omega
 have hb1:(0:Int)≤(i:Int)+1:=by omega
 have hin:i≤n:=by omega
 have htn:((i:Int)+1).toNat=i+1:=by omega
 have htm:((n:Int)+1).toNat=n+1:=by omega
 have hb2:¬ (cap=i+1):=by omega
 have hb3:(i:Int)≤(n:Int)+1:=by omega
 have hb4:¬ (cap=i):=by omega
 have HCP1:=h_ hcp1
 have HCP2:=h_ hcp2
 clear hcp1 hcp2
 go_enter fk,fj
 go_wp2_with (simp only [hHOV.out])
 go_region_law_o (refine step_copy_runI rfl _ _ 25 25 rfl (.slice (some ⟨b,(i+1)*8,none⟩) (n-i) (cap-(i+1))) (.slice (some ⟨b,i*8,none⟩) (n+1-i) (cap-i)) (by simp [fY,fZ]) (by simp [fY,fZ]) (HCP1.out 3 (cap-(i+1)) (cap-i)) ?_)
 go_wp2_with (refine wpList_copy_runI _ rfl _ _ 25 25 rfl _ _ rfl rfl (HCP2.out _ (fun _=>rfl) (fun _=>rfl) _ _) ?_)
 exact HQ.out
theorem zf8 (base b i g cap vc:Nat)(xs:List Cm)(x:Cm)(w:e_)(h:w.ownsRow base 52 8 (.slice (some ⟨b,0,none⟩) xs.length cap) xs.length (xs.flatMap Cm.enc))(hv:w.heap[g]? =some (.cells x.enc.toArray 52 (0,0)))(hi:i<xs.length)(hroom:cap<xs.length+1)(hl:xs.length≤8000000)(hbw:base≤w.heap.size) :
 fg fh 190 #[.slice (some ⟨b,0,none⟩) xs.length cap,.int .i64 i,.slice (some ⟨g,0,none⟩) 1 vc] w (aK 8 Cm.enc base (bo xs i x) w):=by
 obtain⟨hbb,hbl⟩:=h.lt b rfl
 have hnc:xs.length≤cap:=by
  rcases h.2 with⟨he,h0⟩|⟨g,cap,cur,he,_,hg,hc,hm,hz,_⟩
  · simp at he
  · simp only [fB,fD,Addr.mk.injEq,and_true,true_and] at he
    obtain⟨rfl,rfl⟩:=he
    exact hc
 have hcell:∀ j u,(xs.flatMap Cm.enc)[j]? =some u→w.cell? ⟨b,j,none⟩=some u:=fun j u hu=>by
  have hj:=(fq.1 hu).1
  rw [h.cellAt j (by rw [←h.1];exact hj)]
  exact hu
 have hvc:∀ j u,x.enc[j]? =some u→w.cell? ⟨g,j,none⟩=some u:=fun j u hu=>by
  rw [fe w g j _ 52 (0,0) hv]
  simpa using hu
 have hvw:g<w.heap.size:=(Array.getElem?_eq_some_iff.1 hv).1
 obtain⟨i0,hi0,hz0,hzs,hzb⟩:=ff Tryz.info52
 have hz2:¬ ((i:Int)=(xs.length:Int)):=by omega
 have hz3:(cap:Int)<(xs.length:Int)+1:=by omega
 have hsz:(fh.info? 52).map (·.size)=some 8:=by kernel_rfl
 have hln1:=aC Cm.enc 8 (fun _=>rfl) (xs.take i)
 have hln2:=aC Cm.enc 8 (fun _=>rfl) (xs.drop i)
 rw [fz,fJ (by omega)] at hln1
 rw [fA] at hln2
 have hsplit:xs.flatMap Cm.enc=(xs.take i).flatMap Cm.enc++(xs.drop i).flatMap Cm.enc:=by rw [←fu,fy]
 have hc1:∀ j u,((xs.take i).flatMap Cm.enc)[j]? =some u→w.cell? ⟨b,j,none⟩=some u:=fun j u hu=>hcell j u (by
  rw [hsplit,fx (fq.1 hu).1];exact hu)
 have hc2:∀ j u,((xs.drop i).flatMap Cm.enc)[j]? =some u→w.cell? ⟨b,i*8+j,none⟩=some u:=fun j u hu=>hcell (i*8+j) u (by
  rw [hsplit,fw (by omega),hln1,fH];exact hu)
 have hfl:=dr Cm.enc xs i x
 have hil:=cT xs i x (by omega)
 have hxl:x.enc.length=8:=rfl
 have hkk:(xs.length:Int)+1-(i:Int)=((xs.length+1-i:Nat):Int):=by omega
 have hik:i+(xs.length+1-i)=xs.length+1:=by omega
 have hold:(Builtin.firstCells i0.size i (.slice (some ⟨b,0,none⟩) i cap)).run fh w.drew=.ok ((xs.take i).flatMap Cm.enc).toArray w.drew:=by
  rw [hzs]
  exact run_firstCells_some w.drew 8 i ⟨b,0,none⟩ i cap _ hln1 (fun j v hj=>by
   rw [fS,fE]
   exact hc1 j v hj)
 have hbig:(xs.length+1)*72≤140737488355328:=by omega
 have hrz:∀ ty,(Builtin.append_ #[25,3] ty #[.slice (some ⟨b,0,none⟩) i cap,.int .i64 ((xs.length:Int)+1-(i:Int))]).run fh w =
  .ok (.slice (some ⟨w.heap.size,0,none⟩) (xs.length+1) (grownCap w (xs.length+1) cap 52)) (w.drew.alloc (.cells (((xs.take i).flatMap Cm.enc).toArray++fQ (fm #[.int .i64 0,.int .i64 0,.int .i64 0,.int .i64 0,.string ⟨#[]⟩,.string ⟨#[]⟩,.bool false,.bool false]).cells (xs.length+1-i)++fQ (fm #[.int .i64 0,.int .i64 0,.int .i64 0,.int .i64 0,.string ⟨#[]⟩,.string ⟨#[]⟩,.bool false,.bool false]).cells (grownCap w (xs.length+1) cap 52-(xs.length+1))) 52)):=fun ty=>by
  have h:=Lib.run_append_grow_zeros w 25 3 ty 52 i0 _ .i64 .i64 fi Tryz.underlying3 hi0 hz0 (some ⟨b,0,none⟩) i cap _ hold (xs.length+1-i) (by omega) (by omega) (by omega) (by omega) (by rw [hzb];omega) (by rw [hzb,hik];exact growslice_fits hroom hbig)
  rw [hik] at h
  rw [hkk]
  exact h
 obtain⟨G,hG⟩:∃ G,G=grownCap w (xs.length+1) cap 52:=⟨_,rfl⟩
 obtain⟨ROW,hROW⟩:∃ ROW:Array Value,ROW=((xs.take i).flatMap Cm.enc).toArray++fQ (fm #[.int .i64 0,.int .i64 0,.int .i64 0,.int .i64 0,.string ⟨#[]⟩,.string ⟨#[]⟩,.bool false,.bool false]).cells (xs.length+1-i)++fQ (fm #[.int .i64 0,.int .i64 0,.int .i64 0,.int .i64 0,.string ⟨#[]⟩,.string ⟨#[]⟩,.bool false,.bool false]).cells (G-(xs.length+1)):=⟨_,rfl⟩
 rw [←hG] at hrz
 rw [←hROW] at hrz
 have hRl:(xs.length+1)*8≤ROW.size:=by
  rw [hROW]
  simp [fQ,Value.cells,hln1]
  omega
 have hR1:∀ j u,((xs.take i).flatMap Cm.enc)[j]? =some u→ROW[j]? =some u:=fun j u hu=>by
  have hj:=(fq.1 hu).1
  rw [hROW,Array.append_assoc,Array.getElem?_append_left (by simpa using hj)]
  simpa using hu
 obtain⟨W1,hW1⟩:∃ W1,W1=w.drew.alloc (.cells ROW 52):=⟨_,rfl⟩
 rw [←hW1] at hrz
 have hN:∀ j,j<(xs.length+1)*8→(W1.cell? ⟨w.heap.size,j,none⟩).isSome=true:=fun j hj=>by
  rw [hW1,fO (w:=w.drew) ROW _ w.heap.size j rfl,Array.getElem?_eq_getElem (by omega)];rfl
 have hN1:∀ j u,((xs.take i).flatMap Cm.enc)[j]? =some u→W1.cell? ⟨w.heap.size,j,none⟩=some u:=fun j u hu=>by
  rw [hW1,fO (w:=w.drew) ROW _ w.heap.size j rfl];exact hR1 j u hu
 have hNf:∀ j,W1.frozen? ⟨w.heap.size,j,none⟩=false:=fun j=>by rw [hW1];exact e_.frozen?_alloc_at (w:=w.drew) ROW _ w.heap.size j rfl
 have hOb:∀ j v,w.cell? ⟨b,j,none⟩=some v→W1.cell? ⟨b,j,none⟩=some v:=fun j v h=>by rw [hW1,fN (w:=w.drew) _ b j hbl];exact h
 have hOv:∀ j v,w.cell? ⟨g,j,none⟩=some v→W1.cell? ⟨g,j,none⟩=some v:=fun j v h=>by rw [hW1,fN (w:=w.drew) _ g j hvw];exact h
 have hcpA:∀ (W:e_),(∀ x,W.cell? x=W1.cell? x)→(∀ x,W.frozen? x=W1.frozen? x)→∀ ty dc,(fR #[25,25] ty #[.slice (some ⟨w.heap.size,i*8,none⟩) (xs.length+1-i) dc,.slice (some ⟨g,0,none⟩) 1 vc]).run fh W=.ok (goInt (1:Nat)) (W.setCells w.heap.size (i*8) x.enc):=fun W hWc hWf ty dc =>
  bz W _ _ ty 52 8 w.heap.size (i*8) (xs.length+1-i) dc ⟨g,0,none⟩ 1 vc 1 _ fi hsz (by simp only [fG];split<;>omega) (by rw [hxl])
   (fun j v hj=>by rw [fS,hWc,fE];exact hOv _ v (hvc j v hj))
   (fun j hj=>by rw [hWc];exact hN _ (by omega)) (fun j hj=>by rw [hWf];exact hNf _) (Cm.one x)
 have hGn:xs.length+1≤G:=by rw [hG];exact grownCap_ge w _ _ _
 have hG63:G≤9223372036854775807:=by
  have:=grownCap_le_maxLen w (xs.length+1) cap 52 (by unfold maxLen;omega)
  rw [←hG] at this
  unfold maxLen at this
  omega
 have hGi:¬ (G=i):=by omega
 have hGim:¬ (G=i+1):=by omega
 have hci:¬ (cap=i):=by omega
 have hbN:b≠w.heap.size:=by omega
 have hcpB:∀ (W:e_),(∀ y,W.cell? y=(W1.setCells w.heap.size (i*8) x.enc).cell? y)→(∀ y,W.frozen? y=(W1.setCells w.heap.size (i*8) x.enc).frozen? y)→∀ ty dc sc,(fR #[25,25] ty #[.slice (some ⟨w.heap.size,(i+1)*8,none⟩) (xs.length-i) dc,.slice (some ⟨b,i*8,none⟩) (xs.length-i) sc]).run fh W=.ok (goInt (xs.length-i:Nat)) (W.setCells w.heap.size ((i+1)*8) ((xs.drop i).flatMap Cm.enc)):=fun W hWc hWf ty dc sc =>
  bz W _ _ ty 52 8 w.heap.size ((i+1)*8) (xs.length-i) dc ⟨b,i*8,none⟩ (xs.length-i) sc (xs.length-i) _ fi hsz (by simp only [fG];split<;>omega) hln2
   (fun j v hj=>by
    rw [fS,hWc,fL _ _ _ _ _ (fun h _=>absurd h hbN)]
    exact hOb _ v (hc2 j v hj))
   (fun j hj=>by rw [hWc];exact fU _ _ _ _ _ (hN _ (by omega)))
   (fun j hj=>by rw [hWf,fM];exact hNf _) (bP Cm.one _)
 have HQ:=h_ (fun(W:e_) (hW:W.heap=W1.heap) (hbel:fV base w W)=>(show aK 8 Cm.enc base (bo xs i x) w (.returned (.slice (some ⟨w.heap.size,0,none⟩) (xs.length+1) G)) ((W.setCells w.heap.size (i*8) x.enc).setCells w.heap.size ((i+1)*8) ((xs.drop i).flatMap Cm.enc)) from by
  have hWc:∀ y,W.cell? y=W1.cell? y:=fun y=>by simp [e_.cell?,hW]
  have hb2:fV base w ((W.setCells w.heap.size (i*8) x.enc).setCells w.heap.size ((i+1)*8) ((xs.drop i).flatMap Cm.enc)):=fT _ hbw _ _ (fT _ hbw _ _ hbel)
  refine⟨some ⟨w.heap.size,0,none⟩,G,by rw [hil],b9 (enc:=Cm.enc) (fun _=>rfl) ?_ ?_,fun ad had=>?_,hb2⟩
  · have h2:=(fT w.heap.size (fF _) ((xs.drop i).flatMap Cm.enc) ((i+1)*8) (fT w.heap.size (fF _) x.enc (i*8) (fp w.heap.size W))).size
    have h3:W.heap.size=w.heap.size+1:=by rw [hW,hW1];simp
    omega
  · rw [hfl]
    have:=zcm (W:=W) (g:=w.heap.size) (L1:=(xs.take i).flatMap Cm.enc) (V:=x.enc) (L2:=(xs.drop i).flatMap Cm.enc) (fun j u hu=>by rw [fE,hWc];exact hN1 j u hu) (fun j hj=>by rw [hWc];exact hN j (by rw [hln1,hln2,hxl] at hj;omega))
    rw [hln1,hxl,show i*8+8=(i+1)*8 by omega] at this
    exact this
  · obtain rfl:=fC had
    exact hbw))
 have hE1:∀ x,((w.alloc (.cells ROW 52)).drew).cell? x=(w.drew.alloc (.cells ROW 52)).cell? x:=fun x=>rfl
 have hE2:∀ x,((w.alloc (.cells ROW 52)).drew).frozen? x=(w.drew.alloc (.cells ROW 52)).frozen? x:=fun x=>rfl
 have hF1:=zak w (.cells ROW 52) w.heap.size (i*8) x.enc
 have hF2:=zaF w (.cells ROW 52) w.heap.size (i*8) x.enc
 subst hW1
 generalize aK 8 Cm.enc base (bo xs i x) w=Q at *
 have mixed:fh.follows Departure.mixedOrders=true:=by kernel_rfl
 have HRZ:=h_ hrz
 have HCA:=h_ (hcpA _ hE1 hE2)
 have HCB:=h_ (hcpB _ hF1 hF2)
 have hw1:fX.wrap ((i:Int)+1)=(i:Int)+1:=by rw [fW];omega
 have hw2:fX.wrap ((xs.length:Int)+1)=(xs.length:Int)+1:=by rw [fW];omega
 have hw3:fX.wrap ((xs.length:Int)+1-(i:Int))=(xs.length:Int)+1-(i:Int):=by rw [fW];omega
 have hb1:(0:Int)≤(i:Int)+1:=by omega
 have hin:i≤xs.length:=by omega
 have htn:((i:Int)+1).toNat=i+1:=by omega
 have hb3:(i:Int)≤(xs.length:Int):=by omega
 have HB1:=h_ (show fV base w ((w.alloc (.cells ROW 52)).drew) from((fp _ _).alloc hbw _).drew)
 clear hkk hik hold hROW hG hRl hrz hcpA hcpB hR1 hN hN1 hNf hOb hOv hc1 hc2 hcell hvc hsplit hfl hil hln1 hln2 h hv hE1 hE2 hF1 hF2 hi0 hz0 hzs hzb hsz hbig
 generalize (xs.drop i).flatMap Cm.enc=ds at *
 generalize x.enc=xe at *
 generalize xs.length=n at *
 go_enter fk,fj
 go_wp2_with (first
  | (at_builtin;refine Lib.wpList_append_run _ rfl _ _ _ _ rfl _ _ rfl rfl _ _ (HRZ.out _) ?_)
  | (refine wpList_copy_runI _ rfl _ _ 25 25 rfl _ _ rfl rfl (HCA.out _ _) ?_))
 go_region_law_o (refine step_copy_runI rfl _ _ 25 25 rfl (.slice (some ⟨w.heap.size,(i+1)*8,none⟩) (n-i) (G-(i+1))) (.slice (some ⟨b,i*8,none⟩) (n-i) (cap-i)) (by simp [fY,fZ]) (by simp [fY,fZ]) (HCB.out 3 (G-(i+1)) (cap-i)) ?_)
 go_wp2_with fail
 rw [show((w.alloc (.cells ROW 52)).drew.setCells w.heap.size (i*8) xe).drew=(w.alloc (.cells ROW 52)).drew.drew.setCells w.heap.size (i*8) xe from drew_setCells _ _ _ _]
 exact HQ.out _ rfl HB1.out.drew
end Go.Proofs.YtnlnmbcaongehaaGreatDoor
namespace Go.Proofs.YtnlnmbcaongehaaGreatDoor
open Go.RowKit
attribute [local go_sem ↓] Go.wp_at_zero Go.wp_at_succ
theorem dB (base:Nat)(v:Value)(xs:List Cm)(i:Nat)(x:Cm)(g vc:Nat)(w:e_)(h:w.ownsRow base 52 8 v xs.length (xs.flatMap Cm.enc))(hv:w.heap[g]? =some (.cells x.enc.toArray 52 (0,0)))(hgb:v.ownBlock≠some g)(hi:i≤xs.length)(hl:xs.length≤8000000)(hbw:base≤w.heap.size) :
 fg fh 190 #[v,.int .i64 i,.slice (some ⟨g,0,none⟩) 1 vc] w (aK 8 Cm.enc base (bo xs i x) w):=by
 have h1:=zir (K:=8) (enc:=Cm.enc) (fun _=>rfl) hv
 rcases h.2 with⟨rfl,h0⟩|⟨b,cap,cur,rfl,hb',hg',hc,hm,_⟩
 · obtain rfl:=List.eq_nil_of_length_eq_zero h0
   obtain rfl:i=0:=by simpa using hi
   exact zhk base x g vc w h1 hbw
 · by_cases hi':i<xs.length
   · by_cases hr:xs.length+1≤cap
     · exact zeP base b i g cap vc xs x w h hv hi' hr (fun e=>hgb (by rw [e];rfl)) hl hbw
     · exact zf8 base b i g cap vc xs x w h hv hi' (by omega) hl hbw
   · obtain rfl:i=xs.length:=by omega
     rw [zd6]
     exact zhl base b cap xs x g vc w h h1 hl hbw
theorem zeq (a:Option Addr)(cap:Nat)(xs:List Cm)(c:Chg)(k:Nat)(i:Int)(x:Cm)(w:e_)(h:ab 8 Cm.enc Flat w a xs)(hk:c.added=false→k<xs.length∧i=(k:Int))(hg:c.added=true→c.gone=false)(hl:xs.length≤4000000) :
 fg fh 113 #[.slice a xs.length cap,.agg c.enc.toArray,.int .i64 i,.agg x.enc.toArray,.func (.func 42) #[] #[]] w (bR 8 Cm.enc (aJ c.added c.gone k (fun y:Cm=>decide (y.id<x.id)) xs x) w):=by
 have HQ:=h_ (fun(ys:List Cm) (a':Option Addr) (c':Nat) (w':e_) (e:ys=aJ c.added c.gone k (fun y:Cm=>decide (y.id<x.id)) xs x) (h1:ab 8 Cm.enc Flat w' a' ys) (h2:∀ ad,a'=some ad→w.heap.size≤ad.block) (h3:fV w.heap.size w w')=>(show bR 8 Cm.enc (aJ c.added c.gone k (fun y:Cm=>decide (y.id<x.id)) xs x) w (.returned (.slice a' ys.length c')) w' from e▸⟨a',c',rfl,h1,h2,h3⟩))
 generalize bR 8 Cm.enc (aJ c.added c.gone k (fun y:Cm=>decide (y.id<x.id)) xs x) w=Q at *
 unfold aJ at HQ
 have HSL:=h_ (fun(w1:e_) (hb:fV w.heap.size w w1)=>ab.keeps Flat.keeps _ _ _ _ hb h)
 have HKX:=h_ (fun(w1:e_)=>zaf x w1)
 obtain⟨L1,hL1⟩:∃ L1,L1=if c.added=true then xs else br xs k:=⟨_,rfl⟩
 have hL1l:L1.length≤4000000:=by
  rw [hL1]
  split
  · exact hl
  · have:=zbX xs k
    omega
 obtain⟨RK,hRK⟩:∃ RK,RK=cE (fun y:Cm=>decide (y.id<x.id)) L1:=⟨_,rfl⟩
 have hRKl:RK≤L1.length:=hRK▸zaD _ _
 rw [←hL1,←hRK] at HQ
 obtain⟨sec,cid,cname,ad,gn,oh,nh,rg,nr,oe,ne,oc,nc⟩:=c
 simp only at hk hg hL1 HQ
 generalize hcs:Chg.enc _=cl
 have hc3:cl.toArray[3]? =some (.bool ad):=by rw [←hcs];rfl
 have hc4:cl.toArray[4]? =some (.bool gn):=by rw [←hcs];rfl
 clear hcs
 obtain⟨cs,hcs⟩:∃ cs,cs=cl.toArray:=⟨_,rfl⟩
 rw [←hcs] at hc3 hc4 ⊢
 clear hcs
 generalize hqs:x.enc.toArray=qs
 have HXE:=h_ hqs
 have HB:=h_ (fun(w1:e_) (h:fV (w.heap.size+2) ((w.alloc (.cells cs 54)).alloc (.cells qs 52)) w1)=>aR h)
 have f3:=ah w cs qs 54 52 3 _ hc3
 have f4:=ah w cs qs 54 52 4 _ hc4
 have hb0:fV (w.heap.size+2) ((w.alloc (.cells cs 54)).alloc (.cells qs 52)) ((w.alloc (.cells cs 54)).alloc (.cells qs 52)):=fp _ _
 have hsz:((w.alloc (.cells cs 54)).alloc (.cells qs 52)).heap.size=w.heap.size+2:=by simp
 have hk2:((w.alloc (.cells cs 54)).alloc (.cells qs 52)).heap[w.heap.size+1]? =some (.cells qs 52 (0,0)):=by
  have:=fb (w.alloc (.cells cs 54)) (.cells qs 52)
  rwa [e_.size_alloc] at this
 generalize hW0:(w.alloc (.cells cs 54)).alloc (.cells qs 52)=W0 at *
 have HW0:=h_ hW0
 have HSZ:=h_ hsz
 have HT0:=h_ (fun(w2 w3:e_) (h:fV (w.heap.size+2) W0 w2) (h3:fV w2.heap.size w2 w3)=>(h.trans (h3.mono (by have:=h.size;rw [HSZ.out] at this;exact this)):fV (w.heap.size+2) W0 w3))
 have HLT:=h_ (fun(w2:e_) (h:fV (w.heap.size+2) W0 w2)=>(show w.heap.size+2≤w2.heap.size by have:=h.size;rw [HSZ.out] at this;exact this))
 have bx:∀ (w':e_),fV (w.heap.size+2) W0 w'→∀ (j:Nat),w'.cell? ⟨w.heap.size+1,j,none⟩=qs[j]?:=fun w' h j=>fe _ _ j qs 52 (0,0) ((h.block _ (by omega)).trans hk2)
 have HL1:=h_ hL1
 have HRK:=h_ hRK
 have HHK:=h_ hk
 have HHG:=h_ hg
 clear hW0 hsz hk2 h hL1 hRK hk hg hc3 hc4
 obtain⟨xid,xev,xfrm,xtil,xau,xtx,xdn,xlo⟩:=x
 simp only [Cm.enc] at hqs HKX
 simp only at HRK
 go_enter Tryz.func113,Tryz.ntmps113
 subst hqs
 go_upto_region 1 with fail
 rw [HW0.out]
 go_upto_if 14 with fail
 go_cut [0] (fun s0 wx=>∃ a1 c1,s0=.slice a1 L1.length c1∧ab 8 Cm.enc Flat wx a1 L1∧(gn=true→∀ ad,a1=some ad→w.heap.size≤ad.block)∧fV (w.heap.size+2) W0 wx)
 case first =>
  cases ad with
  | true =>
    have HG:=h_ (HHG.out rfl)
    have hxl:L1=xs:=by rw [HL1.out];rfl
    subst hxl
    go_wp2_with fail
    go_meet
    exact⟨_,_,rfl,HSL.out _ (HB.out _ hb0),(fun h=>by rw [HG.out] at h;cases h),hb0⟩
  | false =>
    obtain⟨hkl,rfl⟩:=HHK.out rfl
    have hxl:L1=br xs k:=by rw [HL1.out];rfl
    have hdl:L1.length=xs.length-1:=by rw [hxl];exact zaX xs k hkl
    have HC:=h_ (fun(w1:e_) (h:fV (w.heap.size+2) W0 w1)=>dE a cap xs w1 (HSL.out _ (HB.out _ h)) hl)
    go_wp2_with fail
    refine(HC.out _ hb0).mono ?_
    rintro e w1 ⟨v,rfl,ho,hb1⟩
    obtain⟨g,cp,rfl,hgb⟩:=zch ho (by omega)
    have hc1:=HT0.out _ _ hb0 hb1
    have HD:=h_ (zeU W0.heap.size g cp k xs w1 ho hkl hl)
    clear hb1 HC ho
    go_wp2_with fail
    refine HD.out.mono ?_
    rintro e w2 ⟨rfl,hS,hb2⟩
    have hc2:fV (w.heap.size+2) W0 w2:=hc1.trans (hb2.mono (by rw [HSZ.out];exact fF _))
    have HS:=h_ hS
    clear hb2 HD hS
    go_wp2_with fail
    go_meet
    refine⟨_,_,by rw [hdl],by rw [hxl];exact HS.out,fun _ ad e=>?_,hc2⟩
    obtain rfl:=fC e
    have:=HSZ.out
    simp only
    omega
 case rest =>
  obtain⟨a1,c1,rfl,hS1,hf1,hbw⟩:=hcut
  have HS1:=h_ (fun(w1:e_) (hb:fV wc.heap.size wc w1)=>ab.keeps Flat.keeps _ _ _ _ hb hS1)
  have HF1:=h_ hf1
  have HBW:=h_ hbw
  clear HSL hS1 hf1
  cases gn with
  | true =>
    have HFIN:=h_ (HQ.out L1 a1 c1 wc rfl (HS1.out _ (fp _ _)) (HF1.out rfl) (HB.out _ hbw))
    clear HQ HS1 HF1
    go_wp2_with fail
    exact HFIN.out
  | false =>
    clear HF1
    go_wp2_with fail
    go_loopw [11] (fun i wr=>∃ j:Nat,j≤L1.length∧i=.int .i64 j∧j+cE (fun y:Cm=>decide (y.id<xid)) (L1.drop j)=RK∧fV wc.heap.size wc wr) (fun i _=>L1.length-(intOf i).toNat)
    case atStart=>exact⟨0,by omega,rfl,by rw [HRK.out];simp,fp _ _⟩
    case round =>
     obtain⟨j,hj,rfl,hp,hb⟩:=hrel
     have hbW:=HT0.out _ _ HBW.out hb
     have HBJ:=h_ hb
     have hbd:fV (w.heap.size+2) W0 wr.drew:=hbW.drew
     by_cases hlt:j<L1.length
     · obtain⟨b,off,y,rfl,hbl,hyk,hc,_⟩:=(HS1.out _ hb).at_ hlt
       have HKY:=h_ (fun(w1:e_)=>zaf y w1)
       rw [aZ L1 j y hyk,cE] at hp
       have HCY:=h_ (fun(w1:e_) (h:fV wr.heap.size wr w1) (q:Nat) (u:Value) (e:y.enc[q]? =some u)=>(h.cell (p:=⟨b,off+j*8+q,none⟩) hbl).trans (hc q u e))
       clear hc hyk hb
       obtain⟨yid,yev,yfrm,ytil,yau,ytx,ydn,ylo⟩:=y
       simp only [Cm.enc] at HKY HCY
       simp only at hp
       have d0:=fun w1 h=>HCY.out w1 h 0 _ rfl
       have d1:=fun w1 h=>HCY.out w1 h 1 _ rfl
       have d2:=fun w1 h=>HCY.out w1 h 2 _ rfl
       have d3:=fun w1 h=>HCY.out w1 h 3 _ rfl
       have d4:=fun w1 h=>HCY.out w1 h 4 _ rfl
       have d5:=fun w1 h=>HCY.out w1 h 5 _ rfl
       have d6:=fun w1 h=>HCY.out w1 h 6 _ rfl
       have d7:=fun w1 h=>HCY.out w1 h 7 _ rfl
       simp only [Nat.add_zero] at d0
       have hrd:fV wr.heap.size wr wr.drew:=(fp _ _).drew
       have bx2:∀ (w':e_),fV wr.heap.size wr w'→∀ (q:Nat),w'.cell? ⟨w.heap.size+1,q,none⟩=#[.int .i64 xid,.int .i64 xev,.int .i64 xfrm,.int .i64 xtil,.string xau,.string xtx,.bool xdn,.bool xlo][q]?:=fun w' h q=>bx w' (HT0.out _ _ hbW h) q
       clear HCY bx
       cases hlz:decide (yid<xid) with
       | true =>
         rw [if_pos hlz] at hp
         have HP:=h_ hp
         clear hp
         go_upto_region 6 with fail
         go_region_held3 (fun w'=>fV wr.heap.size wr w') (first|with_reducible assumption|with_reducible exact hrd) (first
          | (go_at_call 42;first|((with_reducible refine(HKY.out _).mono ?_);rintro e w1 ⟨rfl,hy1⟩;have hw1:fV wr.heap.size wr w1:=hrd.trans (hy1.mono hrd.size))|((with_reducible refine(HKX.out _).mono ?_);rintro e w2 ⟨rfl,hy2⟩;have hw2:fV wr.heap.size wr w2:=hw1.trans (hy2.mono hw1.size))))
         go_wp2_with fail
         go_roundw
         case rel=>exact⟨j+1,by omega,by go_num,by have:=HP.out;omega,HBJ.out.trans (hw2.mono HBJ.out.size)⟩
         all_goals first|(simp [intOf];done)|(simp [intOf];omega)
       | false =>
         rw [if_neg (by rw [hlz];decide)] at hp
         obtain rfl:j=RK:=by omega
         clear hp
         go_upto_region 6 with fail
         go_region_held3 (fun w'=>fV wr.heap.size wr w') (first|with_reducible assumption|with_reducible exact hrd) (first
          | (go_at_call 42;first|((with_reducible refine(HKY.out _).mono ?_);rintro e w1 ⟨rfl,hy1⟩;have hw1:fV wr.heap.size wr w1:=hrd.trans (hy1.mono hrd.size))|((with_reducible refine(HKX.out _).mono ?_);rintro e w2 ⟨rfl,hy2⟩;have hw2:fV wr.heap.size wr w2:=hw1.trans (hy2.mono hw1.size))))
         have hbz:=HT0.out _ _ hbW hw2
         have HBZ:=h_ (HBJ.out.trans (hw2.mono HBJ.out.size))
         have hwz:fV wr.heap.size wr w2:=hw2
         clear hw1 hw2 hy1 hy2
         have HCL:=h_ (fun(w1:e_) (h:fV w2.heap.size w2 w1)=>dE _ c1 L1 w1 (HS1.out _ (HBZ.out.trans (h.mono HBZ.out.size))) hL1l)
         have hzd:fV w2.heap.size w2 w2.drew:=(fp _ _).drew
         have hza:∀ o,fV w2.heap.size w2 (w2.drew.alloc o):=fun o=>hzd.alloc hzd.size o
         have bx3:∀ (w':e_),fV w2.heap.size w2 w'→∀ (q:Nat),w'.cell? ⟨w.heap.size+1,q,none⟩=#[.int .i64 xid,.int .i64 xev,.int .i64 xfrm,.int .i64 xtil,.string xau,.string xtx,.bool xdn,.bool xlo][q]?:=fun w' h q=>bx2 w' (hwz.trans (h.mono hwz.size)) q
         have HBX:=h_ (fb w2.drew (.cells #[.int .i64 xid,.int .i64 xev,.int .i64 xfrm,.int .i64 xtil,.string xau,.string xtx,.bool xdn,.bool xlo] 52))
         go_upto_region 8 with fail
         go_region_held3 (fun w'=>fV w2.heap.size w2 w') (first|with_reducible assumption|with_reducible exact hzd|exact hza _|exact h6.alloc h6.size _|fail) (first
          | (go_at_call 107;(with_reducible refine(HCL.out _ ?_).mono ?_);assumption;rintro e w6 ⟨v6,rfl,ho6,hb6⟩;have h6:fV w2.heap.size w2 w6:=(by assumption:fV w2.heap.size w2 _).trans (hb6.mono (by first|exact hzd.size|exact(hza _).size));have HI2:=h_ (dB w2.heap.size v6 L1 j (⟨xid,xev,xfrm,xtil,xau,xtx,xdn,xlo⟩:Cm) w6.heap.size 1 (w6.alloc (.cells #[.int .i64 xid,.int .i64 xev,.int .i64 xfrm,.int .i64 xtil,.string xau,.string xtx,.bool xdn,.bool xlo] 52)) ((aU ho6 (by first|exact hzd.size|exact(hza _).size)).alloc _) (fb w6 _) (fun e=>by have:=(ho6.lt _ e).2;omega) (by omega) (by omega) (h6.alloc h6.size _).size);(first|(have HI1:=h_ (dB w2.heap.size v6 L1 j (⟨xid,xev,xfrm,xtil,xau,xtx,xdn,xlo⟩:Cm) w2.heap.size 1 w6 (aU ho6 (hza _).size) ((hb6.block w2.heap.size (by simp)).trans HBX.out) (fun e=>by have:=(ho6.lt _ e).1;simp at this;omega) (by omega) (by omega) h6.size))|skip);clear ho6 hb6)
          | (go_at_call 190;(first|((with_reducible refine HI2.out.mono ?_);rintro e w8 ⟨a8,c8,rfl,hS8,hf8,hb8⟩;have h8:fV w2.heap.size w2 w8:=(h6.alloc h6.size _).trans hb8)|((with_reducible refine HI1.out.mono ?_);rintro e w8 ⟨a8,c8,rfl,hS8,hf8,hb8⟩;have h8:fV w2.heap.size w2 w8:=h6.trans hb8));have HS8:=h_ hS8;have HF8:=h_ hf8;clear hS8 hf8 hb8))
         all_goals
          have HFIN:=h_ (HQ.out (bo L1 j (⟨xid,xev,xfrm,xtil,xau,xtx,xdn,xlo⟩:Cm)) a8 c8 w8 (by rfl) HS8.out (fun ad e=>fK (by have:=HLT.out _ hbz;omega) (HF8.out ad e)) (HB.out _ (HT0.out _ _ hbz h8)))
          clear HQ HS8 HF8
          go_wp2_with fail
          exact HFIN.out
     · obtain rfl:j=L1.length:=by omega
       rw [List.drop_length,cE] at hp
       obtain rfl:L1.length=RK:=by omega
       clear hp
       have hkd:decide (((L1.length:Nat):Int)<((L1.length:Nat):Int))=false:=by simp
       go_upto_region 6 with fail
       have HWN:=h_ (fun n=>below_drewN hbW n)
       have HJN:=h_ (fun n=>below_drewN HBJ.out n)
       go_quiet (fail)
       go_wp2_with fail
       generalize hwq:e_.drewN wr _=wq
       have hbz:fV (w.heap.size+2) W0 wq:=hwq▸HWN.out _
       have HBZ:=h_ (show fV wc.heap.size wc wq from hwq▸HJN.out _)
       clear hbW hbd HBJ hwq
       have HCL:=h_ (fun(w1:e_) (h:fV wq.heap.size wq w1)=>dE _ c1 L1 w1 (HS1.out _ (HBZ.out.trans (h.mono HBZ.out.size))) hL1l)
       have hzd:fV wq.heap.size wq wq.drew:=(fp _ _).drew
       have hza:∀ o,fV wq.heap.size wq (wq.drew.alloc o):=fun o=>hzd.alloc hzd.size o
       have bx3:∀ (w':e_),fV wq.heap.size wq w'→∀ (q:Nat),w'.cell? ⟨w.heap.size+1,q,none⟩=#[.int .i64 xid,.int .i64 xev,.int .i64 xfrm,.int .i64 xtil,.string xau,.string xtx,.bool xdn,.bool xlo][q]?:=fun w' h q=>bx w' (HT0.out _ _ hbz h) q
       have HBX:=h_ (fb wq.drew (.cells #[.int .i64 xid,.int .i64 xev,.int .i64 xfrm,.int .i64 xtil,.string xau,.string xtx,.bool xdn,.bool xlo] 52))
       go_upto_region 8 with fail
       go_region_held3 (fun w'=>fV wq.heap.size wq w') (first|with_reducible assumption|with_reducible exact hzd|exact hza _|exact h6.alloc h6.size _|fail) (first
        | (go_at_call 107;(with_reducible refine(HCL.out _ ?_).mono ?_);assumption;rintro e w6 ⟨v6,rfl,ho6,hb6⟩;have h6:fV wq.heap.size wq w6:=(by assumption:fV wq.heap.size wq _).trans (hb6.mono (by first|exact hzd.size|exact(hza _).size));have HI2:=h_ (dB wq.heap.size v6 L1 L1.length (⟨xid,xev,xfrm,xtil,xau,xtx,xdn,xlo⟩:Cm) w6.heap.size 1 (w6.alloc (.cells #[.int .i64 xid,.int .i64 xev,.int .i64 xfrm,.int .i64 xtil,.string xau,.string xtx,.bool xdn,.bool xlo] 52)) ((aU ho6 (by first|exact hzd.size|exact(hza _).size)).alloc _) (fb w6 _) (fun e=>by have:=(ho6.lt _ e).2;omega) (by omega) (by omega) (h6.alloc h6.size _).size);(first|(have HI1:=h_ (dB wq.heap.size v6 L1 L1.length (⟨xid,xev,xfrm,xtil,xau,xtx,xdn,xlo⟩:Cm) wq.heap.size 1 w6 (aU ho6 (hza _).size) ((hb6.block wq.heap.size (by simp)).trans HBX.out) (fun e=>by have:=(ho6.lt _ e).1;simp at this;omega) (by omega) (by omega) h6.size))|skip);clear ho6 hb6)
        | (go_at_call 190;(first|((with_reducible refine HI2.out.mono ?_);rintro e w8 ⟨a8,c8,rfl,hS8,hf8,hb8⟩;have h8:fV wq.heap.size wq w8:=(h6.alloc h6.size _).trans hb8)|((with_reducible refine HI1.out.mono ?_);rintro e w8 ⟨a8,c8,rfl,hS8,hf8,hb8⟩;have h8:fV wq.heap.size wq w8:=h6.trans hb8));have HS8:=h_ hS8;have HF8:=h_ hf8;clear hS8 hf8 hb8))
       all_goals
        have HFIN:=h_ (HQ.out (bo L1 L1.length (⟨xid,xev,xfrm,xtil,xau,xtx,xdn,xlo⟩:Cm)) a8 c8 w8 (by rfl) HS8.out (fun ad e=>fK (by have:=HLT.out _ hbz;omega) (HF8.out ad e)) (HB.out _ (HT0.out _ _ hbz h8)))
        clear HQ HS8 HF8
        go_wp2_with fail
        exact HFIN.out
end Go.Proofs.YtnlnmbcaongehaaGreatDoor
