/- slices.Insert of one element at regions, events and comments. (printed by gen_insert.py) -/
import Derived.Shelf.Spec.SlicesInsertGrow
import Derived.Test.YtnlnmbcaongehaaGreatDoorB10
set_option linter.unusedVariables false
set_option linter.unusedSimpArgs false
set_option maxRecDepth 100000
set_option maxHeartbeats 12800000
open Go.Lib renaming hid→h_
open Go renaming World→e_,Value→fb,cell_of_row→fe,info_parts→ff,Calls→fg,run_firstCells_some→fh,run_callFunc_extern→fi,grownCap_le_maxLen→fj
open List renaming getElem?_eq_some_iff→fk,getElem?_append_right→fm,getElem?_append_left→fo,length_cons→fp,length_nil→fq,flatMap_append→fr,take_append_drop→ft,length_take→fu,length_drop→fw,length_append→fx
open Go.Lib renaming below_setCells→fy,isSome_setCells→fz,run_append_grow_zeros→fA,run_overlaps_apart→fB,wpList_append_run→fC
open Go.World renaming cell?_setCells_out→fD,frozen?_setCells→fE,cell?_alloc_past→fF,cell?_alloc_at→fG,shape?→fH,frozen?_alloc_at→fI,ownsRow_nil→fJ,frozen?→fK,cell?→fL
open Go.Builtin renaming zeroCells→fM,copy_→fN,firstCells→fO,append_→fP
open Go.Proofs.Tryz renaming prog→fQ,underlying24→fR,underlying23→fS,ntmps188→fT,ntmps184→fU,func188→fV,func184→fW,underlying3→fX
open Go.Value renaming agg→fY,slice→fZ,ownBlock→f_,cells→ga
open Go.RowKit.Below renaming refl→gb
open Go.Value.slice renaming injEq→gd
open Option.some renaming injEq→gf,inj→gg
open Go.Addr.mk renaming injEq→gh
open Nat renaming zero_add→gi,min_def→gj,le_refl→gk,add_sub_cancel_left→gl,mul_le_mul_right→gm,min_eq_left→gp
open Array renaming getElem?_eq_getElem→gq,getElem?_eq_some_iff→gr,getElem?_append_left→gu,append_assoc→gv
open Go.Extern.SlicesOverlaps renaming overlaps→gw
open Go.Addr renaming add_lit→gy
open Go.Departure renaming mixedOrders→gz
open Go.IntKind renaming wrap_i64→gA,i64→gC
open Go.Proofs renaming wpList_copy_runI→gD,step_copy_runI→gE
open Go.Act renaming eval→gF,put→gG
namespace Go.Proofs.YtnlnmbcaongehaaGreatDoor
open Go.RowKit Go.Lib
theorem b9 {α:Type} {K:Nat} {enc:α→List fb} (hk:∀ x,(enc x).length=K) {w:e_} {b off:Nat} {xs:List α} (hb:b<w.heap.size)(h:∀ j u,(xs.flatMap enc)[j]? =some u→w.cell? ⟨b,off+j,none⟩=some u):ab K enc Flat w (some ⟨b,off,none⟩) xs :=
 .inr ⟨b,off,rfl,hb,fun i x hx=>⟨fun j v hv=>by
  have:=h _ _ (er enc K hk xs i x j v hx hv)
  rwa [←Nat.add_assoc] at this,trivial⟩⟩
def bo {α:Type} (xs:List α)(k:Nat)(x:α):List α:=xs.take k++[x]++xs.drop k
theorem cT {α:Type} (xs:List α)(k:Nat)(x:α)(hk:k≤xs.length):(bo xs k x).length=xs.length+1:=by
 unfold bo
 simp
 omega
theorem zd6 {α:Type} (xs:List α)(x:α):bo xs xs.length x=xs++[x]:=by simp [bo]
theorem dr {α:Type} (enc:α→List fb)(xs:List α)(k:Nat)(x:α):(bo xs k x).flatMap enc=(xs.take k).flatMap enc++enc x++(xs.drop k).flatMap enc:=by simp [bo]
theorem zgF {L1 V L2:List fb} {j:Nat} {u:fb} (h:(L1++V++L2)[j]? =some u):L1[j]? =some u∨(L1.length≤j∧V[j-L1.length]? =some u)∨(L1.length+V.length≤j∧L2[j-(L1.length+V.length)]? =some u):=by
 by_cases h1:j<L1.length
 · rw [List.append_assoc,fo h1] at h
   exact .inl h
 · by_cases h2:j<L1.length+V.length
   · rw [fo (by rw [fx];omega),fm (by omega)] at h
     exact .inr (.inl ⟨by omega,h⟩)
   · rw [fm (by rw [fx];omega),fx] at h
     exact .inr (.inr ⟨by omega,h⟩)
theorem zfM {W:e_} {g o:Nat} {V:List fb} (hs:∀ j,j<V.length→(W.cell? ⟨g,o+j,none⟩).isSome=true)(t:Nat)(u:fb)(hu:V[t]? =some u):(W.setCells g o V).cell? ⟨g,o+t,none⟩=some u:=by
 have ht:=(fk.1 hu).1
 rw [e_.cell?_setCells_in g V o W hs t ht,←hu,List.getElem?_eq_getElem ht]
theorem zbi {W:e_} {g:Nat} {L1 V L2:List fb} (h1:∀ j u,L1[j]? =some u→W.cell? ⟨g,0+j,none⟩=some u)(hs:∀ j,j<L1.length+V.length+L2.length→(W.cell? ⟨g,j,none⟩).isSome=true) :
 ∀ j u,(L1++V++L2)[j]? =some u→((W.setCells g (L1.length+V.length) L2).setCells g L1.length V).cell? ⟨g,0+j,none⟩=some u:=by
 intro j u hu
 have hs1:∀ j,j<V.length→((W.setCells g (L1.length+V.length) L2).cell? ⟨g,L1.length+j,none⟩).isSome=true:=fun j hj=>fz g _ _ _ _ (hs _ (by omega))
 rcases zgF hu with h|⟨hl,h⟩|⟨hl,h⟩
 · have hj:=(fk.1 h).1
   rw [fD g V _ _ _ (fun _ _=>.inl (by simp only;omega)),fD g L2 _ _ _ (fun _ _=>.inl (by simp only;omega))]
   exact h1 j u h
 · have:=zfM hs1 (j-L1.length) u h
   rwa [show L1.length+(j-L1.length)=0+j by omega] at this
 · have hj:=(fk.1 h).1
   rw [fD g V _ _ _ (fun _ _=>.inr (by simp only;omega))]
   have:=zfM (W:=W) (g:=g) (o:=L1.length+V.length) (V:=L2) (fun t ht=>hs _ (by omega)) (j-(L1.length+V.length)) u h
   rwa [show L1.length+V.length+(j-(L1.length+V.length))=0+j by omega] at this
theorem zcm {W:e_} {g:Nat} {L1 V L2:List fb} (h1:∀ j u,L1[j]? =some u→W.cell? ⟨g,0+j,none⟩=some u)(hs:∀ j,j<L1.length+V.length+L2.length→(W.cell? ⟨g,j,none⟩).isSome=true) :
 ∀ j u,(L1++V++L2)[j]? =some u→((W.setCells g L1.length V).setCells g (L1.length+V.length) L2).cell? ⟨g,0+j,none⟩=some u:=by
 intro j u hu
 have hs1:∀ j,j<L2.length→((W.setCells g L1.length V).cell? ⟨g,L1.length+V.length+j,none⟩).isSome=true:=fun j hj=>fz g _ _ _ _ (hs _ (by omega))
 rcases zgF hu with h|⟨hl,h⟩|⟨hl,h⟩
 · have hj:=(fk.1 h).1
   rw [fD g L2 _ _ _ (fun _ _=>.inl (by simp only;omega)),fD g V _ _ _ (fun _ _=>.inl (by simp only;omega))]
   exact h1 j u h
 · have hj:=(fk.1 h).1
   rw [fD g L2 _ _ _ (fun _ _=>.inl (by simp only;omega))]
   have:=zfM (W:=W) (g:=g) (o:=L1.length) (V:=V) (fun t ht=>hs _ (by omega)) (j-L1.length) u h
   rwa [show L1.length+(j-L1.length)=0+j by omega] at this
 · have:=zfM hs1 (j-(L1.length+V.length)) u h
   rwa [show L1.length+V.length+(j-(L1.length+V.length))=0+j by omega] at this
theorem bz {P:Program} (w:e_)(dT sT ty elem:TypeId)(K b o dLen dCap:Nat)(a:Addr)(sLen sCap n:Nat)(cs:List fb)
 (hu:P.underlying dT=some (.slice elem)) (hs:(P.info? elem).map (·.size)=some K) (hn:Nat.min sLen dLen=n) (hl:cs.length=n*K)
 (hsrc:∀ j v,cs[j]? =some v→w.cell? (a.add j)=some v) (hc:∀ j,j<cs.length→(w.cell? ⟨b,o+j,none⟩).isSome=true) (hf:∀ j,j<cs.length→w.frozen? ⟨b,o+j,none⟩=false) (h1:∀ v∈cs,v.oneCell'=true) :
 (fN #[dT,sT] ty #[.slice (some ⟨b,o,none⟩) dLen dCap,.slice (some a) sLen sCap]).run P w=.ok (goInt n) (w.setCells b o cs):=by
 have hld:=run_loadCells_list (P:=P) w a cs hsrc
 have hst:=run_storeCells_cells (P:=P) b o cs 0 w (by simpa using hc) (by simpa using hf) h1
 cases hq:P.info? elem with
 | none=>simp [hq] at hs
 | some i =>
   have hi:i.size=K:=by simpa [hq] using hs
   rw [hl] at hld
   simp [fN,run_underlying hu,Builtin.lenOf,fO,sizeOf,typeInfo,hq,hi,hn,hld,hst]
theorem zak (w:e_)(o:Obj)(g a:Nat)(xe:List fb):∀ y,(((w.alloc o).drew.setCells g a xe).drew).cell? y=((w.drew.alloc o).setCells g a xe).cell? y:=fun y=>rfl
theorem zaF (w:e_)(o:Obj)(g a:Nat)(xe:List fb):∀ y,(((w.alloc o).drew.setCells g a xe).drew).frozen? y=((w.drew.alloc o).setCells g a xe).frozen? y:=fun y=>rfl
def aK {α:Type} (K:Nat)(enc:α→List fb)(base:Nat)(ys:List α)(w:e_)(e:Ending)(w':e_):Prop:=∃ a c,e=.returned (.slice a ys.length c)∧ab K enc Flat w' a ys∧(∀ ad,a=some ad→base≤ad.block)∧Below base w w'
theorem zf5 (base:Nat)(x:Reg)(g c:Nat)(w:e_)(hv:ab 7 Reg.enc Flat w (some ⟨g,0,none⟩) [x])(hb:base≤w.heap.size) :
 fg fQ 184 #[.slice none 0 0,.int .i64 0,.slice (some ⟨g,0,none⟩) 1 c] w (aK 7 Reg.enc base [x] w):=by
 have HQ:=h_ (fun(v':fb) (w':e_) (ho:w'.ownsRow base 44 7 v' (0+[x].length) ([]++[x].flatMap Reg.enc)) (hg:w.grownBy w' (fZ none 0 0).ownBlock)=>(show aK 7 Reg.enc base [x] w (.returned v') w' from by
  obtain⟨a,c,rfl,hS⟩:=ax (k:=7) (enc:=Reg.enc) (Ok:=Flat) (xs:=[x]) (fun _=>rfl) ho (fun _ _=>trivial)
  exact⟨a,c,rfl,hS,fun ad had=>(ho.lt ad.block (by rw [had];rfl)).1,(gb base w).grown hg hb (fun j hj=>by simp [f_] at hj)⟩))
 obtain⟨j0,hj,hy0,hy1,hy2⟩:=ff Tryz.info44
 have JI:=h_ hj;have J0:=h_ hy0;have J1:=h_ hy1;have J2:=h_ hy2
 have HV:=h_ hv
 clear hj hy0 hy1 hy2 hv
 generalize aK 7 Reg.enc base [x] w=Q at *
 go_enter fW,fU
 go_wp2_with (at_builtin;refine ai (enc:=Reg.enc) (Ok:=Flat) _ rfl (.tmp 23) (.tmp 24) 23 rfl base 44 j0 _ 7 56 fS JI.out J0.out J1.out J2.out rfl (by decide) (fun _=>rfl) Reg.one _ 0 [] rfl (fJ _ _ _ _) (some ⟨g,0,none⟩) c [x] rfl HV.out ?h63 ?hb ?hbase ?_)
 case h63=>simp only [fp,fq];unfold maxLen;omega
 case hb=>simp only [fp,fq];omega
 case hbase=>exact hb
 intro v' w' ho hg _
 have HF:=h_ (HQ.out v' w' ho hg)
 obtain⟨a',c',rfl⟩:∃ a' c',v'=.slice a' 1 c':=by
  rcases ho.2 with⟨rfl,h0⟩|⟨g,cap,_,rfl,_⟩
  · simp at h0
  · exact⟨_,_,rfl⟩
 clear ho hg
 go_wp2_with fail
 exact HF.out
theorem zf6 (base b cap:Nat)(xs:List Reg)(x:Reg)(g c:Nat)(w:e_)(h:w.ownsRow base 44 7 (.slice (some ⟨b,0,none⟩) xs.length cap) xs.length (xs.flatMap Reg.enc))(hv:ab 7 Reg.enc Flat w (some ⟨g,0,none⟩) [x])(hl:xs.length≤8000000)(hb:base≤w.heap.size) :
 fg fQ 184 #[.slice (some ⟨b,0,none⟩) xs.length cap,.int .i64 xs.length,.slice (some ⟨g,0,none⟩) 1 c] w (aK 7 Reg.enc base (xs++[x]) w):=by
 have HQ:=h_ (fun(cp:Nat) (v':fb) (w':e_) (ho:w'.ownsRow base 44 7 v' (xs.length+1) (xs.flatMap Reg.enc++[x].flatMap Reg.enc)) (hg:w.grownBy w' (fZ (some ⟨b,0,none⟩) xs.length cp).ownBlock)=>(show aK 7 Reg.enc base (xs++[x]) w (.returned v') w' from by
  rw [←fr] at ho
  rw [show xs.length+1=(xs++[x]).length by simp] at ho
  obtain⟨a,c,rfl,hS⟩:=ax (k:=7) (enc:=Reg.enc) (Ok:=Flat) (fun _=>rfl) ho (fun _ _=>trivial)
  exact⟨a,c,rfl,hS,fun ad had=>(ho.lt ad.block (by rw [had];rfl)).1,(gb base w).grown hg hb (fun j hj=>(h.lt j hj).1)⟩))
 obtain⟨j0,hj,hy0,hy1,hy2⟩:=ff Tryz.info44
 have JI:=h_ hj;have J0:=h_ hy0;have J1:=h_ hy1;have J2:=h_ hy2
 have HO:=h_ h
 have HV:=h_ hv
 have hca:xs.length≤cap:=by
  rcases h.2 with⟨he,h0⟩|⟨g,cap,_,he,_,_,hc,_⟩
  · simp at he
  · simp only [gd] at he
    obtain⟨_,_,rfl⟩:=he
    exact hc
 have hcm:(cap:Int)≤9223372036854775807:=by
  rcases h.2 with⟨he,h0⟩|⟨g,cap,_,he,_,_,hc,hm,_⟩
  · simp at he
  · simp only [gd] at he
    obtain⟨_,_,rfl⟩:=he
    simp only [maxLen] at hm
    omega
 clear hj hy0 hy1 hy2 h hv
 generalize aK 7 Reg.enc base (xs++[x]) w=Q at *
 generalize xs.flatMap Reg.enc=cs at *
 generalize xs.length=n at *
 rcases(show cap=n∨¬ cap=n from Classical.em _) with hq|hq
 case' inl=>subst hq
 all_goals
  go_enter fW,fU
  go_wp2_with (at_builtin;refine ai (enc:=Reg.enc) (Ok:=Flat) _ rfl (.tmp 23) (.tmp 24) 23 rfl base 44 j0 _ 7 56 fS JI.out J0.out J1.out J2.out rfl (by decide) (fun _=>rfl) Reg.one _ _ cs rfl HO.out (some ⟨g,0,none⟩) c [x] rfl HV.out ?h63 ?hb ?hbase ?_)
  case h63=>simp only [fp,fq];unfold maxLen;omega
  case hb=>simp only [fp,fq];omega
  case hbase=>exact hb
  intro v' w' ho hg _
  have HF:=h_ (HQ.out _ v' w' ho hg)
  obtain⟨g',c',rfl⟩:=zci ho (by simp)
  clear ho hg
  go_wp2_with fail
  exact HF.out
theorem zd5 (base b i g cap vc:Nat)(xs:List Reg)(x:Reg)(w:e_)(h:w.ownsRow base 44 7 (.slice (some ⟨b,0,none⟩) xs.length cap) xs.length (xs.flatMap Reg.enc))(hv:w.heap[g]? =some (.cells x.enc.toArray 44 (0,0)))(hi:i<xs.length)(hroom:xs.length+1≤cap)(hgb:g≠b)(hl:xs.length≤8000000)(hbw:base≤w.heap.size) :
 fg fQ 184 #[.slice (some ⟨b,0,none⟩) xs.length cap,.int .i64 i,.slice (some ⟨g,0,none⟩) 1 vc] w (aK 7 Reg.enc base (bo xs i x) w):=by
 obtain⟨hbb,hbl⟩:=h.lt b rfl
 have hc63:cap≤9223372036854775807:=by
  rcases h.2 with⟨he,h0⟩|⟨g,cap,_,he,_,_,hc,hm,_⟩
  · simp at he
  · simp only [gd] at he
    obtain⟨_,_,rfl⟩:=he
    simp only [maxLen] at hm
    omega
 obtain⟨cur,hcur,hcs⟩:∃ cur,w.heap[b]? =some (.cells cur 44 (0,0))∧(xs.length+1)*7≤cur.size:=by
  rcases h.2 with⟨he,h0⟩|⟨g,cap,cur,he,_,hg,hc,hm,hz,_⟩
  · simp at he
  · simp only [gd,gf,gh,and_true,true_and] at he
    obtain⟨rfl,rfl⟩:=he
    exact⟨cur,hg,by first|(rw [hz];exact gm 7 hroom)|(rw [←hz];exact gm 7 hroom)|omega⟩
 have hfr:∀ j,w.frozen? ⟨b,j,none⟩=false:=h.frozenAt
 have hcell:∀ j u,(xs.flatMap Reg.enc)[j]? =some u→w.cell? ⟨b,j,none⟩=some u:=fun j u hu=>by
  have hj:=(fk.1 hu).1
  rw [h.cellAt j (by rw [←h.1];exact hj)]
  exact hu
 have hspc:∀ j,j<(xs.length+1)*7→(w.cell? ⟨b,j,none⟩).isSome=true:=fun j hj=>by
  rw [fe w b j cur 44 (0,0) hcur,gq (by omega)];rfl
 have hvc:∀ j u,x.enc[j]? =some u→w.cell? ⟨g,j,none⟩=some u:=fun j u hu=>by
  rw [fe w g j _ 44 (0,0) hv]
  simpa using hu
 have hsa:w.shape? g=some (44,7):=by
  have:x.enc.toArray.size=7:=rfl
  simp [fH,hv,this]
 have hsb:w.shape? b=some (44,cur.size):=by simp [fH,hcur]
 have hgf:∀ j,w.frozen? ⟨g,j,none⟩=false:=fun j=>by simp [fK,hv]
 have hz2:¬ ((i:Int)=(xs.length:Int)):=by omega
 have hsz:(fQ.info? 44).map (·.size)=some 7:=by kernel_rfl
 have hlen:=aC Reg.enc 7 (fun _=>rfl) xs
 have hln1:=aC Reg.enc 7 (fun _=>rfl) (xs.take i)
 have hln2:=aC Reg.enc 7 (fun _=>rfl) (xs.drop i)
 rw [fu,gp (by omega)] at hln1
 rw [fw] at hln2
 have hsplit:xs.flatMap Reg.enc=(xs.take i).flatMap Reg.enc++(xs.drop i).flatMap Reg.enc:=by rw [←fr,ft]
 have hc1:∀ j u,((xs.take i).flatMap Reg.enc)[j]? =some u→w.cell? ⟨b,j,none⟩=some u:=fun j u hu=>hcell j u (by
  rw [hsplit,fo (fk.1 hu).1];exact hu)
 have hc2:∀ j u,((xs.drop i).flatMap Reg.enc)[j]? =some u→w.cell? ⟨b,i*7+j,none⟩=some u:=fun j u hu=>hcell (i*7+j) u (by
  rw [hsplit,fm (by omega),hln1,gl];exact hu)
 have ho2:∀ v∈(xs.drop i).flatMap Reg.enc,v.oneCell'=true:=bP Reg.one _
 have hfl:=dr Reg.enc xs i x
 have hil:=cT xs i x (by omega)
 have hxl:x.enc.length=7:=rfl
 have hov:∀ lb cb,(callFunc 245 #[.slice (some ⟨g,0,none⟩) 1 vc,.slice (some ⟨b,(i+1)*7,none⟩) lb cb]).run fQ w=.ok (.value (.bool false)) w:=fun lb cb=>by
  rw [fi Tryz.func245 (by kernel_rfl) (by kernel_rfl) (by kernel_rfl) (e:=gw #[23,23] #[4]) (by kernel_rfl),
   fB w 23 4 44 fS 7 (fun w=>by kernel_rfl) ⟨g,0,none⟩ ⟨b,(i+1)*7,none⟩ 1 vc lb cb hgb 44 44 7 cur.size hsa hsb (by omega) (hgf 0) (hgf 7)]
  rfl
 have hcp1:∀ ty dc sc,(fN #[23,23] ty #[.slice (some ⟨b,(i+1)*7,none⟩) (xs.length-i) dc,.slice (some ⟨b,i*7,none⟩) (xs.length+1-i) sc]).run fQ w.drew=.ok (goInt (xs.length-i:Nat)) (w.drew.setCells b ((i+1)*7) ((xs.drop i).flatMap Reg.enc)):=fun ty dc sc =>
  bz w.drew _ _ ty 44 7 b ((i+1)*7) (xs.length-i) dc ⟨b,i*7,none⟩ (xs.length+1-i) sc (xs.length-i) _ fS hsz (by simp only [gj];split<;>omega) hln2
   (fun j v hj=>by rw [gy];exact hc2 j v hj) (fun j hj=>hspc _ (by omega)) (fun j hj=>hfr _) ho2
 obtain⟨W1,hW1⟩:∃ W1,W1=w.drew.setCells b ((i+1)*7) ((xs.drop i).flatMap Reg.enc):=⟨_,rfl⟩
 have hsp1:∀ k,k<(xs.length+1)*7→(W1.cell? ⟨b,k,none⟩).isSome=true:=fun k hk=>by
  rw [hW1]
  exact fz _ _ _ _ _ (hspc k hk)
 have hcp2:∀ (W:e_),(∀ x,W.cell? x=W1.cell? x)→(∀ x,W.frozen? x=W1.frozen? x)→∀ ty dc,(fN #[23,23] ty #[.slice (some ⟨b,i*7,none⟩) (xs.length+1-i) dc,.slice (some ⟨g,0,none⟩) 1 vc]).run fQ W=.ok (goInt (1:Nat)) (W.setCells b (i*7) x.enc):=fun W hWc hWf ty dc =>
  bz W _ _ ty 44 7 b (i*7) (xs.length+1-i) dc ⟨g,0,none⟩ 1 vc 1 _ fS hsz (by simp only [gj];split<;>omega) (by rw [hxl])
   (fun j v hj=>by
    rw [gy,hWc,hW1,fD b _ _ _ _ (fun h _=>absurd h hgb)]
    rw [gi]
    exact hvc j v hj)
   (fun j hj=>by rw [hWc];exact hsp1 _ (by omega)) (fun j hj=>by rw [hWf,hW1,fE];exact hfr _) (Reg.one x)
 rw [←hW1] at hcp1
 have HQ:=h_ (show aK 7 Reg.enc base (bo xs i x) w (.returned (.slice (some ⟨b,0,none⟩) (xs.length+1) cap)) (W1.setCells b (i*7) x.enc) from by
  have hbel:Below base w (W1.setCells b (i*7) x.enc):=by
   rw [hW1]
   exact fy b hbb _ _ (fy b hbb _ _ (gb base w).drew)
  refine⟨some ⟨b,0,none⟩,cap,by rw [hil],b9 (enc:=Reg.enc) (fun _=>rfl) ?_ ?_,fun ad had=>?_,hbel⟩
  · have:=hbel.size
    have h2:=(fy b (gk b) x.enc (i*7) (fy b (gk b) ((xs.drop i).flatMap Reg.enc) ((i+1)*7) (gb b w).drew)).size
    rw [←hW1] at h2
    omega
  · rw [hfl,hW1]
    have:=zbi (W:=w.drew) (g:=b) (L1:=(xs.take i).flatMap Reg.enc) (V:=x.enc) (L2:=(xs.drop i).flatMap Reg.enc) (fun j u hu=>by rw [gi];exact hc1 j u hu) (fun j hj=>hspc j (by rw [hln1,hln2,hxl] at hj;omega))
    rw [hln1,hxl,show i*7+7=(i+1)*7 by omega] at this
    exact this
  · obtain rfl:=gg had
    exact hbb)
 generalize aK 7 Reg.enc base (bo xs i x) w=Q at *
 have hHOV:=h_ hov
 have mixed:fQ.follows gz=true:=by kernel_rfl
 clear hfl hil hsplit hlen hln1 hln2 hc1 hc2 hcell hspc hvc hsa hsb hgf hfr hcs hcur h hv hsp1 hW1 hov
 generalize (xs.drop i).flatMap Reg.enc=ds at *
 generalize x.enc=xe at *
 generalize xs.length=n at *
 have hw1:gC.wrap ((i:Int)+1)=(i:Int)+1:=by rw [gA];omega
 have hw2:gC.wrap ((n:Int)+1)=(n:Int)+1:=by rw [gA];omega
 have hb1:(0:Int)≤(i:Int)+1:=by omega
 have hin:i≤n:=by omega
 have htn:((i:Int)+1).toNat=i+1:=by omega
 have htm:((n:Int)+1).toNat=n+1:=by omega
 have hb2:¬ (cap=i+1):=by omega
 have hb3:(i:Int)≤(n:Int)+1:=by omega
 have hb4:¬ (cap=i):=by omega
 have HCP1:=h_ hcp1
 have HCP2:=h_ hcp2
 clear hcp1 hcp2
 go_enter fW,fU
 go_wp2_with (simp only [hHOV.out])
 go_region_law_o (refine gE rfl _ _ 23 23 rfl (.slice (some ⟨b,(i+1)*7,none⟩) (n-i) (cap-(i+1))) (.slice (some ⟨b,i*7,none⟩) (n+1-i) (cap-i)) (by simp [gF,gG]) (by simp [gF,gG]) (HCP1.out 3 (cap-(i+1)) (cap-i)) ?_)
 go_wp2_with (refine gD _ rfl _ _ 23 23 rfl _ _ rfl rfl (HCP2.out _ (fun _=>rfl) (fun _=>rfl) _ _) ?_)
 exact HQ.out
theorem zeN (base b i g cap vc:Nat)(xs:List Reg)(x:Reg)(w:e_)(h:w.ownsRow base 44 7 (.slice (some ⟨b,0,none⟩) xs.length cap) xs.length (xs.flatMap Reg.enc))(hv:w.heap[g]? =some (.cells x.enc.toArray 44 (0,0)))(hi:i<xs.length)(hroom:cap<xs.length+1)(hl:xs.length≤8000000)(hbw:base≤w.heap.size) :
 fg fQ 184 #[.slice (some ⟨b,0,none⟩) xs.length cap,.int .i64 i,.slice (some ⟨g,0,none⟩) 1 vc] w (aK 7 Reg.enc base (bo xs i x) w):=by
 obtain⟨hbb,hbl⟩:=h.lt b rfl
 have hnc:xs.length≤cap:=by
  rcases h.2 with⟨he,h0⟩|⟨g,cap,cur,he,_,hg,hc,hm,hz,_⟩
  · simp at he
  · simp only [gd,gf,gh,and_true,true_and] at he
    obtain⟨rfl,rfl⟩:=he
    exact hc
 have hcell:∀ j u,(xs.flatMap Reg.enc)[j]? =some u→w.cell? ⟨b,j,none⟩=some u:=fun j u hu=>by
  have hj:=(fk.1 hu).1
  rw [h.cellAt j (by rw [←h.1];exact hj)]
  exact hu
 have hvc:∀ j u,x.enc[j]? =some u→w.cell? ⟨g,j,none⟩=some u:=fun j u hu=>by
  rw [fe w g j _ 44 (0,0) hv]
  simpa using hu
 have hvw:g<w.heap.size:=(gr.1 hv).1
 obtain⟨i0,hi0,hz0,hzs,hzb⟩:=ff Tryz.info44
 have hz2:¬ ((i:Int)=(xs.length:Int)):=by omega
 have hz3:(cap:Int)<(xs.length:Int)+1:=by omega
 have hsz:(fQ.info? 44).map (·.size)=some 7:=by kernel_rfl
 have hln1:=aC Reg.enc 7 (fun _=>rfl) (xs.take i)
 have hln2:=aC Reg.enc 7 (fun _=>rfl) (xs.drop i)
 rw [fu,gp (by omega)] at hln1
 rw [fw] at hln2
 have hsplit:xs.flatMap Reg.enc=(xs.take i).flatMap Reg.enc++(xs.drop i).flatMap Reg.enc:=by rw [←fr,ft]
 have hc1:∀ j u,((xs.take i).flatMap Reg.enc)[j]? =some u→w.cell? ⟨b,j,none⟩=some u:=fun j u hu=>hcell j u (by
  rw [hsplit,fo (fk.1 hu).1];exact hu)
 have hc2:∀ j u,((xs.drop i).flatMap Reg.enc)[j]? =some u→w.cell? ⟨b,i*7+j,none⟩=some u:=fun j u hu=>hcell (i*7+j) u (by
  rw [hsplit,fm (by omega),hln1,gl];exact hu)
 have hfl:=dr Reg.enc xs i x
 have hil:=cT xs i x (by omega)
 have hxl:x.enc.length=7:=rfl
 have hkk:(xs.length:Int)+1-(i:Int)=((xs.length+1-i:Nat):Int):=by omega
 have hik:i+(xs.length+1-i)=xs.length+1:=by omega
 have hold:(fO i0.size i (.slice (some ⟨b,0,none⟩) i cap)).run fQ w.drew=.ok ((xs.take i).flatMap Reg.enc).toArray w.drew:=by
  rw [hzs]
  exact fh w.drew 7 i ⟨b,0,none⟩ i cap _ hln1 (fun j v hj=>by
   rw [gy,gi]
   exact hc1 j v hj)
 have hbig:(xs.length+1)*56≤140737488355328:=by omega
 have hrz:∀ ty,(fP #[23,3] ty #[.slice (some ⟨b,0,none⟩) i cap,.int .i64 ((xs.length:Int)+1-(i:Int))]).run fQ w =
  .ok (.slice (some ⟨w.heap.size,0,none⟩) (xs.length+1) (grownCap w (xs.length+1) cap 44)) (w.drew.alloc (.cells (((xs.take i).flatMap Reg.enc).toArray++fM (fY #[.string ⟨#[]⟩,.int .i64 0,.int .i64 0,.int .i64 0,.int .i64 0,.int .u8 0,.bool false]).cells (xs.length+1-i)++fM (fY #[.string ⟨#[]⟩,.int .i64 0,.int .i64 0,.int .i64 0,.int .i64 0,.int .u8 0,.bool false]).cells (grownCap w (xs.length+1) cap 44-(xs.length+1))) 44)):=fun ty=>by
  have h:=fA w 23 3 ty 44 i0 _ .i64 .i64 fS fX hi0 hz0 (some ⟨b,0,none⟩) i cap _ hold (xs.length+1-i) (by omega) (by omega) (by omega) (by omega) (by rw [hzb];omega) (by rw [hzb,hik];exact growslice_fits hroom hbig)
  rw [hik] at h
  rw [hkk]
  exact h
 obtain⟨G,hG⟩:∃ G,G=grownCap w (xs.length+1) cap 44:=⟨_,rfl⟩
 obtain⟨ROW,hROW⟩:∃ ROW:Array fb,ROW=((xs.take i).flatMap Reg.enc).toArray++fM (fY #[.string ⟨#[]⟩,.int .i64 0,.int .i64 0,.int .i64 0,.int .i64 0,.int .u8 0,.bool false]).cells (xs.length+1-i)++fM (fY #[.string ⟨#[]⟩,.int .i64 0,.int .i64 0,.int .i64 0,.int .i64 0,.int .u8 0,.bool false]).cells (G-(xs.length+1)):=⟨_,rfl⟩
 rw [←hG] at hrz
 rw [←hROW] at hrz
 have hRl:(xs.length+1)*7≤ROW.size:=by
  rw [hROW]
  simp [fM,ga,hln1]
  omega
 have hR1:∀ j u,((xs.take i).flatMap Reg.enc)[j]? =some u→ROW[j]? =some u:=fun j u hu=>by
  have hj:=(fk.1 hu).1
  rw [hROW,gv,gu (by simpa using hj)]
  simpa using hu
 obtain⟨W1,hW1⟩:∃ W1,W1=w.drew.alloc (.cells ROW 44):=⟨_,rfl⟩
 rw [←hW1] at hrz
 have hN:∀ j,j<(xs.length+1)*7→(W1.cell? ⟨w.heap.size,j,none⟩).isSome=true:=fun j hj=>by
  rw [hW1,fG (w:=w.drew) ROW _ w.heap.size j rfl,gq (by omega)];rfl
 have hN1:∀ j u,((xs.take i).flatMap Reg.enc)[j]? =some u→W1.cell? ⟨w.heap.size,j,none⟩=some u:=fun j u hu=>by
  rw [hW1,fG (w:=w.drew) ROW _ w.heap.size j rfl];exact hR1 j u hu
 have hNf:∀ j,W1.frozen? ⟨w.heap.size,j,none⟩=false:=fun j=>by rw [hW1];exact fI (w:=w.drew) ROW _ w.heap.size j rfl
 have hOb:∀ j v,w.cell? ⟨b,j,none⟩=some v→W1.cell? ⟨b,j,none⟩=some v:=fun j v h=>by rw [hW1,fF (w:=w.drew) _ b j hbl];exact h
 have hOv:∀ j v,w.cell? ⟨g,j,none⟩=some v→W1.cell? ⟨g,j,none⟩=some v:=fun j v h=>by rw [hW1,fF (w:=w.drew) _ g j hvw];exact h
 have hcpA:∀ (W:e_),(∀ x,W.cell? x=W1.cell? x)→(∀ x,W.frozen? x=W1.frozen? x)→∀ ty dc,(fN #[23,23] ty #[.slice (some ⟨w.heap.size,i*7,none⟩) (xs.length+1-i) dc,.slice (some ⟨g,0,none⟩) 1 vc]).run fQ W=.ok (goInt (1:Nat)) (W.setCells w.heap.size (i*7) x.enc):=fun W hWc hWf ty dc =>
  bz W _ _ ty 44 7 w.heap.size (i*7) (xs.length+1-i) dc ⟨g,0,none⟩ 1 vc 1 _ fS hsz (by simp only [gj];split<;>omega) (by rw [hxl])
   (fun j v hj=>by rw [gy,hWc,gi];exact hOv _ v (hvc j v hj))
   (fun j hj=>by rw [hWc];exact hN _ (by omega)) (fun j hj=>by rw [hWf];exact hNf _) (Reg.one x)
 have hGn:xs.length+1≤G:=by rw [hG];exact grownCap_ge w _ _ _
 have hG63:G≤9223372036854775807:=by
  have:=fj w (xs.length+1) cap 44 (by unfold maxLen;omega)
  rw [←hG] at this
  unfold maxLen at this
  omega
 have hGi:¬ (G=i):=by omega
 have hGim:¬ (G=i+1):=by omega
 have hci:¬ (cap=i):=by omega
 have hbN:b≠w.heap.size:=by omega
 have hcpB:∀ (W:e_),(∀ y,W.cell? y=(W1.setCells w.heap.size (i*7) x.enc).cell? y)→(∀ y,W.frozen? y=(W1.setCells w.heap.size (i*7) x.enc).frozen? y)→∀ ty dc sc,(fN #[23,23] ty #[.slice (some ⟨w.heap.size,(i+1)*7,none⟩) (xs.length-i) dc,.slice (some ⟨b,i*7,none⟩) (xs.length-i) sc]).run fQ W=.ok (goInt (xs.length-i:Nat)) (W.setCells w.heap.size ((i+1)*7) ((xs.drop i).flatMap Reg.enc)):=fun W hWc hWf ty dc sc =>
  bz W _ _ ty 44 7 w.heap.size ((i+1)*7) (xs.length-i) dc ⟨b,i*7,none⟩ (xs.length-i) sc (xs.length-i) _ fS hsz (by simp only [gj];split<;>omega) hln2
   (fun j v hj=>by
    rw [gy,hWc,fD _ _ _ _ _ (fun h _=>absurd h hbN)]
    exact hOb _ v (hc2 j v hj))
   (fun j hj=>by rw [hWc];exact fz _ _ _ _ _ (hN _ (by omega)))
   (fun j hj=>by rw [hWf,fE];exact hNf _) (bP Reg.one _)
 have HQ:=h_ (fun(W:e_) (hW:W.heap=W1.heap) (hbel:Below base w W)=>(show aK 7 Reg.enc base (bo xs i x) w (.returned (.slice (some ⟨w.heap.size,0,none⟩) (xs.length+1) G)) ((W.setCells w.heap.size (i*7) x.enc).setCells w.heap.size ((i+1)*7) ((xs.drop i).flatMap Reg.enc)) from by
  have hWc:∀ y,W.cell? y=W1.cell? y:=fun y=>by simp [fL,hW]
  have hb2:Below base w ((W.setCells w.heap.size (i*7) x.enc).setCells w.heap.size ((i+1)*7) ((xs.drop i).flatMap Reg.enc)):=fy _ hbw _ _ (fy _ hbw _ _ hbel)
  refine⟨some ⟨w.heap.size,0,none⟩,G,by rw [hil],b9 (enc:=Reg.enc) (fun _=>rfl) ?_ ?_,fun ad had=>?_,hb2⟩
  · have h2:=(fy w.heap.size (gk _) ((xs.drop i).flatMap Reg.enc) ((i+1)*7) (fy w.heap.size (gk _) x.enc (i*7) (gb w.heap.size W))).size
    have h3:W.heap.size=w.heap.size+1:=by rw [hW,hW1];simp
    omega
  · rw [hfl]
    have:=zcm (W:=W) (g:=w.heap.size) (L1:=(xs.take i).flatMap Reg.enc) (V:=x.enc) (L2:=(xs.drop i).flatMap Reg.enc) (fun j u hu=>by rw [gi,hWc];exact hN1 j u hu) (fun j hj=>by rw [hWc];exact hN j (by rw [hln1,hln2,hxl] at hj;omega))
    rw [hln1,hxl,show i*7+7=(i+1)*7 by omega] at this
    exact this
  · obtain rfl:=gg had
    exact hbw))
 have hE1:∀ x,((w.alloc (.cells ROW 44)).drew).cell? x=(w.drew.alloc (.cells ROW 44)).cell? x:=fun x=>rfl
 have hE2:∀ x,((w.alloc (.cells ROW 44)).drew).frozen? x=(w.drew.alloc (.cells ROW 44)).frozen? x:=fun x=>rfl
 have hF1:=zak w (.cells ROW 44) w.heap.size (i*7) x.enc
 have hF2:=zaF w (.cells ROW 44) w.heap.size (i*7) x.enc
 subst hW1
 generalize aK 7 Reg.enc base (bo xs i x) w=Q at *
 have mixed:fQ.follows gz=true:=by kernel_rfl
 have HRZ:=h_ hrz
 have HCA:=h_ (hcpA _ hE1 hE2)
 have HCB:=h_ (hcpB _ hF1 hF2)
 have hw1:gC.wrap ((i:Int)+1)=(i:Int)+1:=by rw [gA];omega
 have hw2:gC.wrap ((xs.length:Int)+1)=(xs.length:Int)+1:=by rw [gA];omega
 have hw3:gC.wrap ((xs.length:Int)+1-(i:Int))=(xs.length:Int)+1-(i:Int):=by rw [gA];omega
 have hb1:(0:Int)≤(i:Int)+1:=by omega
 have hin:i≤xs.length:=by omega
 have htn:((i:Int)+1).toNat=i+1:=by omega
 have hb3:(i:Int)≤(xs.length:Int):=by omega
 have HB1:=h_ (show Below base w ((w.alloc (.cells ROW 44)).drew) from((gb _ _).alloc hbw _).drew)
 clear hkk hik hold hROW hG hRl hrz hcpA hcpB hR1 hN hN1 hNf hOb hOv hc1 hc2 hcell hvc hsplit hfl hil hln1 hln2 h hv hE1 hE2 hF1 hF2 hi0 hz0 hzs hzb hsz hbig
 generalize (xs.drop i).flatMap Reg.enc=ds at *
 generalize x.enc=xe at *
 generalize xs.length=n at *
 go_enter fW,fU
 go_wp2_with (first
  | (at_builtin;refine fC _ rfl _ _ _ _ rfl _ _ rfl rfl _ _ (HRZ.out _) ?_)
  | (refine gD _ rfl _ _ 23 23 rfl _ _ rfl rfl (HCA.out _ _) ?_))
 go_region_law_o (refine gE rfl _ _ 23 23 rfl (.slice (some ⟨w.heap.size,(i+1)*7,none⟩) (n-i) (G-(i+1))) (.slice (some ⟨b,i*7,none⟩) (n-i) (cap-i)) (by simp [gF,gG]) (by simp [gF,gG]) (HCB.out 3 (G-(i+1)) (cap-i)) ?_)
 go_wp2_with fail
 rw [show((w.alloc (.cells ROW 44)).drew.setCells w.heap.size (i*7) xe).drew=(w.alloc (.cells ROW 44)).drew.drew.setCells w.heap.size (i*7) xe from drew_setCells _ _ _ _]
 exact HQ.out _ rfl HB1.out.drew
theorem zhi (base:Nat)(x:Ev)(g c:Nat)(w:e_)(hv:ab 7 Ev.enc Flat w (some ⟨g,0,none⟩) [x])(hb:base≤w.heap.size) :
 fg fQ 188 #[.slice none 0 0,.int .i64 0,.slice (some ⟨g,0,none⟩) 1 c] w (aK 7 Ev.enc base [x] w):=by
 have HQ:=h_ (fun(v':fb) (w':e_) (ho:w'.ownsRow base 50 7 v' (0+[x].length) ([]++[x].flatMap Ev.enc)) (hg:w.grownBy w' (fZ none 0 0).ownBlock)=>(show aK 7 Ev.enc base [x] w (.returned v') w' from by
  obtain⟨a,c,rfl,hS⟩:=ax (k:=7) (enc:=Ev.enc) (Ok:=Flat) (xs:=[x]) (fun _=>rfl) ho (fun _ _=>trivial)
  exact⟨a,c,rfl,hS,fun ad had=>(ho.lt ad.block (by rw [had];rfl)).1,(gb base w).grown hg hb (fun j hj=>by simp [f_] at hj)⟩))
 obtain⟨j0,hj,hy0,hy1,hy2⟩:=ff Tryz.info50
 have JI:=h_ hj;have J0:=h_ hy0;have J1:=h_ hy1;have J2:=h_ hy2
 have HV:=h_ hv
 clear hj hy0 hy1 hy2 hv
 generalize aK 7 Ev.enc base [x] w=Q at *
 go_enter fV,fT
 go_wp2_with (at_builtin;refine ai (enc:=Ev.enc) (Ok:=Flat) _ rfl (.tmp 23) (.tmp 24) 24 rfl base 50 j0 _ 7 88 fR JI.out J0.out J1.out J2.out rfl (by decide) (fun _=>rfl) Ev.one _ 0 [] rfl (fJ _ _ _ _) (some ⟨g,0,none⟩) c [x] rfl HV.out ?h63 ?hb ?hbase ?_)
 case h63=>simp only [fp,fq];unfold maxLen;omega
 case hb=>simp only [fp,fq];omega
 case hbase=>exact hb
 intro v' w' ho hg _
 have HF:=h_ (HQ.out v' w' ho hg)
 obtain⟨a',c',rfl⟩:∃ a' c',v'=.slice a' 1 c':=by
  rcases ho.2 with⟨rfl,h0⟩|⟨g,cap,_,rfl,_⟩
  · simp at h0
  · exact⟨_,_,rfl⟩
 clear ho hg
 go_wp2_with fail
 exact HF.out
theorem zhj (base b cap:Nat)(xs:List Ev)(x:Ev)(g c:Nat)(w:e_)(h:w.ownsRow base 50 7 (.slice (some ⟨b,0,none⟩) xs.length cap) xs.length (xs.flatMap Ev.enc))(hv:ab 7 Ev.enc Flat w (some ⟨g,0,none⟩) [x])(hl:xs.length≤8000000)(hb:base≤w.heap.size) :
 fg fQ 188 #[.slice (some ⟨b,0,none⟩) xs.length cap,.int .i64 xs.length,.slice (some ⟨g,0,none⟩) 1 c] w (aK 7 Ev.enc base (xs++[x]) w):=by
 have HQ:=h_ (fun(cp:Nat) (v':fb) (w':e_) (ho:w'.ownsRow base 50 7 v' (xs.length+1) (xs.flatMap Ev.enc++[x].flatMap Ev.enc)) (hg:w.grownBy w' (fZ (some ⟨b,0,none⟩) xs.length cp).ownBlock)=>(show aK 7 Ev.enc base (xs++[x]) w (.returned v') w' from by
  rw [←fr] at ho
  rw [show xs.length+1=(xs++[x]).length by simp] at ho
  obtain⟨a,c,rfl,hS⟩:=ax (k:=7) (enc:=Ev.enc) (Ok:=Flat) (fun _=>rfl) ho (fun _ _=>trivial)
  exact⟨a,c,rfl,hS,fun ad had=>(ho.lt ad.block (by rw [had];rfl)).1,(gb base w).grown hg hb (fun j hj=>(h.lt j hj).1)⟩))
 obtain⟨j0,hj,hy0,hy1,hy2⟩:=ff Tryz.info50
 have JI:=h_ hj;have J0:=h_ hy0;have J1:=h_ hy1;have J2:=h_ hy2
 have HO:=h_ h
 have HV:=h_ hv
 have hca:xs.length≤cap:=by
  rcases h.2 with⟨he,h0⟩|⟨g,cap,_,he,_,_,hc,_⟩
  · simp at he
  · simp only [gd] at he
    obtain⟨_,_,rfl⟩:=he
    exact hc
 have hcm:(cap:Int)≤9223372036854775807:=by
  rcases h.2 with⟨he,h0⟩|⟨g,cap,_,he,_,_,hc,hm,_⟩
  · simp at he
  · simp only [gd] at he
    obtain⟨_,_,rfl⟩:=he
    simp only [maxLen] at hm
    omega
 clear hj hy0 hy1 hy2 h hv
 generalize aK 7 Ev.enc base (xs++[x]) w=Q at *
 generalize xs.flatMap Ev.enc=cs at *
 generalize xs.length=n at *
 rcases(show cap=n∨¬ cap=n from Classical.em _) with hq|hq
 case' inl=>subst hq
 all_goals
  go_enter fV,fT
  go_wp2_with (at_builtin;refine ai (enc:=Ev.enc) (Ok:=Flat) _ rfl (.tmp 23) (.tmp 24) 24 rfl base 50 j0 _ 7 88 fR JI.out J0.out J1.out J2.out rfl (by decide) (fun _=>rfl) Ev.one _ _ cs rfl HO.out (some ⟨g,0,none⟩) c [x] rfl HV.out ?h63 ?hb ?hbase ?_)
  case h63=>simp only [fp,fq];unfold maxLen;omega
  case hb=>simp only [fp,fq];omega
  case hbase=>exact hb
  intro v' w' ho hg _
  have HF:=h_ (HQ.out _ v' w' ho hg)
  obtain⟨g',c',rfl⟩:=zci ho (by simp)
  clear ho hg
  go_wp2_with fail
  exact HF.out
theorem zeO (base b i g cap vc:Nat)(xs:List Ev)(x:Ev)(w:e_)(h:w.ownsRow base 50 7 (.slice (some ⟨b,0,none⟩) xs.length cap) xs.length (xs.flatMap Ev.enc))(hv:w.heap[g]? =some (.cells x.enc.toArray 50 (0,0)))(hi:i<xs.length)(hroom:xs.length+1≤cap)(hgb:g≠b)(hl:xs.length≤8000000)(hbw:base≤w.heap.size) :
 fg fQ 188 #[.slice (some ⟨b,0,none⟩) xs.length cap,.int .i64 i,.slice (some ⟨g,0,none⟩) 1 vc] w (aK 7 Ev.enc base (bo xs i x) w):=by
 obtain⟨hbb,hbl⟩:=h.lt b rfl
 have hc63:cap≤9223372036854775807:=by
  rcases h.2 with⟨he,h0⟩|⟨g,cap,_,he,_,_,hc,hm,_⟩
  · simp at he
  · simp only [gd] at he
    obtain⟨_,_,rfl⟩:=he
    simp only [maxLen] at hm
    omega
 obtain⟨cur,hcur,hcs⟩:∃ cur,w.heap[b]? =some (.cells cur 50 (0,0))∧(xs.length+1)*7≤cur.size:=by
  rcases h.2 with⟨he,h0⟩|⟨g,cap,cur,he,_,hg,hc,hm,hz,_⟩
  · simp at he
  · simp only [gd,gf,gh,and_true,true_and] at he
    obtain⟨rfl,rfl⟩:=he
    exact⟨cur,hg,by first|(rw [hz];exact gm 7 hroom)|(rw [←hz];exact gm 7 hroom)|omega⟩
 have hfr:∀ j,w.frozen? ⟨b,j,none⟩=false:=h.frozenAt
 have hcell:∀ j u,(xs.flatMap Ev.enc)[j]? =some u→w.cell? ⟨b,j,none⟩=some u:=fun j u hu=>by
  have hj:=(fk.1 hu).1
  rw [h.cellAt j (by rw [←h.1];exact hj)]
  exact hu
 have hspc:∀ j,j<(xs.length+1)*7→(w.cell? ⟨b,j,none⟩).isSome=true:=fun j hj=>by
  rw [fe w b j cur 50 (0,0) hcur,gq (by omega)];rfl
 have hvc:∀ j u,x.enc[j]? =some u→w.cell? ⟨g,j,none⟩=some u:=fun j u hu=>by
  rw [fe w g j _ 50 (0,0) hv]
  simpa using hu
 have hsa:w.shape? g=some (50,7):=by
  have:x.enc.toArray.size=7:=rfl
  simp [fH,hv,this]
 have hsb:w.shape? b=some (50,cur.size):=by simp [fH,hcur]
 have hgf:∀ j,w.frozen? ⟨g,j,none⟩=false:=fun j=>by simp [fK,hv]
 have hz2:¬ ((i:Int)=(xs.length:Int)):=by omega
 have hsz:(fQ.info? 50).map (·.size)=some 7:=by kernel_rfl
 have hlen:=aC Ev.enc 7 (fun _=>rfl) xs
 have hln1:=aC Ev.enc 7 (fun _=>rfl) (xs.take i)
 have hln2:=aC Ev.enc 7 (fun _=>rfl) (xs.drop i)
 rw [fu,gp (by omega)] at hln1
 rw [fw] at hln2
 have hsplit:xs.flatMap Ev.enc=(xs.take i).flatMap Ev.enc++(xs.drop i).flatMap Ev.enc:=by rw [←fr,ft]
 have hc1:∀ j u,((xs.take i).flatMap Ev.enc)[j]? =some u→w.cell? ⟨b,j,none⟩=some u:=fun j u hu=>hcell j u (by
  rw [hsplit,fo (fk.1 hu).1];exact hu)
 have hc2:∀ j u,((xs.drop i).flatMap Ev.enc)[j]? =some u→w.cell? ⟨b,i*7+j,none⟩=some u:=fun j u hu=>hcell (i*7+j) u (by
  rw [hsplit,fm (by omega),hln1,gl];exact hu)
 have ho2:∀ v∈(xs.drop i).flatMap Ev.enc,v.oneCell'=true:=bP Ev.one _
 have hfl:=dr Ev.enc xs i x
 have hil:=cT xs i x (by omega)
 have hxl:x.enc.length=7:=rfl
 have hov:∀ lb cb,(callFunc 248 #[.slice (some ⟨g,0,none⟩) 1 vc,.slice (some ⟨b,(i+1)*7,none⟩) lb cb]).run fQ w=.ok (.value (.bool false)) w:=fun lb cb=>by
  rw [fi Tryz.func248 (by kernel_rfl) (by kernel_rfl) (by kernel_rfl) (e:=gw #[24,24] #[4]) (by kernel_rfl),
   fB w 24 4 50 fR 7 (fun w=>by kernel_rfl) ⟨g,0,none⟩ ⟨b,(i+1)*7,none⟩ 1 vc lb cb hgb 50 50 7 cur.size hsa hsb (by omega) (hgf 0) (hgf 7)]
  rfl
 have hcp1:∀ ty dc sc,(fN #[24,24] ty #[.slice (some ⟨b,(i+1)*7,none⟩) (xs.length-i) dc,.slice (some ⟨b,i*7,none⟩) (xs.length+1-i) sc]).run fQ w.drew=.ok (goInt (xs.length-i:Nat)) (w.drew.setCells b ((i+1)*7) ((xs.drop i).flatMap Ev.enc)):=fun ty dc sc =>
  bz w.drew _ _ ty 50 7 b ((i+1)*7) (xs.length-i) dc ⟨b,i*7,none⟩ (xs.length+1-i) sc (xs.length-i) _ fR hsz (by simp only [gj];split<;>omega) hln2
   (fun j v hj=>by rw [gy];exact hc2 j v hj) (fun j hj=>hspc _ (by omega)) (fun j hj=>hfr _) ho2
 obtain⟨W1,hW1⟩:∃ W1,W1=w.drew.setCells b ((i+1)*7) ((xs.drop i).flatMap Ev.enc):=⟨_,rfl⟩
 have hsp1:∀ k,k<(xs.length+1)*7→(W1.cell? ⟨b,k,none⟩).isSome=true:=fun k hk=>by
  rw [hW1]
  exact fz _ _ _ _ _ (hspc k hk)
 have hcp2:∀ (W:e_),(∀ x,W.cell? x=W1.cell? x)→(∀ x,W.frozen? x=W1.frozen? x)→∀ ty dc,(fN #[24,24] ty #[.slice (some ⟨b,i*7,none⟩) (xs.length+1-i) dc,.slice (some ⟨g,0,none⟩) 1 vc]).run fQ W=.ok (goInt (1:Nat)) (W.setCells b (i*7) x.enc):=fun W hWc hWf ty dc =>
  bz W _ _ ty 50 7 b (i*7) (xs.length+1-i) dc ⟨g,0,none⟩ 1 vc 1 _ fR hsz (by simp only [gj];split<;>omega) (by rw [hxl])
   (fun j v hj=>by
    rw [gy,hWc,hW1,fD b _ _ _ _ (fun h _=>absurd h hgb)]
    rw [gi]
    exact hvc j v hj)
   (fun j hj=>by rw [hWc];exact hsp1 _ (by omega)) (fun j hj=>by rw [hWf,hW1,fE];exact hfr _) (Ev.one x)
 rw [←hW1] at hcp1
 have HQ:=h_ (show aK 7 Ev.enc base (bo xs i x) w (.returned (.slice (some ⟨b,0,none⟩) (xs.length+1) cap)) (W1.setCells b (i*7) x.enc) from by
  have hbel:Below base w (W1.setCells b (i*7) x.enc):=by
   rw [hW1]
   exact fy b hbb _ _ (fy b hbb _ _ (gb base w).drew)
  refine⟨some ⟨b,0,none⟩,cap,by rw [hil],b9 (enc:=Ev.enc) (fun _=>rfl) ?_ ?_,fun ad had=>?_,hbel⟩
  · have:=hbel.size
    have h2:=(fy b (gk b) x.enc (i*7) (fy b (gk b) ((xs.drop i).flatMap Ev.enc) ((i+1)*7) (gb b w).drew)).size
    rw [←hW1] at h2
    omega
  · rw [hfl,hW1]
    have:=zbi (W:=w.drew) (g:=b) (L1:=(xs.take i).flatMap Ev.enc) (V:=x.enc) (L2:=(xs.drop i).flatMap Ev.enc) (fun j u hu=>by rw [gi];exact hc1 j u hu) (fun j hj=>hspc j (by rw [hln1,hln2,hxl] at hj;omega))
    rw [hln1,hxl,show i*7+7=(i+1)*7 by omega] at this
    exact this
  · obtain rfl:=gg had
    exact hbb)
 generalize aK 7 Ev.enc base (bo xs i x) w=Q at *
 have hHOV:=h_ hov
 have mixed:fQ.follows gz=true:=by kernel_rfl
 clear hfl hil hsplit hlen hln1 hln2 hc1 hc2 hcell hspc hvc hsa hsb hgf hfr hcs hcur h hv hsp1 hW1 hov
 generalize (xs.drop i).flatMap Ev.enc=ds at *
 generalize x.enc=xe at *
 generalize xs.length=n at *
 have hw1:gC.wrap ((i:Int)+1)=(i:Int)+1:=by rw [gA];omega
 have hw2:gC.wrap ((n:Int)+1)=(n:Int)+1:=by rw [gA];omega
 have hb1:(0:Int)≤(i:Int)+1:=by omega
 have hin:i≤n:=by omega
 have htn:((i:Int)+1).toNat=i+1:=by omega
 have htm:((n:Int)+1).toNat=n+1:=by omega
 have hb2:¬ (cap=i+1):=by omega
 have hb3:(i:Int)≤(n:Int)+1:=by omega
 have hb4:¬ (cap=i):=by omega
 have HCP1:=h_ hcp1
 have HCP2:=h_ hcp2
 clear hcp1 hcp2
 go_enter fV,fT
 go_wp2_with (simp only [hHOV.out])
 go_region_law_o (refine gE rfl _ _ 24 24 rfl (.slice (some ⟨b,(i+1)*7,none⟩) (n-i) (cap-(i+1))) (.slice (some ⟨b,i*7,none⟩) (n+1-i) (cap-i)) (by simp [gF,gG]) (by simp [gF,gG]) (HCP1.out 3 (cap-(i+1)) (cap-i)) ?_)
 go_wp2_with (refine gD _ rfl _ _ 24 24 rfl _ _ rfl rfl (HCP2.out _ (fun _=>rfl) (fun _=>rfl) _ _) ?_)
 exact HQ.out
theorem zf7 (base b i g cap vc:Nat)(xs:List Ev)(x:Ev)(w:e_)(h:w.ownsRow base 50 7 (.slice (some ⟨b,0,none⟩) xs.length cap) xs.length (xs.flatMap Ev.enc))(hv:w.heap[g]? =some (.cells x.enc.toArray 50 (0,0)))(hi:i<xs.length)(hroom:cap<xs.length+1)(hl:xs.length≤8000000)(hbw:base≤w.heap.size) :
 fg fQ 188 #[.slice (some ⟨b,0,none⟩) xs.length cap,.int .i64 i,.slice (some ⟨g,0,none⟩) 1 vc] w (aK 7 Ev.enc base (bo xs i x) w):=by
 obtain⟨hbb,hbl⟩:=h.lt b rfl
 have hnc:xs.length≤cap:=by
  rcases h.2 with⟨he,h0⟩|⟨g,cap,cur,he,_,hg,hc,hm,hz,_⟩
  · simp at he
  · simp only [gd,gf,gh,and_true,true_and] at he
    obtain⟨rfl,rfl⟩:=he
    exact hc
 have hcell:∀ j u,(xs.flatMap Ev.enc)[j]? =some u→w.cell? ⟨b,j,none⟩=some u:=fun j u hu=>by
  have hj:=(fk.1 hu).1
  rw [h.cellAt j (by rw [←h.1];exact hj)]
  exact hu
 have hvc:∀ j u,x.enc[j]? =some u→w.cell? ⟨g,j,none⟩=some u:=fun j u hu=>by
  rw [fe w g j _ 50 (0,0) hv]
  simpa using hu
 have hvw:g<w.heap.size:=(gr.1 hv).1
 obtain⟨i0,hi0,hz0,hzs,hzb⟩:=ff Tryz.info50
 have hz2:¬ ((i:Int)=(xs.length:Int)):=by omega
 have hz3:(cap:Int)<(xs.length:Int)+1:=by omega
 have hsz:(fQ.info? 50).map (·.size)=some 7:=by kernel_rfl
 have hln1:=aC Ev.enc 7 (fun _=>rfl) (xs.take i)
 have hln2:=aC Ev.enc 7 (fun _=>rfl) (xs.drop i)
 rw [fu,gp (by omega)] at hln1
 rw [fw] at hln2
 have hsplit:xs.flatMap Ev.enc=(xs.take i).flatMap Ev.enc++(xs.drop i).flatMap Ev.enc:=by rw [←fr,ft]
 have hc1:∀ j u,((xs.take i).flatMap Ev.enc)[j]? =some u→w.cell? ⟨b,j,none⟩=some u:=fun j u hu=>hcell j u (by
  rw [hsplit,fo (fk.1 hu).1];exact hu)
 have hc2:∀ j u,((xs.drop i).flatMap Ev.enc)[j]? =some u→w.cell? ⟨b,i*7+j,none⟩=some u:=fun j u hu=>hcell (i*7+j) u (by
  rw [hsplit,fm (by omega),hln1,gl];exact hu)
 have hfl:=dr Ev.enc xs i x
 have hil:=cT xs i x (by omega)
 have hxl:x.enc.length=7:=rfl
 have hkk:(xs.length:Int)+1-(i:Int)=((xs.length+1-i:Nat):Int):=by omega
 have hik:i+(xs.length+1-i)=xs.length+1:=by omega
 have hold:(fO i0.size i (.slice (some ⟨b,0,none⟩) i cap)).run fQ w.drew=.ok ((xs.take i).flatMap Ev.enc).toArray w.drew:=by
  rw [hzs]
  exact fh w.drew 7 i ⟨b,0,none⟩ i cap _ hln1 (fun j v hj=>by
   rw [gy,gi]
   exact hc1 j v hj)
 have hbig:(xs.length+1)*88≤140737488355328:=by omega
 have hrz:∀ ty,(fP #[24,3] ty #[.slice (some ⟨b,0,none⟩) i cap,.int .i64 ((xs.length:Int)+1-(i:Int))]).run fQ w =
  .ok (.slice (some ⟨w.heap.size,0,none⟩) (xs.length+1) (grownCap w (xs.length+1) cap 50)) (w.drew.alloc (.cells (((xs.take i).flatMap Ev.enc).toArray++fM (fY #[.int .i64 0,.int .i64 0,.int .i64 0,.string ⟨#[]⟩,.int .u8 0,.string ⟨#[]⟩,.slice none 0 0]).cells (xs.length+1-i)++fM (fY #[.int .i64 0,.int .i64 0,.int .i64 0,.string ⟨#[]⟩,.int .u8 0,.string ⟨#[]⟩,.slice none 0 0]).cells (grownCap w (xs.length+1) cap 50-(xs.length+1))) 50)):=fun ty=>by
  have h:=fA w 24 3 ty 50 i0 _ .i64 .i64 fR fX hi0 hz0 (some ⟨b,0,none⟩) i cap _ hold (xs.length+1-i) (by omega) (by omega) (by omega) (by omega) (by rw [hzb];omega) (by rw [hzb,hik];exact growslice_fits hroom hbig)
  rw [hik] at h
  rw [hkk]
  exact h
 obtain⟨G,hG⟩:∃ G,G=grownCap w (xs.length+1) cap 50:=⟨_,rfl⟩
 obtain⟨ROW,hROW⟩:∃ ROW:Array fb,ROW=((xs.take i).flatMap Ev.enc).toArray++fM (fY #[.int .i64 0,.int .i64 0,.int .i64 0,.string ⟨#[]⟩,.int .u8 0,.string ⟨#[]⟩,.slice none 0 0]).cells (xs.length+1-i)++fM (fY #[.int .i64 0,.int .i64 0,.int .i64 0,.string ⟨#[]⟩,.int .u8 0,.string ⟨#[]⟩,.slice none 0 0]).cells (G-(xs.length+1)):=⟨_,rfl⟩
 rw [←hG] at hrz
 rw [←hROW] at hrz
 have hRl:(xs.length+1)*7≤ROW.size:=by
  rw [hROW]
  simp [fM,ga,hln1]
  omega
 have hR1:∀ j u,((xs.take i).flatMap Ev.enc)[j]? =some u→ROW[j]? =some u:=fun j u hu=>by
  have hj:=(fk.1 hu).1
  rw [hROW,gv,gu (by simpa using hj)]
  simpa using hu
 obtain⟨W1,hW1⟩:∃ W1,W1=w.drew.alloc (.cells ROW 50):=⟨_,rfl⟩
 rw [←hW1] at hrz
 have hN:∀ j,j<(xs.length+1)*7→(W1.cell? ⟨w.heap.size,j,none⟩).isSome=true:=fun j hj=>by
  rw [hW1,fG (w:=w.drew) ROW _ w.heap.size j rfl,gq (by omega)];rfl
 have hN1:∀ j u,((xs.take i).flatMap Ev.enc)[j]? =some u→W1.cell? ⟨w.heap.size,j,none⟩=some u:=fun j u hu=>by
  rw [hW1,fG (w:=w.drew) ROW _ w.heap.size j rfl];exact hR1 j u hu
 have hNf:∀ j,W1.frozen? ⟨w.heap.size,j,none⟩=false:=fun j=>by rw [hW1];exact fI (w:=w.drew) ROW _ w.heap.size j rfl
 have hOb:∀ j v,w.cell? ⟨b,j,none⟩=some v→W1.cell? ⟨b,j,none⟩=some v:=fun j v h=>by rw [hW1,fF (w:=w.drew) _ b j hbl];exact h
 have hOv:∀ j v,w.cell? ⟨g,j,none⟩=some v→W1.cell? ⟨g,j,none⟩=some v:=fun j v h=>by rw [hW1,fF (w:=w.drew) _ g j hvw];exact h
 have hcpA:∀ (W:e_),(∀ x,W.cell? x=W1.cell? x)→(∀ x,W.frozen? x=W1.frozen? x)→∀ ty dc,(fN #[24,24] ty #[.slice (some ⟨w.heap.size,i*7,none⟩) (xs.length+1-i) dc,.slice (some ⟨g,0,none⟩) 1 vc]).run fQ W=.ok (goInt (1:Nat)) (W.setCells w.heap.size (i*7) x.enc):=fun W hWc hWf ty dc =>
  bz W _ _ ty 50 7 w.heap.size (i*7) (xs.length+1-i) dc ⟨g,0,none⟩ 1 vc 1 _ fR hsz (by simp only [gj];split<;>omega) (by rw [hxl])
   (fun j v hj=>by rw [gy,hWc,gi];exact hOv _ v (hvc j v hj))
   (fun j hj=>by rw [hWc];exact hN _ (by omega)) (fun j hj=>by rw [hWf];exact hNf _) (Ev.one x)
 have hGn:xs.length+1≤G:=by rw [hG];exact grownCap_ge w _ _ _
 have hG63:G≤9223372036854775807:=by
  have:=fj w (xs.length+1) cap 50 (by unfold maxLen;omega)
  rw [←hG] at this
  unfold maxLen at this
  omega
 have hGi:¬ (G=i):=by omega
 have hGim:¬ (G=i+1):=by omega
 have hci:¬ (cap=i):=by omega
 have hbN:b≠w.heap.size:=by omega
 have hcpB:∀ (W:e_),(∀ y,W.cell? y=(W1.setCells w.heap.size (i*7) x.enc).cell? y)→(∀ y,W.frozen? y=(W1.setCells w.heap.size (i*7) x.enc).frozen? y)→∀ ty dc sc,(fN #[24,24] ty #[.slice (some ⟨w.heap.size,(i+1)*7,none⟩) (xs.length-i) dc,.slice (some ⟨b,i*7,none⟩) (xs.length-i) sc]).run fQ W=.ok (goInt (xs.length-i:Nat)) (W.setCells w.heap.size ((i+1)*7) ((xs.drop i).flatMap Ev.enc)):=fun W hWc hWf ty dc sc =>
  bz W _ _ ty 50 7 w.heap.size ((i+1)*7) (xs.length-i) dc ⟨b,i*7,none⟩ (xs.length-i) sc (xs.length-i) _ fR hsz (by simp only [gj];split<;>omega) hln2
   (fun j v hj=>by
    rw [gy,hWc,fD _ _ _ _ _ (fun h _=>absurd h hbN)]
    exact hOb _ v (hc2 j v hj))
   (fun j hj=>by rw [hWc];exact fz _ _ _ _ _ (hN _ (by omega)))
   (fun j hj=>by rw [hWf,fE];exact hNf _) (bP Ev.one _)
 have HQ:=h_ (fun(W:e_) (hW:W.heap=W1.heap) (hbel:Below base w W)=>(show aK 7 Ev.enc base (bo xs i x) w (.returned (.slice (some ⟨w.heap.size,0,none⟩) (xs.length+1) G)) ((W.setCells w.heap.size (i*7) x.enc).setCells w.heap.size ((i+1)*7) ((xs.drop i).flatMap Ev.enc)) from by
  have hWc:∀ y,W.cell? y=W1.cell? y:=fun y=>by simp [fL,hW]
  have hb2:Below base w ((W.setCells w.heap.size (i*7) x.enc).setCells w.heap.size ((i+1)*7) ((xs.drop i).flatMap Ev.enc)):=fy _ hbw _ _ (fy _ hbw _ _ hbel)
  refine⟨some ⟨w.heap.size,0,none⟩,G,by rw [hil],b9 (enc:=Ev.enc) (fun _=>rfl) ?_ ?_,fun ad had=>?_,hb2⟩
  · have h2:=(fy w.heap.size (gk _) ((xs.drop i).flatMap Ev.enc) ((i+1)*7) (fy w.heap.size (gk _) x.enc (i*7) (gb w.heap.size W))).size
    have h3:W.heap.size=w.heap.size+1:=by rw [hW,hW1];simp
    omega
  · rw [hfl]
    have:=zcm (W:=W) (g:=w.heap.size) (L1:=(xs.take i).flatMap Ev.enc) (V:=x.enc) (L2:=(xs.drop i).flatMap Ev.enc) (fun j u hu=>by rw [gi,hWc];exact hN1 j u hu) (fun j hj=>by rw [hWc];exact hN j (by rw [hln1,hln2,hxl] at hj;omega))
    rw [hln1,hxl,show i*7+7=(i+1)*7 by omega] at this
    exact this
  · obtain rfl:=gg had
    exact hbw))
 have hE1:∀ x,((w.alloc (.cells ROW 50)).drew).cell? x=(w.drew.alloc (.cells ROW 50)).cell? x:=fun x=>rfl
 have hE2:∀ x,((w.alloc (.cells ROW 50)).drew).frozen? x=(w.drew.alloc (.cells ROW 50)).frozen? x:=fun x=>rfl
 have hF1:=zak w (.cells ROW 50) w.heap.size (i*7) x.enc
 have hF2:=zaF w (.cells ROW 50) w.heap.size (i*7) x.enc
 subst hW1
 generalize aK 7 Ev.enc base (bo xs i x) w=Q at *
 have mixed:fQ.follows gz=true:=by kernel_rfl
 have HRZ:=h_ hrz
 have HCA:=h_ (hcpA _ hE1 hE2)
 have HCB:=h_ (hcpB _ hF1 hF2)
 have hw1:gC.wrap ((i:Int)+1)=(i:Int)+1:=by rw [gA];omega
 have hw2:gC.wrap ((xs.length:Int)+1)=(xs.length:Int)+1:=by rw [gA];omega
 have hw3:gC.wrap ((xs.length:Int)+1-(i:Int))=(xs.length:Int)+1-(i:Int):=by rw [gA];omega
 have hb1:(0:Int)≤(i:Int)+1:=by omega
 have hin:i≤xs.length:=by omega
 have htn:((i:Int)+1).toNat=i+1:=by omega
 have hb3:(i:Int)≤(xs.length:Int):=by omega
 have HB1:=h_ (show Below base w ((w.alloc (.cells ROW 50)).drew) from((gb _ _).alloc hbw _).drew)
 clear hkk hik hold hROW hG hRl hrz hcpA hcpB hR1 hN hN1 hNf hOb hOv hc1 hc2 hcell hvc hsplit hfl hil hln1 hln2 h hv hE1 hE2 hF1 hF2 hi0 hz0 hzs hzb hsz hbig
 generalize (xs.drop i).flatMap Ev.enc=ds at *
 generalize x.enc=xe at *
 generalize xs.length=n at *
 go_enter fV,fT
 go_wp2_with (first
  | (at_builtin;refine fC _ rfl _ _ _ _ rfl _ _ rfl rfl _ _ (HRZ.out _) ?_)
  | (refine gD _ rfl _ _ 24 24 rfl _ _ rfl rfl (HCA.out _ _) ?_))
 go_region_law_o (refine gE rfl _ _ 24 24 rfl (.slice (some ⟨w.heap.size,(i+1)*7,none⟩) (n-i) (G-(i+1))) (.slice (some ⟨b,i*7,none⟩) (n-i) (cap-i)) (by simp [gF,gG]) (by simp [gF,gG]) (HCB.out 3 (G-(i+1)) (cap-i)) ?_)
 go_wp2_with fail
 rw [show((w.alloc (.cells ROW 50)).drew.setCells w.heap.size (i*7) xe).drew=(w.alloc (.cells ROW 50)).drew.drew.setCells w.heap.size (i*7) xe from drew_setCells _ _ _ _]
 exact HQ.out _ rfl HB1.out.drew
end Go.Proofs.YtnlnmbcaongehaaGreatDoor
