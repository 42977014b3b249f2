/- slices.Insert of one element at regions, events and comments. The contract of document.Sort: copies of the events, in order. slices.Insert of one element at regions, events and comments. -/
import Derived.Lib.SlBuf
import Derived.Shelf.Spec.SlicesInsertGrow
import Derived.Test.YtjebaagkomejaaaGreatDoorK09
import Derived.Test.YtjebaagkomejaaaGreatDoorK08
set_option linter.unusedVariables false
set_option linter.unusedSimpArgs false
set_option maxRecDepth 100000
set_option maxHeartbeats 12800000
open Go.Lib renaming hid→h_
open Go renaming World→Sj,Value→Sk,wp_loop_rounds→Sl,info_parts→Sm,Calls→Sn,rounds_succ→Sp,cell_of_row→Sq
open List renaming getElem?_eq_some_iff→Sr,getElem?_append_right→Ss,getElem?_append_left→St,length_cons→Su,length_nil→Sv,flatMap_append→Sw,length_append→Sx,getElem?_eq_getElem→Sy,take_append_drop→Sz,size_toArray→SA,length_take→SB,length_drop→SC,map_append→SD
open Go.Lib renaming below_setCells→SF,isSome_setCells→SG
open Go.World renaming cell?_setCells_out→SH,frozen?_setCells→SI,cell?_alloc_past→SJ,cell?_alloc_at→SK,shape?→SL
open Go.Builtin renaming zeroCells→SM,copy_→SN,firstCells→SO
open Go.RowKit renaming Below→SQ
open Go.Value renaming agg→SR,slice→SS
open Go.RowKit.Below renaming refl→SU
open Go.Value.slice renaming injEq→SV
open Option.some renaming injEq→SW,inj→SX
open Nat renaming le_refl→SY,zero_add→SZ,mul_le_mul_right→S5,min_def→S6,add_sub_cancel_left→S7,lt_of_lt_of_le→S8,min_eq_left→S9,mul_comm→S_,le_trans→Ta,zero_le→Tb
open Array renaming getElem?_eq_getElem→Tc,getElem?_eq_some_iff→Td,getElem?_toList→Te,getElem?_modify→Tf
open Go.Addr renaming add_lit→Tg
open Go.IntKind renaming wrap_i64→Th,i64→Ti
open Go.Act renaming eval→Tj,put→Tk
open Go.Sort renaming putCells→Tl,putRowK→Tm,heap_grow_old→Tn,size_flatK→To,mapBlock→Tp,putRow→Tq,flatK→Tr
namespace Go.Proofs.YtjebaagkomejaaaGreatDoor
open Go.RowKit Go.Lib
theorem iJ {α:Type} {K:Nat} {enc:α→List Sk} (hk:∀ x,(enc x).length=K) {w:Sj} {b off:Nat} {xs:List α} (hb:b<w.heap.size)(h:∀ j u,(xs.flatMap enc)[j]? =some u→w.cell? ⟨b,off+j,none⟩=some u):ah K enc Flat w (some ⟨b,off,none⟩) xs :=
 .inr ⟨b,off,rfl,hb,fun i x hx=>⟨fun j v hv=>by
  have:=h _ _ (cK enc K hk xs i x j v hx hv)
  rwa [←Nat.add_assoc] at this,trivial⟩⟩
def fc {α:Type} (xs:List α)(k:Nat)(x:α):List α:=xs.take k++[x]++xs.drop k
theorem sE {α:Type} (xs:List α)(k:Nat)(x:α)(hk:k≤xs.length):(fc xs k x).length=xs.length+1:=by
 unfold fc
 simp
 omega
theorem Aj {α:Type} (xs:List α)(x:α):fc xs xs.length x=xs++[x]:=by simp [fc]
theorem po {α:Type} (enc:α→List Sk)(xs:List α)(k:Nat)(x:α):(fc xs k x).flatMap enc=(xs.take k).flatMap enc++enc x++(xs.drop k).flatMap enc:=by simp [fc]
theorem rN {L1 V L2:List Sk} {j:Nat} {u:Sk} (h:(L1++V++L2)[j]? =some u):L1[j]? =some u∨(L1.length≤j∧V[j-L1.length]? =some u)∨(L1.length+V.length≤j∧L2[j-(L1.length+V.length)]? =some u):=by
 by_cases h1:j<L1.length
 · rw [List.append_assoc,St h1] at h
   exact .inl h
 · by_cases h2:j<L1.length+V.length
   · rw [St (by rw [Sx];omega),Ss (by omega)] at h
     exact .inr (.inl ⟨by omega,h⟩)
   · rw [Ss (by rw [Sx];omega),Sx] at h
     exact .inr (.inr ⟨by omega,h⟩)
theorem pU {W:Sj} {g o:Nat} {V:List Sk} (hs:∀ j,j<V.length→(W.cell? ⟨g,o+j,none⟩).isSome=true)(t:Nat)(u:Sk)(hu:V[t]? =some u):(W.setCells g o V).cell? ⟨g,o+t,none⟩=some u:=by
 have ht:=(Sr.1 hu).1
 rw [Sj.cell?_setCells_in g V o W hs t ht,←hu,Sy ht]
theorem uo {W:Sj} {g:Nat} {L1 V L2:List Sk} (h1:∀ j u,L1[j]? =some u→W.cell? ⟨g,0+j,none⟩=some u)(hs:∀ j,j<L1.length+V.length+L2.length→(W.cell? ⟨g,j,none⟩).isSome=true) :
 ∀ j u,(L1++V++L2)[j]? =some u→((W.setCells g (L1.length+V.length) L2).setCells g L1.length V).cell? ⟨g,0+j,none⟩=some u:=by
 intro j u hu
 have hs1:∀ j,j<V.length→((W.setCells g (L1.length+V.length) L2).cell? ⟨g,L1.length+j,none⟩).isSome=true:=fun j hj=>SG g _ _ _ _ (hs _ (by omega))
 rcases rN hu with h|⟨hl,h⟩|⟨hl,h⟩
 · have hj:=(Sr.1 h).1
   rw [SH g V _ _ _ (fun _ _=>.inl (by simp only;omega)),SH g L2 _ _ _ (fun _ _=>.inl (by simp only;omega))]
   exact h1 j u h
 · have:=pU hs1 (j-L1.length) u h
   rwa [show L1.length+(j-L1.length)=0+j by omega] at this
 · have hj:=(Sr.1 h).1
   rw [SH g V _ _ _ (fun _ _=>.inr (by simp only;omega))]
   have:=pU (W:=W) (g:=g) (o:=L1.length+V.length) (V:=L2) (fun t ht=>hs _ (by omega)) (j-(L1.length+V.length)) u h
   rwa [show L1.length+V.length+(j-(L1.length+V.length))=0+j by omega] at this
theorem ym {W:Sj} {g:Nat} {L1 V L2:List Sk} (h1:∀ j u,L1[j]? =some u→W.cell? ⟨g,0+j,none⟩=some u)(hs:∀ j,j<L1.length+V.length+L2.length→(W.cell? ⟨g,j,none⟩).isSome=true) :
 ∀ j u,(L1++V++L2)[j]? =some u→((W.setCells g L1.length V).setCells g (L1.length+V.length) L2).cell? ⟨g,0+j,none⟩=some u:=by
 intro j u hu
 have hs1:∀ j,j<L2.length→((W.setCells g L1.length V).cell? ⟨g,L1.length+V.length+j,none⟩).isSome=true:=fun j hj=>SG g _ _ _ _ (hs _ (by omega))
 rcases rN hu with h|⟨hl,h⟩|⟨hl,h⟩
 · have hj:=(Sr.1 h).1
   rw [SH g L2 _ _ _ (fun _ _=>.inl (by simp only;omega)),SH g V _ _ _ (fun _ _=>.inl (by simp only;omega))]
   exact h1 j u h
 · have hj:=(Sr.1 h).1
   rw [SH g L2 _ _ _ (fun _ _=>.inl (by simp only;omega))]
   have:=pU (W:=W) (g:=g) (o:=L1.length) (V:=V) (fun t ht=>hs _ (by omega)) (j-L1.length) u h
   rwa [show L1.length+(j-L1.length)=0+j by omega] at this
 · have:=pU hs1 (j-(L1.length+V.length)) u h
   rwa [show L1.length+V.length+(j-(L1.length+V.length))=0+j by omega] at this
theorem jg {P:Program} (w:Sj)(dT sT ty elem:TypeId)(K b o dLen dCap:Nat)(a:Addr)(sLen sCap n:Nat)(cs:List Sk)
 (hu:P.underlying dT=some (.slice elem)) (hs:(P.info? elem).map (·.size)=some K) (hn:Nat.min sLen dLen=n) (hl:cs.length=n*K)
 (hsrc:∀ j v,cs[j]? =some v→w.cell? (a.add j)=some v) (hc:∀ j,j<cs.length→(w.cell? ⟨b,o+j,none⟩).isSome=true) (hf:∀ j,j<cs.length→w.frozen? ⟨b,o+j,none⟩=false) (h1:∀ v∈cs,v.oneCell'=true) :
 (SN #[dT,sT] ty #[.slice (some ⟨b,o,none⟩) dLen dCap,.slice (some a) sLen sCap]).run P w=.ok (goInt n) (w.setCells b o cs):=by
 have hld:=run_loadCells_list (P:=P) w a cs hsrc
 have hst:=run_storeCells_cells (P:=P) b o cs 0 w (by simpa using hc) (by simpa using hf) h1
 cases hq:P.info? elem with
 | none=>simp [hq] at hs
 | some i =>
   have hi:i.size=K:=by simpa [hq] using hs
   rw [hl] at hld
   simp [SN,run_underlying hu,Builtin.lenOf,SO,sizeOf,typeInfo,hq,hi,hn,hld,hst]
theorem qR (w:Sj)(o:Obj)(g a:Nat)(xe:List Sk):∀ y,(((w.alloc o).drew.setCells g a xe).drew).cell? y=((w.drew.alloc o).setCells g a xe).cell? y:=fun y=>rfl
theorem tb (w:Sj)(o:Obj)(g a:Nat)(xe:List Sk):∀ y,(((w.alloc o).drew.setCells g a xe).drew).frozen? y=((w.drew.alloc o).setCells g a xe).frozen? y:=fun y=>rfl
def Fk {α:Type} (K:Nat)(enc:α→List Sk)(base:Nat)(ys:List α)(w:Sj)(e:Ending)(w':Sj):Prop:=∃ a c,e=.returned (.slice a ys.length c)∧ah K enc Flat w' a ys∧(∀ ad,a=some ad→base≤ad.block)∧SQ base w w'
def dB {α:Type} (K:Nat)(enc:α→List Sk)(base:Nat)(o:Option Nat)(ys:List α)(w:Sj)(e:Ending)(w':Sj):Prop:=Fk K enc base ys w e w'∧w.grownBy w' o
theorem gB (g:Nat):∀ (vs:List Sk)(o:Nat) {a w:Sj},a.grownBy w (some g)→a.grownBy (w.setCells g o vs) (some g)
 | [],_,a,w,h=>h
 | v::vs,o,a,w,h=>gB g vs (o+1) ⟨h.os,h.tape,h.output,by simpa using h.size,fun k hk hn=>by
    rw [SQ.heap_setCell _ _ _ _ (fun e=>hn (by rw [e]))]
    exact h.block k hk hn⟩
theorem vm {w w':Sj} {o:Option Nat} (h:SQ w.heap.size w w'):w.grownBy w' o:=⟨h.os,h.tape,h.output,h.size,fun k hk _=>h.block k hk⟩
theorem qo (base:Nat)(x:Reg)(g c:Nat)(w:Sj)(hv:ah 7 Reg.enc Flat w (some ⟨g,0,none⟩) [x])(hb:base≤w.heap.size) :
 Sn Tryz.prog 97 #[.slice none 0 0,.int .i64 0,.slice (some ⟨g,0,none⟩) 1 c] w (dB 7 Reg.enc base none [x] w):=by
 have HQ:=h_ (fun(v':Sk) (w':Sj) (ho:w'.ownsRow base 37 7 v' (0+[x].length) ([]++[x].flatMap Reg.enc)) (hg:w.grownBy w' (SS none 0 0).ownBlock)=>(show dB 7 Reg.enc base none [x] w (.returned v') w' from by
  obtain⟨a,c,rfl,hS⟩:=aA (k:=7) (enc:=Reg.enc) (Ok:=Flat) (xs:=[x]) (fun _=>rfl) ho (fun _ _=>trivial)
  exact⟨⟨a,c,rfl,hS,fun ad had=>(ho.lt ad.block (by rw [had];rfl)).1,(SU base w).grown hg hb (fun j hj=>by simp [Sk.ownBlock] at hj)⟩,hg⟩))
 obtain⟨j0,hj,hy0,hy1,hy2⟩:=Sm Tryz.info37
 have JI:=h_ hj;have J0:=h_ hy0;have J1:=h_ hy1;have J2:=h_ hy2
 have HV:=h_ hv
 clear hj hy0 hy1 hy2 hv
 generalize dB 7 Reg.enc base none [x] w=Q at *
 go_enter Tryz.func97,Tryz.ntmps97
 go_wp2_with (at_builtin;refine aJ (enc:=Reg.enc) (Ok:=Flat) _ rfl (.tmp 23) (.tmp 24) 23 rfl base 37 j0 _ 7 56 Tryz.underlying23 JI.out J0.out J1.out J2.out rfl (by decide) (fun _=>rfl) Reg.one _ 0 [] rfl (Sj.ownsRow_nil _ _ _ _) (some ⟨g,0,none⟩) c [x] rfl HV.out ?h63 ?hb ?hbase ?_)
 case h63=>simp only [Su,Sv];unfold maxLen;omega
 case hb=>simp only [Su,Sv];omega
 case hbase=>exact hb
 intro v' w' ho hg _
 have HF:=h_ (HQ.out v' w' ho hg)
 obtain⟨a',c',rfl⟩:∃ a' c',v'=.slice a' 1 c':=by
  rcases ho.2 with⟨rfl,h0⟩|⟨g,cap,_,rfl,_⟩
  · simp at h0
  · exact⟨_,_,rfl⟩
 clear ho hg
 go_wp2_with fail
 exact HF.out
theorem qp (base b cap:Nat)(xs:List Reg)(x:Reg)(g c:Nat)(w:Sj)(h:w.ownsRow base 37 7 (.slice (some ⟨b,0,none⟩) xs.length cap) xs.length (xs.flatMap Reg.enc))(hv:ah 7 Reg.enc Flat w (some ⟨g,0,none⟩) [x])(hl:xs.length≤8000000)(hb:base≤w.heap.size) :
 Sn Tryz.prog 97 #[.slice (some ⟨b,0,none⟩) xs.length cap,.int .i64 xs.length,.slice (some ⟨g,0,none⟩) 1 c] w (dB 7 Reg.enc base (some b) (xs++[x]) w):=by
 have HQ:=h_ (fun(cp:Nat) (v':Sk) (w':Sj) (ho:w'.ownsRow base 37 7 v' (xs.length+1) (xs.flatMap Reg.enc++[x].flatMap Reg.enc)) (hg:w.grownBy w' (SS (some ⟨b,0,none⟩) xs.length cp).ownBlock)=>(show dB 7 Reg.enc base (some b) (xs++[x]) w (.returned v') w' from by
  rw [←Sw] at ho
  rw [show xs.length+1=(xs++[x]).length by simp] at ho
  obtain⟨a,c,rfl,hS⟩:=aA (k:=7) (enc:=Reg.enc) (Ok:=Flat) (fun _=>rfl) ho (fun _ _=>trivial)
  exact⟨⟨a,c,rfl,hS,fun ad had=>(ho.lt ad.block (by rw [had];rfl)).1,(SU base w).grown hg hb (fun j hj=>(h.lt j hj).1)⟩,hg⟩))
 obtain⟨j0,hj,hy0,hy1,hy2⟩:=Sm Tryz.info37
 have JI:=h_ hj;have J0:=h_ hy0;have J1:=h_ hy1;have J2:=h_ hy2
 have HO:=h_ h
 have HV:=h_ hv
 have oq:xs.length≤cap:=by
  rcases h.2 with⟨he,h0⟩|⟨g,cap,_,he,_,_,hc,_⟩
  · simp at he
  · simp only [SV] at he
    obtain⟨_,_,rfl⟩:=he
    exact hc
 have hcm:(cap:Int)≤9223372036854775807:=by
  rcases h.2 with⟨he,h0⟩|⟨g,cap,_,he,_,_,hc,hm,_⟩
  · simp at he
  · simp only [SV] at he
    obtain⟨_,_,rfl⟩:=he
    simp only [maxLen] at hm
    omega
 clear hj hy0 hy1 hy2 h hv
 generalize dB 7 Reg.enc base (some b) (xs++[x]) w=Q at *
 generalize xs.flatMap Reg.enc=cs at *
 generalize xs.length=n at *
 rcases(show cap=n∨¬ cap=n from Classical.em _) with hq|hq
 case' inl=>subst hq
 all_goals
  go_enter Tryz.func97,Tryz.ntmps97
  go_wp2_with (at_builtin;refine aJ (enc:=Reg.enc) (Ok:=Flat) _ rfl (.tmp 23) (.tmp 24) 23 rfl base 37 j0 _ 7 56 Tryz.underlying23 JI.out J0.out J1.out J2.out rfl (by decide) (fun _=>rfl) Reg.one _ _ cs rfl HO.out (some ⟨g,0,none⟩) c [x] rfl HV.out ?h63 ?hb ?hbase ?_)
  case h63=>simp only [Su,Sv];unfold maxLen;omega
  case hb=>simp only [Su,Sv];omega
  case hbase=>exact hb
  intro v' w' ho hg _
  have HF:=h_ (HQ.out _ v' w' ho hg)
  obtain⟨g',c',rfl⟩:=dD ho (by simp)
  clear ho hg
  go_wp2_with fail
  exact HF.out
theorem mU (base b i g cap vc:Nat)(xs:List Reg)(x:Reg)(w:Sj)(h:w.ownsRow base 37 7 (.slice (some ⟨b,0,none⟩) xs.length cap) xs.length (xs.flatMap Reg.enc))(hv:w.heap[g]? =some (.cells x.enc.toArray 37 (0,0)))(hi:i<xs.length)(hroom:xs.length+1≤cap)(hgb:g≠b)(hl:xs.length≤8000000)(hbw:base≤w.heap.size) :
 Sn Tryz.prog 97 #[.slice (some ⟨b,0,none⟩) xs.length cap,.int .i64 i,.slice (some ⟨g,0,none⟩) 1 vc] w (dB 7 Reg.enc base (some b) (fc xs i x) w):=by
 obtain⟨hbb,hbl⟩:=h.lt b rfl
 have hc63:cap≤9223372036854775807:=by
  rcases h.2 with⟨he,h0⟩|⟨g,cap,_,he,_,_,hc,hm,_⟩
  · simp at he
  · simp only [SV] at he
    obtain⟨_,_,rfl⟩:=he
    simp only [maxLen] at hm
    omega
 obtain⟨cur,EX,hcs⟩:∃ cur,w.heap[b]? =some (.cells cur 37 (0,0))∧(xs.length+1)*7≤cur.size:=by
  rcases h.2 with⟨he,h0⟩|⟨g,cap,cur,he,_,hg,hc,hm,hz,_⟩
  · simp at he
  · simp only [SV,SW,Addr.mk.injEq,and_true,true_and] at he
    obtain⟨rfl,rfl⟩:=he
    exact⟨cur,hg,by first|(rw [hz];exact S5 7 hroom)|(rw [←hz];exact S5 7 hroom)|omega⟩
 have hfr:∀ j,w.frozen? ⟨b,j,none⟩=false:=h.frozenAt
 have hcell:∀ j u,(xs.flatMap Reg.enc)[j]? =some u→w.cell? ⟨b,j,none⟩=some u:=fun j u hu=>by
  have hj:=(Sr.1 hu).1
  rw [h.cellAt j (by rw [←h.1];exact hj)]
  exact hu
 have Ci:∀ j,j<(xs.length+1)*7→(w.cell? ⟨b,j,none⟩).isSome=true:=fun j hj=>by
  rw [Sq w b j cur 37 (0,0) EX,Tc (by omega)];rfl
 have GF:∀ j u,x.enc[j]? =some u→w.cell? ⟨g,j,none⟩=some u:=fun j u hu=>by
  rw [Sq w g j _ 37 (0,0) hv]
  simpa using hu
 have hsa:w.shape? g=some (37,7):=by
  have:x.enc.toArray.size=7:=rfl
  simp [SL,hv,this]
 have hsb:w.shape? b=some (37,cur.size):=by simp [SL,EX]
 have hgf:∀ j,w.frozen? ⟨g,j,none⟩=false:=fun j=>by simp [Sj.frozen?,hv]
 have hz2:¬ ((i:Int)=(xs.length:Int)):=by omega
 have hsz:(Tryz.prog.info? 37).map (·.size)=some 7:=by kernel_rfl
 have hlen:=bz Reg.enc 7 (fun _=>rfl) xs
 have kL:=bz Reg.enc 7 (fun _=>rfl) (xs.take i)
 have qB:=bz Reg.enc 7 (fun _=>rfl) (xs.drop i)
 rw [SB,S9 (by omega)] at kL
 rw [SC] at qB
 have hsplit:xs.flatMap Reg.enc=(xs.take i).flatMap Reg.enc++(xs.drop i).flatMap Reg.enc:=by rw [←Sw,Sz]
 have hc1:∀ j u,((xs.take i).flatMap Reg.enc)[j]? =some u→w.cell? ⟨b,j,none⟩=some u:=fun j u hu=>hcell j u (by
  rw [hsplit,St (Sr.1 hu).1];exact hu)
 have hc2:∀ j u,((xs.drop i).flatMap Reg.enc)[j]? =some u→w.cell? ⟨b,i*7+j,none⟩=some u:=fun j u hu=>hcell (i*7+j) u (by
  rw [hsplit,Ss (by omega),kL,S7];exact hu)
 have ho2:∀ v∈(xs.drop i).flatMap Reg.enc,v.oneCell'=true:=ei Reg.one _
 have hfl:=po Reg.enc xs i x
 have hil:=sE xs i x (by omega)
 have hxl:x.enc.length=7:=rfl
 have hov:∀ lb cb,(callFunc 144 #[.slice (some ⟨g,0,none⟩) 1 vc,.slice (some ⟨b,(i+1)*7,none⟩) lb cb]).run Tryz.prog w=.ok (.value (.bool false)) w:=fun lb cb=>by
  rw [run_callFunc_extern Tryz.func144 (by kernel_rfl) (by kernel_rfl) (by kernel_rfl) (e:=Extern.SlicesOverlaps.overlaps #[23,23] #[4]) (by kernel_rfl),
   Lib.run_overlaps_apart w 23 4 37 Tryz.underlying23 7 (fun w=>by kernel_rfl) ⟨g,0,none⟩ ⟨b,(i+1)*7,none⟩ 1 vc lb cb hgb 37 37 7 cur.size hsa hsb (by omega) (hgf 0) (hgf 7)]
  rfl
 have hcp1:∀ ty dc sc,(SN #[23,23] ty #[.slice (some ⟨b,(i+1)*7,none⟩) (xs.length-i) dc,.slice (some ⟨b,i*7,none⟩) (xs.length+1-i) sc]).run Tryz.prog w.drew=.ok (goInt (xs.length-i:Nat)) (w.drew.setCells b ((i+1)*7) ((xs.drop i).flatMap Reg.enc)):=fun ty dc sc =>
  jg w.drew _ _ ty 37 7 b ((i+1)*7) (xs.length-i) dc ⟨b,i*7,none⟩ (xs.length+1-i) sc (xs.length-i) _ Tryz.underlying23 hsz (by simp only [S6];split<;>omega) qB
   (fun j v hj=>by rw [Tg];exact hc2 j v hj) (fun j hj=>Ci _ (by omega)) (fun j hj=>hfr _) ho2
 obtain⟨W1,hW1⟩:∃ W1,W1=w.drew.setCells b ((i+1)*7) ((xs.drop i).flatMap Reg.enc):=⟨_,rfl⟩
 have hsp1:∀ k,k<(xs.length+1)*7→(W1.cell? ⟨b,k,none⟩).isSome=true:=fun k hk=>by
  rw [hW1]
  exact SG _ _ _ _ _ (Ci k hk)
 have hcp2:∀ (W:Sj),(∀ x,W.cell? x=W1.cell? x)→(∀ x,W.frozen? x=W1.frozen? x)→∀ ty dc,(SN #[23,23] ty #[.slice (some ⟨b,i*7,none⟩) (xs.length+1-i) dc,.slice (some ⟨g,0,none⟩) 1 vc]).run Tryz.prog W=.ok (goInt (1:Nat)) (W.setCells b (i*7) x.enc):=fun W hWc hWf ty dc =>
  jg W _ _ ty 37 7 b (i*7) (xs.length+1-i) dc ⟨g,0,none⟩ 1 vc 1 _ Tryz.underlying23 hsz (by simp only [S6];split<;>omega) (by rw [hxl])
   (fun j v hj=>by
    rw [Tg,hWc,hW1,SH b _ _ _ _ (fun h _=>absurd h hgb)]
    rw [SZ]
    exact GF j v hj)
   (fun j hj=>by rw [hWc];exact hsp1 _ (by omega)) (fun j hj=>by rw [hWf,hW1,SI];exact hfr _) (Reg.one x)
 rw [←hW1] at hcp1
 have HQ:=h_ (show dB 7 Reg.enc base (some b) (fc xs i x) w (.returned (.slice (some ⟨b,0,none⟩) (xs.length+1) cap)) (W1.setCells b (i*7) x.enc) from by
  have hbel:SQ base w (W1.setCells b (i*7) x.enc):=by
   rw [hW1]
   exact SF b hbb _ _ (SF b hbb _ _ (SU base w).drew)
  have hgr:w.grownBy (W1.setCells b (i*7) x.enc) (some b):=by
   rw [hW1]
   exact gB b _ _ (gB b _ _ ⟨rfl,rfl,rfl,SY _,fun _ _ _=>rfl⟩)
  refine⟨⟨some ⟨b,0,none⟩,cap,by rw [hil],iJ (enc:=Reg.enc) (fun _=>rfl) ?_ ?_,fun ad had=>?_,hbel⟩,hgr⟩
  · have:=hbel.size
    have h2:=(SF b (SY b) x.enc (i*7) (SF b (SY b) ((xs.drop i).flatMap Reg.enc) ((i+1)*7) (SU b w).drew)).size
    rw [←hW1] at h2
    omega
  · rw [hfl,hW1]
    have:=uo (W:=w.drew) (g:=b) (L1:=(xs.take i).flatMap Reg.enc) (V:=x.enc) (L2:=(xs.drop i).flatMap Reg.enc) (fun j u hu=>by rw [SZ];exact hc1 j u hu) (fun j hj=>Ci j (by rw [kL,qB,hxl] at hj;omega))
    rw [kL,hxl,show i*7+7=(i+1)*7 by omega] at this
    exact this
  · obtain rfl:=SX had
    exact hbb)
 generalize dB 7 Reg.enc base (some b) (fc xs i x) w=Q at *
 have KX:=h_ hov
 have mixed:Tryz.prog.follows Departure.mixedOrders=true:=by kernel_rfl
 clear hfl hil hsplit hlen kL qB hc1 hc2 hcell Ci GF hsa hsb hgf hfr hcs EX h hv hsp1 hW1 hov
 generalize (xs.drop i).flatMap Reg.enc=ds at *
 generalize x.enc=xe at *
 generalize xs.length=n at *
 have hw1:Ti.wrap ((i:Int)+1)=(i:Int)+1:=by rw [Th];omega
 have hw2:Ti.wrap ((n:Int)+1)=(n:Int)+1:=by rw [Th];omega
 have hb1:(0:Int)≤(i:Int)+1:=by omega
 have hin:i≤n:=by omega
 have htn:((i:Int)+1).toNat=i+1:=by omega
 have Pd:((n:Int)+1).toNat=n+1:=by omega
 have hb2:¬ (cap=i+1):=by omega
 have hb3:(i:Int)≤(n:Int)+1:=by omega
 have hb4:¬ (cap=i):=by omega
 have LF:=h_ hcp1
 have LD:=h_ hcp2
 clear hcp1 hcp2
 go_enter Tryz.func97,Tryz.ntmps97
 go_wp2_with (simp only [KX.out])
 go_region_law_o (refine step_copy_runI rfl _ _ 23 23 rfl (.slice (some ⟨b,(i+1)*7,none⟩) (n-i) (cap-(i+1))) (.slice (some ⟨b,i*7,none⟩) (n+1-i) (cap-i)) (by simp [Tj,Tk]) (by simp [Tj,Tk]) (LF.out 3 (cap-(i+1)) (cap-i)) ?_)
 go_wp2_with (refine wpList_copy_runI _ rfl _ _ 23 23 rfl _ _ rfl rfl (LD.out _ (fun _=>rfl) (fun _=>rfl) _ _) ?_)
 exact HQ.out
end Go.Proofs.YtjebaagkomejaaaGreatDoor
namespace Go.Proofs.YtjebaagkomejaaaGreatDoor
open Go.RowKit
section
variable {α:Type} [Inhabited α] {enc:α→List Sk} {k:Nat} (hk:∀ x,(enc x).length=k)
include hk
theorem pt (hk0:0<k)(d:Array α)(t:Nat)(ht:t<d.size*k):(d.toList.flatMap enc)[t]? =some (Tr enc k d)[t]!:=by
 have hi:t / k<d.size:=Nat.div_lt_of_lt_mul (by rw [S_];exact ht)
 have hm:t % k<k:=Nat.mod_lt _ hk0
 have he:t / k*k+t % k=t:=by rw [S_];exact Nat.div_add_mod t k
 have hx:d.toList[t / k]? =some d[t / k]!:=by
  rw [getElem!_pos d (t / k) hi,Te,Tc hi]
 have hv:(enc d[t / k]!)[t % k]? =some (enc d[t / k]!)[t % k]!:=by
  rw [getElem!_pos _ (t % k) (by rw [hk];exact hm),Sy (by rw [hk];exact hm)]
 have:=cK enc k hk d.toList (t / k) _ (t % k) _ hx hv
 rw [he] at this
 rw [this,Sort.get_flatK enc k d t ht]
theorem vf (hk0:0<k) {w:Sj} {base T g cap:Nat} {zs:List α} (h:w.ownsRow base T k (.slice (some ⟨g,0,none⟩) zs.length cap) zs.length (zs.flatMap enc)):Sort.HoldsK enc k w g 0 zs.toArray:=by
 intro t ht
 rw [To] at ht
 have ht':t<zs.length*k:=by simpa using ht
 refine⟨?_,?_⟩
 · rw [show 0+t=t by omega,h.cellAt t ht']
   exact pt hk hk0 zs.toArray t ht
 · rw [show 0+t=t by omega]
   exact h.frozenAt t
theorem sq (hk0:0<k) {w:Sj} {base T g cap n q:Nat} {os:Array Obj} {zs:List α} {d':Array α} (h:w.ownsRow base T k (.slice (some ⟨g,0,none⟩) n cap) n (zs.flatMap enc))(hd:d'.size=n) :
 (sortWorldK enc k w g 0 q d' os).ownsRow base T k (.slice (some ⟨g,0,none⟩) n cap) n (d'.toList.flatMap enc):=by
 have hlen:(d'.toList.flatMap enc).length=n*k:=by rw [bz enc k hk];simp [hd]
 rcases h.2 with⟨e0,_⟩|⟨g',cap',cur,e0,hb,hg,hn,hm,hs,ht⟩
 · cases e0
 · injection e0 with e1 _ e3
   injection e1 with e1
   injection e1 with e1
   subst e1;subst e3
   have hgl:g<w.heap.size:=(Td.1 hg).1
   refine⟨hlen,.inr ⟨g,cap,Tl id 0 (Tr enc k d') cur,rfl,hb,?_,hn,hm,by simpa [Tl] using hs,?_⟩⟩
   · unfold sortWorldK Tm
     rw [Tn _ _ (by simpa using hgl)]
     simp [Tq,Tp,Sort.ahead,Tf,hg,Sort.onCells]
   · apply List.ext_getElem?
     intro j
     rw [List.getElem?_take,Te]
     by_cases hj:j<n*k
     · have hjc:j<cur.size:=by
        rw [hs]
        exact S8 hj (S5 k hn)
       simp only [if_pos hj,Tl,Array.getElem?_mapIdx,Tc hjc,Option.map_some]
       rw [if_pos ⟨Tb _,by rw [To,hd];omega⟩,pt hk hk0 d' j (by rw [hd];exact hj)]
       rfl
     · rw [if_neg hj,List.getElem?_eq_none (by rw [hlen];omega)]
end
theorem lv {α:Type} [Inhabited α] (enc:α→List Sk)(k:Nat)(w:Sj)(g q b:Nat)(d':Array α)(os:Array Obj)(hb:b<w.heap.size)(hne:b≠g):(sortWorldK enc k w g 0 q d' os).heap[b]? =w.heap[b]?:=by
 unfold sortWorldK Tm
 rw [Tn _ _ (by simpa using hb)]
 simp only [Tq,Tp,Tf]
 rw [if_neg (fun e=>hne e.symm)]
 rfl
theorem k_ {α:Type} [Inhabited α] (enc:α→List Sk)(k:Nat)(w:Sj)(g q:Nat)(d':Array α)(os:Array Obj):w.heap.size≤(sortWorldK enc k w g 0 q d' os).heap.size:=by
 unfold sortWorldK Tm
 simp
theorem Ev.deep:Deep Ev.lies Ev.uses:=⟨fun x w w' h hs hb=>Ev.frame h hs hb,fun x w b h hu=>Ev.uses_lt h hu⟩
abbrev pK:=jd 72 7 Ev.enc Ev.lies Ev.uses
def Fj (B:Nat)(W0:Sj)(v:Sk)(zs:List Ev)(e:Ending)(w':Sj):Prop :=
 e=.returned (.tuple #[])∧∃ ys,pK B W0 v ys w'∧ys.Perm zs∧ys.Pairwise (fun x y=>ltOf lY y x=false)
theorem H_:∀ (x:Ev)(v:Sk),v∈x.enc→v.oneCell'=true:=Ev.one
theorem Ce (w:Sj)(fv:Sk):Sn Tryz.prog 223 #[.slice none 0 0,.int .i64 0,.int .i64 0,fv] w fun e w'=>e=.returned (.tuple #[])∧w=w':=by
 go_enter Tryz.func223,Tryz.ntmps223
 go_wp2_with fail
 refine Sl 1 ?_
 rw [Sp]
 go_wp2_with fail
 go_end0
 exact⟨rfl,rfl⟩
theorem BH (w:Sj)(fv:Sk):Sn Tryz.prog 187 #[.slice none 0 0,.int .i64 0,fv] w fun e w'=>e=.returned (.tuple #[])∧w=w':=by
 have HI:=h_ (Ce w fv)
 go_enter Tryz.func187,Tryz.ntmps187
 go_wp2_with fail
 refine Sl 1 ?_
 rw [Sp]
 go_wp2_with fail
 refine HI.out.mono ?_
 rintro e w1 ⟨rfl,rfl⟩
 go_wp2_with fail
 refine Sl 1 ?_
 rw [Sp]
 go_wp2_with fail
 go_end0
 exact⟨rfl,rfl⟩
theorem ue (w:Sj)(fv:Sk):Sn Tryz.prog 133 #[.slice none 0 0,fv] w fun e w'=>e=.returned (.tuple #[])∧w=w':=by
 have HI:=h_ (BH w fv)
 go_enter Tryz.func133,Tryz.ntmps133
 go_wp2_with fail
 refine HI.out.mono ?_
 rintro e w1 ⟨rfl,rfl⟩
 go_wp2_with fail
 go_end0
 exact⟨rfl,rfl⟩
theorem pO (B:Nat)(W0:Sj)(v:Sk)(zs:List Ev)(w:Sj)(h:pK B W0 v zs w)(hl:zs.length≤4000000)(hB:B≤W0.heap.size) :
 Sn Tryz.prog 133 #[v,.func (.func 134) #[] #[]] w (Fj B W0 v zs):=by
 obtain⟨h1,h2,h3⟩:=h
 have hB1:B≤w.heap.size:=Ta hB h3.size
 rcases h1.2 with⟨rfl,h0⟩|⟨g,cap,cur,rfl,hb,hg,_⟩
 · have hz:zs=[]:=List.eq_nil_of_length_eq_zero h0
   subst hz
   exact(ue w _).mono fun e w' ⟨he,hw⟩=>⟨he,[],⟨hw▸h1,fun z hz=>by simp at hz,hw▸h3⟩,.nil,.nil⟩
 · have hgl:g<w.heap.size:=(Td.1 hg).1
   have hH:=vf (enc:=Ev.enc) (k:=7) (fun _=>rfl) (by decide) h1
   have hC:CmpLays Tryz.prog 134 #[] Ev.enc 7 lY g 0 zs.toArray.size w:=fun m os dk _ x y=>pP x y _
   have R:RowK Ev.enc 7 w g 0 zs.toArray:=⟨fun _=>rfl,H_,hH,hgl⟩
   have S:SWK Ev.enc 7 w g 0 zs.toArray w:=⟨0,#[],by unfold sortWorldK;rw [Sort.grow_empty];exact(Sort.putRowK_self Ev.enc 7 w g 0 zs.toArray hH).symm⟩
   have hcall:=lQ Tryz.stLay 7 (fun w=>by kernel_rfl) (fun w=>by kernel_rfl) Ev.enc lY A7 134 #[] g 0 cap zs.toArray w (fun args w=>by kernel_rfl) hC R S (by simp;omega)
   simp only [SA] at hcall
   refine hcall.mono fun e w' ⟨he,d',hd,⟨q,os,hw⟩,hp,hs⟩=>?_
   subst hw
   simp only [SA] at hd
   have hperm:d'.toList.Perm zs:=by
    have L5:=hp.2.2
    have e1:d'.extract 0 zs.length=d':=by rw [←hd];simp
    have e2:zs.toArray.extract 0 zs.length=zs.toArray:=by simp
    rw [e1,e2] at L5
    simpa using L5
   have hlen:d'.toList.length=zs.length:=by simpa using hd
   refine⟨he,d'.toList,⟨?_,fun z hz=>?_,?_⟩,hperm,?_⟩
   · rw [hlen]
     exact sq (enc:=Ev.enc) (k:=7) (fun _=>rfl) (by decide) h1 hd
   · obtain⟨hl,hu⟩:=h2 z (hperm.mem_iff.1 hz)
     refine⟨Ev.frame hl (k_ ..) (fun b hb=>lv _ _ _ _ _ _ _ _ (Ev.uses_lt hl hb) (fun e=>(hu b hb).1 (by rw [e];rfl))),hu⟩
   · exact h3.trans ⟨rfl,rfl,rfl,k_ ..,fun b hb'=>lv _ _ _ _ _ _ _ _ (S8 hb' hB1) (by omega)⟩
   · rw [List.pairwise_iff_getElem]
     intro i j hi hj hij
     have hi':i<d'.size:=by simpa using hi
     have hj':j<d'.size:=by simpa using hj
     have:=hs i j (Tb _) hij (by omega)
     rw [getElem!_pos d' i hi',getElem!_pos d' j hj'] at this
     simpa using this
def kU (xs:List Ev)(w:Sj)(e:Ending)(w':Sj):Prop :=
 ∃ v ys,e=.returned v∧pK w.heap.size w v ys w'∧(ys.map Ev.c).Perm (xs.map Ev.c)∧ys.Pairwise (fun x y=>ltOf lY y x=false)
def iA (xs:List Ev)(w:Sj)(k:Nat)(v:Sk)(wr:Sj):Prop:=∃ zs,zs.length=k∧zs.map Ev.c=(xs.take k).map Ev.c∧pK w.heap.size w v zs wr
theorem xj {α:Type} (xs:List α)(k:Nat)(x:α)(h:xs[k]? =some x):xs.take (k+1)=xs.take k++[x]:=by
 rw [List.take_add_one,h]
 rfl
theorem iA.step {xs:List Ev} {w wr w1 w2:Sj} {k:Nat} {v v':Sk} {zs:List Ev} {x y:Ev} {cs:Array Sk} (hx:xs[k]? =some x)(h1:zs.length=k)(h2:zs.map Ev.c=(xs.take k).map Ev.c)(h3:pK w.heap.size w v zs wr)(hb:SQ wr.heap.size wr w1)(ff:y.c=x.c)(hyl:y.lies w1)(hyu:∀ b,y.uses b→wr.heap.size≤b)
 (hcs:cs.toList=y.enc) (hown:w2.ownsRow w.heap.size 72 7 v' (k+1) (zs.flatMap Ev.enc++cs.toList)) (hg:(w1.alloc (.cells cs 72)).grownBy w2 v.ownBlock) (hat:v'.ownBlock=v.ownBlock∨v'.ownBlock=some (w1.heap.size+1)):iA xs w (k+1) v' w2:=by
 subst h1
 refine⟨zs++[y],by simp,by rw [SD,xj xs _ x hx,SD,h2];simp [ff],?_⟩
 have h3':=jd.later Ev.deep h3 (SY _) hb
 refine jd.push Ev.deep h3' (SY _) hcs hown hg hat hyl (fun b hu=>⟨fun e=>?_,Ta h3.2.2.size (hyu b hu)⟩)
 have:=(h3.1.lt b e).2
 have:=hyu b hu
 omega
theorem ix (a:Option Addr)(cap:Nat)(xs:List Ev)(w:Sj)(h:dy w a xs)(hf:∀ x∈xs,x.fits)(hl:xs.length≤4000000) :
 Sn Tryz.prog 85 #[.slice a xs.length cap] w (kU xs w):=by
 have HX:=h_ h
 have HF:=h_ hf
 have HQ:=h_ (fun(v:Sk) (ys zs:List Ev) (w':Sj) (h1:pK w.heap.size w v ys w') (h2:ys.Perm zs) (h3:ys.Pairwise (fun x y=>ltOf lY y x=false)) (h4:zs.map Ev.c=(xs.take xs.length).map Ev.c)=>(show kU xs w (.returned v) w' from⟨v,ys,rfl,h1,by rw [List.take_length] at h4;rw [←h4];exact h2.map _,h3⟩))
 obtain⟨j0,hj,hy0,hy1,hy2⟩:=Sm Tryz.info72
 have JI:=h_ hj;have J0:=h_ hy0;have J1:=h_ hy1;have J2:=h_ hy2
 generalize kU xs w=Q at *
 clear hj hy0 hy1 hy2 h hf
 go_enter Tryz.func85,Tryz.ntmps85
 go_wp2_with fail
 go_loopw [3,8] (fun v i wr=>∃ k:Nat,k≤xs.length∧i=.int .i64 k∧iA xs w k v wr) (fun _ i _=>xs.length-(intOf i).toNat)
 case atStart=>exact⟨0,by omega,rfl,[],rfl,rfl,jd.start (SU _ _)⟩
 case round =>
  obtain⟨k,hk,rfl,zs,hzl,hzc,hgr⟩:=hrel
  by_cases hlt:k<xs.length
  · have hb:=hgr.2.2
    obtain⟨b,off,x,rfl,hbl,hx,hc,hok⟩:=(HX.out.later hb).at_ hlt
    have hfx:=HF.out x (List.mem_of_getElem? hx)
    have hbs:=hb.size
    have HC:=h_ (fun o=>kh x (wr.alloc o) (Ev.keeps _ _ _ ((SU _ _).alloc (SY _) o) hok) (fun r hr=>(hfx.2.2.2.2.2.2.2.1 r hr).2.1) hfx.2.2.2.2.2.2.2.2)
    have HST:=h_ (fun(w1 w2:Sj) (v':Sk) (y:Ev) (cs:Array Sk) (hb:SQ wr.heap.size wr w1) (ff:y.c=x.c) (hyl:y.lies w1) (hyu:∀ b,y.uses b→wr.heap.size≤b) (hcs:cs.toList=y.enc) (hown:w2.ownsRow w.heap.size 72 7 v' (k+1) (zs.flatMap Ev.enc++cs.toList)) (hg:(w1.alloc (.cells cs 72)).grownBy w2 u3.ownBlock) (hat:v'.ownBlock=u3.ownBlock∨v'.ownBlock=some (w1.heap.size+1))=>iA.step hx hzl hzc hgr hb ff hyl hyu hcs hown hg hat)
    have hown0:=hgr.1
    rw [hzl] at hown0
    have HO:=h_ (fun(w1:Sj) (hb:SQ wr.heap.size wr w1)=>aI hown0 hb)
    obtain⟨zf,LM⟩:∃ zf,zf=zs.flatMap Ev.enc:=⟨_,rfl⟩
    rw [←LM] at HO HST
    have oQ:=h_ (fun(o:Obj) (w1:Sj) (h1:SQ (wr.alloc o).heap.size (wr.alloc o) w1)=>(show SQ wr.heap.size wr w1 from((SU _ _).alloc (SY _) _).trans (h1.mono (by simp))))
    have rK:=h_ (show x.c=x.c from rfl)
    generalize x.c=xc at HC HST
    have d0:=hc 0 _ rfl;have d1:=hc 1 _ rfl;have d2:=hc 2 _ rfl;have d3:=hc 3 _ rfl;have d4:=hc 4 _ rfl;have d5:=hc 5 _ rfl;have d6:=hc 6 _ rfl
    obtain⟨xid,xin,xout,xreg,xkind,xsp,xa,xcap,xrows⟩:=x
    simp only [Ev.enc,Nat.add_zero] at HC d0 d1 d2 d3 d4 d5 d6
    clear hc hx hok hgr hzc hzl hfx hown0 LM rK hb
    go_wp2_with fail
    refine(HC.out _).mono ?_
    rintro e w1 ⟨y,rfl,ff,hyl,hyu,hyb,_⟩
    have hbw:=oQ.out _ _ hyb
    have hs1:=hbw.size
    have BA:=h_ (HO.out _ hbw)
    have HY:=h_ (fun w2 v' cs=>HST.out w1 w2 v' y cs hbw ff hyl (fun b hu=>by have:=hyu b hu;simp at this;omega))
    obtain⟨yid,yin,yout,yreg,ykind,ysp,ya,ycap,yrows⟩:=y
    simp only [Ev.enc] at HY ⊢
    clear ff hyl hyu hyb hbw HC HO HST oQ d0 d1 d2 d3 d4 d5 d6
    go_wp2_with (at_builtin;refine eY _ _ rfl (.tmp 12) (.tmp 15) 24 rfl w.heap.size 72 j0 _ 7 88 Tryz.underlying24 JI.out J0.out J1.out J2.out rfl (by decide) _ _ _ rfl BA.out _ rfl rfl rfl ?h1 ?h63 ?hb ?hbase ?_)
    case h1=>first|exact⟨rfl,rfl,rfl,rfl,rfl,rfl,rfl⟩|(intro u hu;simp at hu;rcases hu with rfl|rfl|rfl|rfl|rfl|rfl|rfl<;>rfl)
    case h63=>unfold maxLen;omega
    case hb=>omega
    case hbase=>omega
    intro v' w2 hown' hgrow hat
    have R:=h_ (HY.out w2 v' _ rfl hown' hgrow hat)
    clear hown' hgrow hat
    go_wp2_with fail
    go_roundw
    case rel=>exact⟨k+1,by omega,by go_num,R.out⟩
    case measure=>simp [intOf];omega
  · obtain rfl:k=xs.length:=by omega
    have HS:=h_ (pO w.heap.size w u3 zs wr hgr (by omega) (SY _))
    obtain⟨av,cv,rfl,_⟩:=jd.slice (k:=7) (enc:=Ev.enc) (fun _=>rfl) hgr
    have HZ:=h_ hzc
    clear hgr hzc hzl
    go_wp2_with fail
    refine HS.out.mono ?_
    rintro e w1 ⟨rfl,ys,hg1,hp,hs⟩
    have C9:=h_ (HQ.out _ ys zs w1 hg1 hp hs HZ.out)
    clear hg1 hp hs HS
    go_wp2_with fail
    exact C9.out
end Go.Proofs.YtjebaagkomejaaaGreatDoor
namespace Go.Proofs.YtjebaagkomejaaaGreatDoor
open Go.RowKit Go.Lib
theorem oh (base b i g cap vc:Nat)(xs:List Reg)(x:Reg)(w:Sj)(h:w.ownsRow base 37 7 (.slice (some ⟨b,0,none⟩) xs.length cap) xs.length (xs.flatMap Reg.enc))(hv:w.heap[g]? =some (.cells x.enc.toArray 37 (0,0)))(hi:i<xs.length)(hroom:cap<xs.length+1)(hl:xs.length≤8000000)(hbw:base≤w.heap.size) :
 Sn Tryz.prog 97 #[.slice (some ⟨b,0,none⟩) xs.length cap,.int .i64 i,.slice (some ⟨g,0,none⟩) 1 vc] w (dB 7 Reg.enc base (some b) (fc xs i x) w):=by
 obtain⟨hbb,hbl⟩:=h.lt b rfl
 have hnc:xs.length≤cap:=by
  rcases h.2 with⟨he,h0⟩|⟨g,cap,cur,he,_,hg,hc,hm,hz,_⟩
  · simp at he
  · simp only [SV,SW,Addr.mk.injEq,and_true,true_and] at he
    obtain⟨rfl,rfl⟩:=he
    exact hc
 have hcell:∀ j u,(xs.flatMap Reg.enc)[j]? =some u→w.cell? ⟨b,j,none⟩=some u:=fun j u hu=>by
  have hj:=(Sr.1 hu).1
  rw [h.cellAt j (by rw [←h.1];exact hj)]
  exact hu
 have GF:∀ j u,x.enc[j]? =some u→w.cell? ⟨g,j,none⟩=some u:=fun j u hu=>by
  rw [Sq w g j _ 37 (0,0) hv]
  simpa using hu
 have hvw:g<w.heap.size:=(Td.1 hv).1
 obtain⟨i0,hi0,hz0,hzs,hzb⟩:=Sm Tryz.info37
 have hz2:¬ ((i:Int)=(xs.length:Int)):=by omega
 have hz3:(cap:Int)<(xs.length:Int)+1:=by omega
 have hsz:(Tryz.prog.info? 37).map (·.size)=some 7:=by kernel_rfl
 have kL:=bz Reg.enc 7 (fun _=>rfl) (xs.take i)
 have qB:=bz Reg.enc 7 (fun _=>rfl) (xs.drop i)
 rw [SB,S9 (by omega)] at kL
 rw [SC] at qB
 have hsplit:xs.flatMap Reg.enc=(xs.take i).flatMap Reg.enc++(xs.drop i).flatMap Reg.enc:=by rw [←Sw,Sz]
 have hc1:∀ j u,((xs.take i).flatMap Reg.enc)[j]? =some u→w.cell? ⟨b,j,none⟩=some u:=fun j u hu=>hcell j u (by
  rw [hsplit,St (Sr.1 hu).1];exact hu)
 have hc2:∀ j u,((xs.drop i).flatMap Reg.enc)[j]? =some u→w.cell? ⟨b,i*7+j,none⟩=some u:=fun j u hu=>hcell (i*7+j) u (by
  rw [hsplit,Ss (by omega),kL,S7];exact hu)
 have hfl:=po Reg.enc xs i x
 have hil:=sE xs i x (by omega)
 have hxl:x.enc.length=7:=rfl
 have hkk:(xs.length:Int)+1-(i:Int)=((xs.length+1-i:Nat):Int):=by omega
 have hik:i+(xs.length+1-i)=xs.length+1:=by omega
 have hold:(SO i0.size i (.slice (some ⟨b,0,none⟩) i cap)).run Tryz.prog w.drew=.ok ((xs.take i).flatMap Reg.enc).toArray w.drew:=by
  rw [hzs]
  exact run_firstCells_some w.drew 7 i ⟨b,0,none⟩ i cap _ kL (fun j v hj=>by
   rw [Tg,SZ]
   exact hc1 j v hj)
 have hbig:(xs.length+1)*56≤140737488355328:=by omega
 have hrz:∀ ty,(Builtin.append_ #[23,3] ty #[.slice (some ⟨b,0,none⟩) i cap,.int .i64 ((xs.length:Int)+1-(i:Int))]).run Tryz.prog w =
  .ok (.slice (some ⟨w.heap.size,0,none⟩) (xs.length+1) (grownCap w (xs.length+1) cap 37)) (w.drew.alloc (.cells (((xs.take i).flatMap Reg.enc).toArray++SM (SR #[.string ⟨#[]⟩,.int .i64 0,.int .i64 0,.int .i64 0,.int .i64 0,.int .u8 0,.bool false]).cells (xs.length+1-i)++SM (SR #[.string ⟨#[]⟩,.int .i64 0,.int .i64 0,.int .i64 0,.int .i64 0,.int .u8 0,.bool false]).cells (grownCap w (xs.length+1) cap 37-(xs.length+1))) 37)):=fun ty=>by
  have h:=Lib.run_append_grow_zeros w 23 3 ty 37 i0 _ .i64 .i64 Tryz.underlying23 Tryz.underlying3 hi0 hz0 (some ⟨b,0,none⟩) i cap _ hold (xs.length+1-i) (by omega) (by omega) (by omega) (by omega) (by rw [hzb];omega) (by rw [hzb,hik];exact growslice_fits hroom hbig)
  rw [hik] at h
  rw [hkk]
  exact h
 obtain⟨G,hG⟩:∃ G,G=grownCap w (xs.length+1) cap 37:=⟨_,rfl⟩
 obtain⟨ROW,hROW⟩:∃ ROW:Array Sk,ROW=((xs.take i).flatMap Reg.enc).toArray++SM (SR #[.string ⟨#[]⟩,.int .i64 0,.int .i64 0,.int .i64 0,.int .i64 0,.int .u8 0,.bool false]).cells (xs.length+1-i)++SM (SR #[.string ⟨#[]⟩,.int .i64 0,.int .i64 0,.int .i64 0,.int .i64 0,.int .u8 0,.bool false]).cells (G-(xs.length+1)):=⟨_,rfl⟩
 rw [←hG] at hrz
 rw [←hROW] at hrz
 have hRl:(xs.length+1)*7≤ROW.size:=by
  rw [hROW]
  simp [SM,Sk.cells,kL]
  omega
 have Mm:∀ j u,((xs.take i).flatMap Reg.enc)[j]? =some u→ROW[j]? =some u:=fun j u hu=>by
  have hj:=(Sr.1 hu).1
  rw [hROW,Array.append_assoc,Array.getElem?_append_left (by simpa using hj)]
  simpa using hu
 obtain⟨W1,hW1⟩:∃ W1,W1=w.drew.alloc (.cells ROW 37):=⟨_,rfl⟩
 rw [←hW1] at hrz
 have hN:∀ j,j<(xs.length+1)*7→(W1.cell? ⟨w.heap.size,j,none⟩).isSome=true:=fun j hj=>by
  rw [hW1,SK (w:=w.drew) ROW _ w.heap.size j rfl,Tc (by omega)];rfl
 have hN1:∀ j u,((xs.take i).flatMap Reg.enc)[j]? =some u→W1.cell? ⟨w.heap.size,j,none⟩=some u:=fun j u hu=>by
  rw [hW1,SK (w:=w.drew) ROW _ w.heap.size j rfl];exact Mm j u hu
 have hNf:∀ j,W1.frozen? ⟨w.heap.size,j,none⟩=false:=fun j=>by rw [hW1];exact Sj.frozen?_alloc_at (w:=w.drew) ROW _ w.heap.size j rfl
 have hOb:∀ j v,w.cell? ⟨b,j,none⟩=some v→W1.cell? ⟨b,j,none⟩=some v:=fun j v h=>by rw [hW1,SJ (w:=w.drew) _ b j hbl];exact h
 have hOv:∀ j v,w.cell? ⟨g,j,none⟩=some v→W1.cell? ⟨g,j,none⟩=some v:=fun j v h=>by rw [hW1,SJ (w:=w.drew) _ g j hvw];exact h
 have hcpA:∀ (W:Sj),(∀ x,W.cell? x=W1.cell? x)→(∀ x,W.frozen? x=W1.frozen? x)→∀ ty dc,(SN #[23,23] ty #[.slice (some ⟨w.heap.size,i*7,none⟩) (xs.length+1-i) dc,.slice (some ⟨g,0,none⟩) 1 vc]).run Tryz.prog W=.ok (goInt (1:Nat)) (W.setCells w.heap.size (i*7) x.enc):=fun W hWc hWf ty dc =>
  jg W _ _ ty 37 7 w.heap.size (i*7) (xs.length+1-i) dc ⟨g,0,none⟩ 1 vc 1 _ Tryz.underlying23 hsz (by simp only [S6];split<;>omega) (by rw [hxl])
   (fun j v hj=>by rw [Tg,hWc,SZ];exact hOv _ v (GF j v hj))
   (fun j hj=>by rw [hWc];exact hN _ (by omega)) (fun j hj=>by rw [hWf];exact hNf _) (Reg.one x)
 have hGn:xs.length+1≤G:=by rw [hG];exact grownCap_ge w _ _ _
 have hG63:G≤9223372036854775807:=by
  have:=grownCap_le_maxLen w (xs.length+1) cap 37 (by unfold maxLen;omega)
  rw [←hG] at this
  unfold maxLen at this
  omega
 have hGi:¬ (G=i):=by omega
 have hGim:¬ (G=i+1):=by omega
 have hci:¬ (cap=i):=by omega
 have hbN:b≠w.heap.size:=by omega
 have hcpB:∀ (W:Sj),(∀ y,W.cell? y=(W1.setCells w.heap.size (i*7) x.enc).cell? y)→(∀ y,W.frozen? y=(W1.setCells w.heap.size (i*7) x.enc).frozen? y)→∀ ty dc sc,(SN #[23,23] ty #[.slice (some ⟨w.heap.size,(i+1)*7,none⟩) (xs.length-i) dc,.slice (some ⟨b,i*7,none⟩) (xs.length-i) sc]).run Tryz.prog W=.ok (goInt (xs.length-i:Nat)) (W.setCells w.heap.size ((i+1)*7) ((xs.drop i).flatMap Reg.enc)):=fun W hWc hWf ty dc sc =>
  jg W _ _ ty 37 7 w.heap.size ((i+1)*7) (xs.length-i) dc ⟨b,i*7,none⟩ (xs.length-i) sc (xs.length-i) _ Tryz.underlying23 hsz (by simp only [S6];split<;>omega) qB
   (fun j v hj=>by
    rw [Tg,hWc,SH _ _ _ _ _ (fun h _=>absurd h hbN)]
    exact hOb _ v (hc2 j v hj))
   (fun j hj=>by rw [hWc];exact SG _ _ _ _ _ (hN _ (by omega)))
   (fun j hj=>by rw [hWf,SI];exact hNf _) (ei Reg.one _)
 have HQ:=h_ (fun(W:Sj) (hW:W.heap=W1.heap) (hbel:SQ base w W) (KS:SQ w.heap.size w W)=>(show dB 7 Reg.enc base (some b) (fc xs i x) w (.returned (.slice (some ⟨w.heap.size,0,none⟩) (xs.length+1) G)) ((W.setCells w.heap.size (i*7) x.enc).setCells w.heap.size ((i+1)*7) ((xs.drop i).flatMap Reg.enc)) from by
  have hWc:∀ y,W.cell? y=W1.cell? y:=fun y=>by simp [Sj.cell?,hW]
  have hb2:SQ base w ((W.setCells w.heap.size (i*7) x.enc).setCells w.heap.size ((i+1)*7) ((xs.drop i).flatMap Reg.enc)):=SF _ hbw _ _ (SF _ hbw _ _ hbel)
  refine⟨⟨some ⟨w.heap.size,0,none⟩,G,by rw [hil],iJ (enc:=Reg.enc) (fun _=>rfl) ?_ ?_,fun ad had=>?_,hb2⟩,vm (SF _ (SY _) _ _ (SF _ (SY _) _ _ KS))⟩
  · have h2:=(SF w.heap.size (SY _) ((xs.drop i).flatMap Reg.enc) ((i+1)*7) (SF w.heap.size (SY _) x.enc (i*7) (SU w.heap.size W))).size
    have h3:W.heap.size=w.heap.size+1:=by rw [hW,hW1];simp
    omega
  · rw [hfl]
    have:=ym (W:=W) (g:=w.heap.size) (L1:=(xs.take i).flatMap Reg.enc) (V:=x.enc) (L2:=(xs.drop i).flatMap Reg.enc) (fun j u hu=>by rw [SZ,hWc];exact hN1 j u hu) (fun j hj=>by rw [hWc];exact hN j (by rw [kL,qB,hxl] at hj;omega))
    rw [kL,hxl,show i*7+7=(i+1)*7 by omega] at this
    exact this
  · obtain rfl:=SX had
    exact hbw))
 have hE1:∀ x,((w.alloc (.cells ROW 37)).drew).cell? x=(w.drew.alloc (.cells ROW 37)).cell? x:=fun x=>rfl
 have hE2:∀ x,((w.alloc (.cells ROW 37)).drew).frozen? x=(w.drew.alloc (.cells ROW 37)).frozen? x:=fun x=>rfl
 have hF1:=qR w (.cells ROW 37) w.heap.size (i*7) x.enc
 have hF2:=tb w (.cells ROW 37) w.heap.size (i*7) x.enc
 subst hW1
 generalize dB 7 Reg.enc base (some b) (fc xs i x) w=Q at *
 have mixed:Tryz.prog.follows Departure.mixedOrders=true:=by kernel_rfl
 have OQ:=h_ hrz
 have tZ:=h_ (hcpA _ hE1 hE2)
 have oP:=h_ (hcpB _ hF1 hF2)
 have hw1:Ti.wrap ((i:Int)+1)=(i:Int)+1:=by rw [Th];omega
 have hw2:Ti.wrap ((xs.length:Int)+1)=(xs.length:Int)+1:=by rw [Th];omega
 have hw3:Ti.wrap ((xs.length:Int)+1-(i:Int))=(xs.length:Int)+1-(i:Int):=by rw [Th];omega
 have hb1:(0:Int)≤(i:Int)+1:=by omega
 have hin:i≤xs.length:=by omega
 have htn:((i:Int)+1).toNat=i+1:=by omega
 have hb3:(i:Int)≤(xs.length:Int):=by omega
 have HB1:=h_ (show SQ base w ((w.alloc (.cells ROW 37)).drew) from((SU _ _).alloc hbw _).drew)
 have HB2:=h_ (show SQ w.heap.size w ((w.alloc (.cells ROW 37)).drew) from((SU _ _).alloc (SY _) _).drew)
 clear hkk hik hold hROW hG hRl hrz hcpA hcpB Mm hN hN1 hNf hOb hOv hc1 hc2 hcell GF hsplit hfl hil kL qB h hv hE1 hE2 hF1 hF2 hi0 hz0 hzs hzb hsz hbig
 generalize (xs.drop i).flatMap Reg.enc=ds at *
 generalize x.enc=xe at *
 generalize xs.length=n at *
 go_enter Tryz.func97,Tryz.ntmps97
 go_wp2_with (first
  | (at_builtin;refine Lib.wpList_append_run _ rfl _ _ _ _ rfl _ _ rfl rfl _ _ (OQ.out _) ?_)
  | (refine wpList_copy_runI _ rfl _ _ 23 23 rfl _ _ rfl rfl (tZ.out _ _) ?_))
 go_region_law_o (refine step_copy_runI rfl _ _ 23 23 rfl (.slice (some ⟨w.heap.size,(i+1)*7,none⟩) (n-i) (G-(i+1))) (.slice (some ⟨b,i*7,none⟩) (n-i) (cap-i)) (by simp [Tj,Tk]) (by simp [Tj,Tk]) (oP.out 3 (G-(i+1)) (cap-i)) ?_)
 go_wp2_with fail
 rw [show((w.alloc (.cells ROW 37)).drew.setCells w.heap.size (i*7) xe).drew=(w.alloc (.cells ROW 37)).drew.drew.setCells w.heap.size (i*7) xe from drew_setCells _ _ _ _]
 exact HQ.out _ rfl HB1.out.drew HB2.out.drew
end Go.Proofs.YtjebaagkomejaaaGreatDoor
