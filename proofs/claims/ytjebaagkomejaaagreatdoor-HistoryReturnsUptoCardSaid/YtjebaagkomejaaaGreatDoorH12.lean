/- slices.Insert of one element at regions, events and comments. edit: what the operations of documents give, in plain words: an error and a document's contents. event.Plain: the text of an event; document.runes: the characters of a text. -/
import Derived.Test.YtjebaagkomejaaaGreatDoorH10
set_option linter.unusedVariables false
set_option linter.unusedSimpArgs false
set_option maxRecDepth 100000
set_option maxHeartbeats 12800000
open Go.Lib renaming hid→h_
open Go renaming World→Sh,Value→Si,info_parts→Sj
open List renaming getElem?_eq_some_iff→Sk,length_cons→Sl,getElem?_append_right→Sm,getElem?_append_left→Sn,length_nil→Sp,length_append→Sq,flatMap_append→Sr,append_assoc→Ss
open Go.Lib renaming below_setCells→St,isSome_setCells→Su,join→Sv
open Go.World renaming cell?_setCells_out→Sw,ownsRow_nil→Sx,iterPos→Sy,shape?→Sz
open Go.Builtin renaming copy_→SA
open Go.RowKit.Below renaming refl→SB
open Go.Value.slice renaming injEq→SC
open Nat renaming le_refl→SD,zero_add→SF,mul_le_mul_right→SG,min_def→SH
namespace Go.Proofs.YtjebaagkomejaaaGreatDoor
open Go.RowKit Go.Lib
theorem iT {α:Type} {K:Nat} {enc:α→List Si} (hk:∀ x,(enc x).length=K) {w:Sh} {b off:Nat} {xs:List α} (hb:b<w.heap.size)(h:∀ j u,(xs.flatMap enc)[j]? =some u→w.cell? ⟨b,off+j,none⟩=some u):ah K enc Flat w (some ⟨b,off,none⟩) xs :=
 .inr ⟨b,off,rfl,hb,fun i x hx=>⟨fun j v hv=>by
  have:=h _ _ (cD enc K hk xs i x j v hx hv)
  rwa [←Nat.add_assoc] at this,trivial⟩⟩
def fk {α:Type} (xs:List α)(k:Nat)(x:α):List α:=xs.take k++[x]++xs.drop k
theorem sk {α:Type} (xs:List α)(k:Nat)(x:α)(hk:k≤xs.length):(fk xs k x).length=xs.length+1:=by
 unfold fk
 simp
 omega
theorem zU {α:Type} (xs:List α)(x:α):fk xs xs.length x=xs++[x]:=by simp [fk]
theorem o0 {α:Type} (enc:α→List Si)(xs:List α)(k:Nat)(x:α):(fk xs k x).flatMap enc=(xs.take k).flatMap enc++enc x++(xs.drop k).flatMap enc:=by simp [fk]
theorem rj {L1 V L2:List Si} {j:Nat} {u:Si} (h:(L1++V++L2)[j]? =some u):L1[j]? =some u∨(L1.length≤j∧V[j-L1.length]? =some u)∨(L1.length+V.length≤j∧L2[j-(L1.length+V.length)]? =some u):=by
 by_cases h1:j<L1.length
 · rw [Ss,Sn h1] at h
   exact .inl h
 · by_cases h2:j<L1.length+V.length
   · rw [Sn (by rw [Sq];omega),Sm (by omega)] at h
     exact .inr (.inl ⟨by omega,h⟩)
   · rw [Sm (by rw [Sq];omega),Sq] at h
     exact .inr (.inr ⟨by omega,h⟩)
theorem pK {W:Sh} {g o:Nat} {V:List Si} (hs:∀ j,j<V.length→(W.cell? ⟨g,o+j,none⟩).isSome=true)(t:Nat)(u:Si)(hu:V[t]? =some u):(W.setCells g o V).cell? ⟨g,o+t,none⟩=some u:=by
 have ht:=(Sk.1 hu).1
 rw [Sh.cell?_setCells_in g V o W hs t ht,←hu,List.getElem?_eq_getElem ht]
theorem tO {W:Sh} {g:Nat} {L1 V L2:List Si} (h1:∀ j u,L1[j]? =some u→W.cell? ⟨g,0+j,none⟩=some u)(hs:∀ j,j<L1.length+V.length+L2.length→(W.cell? ⟨g,j,none⟩).isSome=true) :
 ∀ j u,(L1++V++L2)[j]? =some u→((W.setCells g (L1.length+V.length) L2).setCells g L1.length V).cell? ⟨g,0+j,none⟩=some u:=by
 intro j u hu
 have hs1:∀ j,j<V.length→((W.setCells g (L1.length+V.length) L2).cell? ⟨g,L1.length+j,none⟩).isSome=true:=fun j hj=>Su g _ _ _ _ (hs _ (by omega))
 rcases rj hu with h|⟨hl,h⟩|⟨hl,h⟩
 · have hj:=(Sk.1 h).1
   rw [Sw g V _ _ _ (fun _ _=>.inl (by simp only;omega)),Sw g L2 _ _ _ (fun _ _=>.inl (by simp only;omega))]
   exact h1 j u h
 · have:=pK hs1 (j-L1.length) u h
   rwa [show L1.length+(j-L1.length)=0+j by omega] at this
 · have hj:=(Sk.1 h).1
   rw [Sw g V _ _ _ (fun _ _=>.inr (by simp only;omega))]
   have:=pK (W:=W) (g:=g) (o:=L1.length+V.length) (V:=L2) (fun t ht=>hs _ (by omega)) (j-(L1.length+V.length)) u h
   rwa [show L1.length+V.length+(j-(L1.length+V.length))=0+j by omega] at this
theorem xM {W:Sh} {g:Nat} {L1 V L2:List Si} (h1:∀ j u,L1[j]? =some u→W.cell? ⟨g,0+j,none⟩=some u)(hs:∀ j,j<L1.length+V.length+L2.length→(W.cell? ⟨g,j,none⟩).isSome=true) :
 ∀ j u,(L1++V++L2)[j]? =some u→((W.setCells g L1.length V).setCells g (L1.length+V.length) L2).cell? ⟨g,0+j,none⟩=some u:=by
 intro j u hu
 have hs1:∀ j,j<L2.length→((W.setCells g L1.length V).cell? ⟨g,L1.length+V.length+j,none⟩).isSome=true:=fun j hj=>Su g _ _ _ _ (hs _ (by omega))
 rcases rj hu with h|⟨hl,h⟩|⟨hl,h⟩
 · have hj:=(Sk.1 h).1
   rw [Sw g L2 _ _ _ (fun _ _=>.inl (by simp only;omega)),Sw g V _ _ _ (fun _ _=>.inl (by simp only;omega))]
   exact h1 j u h
 · have hj:=(Sk.1 h).1
   rw [Sw g L2 _ _ _ (fun _ _=>.inl (by simp only;omega))]
   have:=pK (W:=W) (g:=g) (o:=L1.length) (V:=V) (fun t ht=>hs _ (by omega)) (j-L1.length) u h
   rwa [show L1.length+(j-L1.length)=0+j by omega] at this
 · have:=pK hs1 (j-(L1.length+V.length)) u h
   rwa [show L1.length+V.length+(j-(L1.length+V.length))=0+j by omega] at this
theorem jj {P:Program} (w:Sh)(dT sT ty elem:TypeId)(K b o dLen dCap:Nat)(a:Addr)(sLen sCap n:Nat)(cs:List Si)
 (hu:P.underlying dT=some (.slice elem)) (hs:(P.info? elem).map (·.size)=some K) (hn:Nat.min sLen dLen=n) (hl:cs.length=n*K)
 (hsrc:∀ j v,cs[j]? =some v→w.cell? (a.add j)=some v) (hc:∀ j,j<cs.length→(w.cell? ⟨b,o+j,none⟩).isSome=true) (hf:∀ j,j<cs.length→w.frozen? ⟨b,o+j,none⟩=false) (h1:∀ v∈cs,v.oneCell'=true) :
 (SA #[dT,sT] ty #[.slice (some ⟨b,o,none⟩) dLen dCap,.slice (some a) sLen sCap]).run P w=.ok (goInt n) (w.setCells b o cs):=by
 have hld:=run_loadCells_list (P:=P) w a cs hsrc
 have hst:=run_storeCells_cells (P:=P) b o cs 0 w (by simpa using hc) (by simpa using hf) h1
 cases hq:P.info? elem with
 | none=>simp [hq] at hs
 | some i =>
   have hi:i.size=K:=by simpa [hq] using hs
   rw [hl] at hld
   simp [SA,run_underlying hu,Builtin.lenOf,Builtin.firstCells,sizeOf,typeInfo,hq,hi,hn,hld,hst]
theorem qC (w:Sh)(o:Obj)(g a:Nat)(xe:List Si):∀ y,(((w.alloc o).drew.setCells g a xe).drew).cell? y=((w.drew.alloc o).setCells g a xe).cell? y:=fun y=>rfl
theorem sD (w:Sh)(o:Obj)(g a:Nat)(xe:List Si):∀ y,(((w.alloc o).drew.setCells g a xe).drew).frozen? y=((w.drew.alloc o).setCells g a xe).frozen? y:=fun y=>rfl
def Fh {α:Type} (K:Nat)(enc:α→List Si)(base:Nat)(ys:List α)(w:Sh)(e:Ending)(w':Sh):Prop:=∃ a c,e=.returned (.slice a ys.length c)∧ah K enc Flat w' a ys∧(∀ ad,a=some ad→base≤ad.block)∧Below base w w'
def dC {α:Type} (K:Nat)(enc:α→List Si)(base:Nat)(o:Option Nat)(ys:List α)(w:Sh)(e:Ending)(w':Sh):Prop:=Fh K enc base ys w e w'∧w.grownBy w' o
theorem gJ (g:Nat):∀ (vs:List Si)(o:Nat) {a w:Sh},a.grownBy w (some g)→a.grownBy (w.setCells g o vs) (some g)
 | [],_,a,w,h=>h
 | v::vs,o,a,w,h=>gJ g vs (o+1) ⟨h.os,h.tape,h.output,by simpa using h.size,fun k hk hn=>by
    rw [Below.heap_setCell _ _ _ _ (fun e=>hn (by rw [e]))]
    exact h.block k hk hn⟩
theorem uM {w w':Sh} {o:Option Nat} (h:Below w.heap.size w w'):w.grownBy w' o:=⟨h.os,h.tape,h.output,h.size,fun k hk _=>h.block k hk⟩
theorem pZ (base:Nat)(x:Reg)(g c:Nat)(w:Sh)(hv:ah 7 Reg.enc Flat w (some ⟨g,0,none⟩) [x])(hb:base≤w.heap.size) :
 Calls Tryz.prog 97 #[.slice none 0 0,.int .i64 0,.slice (some ⟨g,0,none⟩) 1 c] w (dC 7 Reg.enc base none [x] w):=by
 have HQ:=h_ (fun(v':Si) (w':Sh) (ho:w'.ownsRow base 37 7 v' (0+[x].length) ([]++[x].flatMap Reg.enc)) (hg:w.grownBy w' (Si.slice none 0 0).ownBlock)=>(show dC 7 Reg.enc base none [x] w (.returned v') w' from by
  obtain⟨a,c,rfl,hS⟩:=aA (k:=7) (enc:=Reg.enc) (Ok:=Flat) (xs:=[x]) (fun _=>rfl) ho (fun _ _=>trivial)
  exact⟨⟨a,c,rfl,hS,fun ad had=>(ho.lt ad.block (by rw [had];rfl)).1,(SB base w).grown hg hb (fun j hj=>by simp [Si.ownBlock] at hj)⟩,hg⟩))
 obtain⟨j0,hj,hy0,hy1,hy2⟩:=Sj Tryz.info37
 have JI:=h_ hj;have J0:=h_ hy0;have J1:=h_ hy1;have J2:=h_ hy2
 have HV:=h_ hv
 clear hj hy0 hy1 hy2 hv
 generalize dC 7 Reg.enc base none [x] w=Q at *
 go_enter Tryz.func97,Tryz.ntmps97
 go_wp2_with (at_builtin;refine aI (enc:=Reg.enc) (Ok:=Flat) _ rfl (.tmp 23) (.tmp 24) 23 rfl base 37 j0 _ 7 56 Tryz.underlying23 JI.out J0.out J1.out J2.out rfl (by decide) (fun _=>rfl) Reg.one _ 0 [] rfl (Sx _ _ _ _) (some ⟨g,0,none⟩) c [x] rfl HV.out ?h63 ?hb ?hbase ?_)
 case h63=>simp only [Sl,Sp];unfold maxLen;omega
 case hb=>simp only [Sl,Sp];omega
 case hbase=>exact hb
 intro v' w' ho hg _
 have HF:=h_ (HQ.out v' w' ho hg)
 obtain⟨a',c',rfl⟩:∃ a' c',v'=.slice a' 1 c':=by
  rcases ho.2 with⟨rfl,h0⟩|⟨g,cap,_,rfl,_⟩
  · simp at h0
  · exact⟨_,_,rfl⟩
 clear ho hg
 go_wp2_with fail
 exact HF.out
theorem p_ (base b cap:Nat)(xs:List Reg)(x:Reg)(g c:Nat)(w:Sh)(h:w.ownsRow base 37 7 (.slice (some ⟨b,0,none⟩) xs.length cap) xs.length (xs.flatMap Reg.enc))(hv:ah 7 Reg.enc Flat w (some ⟨g,0,none⟩) [x])(hl:xs.length≤8000000)(hb:base≤w.heap.size) :
 Calls Tryz.prog 97 #[.slice (some ⟨b,0,none⟩) xs.length cap,.int .i64 xs.length,.slice (some ⟨g,0,none⟩) 1 c] w (dC 7 Reg.enc base (some b) (xs++[x]) w):=by
 have HQ:=h_ (fun(cp:Nat) (v':Si) (w':Sh) (ho:w'.ownsRow base 37 7 v' (xs.length+1) (xs.flatMap Reg.enc++[x].flatMap Reg.enc)) (hg:w.grownBy w' (Si.slice (some ⟨b,0,none⟩) xs.length cp).ownBlock)=>(show dC 7 Reg.enc base (some b) (xs++[x]) w (.returned v') w' from by
  rw [←Sr] at ho
  rw [show xs.length+1=(xs++[x]).length by simp] at ho
  obtain⟨a,c,rfl,hS⟩:=aA (k:=7) (enc:=Reg.enc) (Ok:=Flat) (fun _=>rfl) ho (fun _ _=>trivial)
  exact⟨⟨a,c,rfl,hS,fun ad had=>(ho.lt ad.block (by rw [had];rfl)).1,(SB base w).grown hg hb (fun j hj=>(h.lt j hj).1)⟩,hg⟩))
 obtain⟨j0,hj,hy0,hy1,hy2⟩:=Sj Tryz.info37
 have JI:=h_ hj;have J0:=h_ hy0;have J1:=h_ hy1;have J2:=h_ hy2
 have HO:=h_ h
 have HV:=h_ hv
 have ob:xs.length≤cap:=by
  rcases h.2 with⟨he,h0⟩|⟨g,cap,_,he,_,_,hc,_⟩
  · simp at he
  · simp only [SC] at he
    obtain⟨_,_,rfl⟩:=he
    exact hc
 have hcm:(cap:Int)≤9223372036854775807:=by
  rcases h.2 with⟨he,h0⟩|⟨g,cap,_,he,_,_,hc,hm,_⟩
  · simp at he
  · simp only [SC] at he
    obtain⟨_,_,rfl⟩:=he
    simp only [maxLen] at hm
    omega
 clear hj hy0 hy1 hy2 h hv
 generalize dC 7 Reg.enc base (some b) (xs++[x]) w=Q at *
 generalize xs.flatMap Reg.enc=cs at *
 generalize xs.length=n at *
 rcases(show cap=n∨¬ cap=n from Classical.em _) with hq|hq
 case' inl=>subst hq
 all_goals
  go_enter Tryz.func97,Tryz.ntmps97
  go_wp2_with (at_builtin;refine aI (enc:=Reg.enc) (Ok:=Flat) _ rfl (.tmp 23) (.tmp 24) 23 rfl base 37 j0 _ 7 56 Tryz.underlying23 JI.out J0.out J1.out J2.out rfl (by decide) (fun _=>rfl) Reg.one _ _ cs rfl HO.out (some ⟨g,0,none⟩) c [x] rfl HV.out ?h63 ?hb ?hbase ?_)
  case h63=>simp only [Sl,Sp];unfold maxLen;omega
  case hb=>simp only [Sl,Sp];omega
  case hbase=>exact hb
  intro v' w' ho hg _
  have HF:=h_ (HQ.out _ v' w' ho hg)
  obtain⟨g',c',rfl⟩:=dw ho (by simp)
  clear ho hg
  go_wp2_with fail
  exact HF.out
theorem mP (base b i g cap vc:Nat)(xs:List Reg)(x:Reg)(w:Sh)(h:w.ownsRow base 37 7 (.slice (some ⟨b,0,none⟩) xs.length cap) xs.length (xs.flatMap Reg.enc))(hv:w.heap[g]? =some (.cells x.enc.toArray 37 (0,0)))(hi:i<xs.length)(hroom:xs.length+1≤cap)(hgb:g≠b)(hl:xs.length≤8000000)(hbw:base≤w.heap.size) :
 Calls Tryz.prog 97 #[.slice (some ⟨b,0,none⟩) xs.length cap,.int .i64 i,.slice (some ⟨g,0,none⟩) 1 vc] w (dC 7 Reg.enc base (some b) (fk xs i x) w):=by
 obtain⟨hbb,hbl⟩:=h.lt b rfl
 have hc63:cap≤9223372036854775807:=by
  rcases h.2 with⟨he,h0⟩|⟨g,cap,_,he,_,_,hc,hm,_⟩
  · simp at he
  · simp only [SC] at he
    obtain⟨_,_,rfl⟩:=he
    simp only [maxLen] at hm
    omega
 obtain⟨cur,EU,hcs⟩:∃ cur,w.heap[b]? =some (.cells cur 37 (0,0))∧(xs.length+1)*7≤cur.size:=by
  rcases h.2 with⟨he,h0⟩|⟨g,cap,cur,he,_,hg,hc,hm,hz,_⟩
  · simp at he
  · simp only [SC,Option.some.injEq,Addr.mk.injEq,and_true,true_and] at he
    obtain⟨rfl,rfl⟩:=he
    exact⟨cur,hg,by first|(rw [hz];exact SG 7 hroom)|(rw [←hz];exact SG 7 hroom)|omega⟩
 have hfr:∀ j,w.frozen? ⟨b,j,none⟩=false:=h.frozenAt
 have hcell:∀ j u,(xs.flatMap Reg.enc)[j]? =some u→w.cell? ⟨b,j,none⟩=some u:=fun j u hu=>by
  have hj:=(Sk.1 hu).1
  rw [h.cellAt j (by rw [←h.1];exact hj)]
  exact hu
 have Cf:∀ j,j<(xs.length+1)*7→(w.cell? ⟨b,j,none⟩).isSome=true:=fun j hj=>by
  rw [cell_of_row w b j cur 37 (0,0) EU,Array.getElem?_eq_getElem (by omega)];rfl
 have GA:∀ j u,x.enc[j]? =some u→w.cell? ⟨g,j,none⟩=some u:=fun j u hu=>by
  rw [cell_of_row w g j _ 37 (0,0) hv]
  simpa using hu
 have hsa:w.shape? g=some (37,7):=by
  have:x.enc.toArray.size=7:=rfl
  simp [Sz,hv,this]
 have hsb:w.shape? b=some (37,cur.size):=by simp [Sz,EU]
 have hgf:∀ j,w.frozen? ⟨g,j,none⟩=false:=fun j=>by simp [Sh.frozen?,hv]
 have hz2:¬ ((i:Int)=(xs.length:Int)):=by omega
 have hsz:(Tryz.prog.info? 37).map (·.size)=some 7:=by kernel_rfl
 have hlen:=bE Reg.enc 7 (fun _=>rfl) xs
 have kP:=bE Reg.enc 7 (fun _=>rfl) (xs.take i)
 have qj:=bE Reg.enc 7 (fun _=>rfl) (xs.drop i)
 rw [List.length_take,Nat.min_eq_left (by omega)] at kP
 rw [List.length_drop] at qj
 have hsplit:xs.flatMap Reg.enc=(xs.take i).flatMap Reg.enc++(xs.drop i).flatMap Reg.enc:=by rw [←Sr,List.take_append_drop]
 have hc1:∀ j u,((xs.take i).flatMap Reg.enc)[j]? =some u→w.cell? ⟨b,j,none⟩=some u:=fun j u hu=>hcell j u (by
  rw [hsplit,Sn (Sk.1 hu).1];exact hu)
 have hc2:∀ j u,((xs.drop i).flatMap Reg.enc)[j]? =some u→w.cell? ⟨b,i*7+j,none⟩=some u:=fun j u hu=>hcell (i*7+j) u (by
  rw [hsplit,Sm (by omega),kP,Nat.add_sub_cancel_left];exact hu)
 have ho2:∀ v∈(xs.drop i).flatMap Reg.enc,v.oneCell'=true:=ek Reg.one _
 have hfl:=o0 Reg.enc xs i x
 have hil:=sk xs i x (by omega)
 have hxl:x.enc.length=7:=rfl
 have hov:∀ lb cb,(callFunc 144 #[.slice (some ⟨g,0,none⟩) 1 vc,.slice (some ⟨b,(i+1)*7,none⟩) lb cb]).run Tryz.prog w=.ok (.value (.bool false)) w:=fun lb cb=>by
  rw [run_callFunc_extern Tryz.func144 (by kernel_rfl) (by kernel_rfl) (by kernel_rfl) (e:=Extern.SlicesOverlaps.overlaps #[23,23] #[4]) (by kernel_rfl),
   Lib.run_overlaps_apart w 23 4 37 Tryz.underlying23 7 (fun w=>by kernel_rfl) ⟨g,0,none⟩ ⟨b,(i+1)*7,none⟩ 1 vc lb cb hgb 37 37 7 cur.size hsa hsb (by omega) (hgf 0) (hgf 7)]
  rfl
 have hcp1:∀ ty dc sc,(SA #[23,23] ty #[.slice (some ⟨b,(i+1)*7,none⟩) (xs.length-i) dc,.slice (some ⟨b,i*7,none⟩) (xs.length+1-i) sc]).run Tryz.prog w.drew=.ok (goInt (xs.length-i:Nat)) (w.drew.setCells b ((i+1)*7) ((xs.drop i).flatMap Reg.enc)):=fun ty dc sc =>
  jj w.drew _ _ ty 37 7 b ((i+1)*7) (xs.length-i) dc ⟨b,i*7,none⟩ (xs.length+1-i) sc (xs.length-i) _ Tryz.underlying23 hsz (by simp only [SH];split<;>omega) qj
   (fun j v hj=>by rw [Addr.add_lit];exact hc2 j v hj) (fun j hj=>Cf _ (by omega)) (fun j hj=>hfr _) ho2
 obtain⟨W1,hW1⟩:∃ W1,W1=w.drew.setCells b ((i+1)*7) ((xs.drop i).flatMap Reg.enc):=⟨_,rfl⟩
 have hsp1:∀ k,k<(xs.length+1)*7→(W1.cell? ⟨b,k,none⟩).isSome=true:=fun k hk=>by
  rw [hW1]
  exact Su _ _ _ _ _ (Cf k hk)
 have hcp2:∀ (W:Sh),(∀ x,W.cell? x=W1.cell? x)→(∀ x,W.frozen? x=W1.frozen? x)→∀ ty dc,(SA #[23,23] ty #[.slice (some ⟨b,i*7,none⟩) (xs.length+1-i) dc,.slice (some ⟨g,0,none⟩) 1 vc]).run Tryz.prog W=.ok (goInt (1:Nat)) (W.setCells b (i*7) x.enc):=fun W hWc hWf ty dc =>
  jj W _ _ ty 37 7 b (i*7) (xs.length+1-i) dc ⟨g,0,none⟩ 1 vc 1 _ Tryz.underlying23 hsz (by simp only [SH];split<;>omega) (by rw [hxl])
   (fun j v hj=>by
    rw [Addr.add_lit,hWc,hW1,Sw b _ _ _ _ (fun h _=>absurd h hgb)]
    rw [SF]
    exact GA j v hj)
   (fun j hj=>by rw [hWc];exact hsp1 _ (by omega)) (fun j hj=>by rw [hWf,hW1,Sh.frozen?_setCells];exact hfr _) (Reg.one x)
 rw [←hW1] at hcp1
 have HQ:=h_ (show dC 7 Reg.enc base (some b) (fk xs i x) w (.returned (.slice (some ⟨b,0,none⟩) (xs.length+1) cap)) (W1.setCells b (i*7) x.enc) from by
  have hbel:Below base w (W1.setCells b (i*7) x.enc):=by
   rw [hW1]
   exact St b hbb _ _ (St b hbb _ _ (SB base w).drew)
  have hgr:w.grownBy (W1.setCells b (i*7) x.enc) (some b):=by
   rw [hW1]
   exact gJ b _ _ (gJ b _ _ ⟨rfl,rfl,rfl,SD _,fun _ _ _=>rfl⟩)
  refine⟨⟨some ⟨b,0,none⟩,cap,by rw [hil],iT (enc:=Reg.enc) (fun _=>rfl) ?_ ?_,fun ad had=>?_,hbel⟩,hgr⟩
  · have:=hbel.size
    have h2:=(St b (SD b) x.enc (i*7) (St b (SD b) ((xs.drop i).flatMap Reg.enc) ((i+1)*7) (SB b w).drew)).size
    rw [←hW1] at h2
    omega
  · rw [hfl,hW1]
    have:=tO (W:=w.drew) (g:=b) (L1:=(xs.take i).flatMap Reg.enc) (V:=x.enc) (L2:=(xs.drop i).flatMap Reg.enc) (fun j u hu=>by rw [SF];exact hc1 j u hu) (fun j hj=>Cf j (by rw [kP,qj,hxl] at hj;omega))
    rw [kP,hxl,show i*7+7=(i+1)*7 by omega] at this
    exact this
  · obtain rfl:=Option.some.inj had
    exact hbb)
 generalize dC 7 Reg.enc base (some b) (fk xs i x) w=Q at *
 have Lb:=h_ hov
 have mixed:Tryz.prog.follows Departure.mixedOrders=true:=by kernel_rfl
 clear hfl hil hsplit hlen kP qj hc1 hc2 hcell Cf GA hsa hsb hgf hfr hcs EU h hv hsp1 hW1 hov
 generalize (xs.drop i).flatMap Reg.enc=ds at *
 generalize x.enc=xe at *
 generalize xs.length=n at *
 have hw1:IntKind.i64.wrap ((i:Int)+1)=(i:Int)+1:=by rw [IntKind.wrap_i64];omega
 have hw2:IntKind.i64.wrap ((n:Int)+1)=(n:Int)+1:=by rw [IntKind.wrap_i64];omega
 have hb1:(0:Int)≤(i:Int)+1:=by omega
 have hin:i≤n:=by omega
 have htn:((i:Int)+1).toNat=i+1:=by omega
 have O7:((n:Int)+1).toNat=n+1:=by omega
 have hb2:¬ (cap=i+1):=by omega
 have hb3:(i:Int)≤(n:Int)+1:=by omega
 have hb4:¬ (cap=i):=by omega
 have LZ:=h_ hcp1
 have LY:=h_ hcp2
 clear hcp1 hcp2
 go_enter Tryz.func97,Tryz.ntmps97
 go_wp2_with (simp only [Lb.out])
 go_region_law_o (refine step_copy_runI rfl _ _ 23 23 rfl (.slice (some ⟨b,(i+1)*7,none⟩) (n-i) (cap-(i+1))) (.slice (some ⟨b,i*7,none⟩) (n+1-i) (cap-i)) (by simp [Act.eval,Act.put]) (by simp [Act.eval,Act.put]) (LZ.out 3 (cap-(i+1)) (cap-i)) ?_)
 go_wp2_with (refine wpList_copy_runI _ rfl _ _ 23 23 rfl _ _ rfl rfl (LY.out _ (fun _=>rfl) (fun _=>rfl) _ _) ?_)
 exact HQ.out
end Go.Proofs.YtjebaagkomejaaaGreatDoor
namespace Go.Proofs.YtjebaagkomejaaaGreatDoor
open Go.RowKit
def dR (id:Int)(c:Cm):Cm:=if c.ev=id then { c with frm:=0,til:=0,lost:=true } else c
def bx (d:DocC)(id:Int):Int × DocC :=
 if cErr d≠0 then (cErr d,aV) else if (aU d.eV id).isNone=true then (6,aV)
 else (0,{ d with eV:=d.eV.filter fun x=>!(x.id==id),cM:=d.cM.map (dR id) })
def gp (c:Cm)(a b:ByteArray):Cm:=if c.lost=true then c else nd c (runes a) (runes b)
def putC (d:DocC)(e:EvC):Int × DocC :=
 if cErr d≠0 then (cErr d,aV) else match aU d.eV e.id with
  | none=>(6,aV)
  | some o=>if bT d.rG e≠0 then (bT d.rG e,aV) else
    (0,{ d with eV:=oO d.eV e.id (some e),cM:=d.cM.map fun c=>if c.ev=e.id then gp c (eo (some o)) (eo (some e)) else c })
def pJ (fr n:Int)(x:EvC):EvC:=if x.inn<fr then x else { x with inn:=x.inn+n,out:=x.out+n }
def eF (fr n:Int)(x:EvC):Bool:=decide (x.inn<fr)||(decide (0≤x.inn+n)&&decide (x.out+n≤5184000))
def d_ (d:DocC)(fr n:Int):Int × DocC :=
 if cErr d≠0 then (cErr d,aV) else if n < -5184000∨5184000<n then (2,aV)
 else if d.eV.all (eF fr n)=true then (0,{ d with eV:=de (d.eV.map (pJ fr n)) }) else (2,aV)
def aQ (d:DocC)(e:EvC):Int :=
 if cErr d≠0 then cErr d else
 let q:Int:=if e.id=0 then (if 1099511627776≤d.hd.last then 9 else 0) else if e.id<1∨d.hd.last<e.id then 2 else if (aU d.eV e.id).isSome=true∨(cR d.cM e.id).isSome=true then 7 else 0
 if q≠0 then q else
 let e':EvC:=if e.id=0 then { e with id:=d.hd.last+1 } else e
 if bT d.rG e'≠0 then bT d.rG e' else if 400≤d.eV.length then 9 else 0
def insertC (d:DocC)(e:EvC):Int × DocC :=
 if aQ d e≠0 then (aQ d e,aV) else
 if e.id=0 then (0,{ d with hd:={ d.hd with last:=d.hd.last+1 },eV:=de (d.eV++[{ e with id:=d.hd.last+1 }]) })
 else (0,{ d with eV:=de (d.eV++[e]) })
def bg (e:EvC)(fr row id:Int):Int :=
 if row<1∨e.rows.length≤row then 1 else if fr≤e.inn∨e.out≤fr∨id<1∨1099511627776<id then 2 else if id=e.id then 7 else 0
def gh (e:EvC)(fr row:Int):EvC:={ e with out:=fr,rows:=e.rows.take row.toNat }
def iS (e:EvC)(fr row id:Int):EvC:={ e with id:=id,inn:=fr,rows:=e.rows.drop row.toNat }
def evLt (a b:EvC):Bool:=decide (a.inn<b.inn∨(a.inn=b.inn∧a.id<b.id))
def bS (a b:EvC):Int:=if evLt a b=false then 8 else if 4<a.rows.length+b.rows.length then 9 else 0
def nZ (a b:EvC):EvC:={ a with inn:=min a.inn b.inn,out:=max a.out b.out,rows:=a.rows++b.rows }
def AP (e:EvC):Int:=gK e.rep.rows
def bO (d:DocC)(id fr til:Int)(au tx:ByteArray):Int :=
 if cErr d≠0 then cErr d else match aU d.eV id with
  | none=>6
  | some e=>if fr<0∨til≤fr∨AP e<til then 2 else if c_ au=false then 5 else if bB tx=false then 10 else if tx.size=0 then 4
    else if 400<tx.size∨64≤d.cM.length∨1099511627776≤d.hd.last then 9 else 0
def fT (d:DocC)(id fr til:Int)(au tx:ByteArray):Int × DocC :=
 if bO d id fr til au tx≠0 then (bO d id fr til au tx,aV)
 else (0,{ d with hd:={ d.hd with last:=d.hd.last+1 },cM:=d.cM++[⟨d.hd.last+1,id,fr,til,au,tx,false,false⟩] })
def b_ (d:DocC)(id:Int):Int × DocC :=
 if cErr d≠0 then (cErr d,aV) else match cR d.cM id with
  | none=>(6,aV)
  | some c=>if c.done=true then (17,aV) else (0,{ d with cM:=d.cM.map fun c=>if c.id=id then { c with done:=true } else c })
def bY (d:DocC)(id:Int):Int × DocC :=
 if cErr d≠0 then (cErr d,aV) else if (cR d.cM id).isNone=true then (6,aV) else (0,{ d with cM:=d.cM.filter fun c=>!(c.id==id) })
def dP (out:List Run)(x:Run):List Run :=
 if x.text.size=0 then out else match out.getLast? with
  | some l=>if eB l x=true then out.dropLast++[{ l with text:=l.text++x.text }] else out++[x]
  | none=>[x]
def cG (l:List Run):List Run:=l.foldl dP []
def limA (n i:Int):Int:=min (max i 0) n
def limB (n i j:Int):Int:=min (max j (limA n i)) n
def fU (l:List Nat):ByteArray:=⟨(l.flatMap fun(r:Nat)=>Lib.encodeRune r).toArray⟩
def dQ (s:ByteArray)(i j:Int):ByteArray :=
 let l:=if bB s=true then runes s else []
 fU (((l.take (limB l.length i j).toNat).drop (limA l.length i).toNat))
def sliceAt (i j:Int):Int→List Run→List Run
 | _,[]=>[]
 | at_,x::l =>
   let n:=lenB x.text
   let a:=limA n (i-at_)
   let b:=limB n (i-at_) (j-at_)
   { x with text:=dQ x.text a b,ruby:=if b-a<n then uj else x.ruby }::sliceAt i j (at_+n) l
def bQ (r:List Run)(i j:Int):List Run:=if rowLen r<0 then [] else cG (sliceAt (limA (rowLen r) i) (limB (rowLen r) i j) 0 r)
def cV (a b:List Run):List Run:=cG (a++b)
def gH (r:List Run)(i j:Int)(color:Int)(it un:Bool):List Run :=
 if rowLen r<0 then [] else
 let a:=limA (rowLen r) i
 let b:=limB (rowLen r) i j
 cV (cV (bQ r 0 a) ((bQ r a b).map fun x=>{ x with color:=color,it:=it,un:=un })) (bQ r b (rowLen r))
structure EdC where
 op:Int
 id:Int
 other:Int
 inn:Int
 out:Int
 frame:Int
 row:Int
 frm:Int
 til:Int
 kind:Int
 color:Int
 it:Bool
 un:Bool
 name:ByteArray
 text:ByteArray
 reg:Reg
 rows:List (List Run)
def aN (op:Int):Nat :=
 match op.toNat with
 | 1=>4+256+4096+64+512+2048
 | 2=>1
 | 3=>1+4
 | 4=>1+2048
 | 5=>1+256+4096
 | 6=>1+64
 | 7=>1+256+4096
 | 8=>1+16+32+128
 | 9=>1+8+16
 | 10=>1+2
 | 11=>8+2
 | 12=>1024
 | 13=>1024
 | 14=>256
 | 15=>512
 | 16=>256+4096
 | 17=>1+32+256+512
 | 18=>1
 | 19=>1
 | _=>0
def et (x:EdC)(k:Nat):Bool:=(aN x.op).testBit k
def uQ (x:EdC):Bool :=
 (et x 0||x.id==0)&&(et x 1||x.other==0)&&(et x 2||(x.inn==0&&x.out==0))&&(et x 3||x.frame==0)&&(et x 4||x.row==0)&&(et x 5||(x.frm==0&&x.til==0))&&(et x 6||x.kind==0) &&
 (et x 7||(x.color==0&&x.it==false&&x.un==false))&&(et x 8||x.name.toList.isEmpty)&&(et x 9||x.text.toList.isEmpty)&&(et x 10||gV x.reg gB)&&(et x 11||x.rows.isEmpty)
def kk (x:EdC):Bool :=
 (!et x 0||inB x.id 1 1099511627776)&&(!et x 1||(if x.op=11 then inB x.other (-5184000) 5184000 else inB x.other 1 1099511627776))&&(!et x 2||cL x.inn x.out)&&(!et x 3||inB x.frame 0 5184000) &&
 (!et x 4||inB x.row 0 3)&&(!et x 5||(inB x.frm 0 262144&&inB x.til 0 262144))
def dJ (x:EdC):Int :=
 if x.op=1 then (if x.text.size=0∨c_ x.text=true then 0 else 5) else if bB x.text=false then 10 else if x.op=17∧x.text.size=0 then 4 else if x.text.size≤400 then 0 else 9
def dg:List (List Run)→Int
 | []=>0
 | r::l=>if gi r≠0 then gi r else dg l
def dx (l:List (List Run)):Int:=if l.length<1∨4<l.length then 9 else dg l
def gM (x:EdC):Int :=
 if x.op<1∨19<x.op then 3 else if uQ x=false then 1 else if kk x=false then 2
 else if et x 6=true∧(kindName x.kind).size=0 then 3 else if et x 7=true∧¬ x.color≤6 then 12
 else if et x 8=true∧c_ x.name=false∧(x.name.size≠0∨et x 12=false) then 5
 else if et x 9=true∧dJ x≠0 then dJ x
 else if et x 10=true then fo x.reg
 else if et x 11=true then dx x.rows else 0
def aF (d:DocC)(id:Int)(f:EvC→Int × EvC):Int × DocC :=
 match aU d.eV id with
 | none=>(6,aV)
 | some e=>if (f e).1≠0 then ((f e).1,aV) else putC d (f e).2
def restyle (x:EdC)(e:EvC):Int × EvC :=
 match e.rows[x.row.toNat]? with
 | none=>(2,e)
 | some r=>if x.frm<0∨x.til≤x.frm∨rowLen r<x.til then (2,e) else (0,{ e with rows:=e.rows.set x.row.toNat (gH r x.frm x.til x.color x.it x.un) })
def eA (d:DocC)(x:EdC):Int × DocC :=
 match aU d.eV x.id with
 | none=>(6,aV)
 | some e=>if 1099511627776≤d.hd.last then (9,aV) else if bg e x.frame x.row (d.hd.last+1)≠0 then (bg e x.frame x.row (d.hd.last+1),aV)
   else if (putC d (gh e x.frame x.row)).1≠0 then ((putC d (gh e x.frame x.row)).1,aV)
   else insertC (putC d (gh e x.frame x.row)).2 (iS e x.frame x.row 0)
def gZ (d:DocC)(x:EdC):Int × DocC :=
 match aU d.eV x.id,aU d.eV x.other with
 | some a,some b=>if x.id=x.other then (1,aV) else if bS a b≠0 then (bS a b,aV)
   else if (bx d x.other).1≠0 then ((bx d x.other).1,aV) else putC (bx d x.other).2 (nZ a b)
 | _,_=>(6,aV)
def fu (d:DocC)(x:EdC):Int × DocC :=
 let name:=if x.op=14 then x.name else x.reg.name
 if x.op=12 then (if (fj d.rG name).isSome=true then (7,aV) else if 16≤d.rG.length then (9,aV) else (0,{ d with rG:=d.rG.filter (dO name)++x.reg::d.rG.filter fun r=>!(dO name r) }))
 else if (fj d.rG name).isNone=true then (6,aV)
 else if x.op=13 then
  let rs:=d.rG.map fun r=>if eH name r=true then x.reg else r
  (match d.eV.find? (fun e=>bT rs e != 0) with
   | some e=>(bT rs e,aV)
   | none=>(0,{ d with rG:=rs }))
 else if d.eV.any (fun e=>e.region.toList==name.toList)=true then (17,aV)
 else (0,{ d with rG:=d.rG.filter fun r=>!(eH name r) })
def bU (d:DocC)(x:EdC):Int × DocC :=
 if cErr d≠0 then (cErr d,aV) else if gM x≠0 then (gM x,aV) else match x.op.toNat with
 | 1=>insertC d ⟨0,x.inn,x.out,x.name,x.kind,x.text,x.rows⟩
 | 2=>bx d x.id
 | 3=>aF d x.id fun e=>(0,{ e with inn:=x.inn,out:=x.out })
 | 4=>aF d x.id fun e=>(0,{ e with rows:=x.rows })
 | 5=>aF d x.id fun e=>(0,{ e with region:=x.name })
 | 6=>aF d x.id fun e=>(0,{ e with kind:=x.kind })
 | 7=>aF d x.id fun e=>(0,{ e with speaker:=x.name })
 | 8=>aF d x.id (restyle x)
 | 9=>eA d x
 | 10=>gZ d x
 | 11=>d_ d x.frame x.other
 | 15=>(0,{ d with hd:={ d.hd with title:=x.text } })
 | 16=>(0,{ d with hd:={ d.hd with lA:=x.name } })
 | 17=>fT d x.id x.frm x.til x.name x.text
 | 18=>b_ d x.id
 | 19=>bY d x.id
 | _=>fu d x
theorem Tryz.info21m:(Tryz.prog.info? 21).map (fun i=>(i.zero,i.size,i.bytes))=some (some (.int .i32 0),1,4):=by kernel_rfl
theorem j5 {w:Sh} {base e size n:Nat} {v:Si} {xs:List Si} (h:w.ownsRow base e size v n xs):∃ a c,v=.slice a n c:=by
 rcases h.2 with⟨rfl,h0⟩|⟨g',cap,cur,rfl,_⟩
 · exact⟨none,0,by rw [h0]⟩
 · exact⟨_,cap,rfl⟩
theorem ed:∀ l:List Run,kK l=iM l
 | []=>rfl
 | x::l=>by rw [kK,iM,ed l]
theorem rJ:∀ rows:List (List Run),Sv ((rows.map plain).map (·.data.toList)) [10]=dm rows
 | []=>rfl
 | [r]=>by
   rw [dm,ed]
   simp [Sv,plain]
 | r::q::l=>by
   have ih:=rJ (q::l)
   rw [dm,←ih,ed]
   · simp only [List.map_cons,Lib.join_cons,plain]
     simp [Lib.joinTail]
   · simp
theorem iU {n:Nat}:∀ rows:List (List Run),(∀ r∈rows,cC r≤n)→(dm rows).length≤rows.length*(n+1)
 | [],_=>by simp [dm]
 | [r],h=>by
   have:=h r (by simp)
   rw [dm,ed,gY]
   simp
   omega
 | r::q::l,h=>by
   have ih:=iU (q::l) (fun x hx=>h x (by simp [hx]))
   have:=h r (by simp)
   have e:(dm (r::q::l)).length=(kK r).length+((dm (q::l)).length+1):=by
    rw [dm]
    · simp
    · simp
   rw [e,ed,gY]
   rw [Sl,Nat.add_mul]
   omega
theorem B_ (B:Nat)(v:Si)(ws:List ByteArray)(sep:ByteArray)(w:Sh)(h:w.ownsRow B 9 1 v ws.length (ws.map Si.string))(hl:ws.length≤4000000)(hj:(Sv (ws.map (·.data.toList)) sep.data.toList).length≤140737488355328) :
 Calls Tryz.prog 185 #[v,.string sep] w fun e w'=>e=.returned (.string ⟨(Sv (ws.map (·.data.toList)) sep.data.toList).toArray⟩)∧Below w.heap.size w w':=by
 rcases Nat.eq_zero_or_pos ws.length with h0|h0
 · obtain rfl:=List.eq_nil_of_length_eq_zero h0
   obtain⟨a,c,rfl⟩:=j5 h
   refine(Tryz.strings_Join_none a c sep w).mono fun e w' p=>?_
   obtain⟨rfl,rfl⟩:=p
   exact⟨rfl,SB _ _⟩
 · rcases h.2 with⟨_,hn⟩|⟨g,cap,cur,rfl,hB,hc,hnc,r⟩
   · omega
   · refine Tryz.strings_Join g 0 cap ws sep w (fun j x hx=>?_) (h.lt g rfl).2 (by omega) hnc hj
     rw [SF,h.cellAt j (by have:=(Sk.1 hx).1;omega)]
     simp [hx]
def kz (s:ByteArray)(w:Sh)(v:Si)(wr:Sh):Prop :=
 ∃ (pos b:Nat) (xs:List Nat),xs++cZ s b pos=runes s∧s.size≤pos+b∧xs.length≤pos∧xs.length≤s.size∧wr.ownsRow (w.heap.size+1) 21 1 v xs.length (xs.map fun n:Nat=>Si.int .i32 (n:Int))∧wr.heap[w.heap.size]? =some (.stringIter s pos)∧Below w.heap.size w wr
def ku (s:ByteArray)(w:Sh)(e:Ending)(w':Sh):Prop:=∃ v,e=.returned v∧w'.ownsRow w.heap.size 21 1 v (runes s).length ((runes s).map fun n:Nat=>Si.int .i32 (n:Int))∧Below w.heap.size w w'
theorem AY {w:Sh} {B e k n:Nat} {v:Si} {xs:List Si} (h:w.ownsRow (B+1) e k v n xs):w.ownsRow B e k v n xs :=
 ⟨h.1,h.2.imp id fun⟨g,cap,cur,q1,q2,q3⟩=>⟨g,cap,cur,q1,by omega,q3⟩⟩
theorem jw (s:ByteArray)(w:Sh)(hs:s.size≤20000000000000):Calls Tryz.prog 184 #[.string s] w (ku s w):=by
 obtain⟨i0,hi,hz0,hz1,hz2⟩:=Sj Tryz.info21m
 have HI:=h_ hi;have J0:=h_ hz0;have J1:=h_ hz1;have J2:=h_ hz2
 clear hi hz0 hz1 hz2
 have HQ:=h_ (fun(v:Si) (xs:List Nat) (w':Sh) (he:xs=runes s) (ho:w'.ownsRow (w.heap.size+1) 21 1 v xs.length (xs.map fun n:Nat=>Si.int .i32 (n:Int))) (hb:Below w.heap.size w w')=>(show ku s w (.returned v) w' from⟨v,rfl,by subst he;exact AY ho,hb⟩))
 generalize ku s w=Q at *
 go_enter Tryz.func184,Tryz.ntmps184
 go_wp2_with fail
 go_loopw [3] (fun v wr=>kz s w v wr) (fun _ wr=>s.size-wr.iterPos w.heap.size)
 case atStart=>exact⟨0,s.size,[],rfl,by omega,by simp,by simp,Sx _ _ _ _,Sh.iter_heap w s 0,(SB _ _).alloc (SD _) _⟩
 case round =>
  obtain⟨pos,b,xs,hp,hb,hkp,hks,hown,hit,hbe⟩:=hrel
  have hpos:=h_ (show wr.iterPos w.heap.size=pos by simp [Sy,hit])
  by_cases hlt:pos<s.size
  · obtain⟨c,rfl,hn⟩:=im s b pos hlt hb
    have hwd:=width_pos s pos hlt
    have hle:=decode_le s pos
    have hnx:∀ ty,(Instr.next (.pointer (some ⟨w.heap.size,0,none⟩)) true ty).run Tryz.prog wr=_:=fun ty=>Lib.run_next_any_at wr w.heap.size s pos ty hit hlt
    rw [hn] at hp
    have HP:=h_ hp
    generalize (Utf8.decode s pos).1=x at *
    generalize (Utf8.decode s pos).2=d at *
    have hgl:w.heap.size<wr.heap.size:=(Array.getElem?_eq_some_iff.1 hit).1
    have hown2:=ownsRow_iterAt hown (show w.heap.size<w.heap.size+1 by omega) s (pos+d)
    have HI2:=h_ (Lib.iterAt_heap wr w.heap.size s pos (pos+d) hit)
    have hsz:(wr.iterAt w.heap.size s (pos+d)).heap.size=wr.heap.size:=Lib.iterAt_size _ _ _ _
    have px:=h_ (Lib.below_iterAt hbe (SD _) s (pos+d))
    have wo:=h_ (fun j hj=>(hown.lt j hj).1)
    clear hown hn hit hbe hp
    go_wp2_with (at_builtin;refine aY _ _ rfl (.tmp 11) (.tmp 13) 203 rfl (w.heap.size+1) 21 i0 _ 1 4 Tryz.underlying203 HI.out J0.out J1.out J2.out rfl (by decide) _ _ _ rfl hown2 _ rfl (by simp [hsz]) rfl ?h1 ?h63 ?hb ?hbase ?_)
    case h1=>first|rfl|(intro u hu;simp at hu;subst hu;rfl)
    case h63=>unfold maxLen;omega
    case hb=>omega
    case hbase=>omega
    intro v' w2 hown' hgrow
    have Hp:w2.heap[w.heap.size]? =some (.stringIter s (pos+d)):=by
     rw [hgrow.block w.heap.size (by simp;omega) (fun h=>by have:=wo.out w.heap.size h.symm;omega),Below.heap_alloc _ _ _ (by omega)]
     exact HI2.out
    have R:kz s w v' w2:=⟨pos+d,c,xs++[x],by rw [Ss];exact HP.out,by omega,by simp;omega,by simp;omega,by simpa using hown',Hp,(px.out.alloc (by omega) _).grown hgrow (by simp;omega) (fun j hj=>by have:=wo.out j hj;omega)⟩
    have Aj:w2.iterPos w.heap.size=pos+d:=by simp [Sy,Hp]
    clear hown' hgrow hown2
    go_wp2_with fail
    go_roundw
    case rel=>exact R
    case measure=>rw [Aj,hpos.out];omega
  · have hnx:∀ ty,(Instr.next (.pointer (some ⟨w.heap.size,0,none⟩)) true ty).run Tryz.prog wr=_:=fun ty=>Lib.run_next_end_at wr w.heap.size s pos ty hit hlt
    rw [gT s b pos hlt,List.append_nil] at hp
    have HF:=h_ (HQ.out u3 xs wr hp hown hbe)
    clear hown hit hbe hp
    go_wp2_with fail
    exact HF.out
end Go.Proofs.YtjebaagkomejaaaGreatDoor
