/- style: runs in normal form, in plain words. history: a history in plain words and in memory. (by hand) Copies of rows and events, with what they own. -/
import Derived.Lib.BufferRead
import Derived.Deep.DeepWitnessRowRef
import Derived.Lib.LaidU8T
import Derived.Stop.LaidErr
import Derived.MakeChecks
import Derived.Test.YtjebaagkomejaaaGreatDoorK14
import Derived.Test.YtjebaagkomejaaaGreatDoorK15
set_option linter.unusedVariables false
set_option linter.unusedSimpArgs false
set_option maxRecDepth 100000
set_option maxHeartbeats 12800000
open Go.Lib renaming hid→h_
open List renaming getElem?_eq_getElem→Sj,length_append→Sk,mem_cons→Sl,take_of_length_le→Sm,cons_append→Sn,mem_append→Sp,getElem_of_mem→Sq,set_cons_succ→Sr,length_cons→Ss,getLast?_eq_getElem?→St,getElem?_eq_some_iff→Su,eq_nil_or_concat→Sv,mem_cons_of_mem→Sw,flatMap_append→Sx,set_cons_zero→Sy,take_add_one→Sz,flatMap_cons→SA,take_length→SB,flatMap_nil→SC,nil_append→SD,length_nil→SF,append_nil→SG,mem_map→SH
open Go renaming World→SI,cell_of_row→SJ,Value→SK,setRow_heap→SL,heap_alloc_last→SM
open Go.RowKit renaming Below→SN
open Go.World renaming frozen?→SO,ownsRow→SQ
open Go.Value renaming slice→SR,ownBlock→SS,int→SU
open Nat renaming le_refl→SV,le_trans→SW
open Option.some renaming injEq→SX
namespace Go.Proofs.YtjebaagkomejaaaGreatDoor
open Go.RowKit
def az:List Run→Nat
 | []=>0
 | x::l=>x.text.size+az l
theorem df:∀ a b:List Run,az (a++b)=az a+az b
 | [],b=>by simp [az]
 | x::a,b=>by rw [Sn,az,df a b,az];omega
theorem rO (l:List Run)(k:Nat)(x:Run)(h:l[k]? =some x):az (l.take (k+1))=az (l.take k)+x.text.size:=by
 rw [Sz,h,df]
 simp [az]
theorem mj (l:List Run)(k:Nat):az (l.take k)≤az l:=by
 have h:=df (l.take k) (l.drop k)
 rw [List.take_append_drop] at h
 omega
theorem g_:∀ (l:List Run)(x:Run),x∈l→x.text.size≤az l
 | y::l,x,h=>by
   rcases Sl.1 h with rfl|h
   · rw [az];omega
   · have:=g_ l x h
     rw [az];omega
theorem ml:∀ (l:List Run)(k:Nat)(x y:Run),l[k]? =some x→az (l.set k y)+x.text.size=az l+y.text.size
 | [],k,x,y,h=>by simp at h
 | z::l,0,x,y,h=>by
   obtain rfl:z=x:=by simpa using h
   rw [Sy,az,az];omega
 | z::l,k+1,x,y,h=>by
   have:=ml l k x y (by simpa using h)
   rw [Sr,az,az];omega
theorem kI (l:List Run)(k:Nat)(x:Run)(h:l[k]? =some x):cN (l.take (k+1))=dN (cN (l.take k)) x:=by
 unfold cN
 rw [Sz,h,List.foldl_append]
 rfl
theorem vU {α:Type}:∀ (l:List α)(y:α),l≠[]→l.set (l.length-1) y=l.dropLast++[y]
 | [],y,h=>absurd rfl h
 | [x],y,_=>rfl
 | x::z::l,y,_=>by
   have:=vU (z::l) y (by simp)
   simp only [Ss,Nat.add_sub_cancel] at this ⊢
   rw [Sr,this,List.dropLast_cons_cons,Sn]
theorem iM {out:List Run} {x:Run} (h:x.text.size=0):dN out x=out:=by unfold dN;rw [if_pos h]
theorem ij {x:Run} (h:¬ x.text.size=0):dN [] x=[]++[x]:=by unfold dN;rw [if_neg h];rfl
theorem iN {out:List Run} {x l:Run} (h:¬ x.text.size=0)(hl:out[out.length-1]? =some l)(ha:eu l x=true):dN out x=out.set (out.length-1) { l with text:=l.text++x.text }:=by
 have h0:out≠[]:=fun e=>by rw [e] at hl;simp at hl
 unfold dN
 rw [if_neg h,St,hl]
 show(if eu l x=true then _ else _)=_
 rw [if_pos ha,vU _ _ h0]
theorem ig {out:List Run} {x l:Run} (h:¬ x.text.size=0)(hl:out[out.length-1]? =some l)(ha:eu l x=false):dN out x=out++[x]:=by
 unfold dN
 rw [if_neg h,St,hl]
 show(if eu l x=true then _ else _)=_
 rw [if_neg (by rw [ha];exact Bool.false_ne_true)]
theorem uK (out:List Run)(x:Run):az (dN out x)=az out+x.text.size:=by
 by_cases h:x.text.size=0
 · rw [iM h,h];rfl
 · cases hl:out[out.length-1]? with
   | none =>
     have:out=[]:=by
      rcases Sv out with h|⟨a,b,rfl⟩
      · exact h
      · simp at hl
     subst this
     rw [ij h];simp [az]
   | some l =>
     cases ha:eu l x with
     | true =>
       rw [iN h hl ha]
       have:=ml out (out.length-1) l { l with text:=l.text++x.text } hl
       rw [ByteArray.size_append] at this
       omega
     | false=>rw [ig h hl ha,df];simp [az]
theorem uL (out:List Run)(x:Run):(dN out x).length≤out.length+1:=by
 by_cases h:x.text.size=0
 · rw [iM h];omega
 · cases hl:out[out.length-1]? with
   | none =>
     have:out=[]:=by
      rcases Sv out with h|⟨a,b,rfl⟩
      · exact h
      · simp at hl
     subst this
     rw [ij h];simp
   | some l =>
     cases ha:eu l x with
     | true=>rw [iN h hl ha];simp
     | false=>rw [ig h hl ha];simp
theorem gv (l:List Run):∀ k,(cN (l.take k)).length≤k
 | 0=>by simp [cN]
 | k+1=>by
   have ih:=gv l k
   by_cases h:k<l.length
   · rw [kI l k l[k] (Sj h)]
     have:=uL (cN (l.take k)) l[k]
     omega
   · rw [Sm (by omega)]
     rw [Sm (by omega)] at ih
     omega
theorem su (l:List Run):(cN l).length≤l.length:=by
 have:=gv l l.length
 rwa [SB] at this
theorem gu (l:List Run):∀ k,az (cN (l.take k))=az (l.take k)
 | 0=>by simp [cN,az]
 | k+1=>by
   have ih:=gu l k
   by_cases h:k<l.length
   · rw [kI l k l[k] (Sj h),uK,ih,rO l k l[k] (Sj h)]
   · rw [Sm (by omega)]
     rw [Sm (by omega)] at ih
     exact ih
theorem iO (l:List Run):az (cN l)=az l:=by
 have:=gu l l.length
 rwa [SB] at this
structure HsC where
 doc:DocC
 saved:DocC
 undo:List DocC
 redo:List DocC
def putH (h:HsC)(d:DocC):HsC:=⟨d,h.saved,if 16<h.undo.length+1 then (h.undo++[h.doc]).drop 1 else h.undo++[h.doc],[]⟩
def doH (h:HsC)(x:EdC):Int × HsC:=if (cj h.doc x).1=0 then (0,putH h (cj h.doc x).2) else ((cj h.doc x).1,h)
def fm (h:HsC):Int × HsC:=match h.undo.getLast? with
 | none=>(6,h)
 | some d=>(0,⟨d,h.saved,h.undo.dropLast,h.redo++[h.doc]⟩)
def newH (d:DocC):HsC:=⟨d,d,[],[]⟩
structure Hs where
 doc:Doc
 saved:Doc
 ua:Option Addr
 uc:Nat
 undo:List Doc
 ra:Option Addr
 rc:Nat
 redo:List Doc
def Hs.uv (h:Hs):SK:=.slice h.ua h.undo.length h.uc
def Hs.rv (h:Hs):SK:=.slice h.ra h.redo.length h.rc
def Hs.enc (h:Hs):List SK:=h.doc.enc++(h.saved.enc++[.slice h.ua h.undo.length h.uc,.slice h.ra h.redo.length h.rc])
def Hs.c (h:Hs):HsC:=⟨h.doc.c,h.saved.c,h.undo.map Doc.c,h.redo.map Doc.c⟩
def Hs.own (h:Hs)(b k:Nat):Prop:=k=b∨h.uv.ownBlock=some k∨h.rv.ownBlock=some k
def Hs.docs (h:Hs):List Doc:=h.doc::h.saved::(h.undo++h.redo)
def eW (S:Nat→Prop)(w:SI)(d:Doc):Prop:=d.lies w∧d.fits∧∀ k,d.uses k→¬ S k
structure HsAt (b:Nat)(h:Hs)(w:SI):Prop where
 at_:w.heap[b]? =some (.cells h.enc.toArray 82 (0,0))
 undo:w.ownsRow 0 27 8 (.slice h.ua h.undo.length h.uc) h.undo.length (h.undo.flatMap Doc.enc)
 redo:w.ownsRow 0 27 8 (.slice h.ra h.redo.length h.rc) h.redo.length (h.redo.flatMap Doc.enc)
 docs:∀ d∈h.docs,eW (h.own b) w d
 ub:∀ k,h.uv.ownBlock=some k→k≠b∧h.rv.ownBlock≠some k
 rb:h.rv.ownBlock≠some b
theorem eW.frame {S S':Nat→Prop} {w w':SI} {d:Doc} (h:eW S w d)(hs:w.heap.size≤w'.heap.size)(hk:∀ k,d.uses k→w'.heap[k]? =w.heap[k]?)(hS:∀ k,k<w.heap.size→S' k→S k):eW S' w' d :=
 ⟨Doc.frame h.1 hs hk,h.2.1,fun k hu h2=>h.2.2 k hu (hS k (Doc.uses_lt h.1 hu) h2)⟩
theorem eW.keep {S S':Nat→Prop} {w w':SI} {d:Doc} (h:eW S w d)(hk:Kept S w w')(hS:∀ k,k<w.heap.size→S' k→S k):eW S' w' d :=
 h.frame hk.size (fun k hu=>hk.block k (Doc.uses_lt h.1 hu) (h.2.2 k hu)) hS
theorem eW.later {S:Nat→Prop} {w w':SI} {d:Doc} (h:eW S w d)(hb:SN w.heap.size w w'):eW S w' d :=
 h.frame hb.size (fun k hu=>hb.block k (Doc.uses_lt h.1 hu)) fun _ _ h=>h
theorem Doc.enc_len (d:Doc):d.enc.length=8:=rfl
theorem Hs.enc_len (h:Hs):h.enc.length=18:=rfl
theorem HsAt.frame {b:Nat} {h:Hs} {w w':SI} (H:HsAt b h w)(hs:w.heap.size≤w'.heap.size)(hk:∀ k,h.own b k→w'.heap[k]? =w.heap[k]?)(hd:∀ d∈h.docs,∀ k,d.uses k→w'.heap[k]? =w.heap[k]?):HsAt b h w' :=
 ⟨(hk b (.inl rfl)).trans H.at_,aB H.undo fun k e=>hk k (.inr (.inl e)),aB H.redo fun k e=>hk k (.inr (.inr e)),fun d hm=>(H.docs d hm).frame hs (hd d hm) fun _ _ h=>h,H.ub,H.rb⟩
theorem iQ {w:SI} {g:Nat} {o:Obj} (h:w.heap[g]? =some o):g<w.heap.size:=(Array.getElem?_eq_some_iff.1 h).1
theorem HsAt.lt {b:Nat} {h:Hs} {w:SI} (H:HsAt b h w) {k:Nat} (hk:h.own b k):k<w.heap.size:=by
 rcases hk with rfl|hk|hk
 · exact iQ H.at_
 · exact(H.undo.lt k hk).2
 · exact(H.redo.lt k hk).2
theorem HsAt.later {b:Nat} {h:Hs} {w w':SI} (H:HsAt b h w)(hb:SN w.heap.size w w'):HsAt b h w' :=
 H.frame hb.size (fun k hk=>hb.block k (H.lt hk)) fun d hm k hu=>hb.block k (Doc.uses_lt (H.docs d hm).1 hu)
theorem HsAt.off {b:Nat} {h:Hs} {w w':SI} {S:Nat→Prop} (H:HsAt b h w)(hk:Kept S w w')(h1:∀ k,h.own b k→¬ S k)(h2:∀ d∈h.docs,∀ k,d.uses k→¬ S k):HsAt b h w' :=
 H.frame hk.size (fun k e=>hk.block k (H.lt e) (h1 k e)) fun d hm k hu=>hk.block k (Doc.uses_lt (H.docs d hm).1 hu) (h2 d hm k hu)
structure tF (N:Doc→Prop)(b:Nat)(h h':Hs)(w:SI):Prop where
 own:∀ k,h'.own b k→h.own b k∨w.heap.size≤k
 docs:∀ d∈h'.docs,d∈h.docs∨N d
theorem tF.mono {N N':Doc→Prop} {b:Nat} {h h':Hs} {w:SI} (s:tF N b h h' w)(q:∀ d,N d→N' d):tF N' b h h' w:=⟨s.own,fun d hd=>(s.docs d hd).imp id (q d)⟩
theorem tF.same {N:Doc→Prop} {b:Nat} {h:Hs} {w:SI}:tF N b h h w:=⟨fun _ h=>.inl h,fun _ h=>.inl h⟩
def kV (w:SI)(d:Doc):Prop:=∀ k,d.uses k→w.heap.size≤k
def fi (N:Doc→Prop)(c:HsC)(b:Nat)(h:Hs)(w w':SI):Prop:=∃ h':Hs,HsAt b h' w'∧h'.c=c∧tF N b h h' w∧Kept (h.own b) w w'
def nM (c:HsC)(b:Nat)(h:Hs)(w w':SI):Prop:=fi (kV w) c b h w w'
theorem nM.same {b:Nat} {h:Hs} {w w':SI} (H:HsAt b h w)(hb:SN w.heap.size w w'):nM h.c b h w w':=⟨h,H.later hb,rfl,.same,Kept.of_below hb⟩
theorem HsAt.next {b:Nat} {h h':Hs} {w w':SI} (H:HsAt b h w)(hk:Kept (h.own b) w w')(h1:w'.heap[b]? =some (.cells h'.enc.toArray 82 (0,0)))
 (h2:w'.ownsRow 0 27 8 (.slice h'.ua h'.undo.length h'.uc) h'.undo.length (h'.undo.flatMap Doc.enc)) (h3:w'.ownsRow 0 27 8 (.slice h'.ra h'.redo.length h'.rc) h'.redo.length (h'.redo.flatMap Doc.enc))
 (hub:∀ k,h'.uv.ownBlock=some k→k≠b∧h'.rv.ownBlock≠some k) (hrb:h'.rv.ownBlock≠some b) (hown:∀ k,h'.own b k→h.own b k∨w.heap.size≤k)
 (hd:∀ d∈h'.docs,d∈h.docs∨eW (h'.own b) w' d):HsAt b h' w' :=
 ⟨h1,h2,h3,fun d hm=>by
  rcases hd d hm with hm|hm
  · exact(H.docs d hm).keep hk fun k hlt ho=>(hown k ho).elim id fun h=>by omega
  · exact hm,hub,hrb⟩
theorem bH {w:SI} {b:Nat} {h:Hs} (r:w.heap[b]? =some (.cells h.enc.toArray 82 (0,0))):w.rangeAt b 0 h.doc.enc∧w.rangeAt b 8 h.saved.enc∧w.cell? ⟨b,16,none⟩=some (.slice h.ua h.undo.length h.uc)∧w.cell? ⟨b,17,none⟩=some (.slice h.ra h.redo.length h.rc):=by
 refine⟨fun j v hv=>?_,fun j v hv=>?_,SJ _ _ 16 _ 82 (0,0) r,SJ _ _ 17 _ 82 (0,0) r⟩
 · have hj:j<8:=(Su.1 hv).1
   rw [SJ _ _ (0+j) _ 82 (0,0) r]
   obtain rfl|rfl|rfl|rfl|rfl|rfl|rfl|rfl:j=0∨j=1∨j=2∨j=3∨j=4∨j=5∨j=6∨j=7:=by omega
   all_goals exact hv
 · have hj:j<8:=(Su.1 hv).1
   rw [SJ _ _ (8+j) _ 82 (0,0) r]
   obtain rfl|rfl|rfl|rfl|rfl|rfl|rfl|rfl:j=0∨j=1∨j=2∨j=3∨j=4∨j=5∨j=6∨j=7:=by omega
   all_goals exact hv
theorem eS {w:SI} {b:Nat} {h:Hs} (r:w.heap[b]? =some (.cells h.enc.toArray 82 (0,0)))(j:Nat):w.frozen? ⟨b,j,none⟩=false:=by simp [SO,r]
theorem qw {w:SI} {b o:Nat} {h:Hs} (r:w.heap[b]? =some (.cells h.enc.toArray 82 (0,0)))(ho:o+8≤18):w.there b o 8:=fun j hj=>⟨by
 rw [SJ _ _ (o+j) _ 82 (0,0) r]
 have:o+j<h.enc.length:=by rw [Hs.enc_len];omega
 simp [Sj this],eS r _⟩
theorem Ao {w:SI} {b:Nat} {h:Hs} (r:w.heap[b]? =some (.cells h.enc.toArray 82 (0,0)))(a:Option Addr)(U:List Doc)(c:Nat):(w.setCell ⟨b,16,none⟩ (.slice a U.length c)).heap[b]? =some (.cells ({ h with ua:=a,uc:=c,undo:=U }:Hs).enc.toArray 82 (0,0)):=by
 rw [heap_setCell_same w b 16 _ 82 (.slice a U.length c) r];rfl
theorem Ap {w:SI} {b:Nat} {h:Hs} (r:w.heap[b]? =some (.cells h.enc.toArray 82 (0,0)))(a:Option Addr)(U:List Doc)(c:Nat):(w.setCell ⟨b,17,none⟩ (.slice a U.length c)).heap[b]? =some (.cells ({ h with ra:=a,rc:=c,redo:=U }:Hs).enc.toArray 82 (0,0)):=by
 rw [heap_setCell_same w b 17 _ 82 (.slice a U.length c) r];rfl
theorem Ey {w:SI} {b:Nat} {h:Hs} (r:w.heap[b]? =some (.cells h.enc.toArray 82 (0,0)))(D:Doc):(w.setCells b 0 D.enc).heap[b]? =some (.cells ({ h with doc:=D }:Hs).enc.toArray 82 (0,0)):=by
 have r0:=heap_setCell_same w b 0 _ 82 (.string D.title) r
 have r1:=heap_setCell_same _ b 1 _ 82 (.string D.lA) r0
 have r2:=heap_setCell_same _ b 2 _ 82 (.int .u8 D.rate) r1
 have r3:=heap_setCell_same _ b 3 _ 82 (.bool D.drop) r2
 have r4:=heap_setCell_same _ b 4 _ 82 (.int .i64 D.last) r3
 have r5:=heap_setCell_same _ b 5 _ 82 (.slice D.ra D.rG.length D.rc) r4
 have r6:=heap_setCell_same _ b 6 _ 82 (.slice D.ea D.eV.length D.ec) r5
 have r7:=heap_setCell_same _ b 7 _ 82 (.slice D.ca D.cM.length D.cc) r6
 clear r r0 r1 r2 r3 r4 r5 r6
 simp only [Hs.enc,Doc.enc,Sn,SD,List.setIfInBounds_toArray,Sy,Sr] at r7
 simp only [Hs.enc,Doc.enc,Sn,SD,SI.setCells]
 exact r7
theorem jO {S:Nat→Prop} {b:Nat} (hb:S b):∀ (vs:List SK)(o:Nat) {a w:SI},Kept S a w→Kept S a (w.setCells b o vs)
 | [],_,_,_,h=>h
 | v::vs,o,a,w,h=>jO hb vs (o+1) (h.setCell (p:=⟨b,o,none⟩) (.inr hb) v)
theorem qL (d:Doc):(d.enc.toArray.all (·.oneCell'))=true:=by simp [Doc.enc,SK.oneCell']
def nK (rows:List Row)(w:SI)(e:Ending)(w':SI):Prop:=∃ a' cap' rows',e=.returned (.slice a' rows'.length cap')∧bx w' a' rows'∧rows'.map Row.runs=rows.map Row.runs∧(∀ b,dh a' rows' b→w.heap.size≤b)∧w'.ownsRow w.heap.size 75 1 (.slice a' rows'.length cap') rows'.length (rows'.flatMap Row.enc)∧(∀ r∈rows',∀ b,r.uses b→(SR a' rows'.length cap').ownBlock≠some b)∧SN w.heap.size w w'
theorem cP.done2 {rows:List Row} {w wr:SI} {a:Option Addr} {c:Nat} (h:cP rows w (.slice a rows.length c) rows.length wr):nK rows w (.returned (.slice a rows.length c)) wr:=by
 obtain⟨rows',h1,h2,h3,h4,h5⟩:=h
 have h3':=h3
 rw [←h1] at h3
 obtain⟨a',c',he,hS⟩:=aA (k:=1) (enc:=Row.enc) (Ok:=Row.lies) (fun _=>rfl) h3 (fun r hr=>by
  obtain⟨j,hj,rfl⟩:=Sq hr
  exact(h4 j _ (Sj hj)).1)
 simp only [SR.injEq] at he
 obtain⟨rfl,_,rfl⟩:=he
 refine⟨a,c,rows',by rw [h1],hS,h2,fun b hu=>?_,h3,fun r hr b hu=>?_,h5⟩
 rcases hu with⟨_,ad,rfl,rfl⟩|⟨r,hr,hu⟩
 · exact(h3'.lt _ rfl).1
 · obtain⟨j,hj,rfl⟩:=Sq hr
   exact((h4 j _ (Sj hj)).2.2 (by omega) b hu).1
 · obtain⟨j,hj,rfl⟩:=Sq hr
   rw [h1]
   exact(h4 j _ (Sj hj)).2.1 b hu
theorem gH (a:Option Addr)(cap:Nat)(rows:List Row)(w:SI)(h:bx w a rows)(hf:∀ r∈rows,r.runs.length≤4000000)(hl:rows.length≤4000000) :
 Calls Tryz.prog 121 #[.slice a rows.length cap] w (nK rows w):=by
 have HC:=h_ (jE a cap rows w h hl)
 have HS:=h_ (fun(w1:SI) (v:SK) (ho:w1.ownsRow w.heap.size 75 1 v rows.length (rows.flatMap Row.enc)) (hb:SN w.heap.size w w1)=>cP.start h ho hb)
 have HD:=h_ (fun(wr:SI) (a:Option Addr) (c:Nat) (h:cP rows w (.slice a rows.length c) rows.length wr)=>h.done2)
 have HF:=h_ (fun(rows':List Row) (e:rows'.map Row.runs=rows.map Row.runs) (r:Row) (hr:r∈rows')=>(show r.runs.length≤4000000 by
  have:r.runs∈rows.map Row.runs:=by rw [←e];exact SH.2 ⟨r,hr,rfl⟩
  obtain⟨r0,h0,he⟩:=SH.1 this
  rw [←he];exact hf r0 h0))
 clear h hf
 generalize nK rows w=Q at *
 go_enter Tryz.func121,Tryz.ntmps121
 go_wp2_with fail
 refine HC.out.mono ?_
 rintro e w1 ⟨v,rfl,hown,hb1⟩
 obtain⟨av,cv,rfl⟩:∃ av cv,v=.slice av rows.length cv:=by
  rcases hown.2 with⟨rfl,h0⟩|⟨g,cap,_,rfl,_⟩
  · exact⟨none,0,by rw [h0]⟩
  · exact⟨_,_,rfl⟩
 have HR:=h_ (HS.out _ _ hown hb1)
 clear hown hb1 HC HS
 go_wp2_with fail
 go_loopw [9] (fun i wr=>∃ k:Nat,k≤rows.length∧i=.int .i64 k∧cP rows w (.slice av rows.length cv) k wr) (fun i _=>rows.length-(intOf i).toNat)
 case atStart=>exact⟨0,by omega,rfl,HR.out⟩
 case round =>
  clear HR
  obtain⟨k,hk,rfl,hrel⟩:=hrel
  by_cases hlt:k<rows.length
  · obtain⟨rows',h1,h2,h3,h4,h5⟩:=hrel
    obtain⟨g,c',he⟩:=dD h3 (by omega)
    simp only [SR.injEq,true_and] at he
    obtain⟨rfl,rfl⟩:=he
    have hk':rows'[k]? =some rows'[k]:=Sj (by omega)
    generalize rows'[k]=r at hk'
    have hmem:=List.mem_of_getElem? hk'
    have hc0:wr.cell? ⟨g,k,none⟩=some (.slice r.at_ r.runs.length r.cap):=by
     rw [h3.cellAt k (by omega)]
     have:=cK Row.enc 1 (fun _=>rfl) rows' k r 0 _ hk' rfl
     rw [show k*1+0=k by omega] at this
     exact this
    have lN:=h_ (jD (Ok:=Flat) r.at_ r.cap r.runs wr (h4 k r hk').1 (HF.out _ h2 r hmem))
    have HK:=h_ (fun(w2:SI) (hb:SN wr.heap.size wr w2)=>(show w2.cell? ⟨g,k,none⟩=some (.slice r.at_ r.runs.length r.cap)∧w2.frozen? ⟨g,k,none⟩=false from
     ⟨(hb.cell (p:=⟨g,k,none⟩) (h3.lt g rfl).2).trans hc0,(aI h3 hb).frozenAt k⟩))
    have HST:=h_ (fun(w2:SI) (a2:Option Addr) (c2:Nat) (hb:SN wr.heap.size wr w2) (ho:w2.ownsRow wr.heap.size 77 5 (.slice a2 r.runs.length c2) r.runs.length (r.runs.flatMap Run.enc))=>cP.step hk' h1 h2 h3 h4 h5 hb ho)
    clear h1 h2 h3 h4 h5 hk' hmem
    obtain⟨ra,rc,rr⟩:=r
    simp only at *
    go_wp2_with fail
    refine lN.out.mono ?_
    rintro e w2 ⟨v2,rfl,hown2,hb2⟩
    obtain⟨a2,c2,rfl⟩:∃ av cv,v2=.slice av rr.length cv:=by
     rcases hown2.2 with⟨rfl,h0⟩|⟨g,cap,_,rfl,_⟩
     · exact⟨none,0,by rw [h0]⟩
     · exact⟨_,_,rfl⟩
    obtain⟨k1,k2⟩:=HK.out _ hb2
    have HN:=h_ (HST.out _ _ _ hb2 hown2)
    clear hown2 hb2 lN HK HST hc0
    go_wp2_with fail
    go_roundw
    case rel=>exact⟨k+1,by omega,by go_num,HN.out⟩
    case measure=>simp [intOf];omega
  · obtain rfl:k=rows.length:=by omega
    have HN:=h_ hrel
    clear hrel
    go_wp2_with fail
    exact HD.out _ _ _ HN.out
def vR (c:EvC)(w:SI)(e:Ending)(w':SI):Prop:=∃ y:Ev,e=.returned (.agg y.enc.toArray)∧y.c=c∧y.lies w'∧(∀ b,y.uses b→w.heap.size≤b)∧w'.ownsRow w.heap.size 75 1 (.slice y.at_ y.rows.length y.cap) y.rows.length (y.rows.flatMap Row.enc)∧(∀ r∈y.rows,∀ b,r.uses b→(SR y.at_ y.rows.length y.cap).ownBlock≠some b)∧SN w.heap.size w w'
theorem gD (x:Ev)(w:SI)(h:x.lies w)(hf:∀ r∈x.rows,r.runs.length≤4000000)(hl:x.rows.length≤4000000) :
 Calls Tryz.prog 71 #[.agg x.enc.toArray] w (vR x.c w):=by
 generalize hcs:x.enc.toArray=cs
 have HC:=h_ (fun(o:Obj)=>gH x.at_ x.cap x.rows ((w.alloc (.cells cs 72)).alloc o) (bx.later h (((SN.refl _ _).alloc (SV _) _).alloc (by simp) _)) hf hl)
 have HQ:=h_ (fun(a:Option Addr) (c:Nat) (rows:List Row) (w':SI) (e:rows.map Row.runs=x.rows.map Row.runs) (h:bx w' a rows) (hu:∀ b,dh a rows b→w.heap.size≤b) (ho:w'.ownsRow w.heap.size 75 1 (.slice a rows.length c) rows.length (rows.flatMap Row.enc)) (hap:∀ r∈rows,∀ b,r.uses b→(SR a rows.length c).ownBlock≠some b) (hb:SN w.heap.size w w')=>(show vR x.c w (.returned (.agg #[.int .i64 x.id,.int .i64 x.inn,.int .i64 x.out,.string x.region,.int .u8 x.kind,.string x.speaker,.slice a rows.length c])) w' from
  ⟨⟨x.id,x.inn,x.out,x.region,x.kind,x.speaker,a,c,rows⟩,rfl,by simp only [Ev.c,e],h,hu,ho,hap,hb⟩))
 have HB:=h_ (fun(o o':Obj) (w1:SI) (hb:SN ((w.alloc o).alloc o').heap.size ((w.alloc o).alloc o') w1)=>(show SN w.heap.size w w1 from(((SN.refl _ _).alloc (SV _) _).alloc (by simp) _).trans (hb.mono (by simp;omega))))
 have HK:=h_ (fun(o:Array SK) (w1:SI) (hb:SN ((w.alloc (.cells cs 72)).alloc (.cells o 72)).heap.size ((w.alloc (.cells cs 72)).alloc (.cells o 72)) w1)=>(show(w1.heap[w.heap.size]? =some (.cells cs 72 (0,0))∧w1.heap[w.heap.size+1]? =some (.cells o 72 (0,0))) by
  refine⟨?_,?_⟩
  · rw [hb.block _ (by simp;omega),SN.heap_alloc _ _ _ (by simp)]
    exact SM w _
  · rw [hb.block _ (by simp)]
    have:=SM (w.alloc (.cells cs 72)) (.cells o 72)
    rwa [SI.size_alloc] at this))
 obtain⟨id,inn,out,reg,kind,sp,a,c,rows⟩:=x
 simp only at *
 generalize vR _ w=Q at *
 clear h hf
 simp only [Ev.enc] at hcs
 go_enter Tryz.func71,Tryz.ntmps71
 subst hcs
 go_wp2_with fail
 refine(HC.out _).mono ?_
 rintro e w1 ⟨a',c',rows',rfl,hr,hm,hu,ho,hap,hb⟩
 obtain⟨hk1,hk2⟩:=HK.out _ _ hb
 have bE:=h_ (HB.out _ _ _ hb)
 have HR:=h_ hr
 have HM:=h_ hm
 have HU:=h_ hu
 have HO:=h_ (dG ho (B':=w.heap.size+2) (by simp))
 have oR:=h_ hap
 clear hb hr hm hu HC HB HK ho hap
 have c1:∀ j,w1.cell? ⟨w.heap.size,j,none⟩=_:=fun j=>SJ _ _ j _ 72 (0,0) hk1
 have c2:∀ j,w1.cell? ⟨w.heap.size+1,j,none⟩=_:=fun j=>SJ _ _ j _ 72 (0,0) hk2
 have z1:∀ j,w1.frozen? ⟨w.heap.size,j,none⟩=false:=fun j=>by simp [SO,hk1]
 have z2:∀ j,w1.frozen? ⟨w.heap.size+1,j,none⟩=false:=fun j=>by simp [SO,hk2]
 clear hk1 hk2
 go_wp2_with fail
 refine bodyPost_ret (v:=.agg #[.int .i64 id,.int .i64 inn,.int .i64 out,.string reg,.int .u8 kind,.string sp,.slice a' rows'.length c']) (by simp [results,Tryz.results71,go_sem,c2]) rfl ?_
 have HF:=h_ (fun(b:Nat) (u u0 u1 u2 u3 u4 u5 u6:SK) (hb:w.heap.size+2≤b)=>(show((((((((w1.setCell ⟨w.heap.size,6,none⟩ u).setCell ⟨w.heap.size+1,0,none⟩ u0).setCell ⟨w.heap.size+1,1,none⟩ u1).setCell ⟨w.heap.size+1,2,none⟩ u2).setCell ⟨w.heap.size+1,3,none⟩ u3).setCell ⟨w.heap.size+1,4,none⟩ u4).setCell ⟨w.heap.size+1,5,none⟩ u5).setCell ⟨w.heap.size+1,6,none⟩ u6).heap[b]? =w1.heap[b]? by
  repeat rw [SN.heap_setCell _ _ _ _ (by simp only;omega)]))
 have FZ:∀ b,dh a' rows' b→w.heap.size+2≤b:=fun b hu=>by
  have:=HU.out b hu
  simp at this
  omega
 refine HQ.out _ _ _ _ HM.out (bx.frame HR.out (by simp) fun b hu=>HF.out b _ _ _ _ _ _ _ _ (FZ b hu)) (fun b hu=>by have:=FZ b hu;omega) (dG (aB HO.out fun b q=>HF.out b _ _ _ _ _ _ _ _ (HO.out.lt b q).1) (by omega)) oR.out ?_
 repeat refine SN.setCell ?_ (by simp only;omega) _
 exact bE.out
end Go.Proofs.YtjebaagkomejaaaGreatDoor
namespace Go.Proofs.YtjebaagkomejaaaGreatDoor
open Go.RowKit
def cu (N:Doc→Prop)(b:Nat)(h:Hs)(w:SI)(h':Hs)(w':SI):Prop:=HsAt b h' w'∧tF N b h h' w∧Kept (h.own b) w w'
theorem cu.post {N:Doc→Prop} {b:Nat} {h h':Hs} {w w':SI} {c:HsC} (s:cu N b h w h' w')(hc:h'.c=c):fi N c b h w w':=⟨h',s.1,hc,s.2.1,s.2.2⟩
theorem cu.trans {N:Doc→Prop} {b:Nat} {h h1 h2:Hs} {w w1 w2:SI} (s:cu N b h w h1 w1)(t:cu N b h1 w1 h2 w2):cu N b h w h2 w2:=by
 have hs:=s.2.2.size
 refine⟨t.1,⟨fun k hk=>?_,fun d hd=>(t.2.1.docs d hd).elim (s.2.1.docs d) .inr⟩,s.2.2.trans t.2.2 fun i hi ho=>(s.2.1.own i ho).elim id fun h=>by omega⟩
 rcases t.2.1.own k hk with h|h
 · exact s.2.1.own k h
 · exact .inr (by omega)
theorem cu.of_below {N:Doc→Prop} {b:Nat} {h:Hs} {w w':SI} (H:HsAt b h w)(hb:SN w.heap.size w w'):cu N b h w h w':=⟨H.later hb,.same,Kept.of_below hb⟩
theorem eW.step {N:Doc→Prop} {b:Nat} {h h':Hs} {w w':SI} {D:Doc} (hD:eW (h.own b) w D)(s:cu N b h w h' w'):eW (h'.own b) w' D :=
 hD.keep s.2.2 fun k hk ho=>(s.2.1.own k ho).elim id fun h=>by omega
theorem pQ {B e k n:Nat} {v:SK} {xs:List SK} {w:SI} (h:w.ownsRow B e k v n xs):∃ a c,v=.slice a n c:=by
 rcases h.2 with⟨rfl,h0⟩|⟨g,cap,_,rfl,_⟩
 · exact⟨none,0,by rw [h0]⟩
 · exact⟨_,_,rfl⟩
theorem mK {w:SI} {b e k n:Nat} {v u:SK} {j:Nat} {xs:List SK} (h:w.ownsRow 0 e k v n xs)(hne:v.ownBlock≠some b):(w.setCell ⟨b,j,none⟩ u).ownsRow 0 e k v n xs :=
 aB h fun k e=>(bG (Kept.refl (fun k=>k=b) w) j u).block k (h.lt k e).2 fun e2=>hne (e2▸e)
section
variable {N:Doc→Prop} {b:Nat} {h:Hs} {v w2:SI}
theorem Cj {v':SK} {o:Obj} (H:HsAt b h v)(ho:w2.ownsRow 0 27 8 v' (h.undo.length+1) (h.undo.flatMap Doc.enc++h.doc.enc))(hg:(v.alloc o).grownBy w2 (SR h.ua h.undo.length h.uc).ownBlock)(hat:v'.ownBlock=(SR h.ua h.undo.length h.uc).ownBlock∨v'.ownBlock=some (v.heap.size+1)) :
 ∃ a c,v'=.slice a (h.undo.length+1) c∧w2.heap[b]? =some (.cells h.enc.toArray 82 (0,0))∧Kept (fun k=>(SR h.ua h.undo.length h.uc).ownBlock=some k) v w2∧cu N b h v { h with ua:=a,uc:=c,undo:=h.undo++[h.doc] } (w2.setCell ⟨b,16,none⟩ (.slice a (h.undo.length+1) c)):=by
 obtain⟨a,c,rfl⟩:=pQ ho
 have hbl:=iQ H.at_
 have hk0:Kept (fun k=>(SR h.ua h.undo.length h.uc).ownBlock=some k) v w2:=(Kept.of_below ((SN.refl _ _).alloc (SV _) o)).andGrown hg fun k hk _=>hk
 have hbu:(SR h.ua h.undo.length h.uc).ownBlock≠some b:=fun e=>(H.ub b e).1 rfl
 have r2:=(hk0.block b hbl hbu).trans H.at_
 have r3:=Ao r2 a (h.undo++[h.doc]) c
 rw [Sk] at r3
 have hnew:∀ k,(SR a (h.undo.length+1) c).ownBlock=some k→(SR h.ua h.undo.length h.uc).ownBlock=some k∨v.heap.size≤k:=fun k e=>by
  rcases hat with q|q
  · exact .inl (q▸e)
  · rw [q] at e;simp only [SX] at e;exact .inr (by omega)
 have sZ:(SR a (h.undo.length+1) c).ownBlock≠some b:=fun e=>(hnew b e).elim hbu fun q=>by omega
 have hk:Kept (h.own b) v (w2.setCell ⟨b,16,none⟩ (.slice a (h.undo.length+1) c)):=(hk0.mono fun k _ e=>.inr (.inl e)).setCell (p:=⟨b,16,none⟩) (.inr (.inl rfl)) _
 have hown:∀ k,Hs.own { h with ua:=a,uc:=c,undo:=h.undo++[h.doc] } b k→h.own b k∨v.heap.size≤k:=fun k hk=>by
  rcases hk with q|q|q
  · exact .inl (.inl q)
  · rcases hnew k (by simpa [Hs.uv,Sk,SS] using q) with q|q
    · exact .inl (.inr (.inl q))
    · exact .inr q
  · exact .inl (.inr (.inr q))
 have hrr:=H.redo
 have hdd:∀ d∈Hs.docs ({ h with ua:=a,uc:=c,undo:=h.undo++[h.doc] }:Hs),d∈h.docs:=fun d hd=>by
  simp only [Hs.docs,Sl,Sp] at hd ⊢
  rcases hd with q|q|(q|q|q)|q
  · exact .inl q
  · exact .inr (.inl q)
  · exact .inr (.inr (.inl q))
  · exact .inl q
  · cases q
  · exact .inr (.inr (.inr q))
 refine⟨a,c,rfl,r2,hk0,H.next hk r3 ?_ ?_ (fun k e=>?_) H.rb hown (fun d hd=>.inl (hdd d hd)),⟨hown,fun d hd=>.inl (hdd d hd)⟩,hk⟩
 · show SQ _ 0 27 8 (.slice a (h.undo++[h.doc]).length c) (h.undo++[h.doc]).length ((h.undo++[h.doc]).flatMap Doc.enc)
   rw [Sk,Sx]
   simp only [Ss,SF,SA,SC,SG]
   exact mK ho sZ
 · exact mK (aB hrr fun k e=>hk0.block k (hrr.lt k e).2 fun e2=>(H.ub k e2).2 e) H.rb
 · have e':(SR a (h.undo.length+1) c).ownBlock=some k:=by simpa [Hs.uv,Sk,SS] using e
   refine⟨fun q=>sZ (q▸e'),fun q=>?_⟩
   rcases hnew k e' with q2|q2
   · exact(H.ub k q2).2 q
   · have:=(hrr.lt k q).2;omega
theorem Ck {v':SK} {o:Obj} (H:HsAt b h v)(ho:w2.ownsRow 0 27 8 v' (h.redo.length+1) (h.redo.flatMap Doc.enc++h.doc.enc))(hg:(v.alloc o).grownBy w2 (SR h.ra h.redo.length h.rc).ownBlock)(hat:v'.ownBlock=(SR h.ra h.redo.length h.rc).ownBlock∨v'.ownBlock=some (v.heap.size+1)) :
 ∃ a c,v'=.slice a (h.redo.length+1) c∧w2.heap[b]? =some (.cells h.enc.toArray 82 (0,0))∧Kept (fun k=>(SR h.ra h.redo.length h.rc).ownBlock=some k) v w2∧cu N b h v { h with ra:=a,rc:=c,redo:=h.redo++[h.doc] } (w2.setCell ⟨b,17,none⟩ (.slice a (h.redo.length+1) c)):=by
 obtain⟨a,c,rfl⟩:=pQ ho
 have hbl:=iQ H.at_
 have hk0:Kept (fun k=>(SR h.ra h.redo.length h.rc).ownBlock=some k) v w2:=(Kept.of_below ((SN.refl _ _).alloc (SV _) o)).andGrown hg fun k hk _=>hk
 have hbu:(SR h.ra h.redo.length h.rc).ownBlock≠some b:=H.rb
 have r2:=(hk0.block b hbl hbu).trans H.at_
 have r3:=Ap r2 a (h.redo++[h.doc]) c
 rw [Sk] at r3
 have hnew:∀ k,(SR a (h.redo.length+1) c).ownBlock=some k→(SR h.ra h.redo.length h.rc).ownBlock=some k∨v.heap.size≤k:=fun k e=>by
  rcases hat with q|q
  · exact .inl (q▸e)
  · rw [q] at e;simp only [SX] at e;exact .inr (by omega)
 have sZ:(SR a (h.redo.length+1) c).ownBlock≠some b:=fun e=>(hnew b e).elim hbu fun q=>by omega
 have hk:Kept (h.own b) v (w2.setCell ⟨b,17,none⟩ (.slice a (h.redo.length+1) c)):=(hk0.mono fun k _ e=>.inr (.inr e)).setCell (p:=⟨b,17,none⟩) (.inr (.inl rfl)) _
 have hown:∀ k,Hs.own { h with ra:=a,rc:=c,redo:=h.redo++[h.doc] } b k→h.own b k∨v.heap.size≤k:=fun k hk=>by
  rcases hk with q|q|q
  · exact .inl (.inl q)
  · exact .inl (.inr (.inl q))
  · rcases hnew k (by simpa [Hs.rv,Sk,SS] using q) with q|q
    · exact .inl (.inr (.inr q))
    · exact .inr q
 have J7:=H.undo
 have hdd:∀ d∈Hs.docs ({ h with ra:=a,rc:=c,redo:=h.redo++[h.doc] }:Hs),d∈h.docs:=fun d hd=>by
  simp only [Hs.docs,Sl,Sp] at hd ⊢
  rcases hd with q|q|q|(q|q|q)
  · exact .inl q
  · exact .inr (.inl q)
  · exact .inr (.inr (.inl q))
  · exact .inr (.inr (.inr q))
  · exact .inl q
  · cases q
 refine⟨a,c,rfl,r2,hk0,H.next hk r3 ?_ ?_ (fun k e=>?_) ?_ hown (fun d hd=>.inl (hdd d hd)),⟨hown,fun d hd=>.inl (hdd d hd)⟩,hk⟩
 · exact mK (aB J7 fun k e=>hk0.block k (J7.lt k e).2 fun e2=>(H.ub k e).2 e2) (fun e=>(H.ub b e).1 rfl)
 · show SQ _ 0 27 8 (.slice a (h.redo++[h.doc]).length c) (h.redo++[h.doc]).length ((h.redo++[h.doc]).flatMap Doc.enc)
   rw [Sk,Sx]
   simp only [Ss,SF,SA,SC,SG]
   exact mK ho sZ
 · refine⟨(H.ub k e).1,fun q=>?_⟩
   have e':(SR a (h.redo.length+1) c).ownBlock=some k:=by simpa [Hs.rv,Sk,SS] using q
   rcases hnew k e' with q2|q2
   · exact(H.ub k e).2 q2
   · have:=(J7.lt k e).2;omega
 · intro e
   exact sZ (by simpa [Hs.rv,Sk,SS] using e)
theorem Ar {v':SK} {ys:List Doc} (H:HsAt b h v)(ho:w2.ownsRow 0 27 8 v' ys.length (ys.flatMap Doc.enc))(hg:v.grownBy w2 none)(hat:v'.ownBlock=none∨v'.ownBlock=some v.heap.size)(hy:∀ d∈ys,d∈h.docs) :
 ∃ a c,v'=.slice a ys.length c∧w2.heap[b]? =some (.cells h.enc.toArray 82 (0,0))∧SN v.heap.size v w2∧cu N b h v { h with ua:=a,uc:=c,undo:=ys } (w2.setCell ⟨b,16,none⟩ (.slice a ys.length c)):=by
 obtain⟨a,c,rfl⟩:=pQ ho
 have hbl:=iQ H.at_
 have hb0:SN v.heap.size v w2:=⟨hg.os,hg.tape,hg.output,hg.size,fun k hk=>hg.block k hk (by simp)⟩
 have r2:=(hb0.block b hbl).trans H.at_
 have r3:=Ao r2 a ys c
 have hnew:∀ k,(SR a ys.length c).ownBlock=some k→v.heap.size≤k:=fun k e=>by
  rcases hat with q|q
  · rw [q] at e;cases e
  · rw [q] at e;simp only [SX] at e;omega
 have sZ:(SR a ys.length c).ownBlock≠some b:=fun e=>by have:=hnew b e;omega
 have hk:Kept (h.own b) v (w2.setCell ⟨b,16,none⟩ (.slice a ys.length c)):=(Kept.of_below hb0).setCell (p:=⟨b,16,none⟩) (.inr (.inl rfl)) _
 have hown:∀ k,Hs.own { h with ua:=a,uc:=c,undo:=ys } b k→h.own b k∨v.heap.size≤k:=fun k hk=>by
  rcases hk with q|q|q
  · exact .inl (.inl q)
  · exact .inr (hnew k q)
  · exact .inl (.inr (.inr q))
 have hrr:=H.redo
 have hdd:∀ d∈Hs.docs ({ h with ua:=a,uc:=c,undo:=ys }:Hs),d∈h.docs:=fun d hd=>by
  simp only [Hs.docs,Sl,Sp] at hd
  rcases hd with q|q|q|q
  · simp [Hs.docs,q]
  · simp [Hs.docs,q]
  · exact hy d q
  · simp [Hs.docs,q]
 refine⟨a,c,rfl,r2,hb0,H.next hk r3 (mK ho sZ) (mK (aB hrr fun k e=>hb0.block k (hrr.lt k e).2) H.rb) (fun k e=>⟨fun q=>sZ (q▸e),fun q=>by have:=hnew k e;have:=(hrr.lt k q).2;omega⟩) H.rb hown (fun d hd=>.inl (hdd d hd)),⟨hown,fun d hd=>.inl (hdd d hd)⟩,hk⟩
theorem Aq {D:Doc} (H:HsAt b h v)(hD:D∈h.docs∨(eW (h.own b) v D∧N D)):cu N b h v { h with doc:=D } (v.setCells b 0 D.enc):=by
 have hk2:Kept (fun k=>k=b) v (v.setCells b 0 D.enc):=jO (S:=fun k=>k=b) rfl _ _ (Kept.refl _ _)
 have hk:Kept (h.own b) v (v.setCells b 0 D.enc):=hk2.mono fun k _ e=>.inl e
 refine⟨H.next hk (Ey H.at_ D) (aB H.undo fun k e=>hk2.block k (H.undo.lt k e).2 (H.ub k e).1) (aB H.redo fun k e=>hk2.block k (H.redo.lt k e).2 fun q=>H.rb (q▸e)) H.ub H.rb (fun k h=>.inl h) (fun d hd=>?_),⟨fun k h=>.inl h,fun d hd=>?_⟩,hk⟩
 · rcases Sl.1 hd with h1|h1
   · subst h1
     rcases hD with h2|h2
     · exact .inl h2
     · exact .inr (h2.1.keep hk fun _ _ h=>h)
   · exact .inl (Sw _ h1)
 · rcases Sl.1 hd with h1|h1
   · subst h1
     exact hD.imp id And.right
   · exact .inl (Sw _ h1)
theorem sI (H:HsAt b h v):cu N b h v { h with ra:=none,rc:=0,redo:=[] } (v.setCell ⟨b,17,none⟩ (.slice none 0 0)):=by
 have hk:Kept (h.own b) v (v.setCell ⟨b,17,none⟩ (.slice none 0 0)):=(Kept.refl _ _).setCell (p:=⟨b,17,none⟩) (.inr (.inl rfl)) _
 have hown:∀ k,Hs.own { h with ra:=none,rc:=0,redo:=[] } b k→h.own b k∨v.heap.size≤k:=fun k hk=>by
  rcases hk with q|q|q
  · exact .inl (.inl q)
  · exact .inl (.inr (.inl q))
  · cases q
 have hdd:∀ d∈Hs.docs ({ h with ra:=none,rc:=0,redo:=[] }:Hs),d∈h.docs:=fun d hd=>by
  simp only [Hs.docs,Sl,Sp] at hd
  rcases hd with q|q|q|q
  · simp [Hs.docs,q]
  · simp [Hs.docs,q]
  · simp [Hs.docs,q]
  · cases q
 refine⟨H.next hk (Ap H.at_ none [] 0) (mK H.undo (fun e=>(H.ub b e).1 rfl)) (SI.ownsRow_nil _ _ _ _) (fun k e=>⟨(H.ub k e).1,by intro q;cases q⟩) (by intro q;cases q) hown (fun d hd=>.inl (hdd d hd)),⟨hown,fun d hd=>.inl (hdd d hd)⟩,hk⟩
end
end Go.Proofs.YtjebaagkomejaaaGreatDoor
namespace Go.Proofs.YtjebaagkomejaaaGreatDoor.historySeat
open Go.Shelf Go.ChangeShapes Go.WideShapes Go.ChangeAt Go.RowKit Go.Lib
theorem own:ownKnob Tryz.prog.godebug=none:=by kernel_rfl
theorem laidOut:laidOutB Tryz.prog=true:=by kernel_rfl
noncomputable def laidWorld (os:Os):SI :=
 let w0:=SI.holding Tryz.prog os ⟨#[],#[],[]⟩
 let put (h:Array Obj) (g:Nat) (cs:Array SK):Array Obj:=h.modify g fun
  | .cells _ t frozen=>.cells cs t frozen
  | o=>o
 let h1:=put w0.heap 0 (Lib.firstTab.map fun z=>SU .u8 z).toArray
 let h2:=put h1 1 ((List.range 16).flatMap fun i=>[SU .u8 (Lib.accLo i),SU .u8 (Lib.accHi i)]).toArray
 { w0 with heap:=h2 }
def zd:Array SK:=#[.string ⟨#[]⟩,.string ⟨#[]⟩,.int .u8 0,.bool false,.int .i64 0,.slice none 0 0,.slice none 0 0,.slice none 0 0]
def ze:Array SK:=#[.int .u8 0,.int .i64 0,.int .i64 0,.int .i64 0,.int .i64 0,.int .i64 0,.int .i64 0,.int .i64 0,.int .i64 0,.int .u8 0,.int .u8 0,.bool false,.bool false,.string ⟨#[]⟩,.string ⟨#[]⟩,.string ⟨#[]⟩,.int .i64 0,.int .i64 0,.int .i64 0,.int .i64 0,.int .u8 0,.bool false,.slice none 0 0]
theorem laid_met (os:Os)(args:Array SK):laidMet Tryz.prog Rows.historyStepsUptoRow.laid ((laidWorld os).forCall (fun _ _=>0) ⟨#[],args,[]⟩).memory :=
 laidMet_of_run' 8 (by kernel_rfl) (by kernel_rfl)
theorem CF:Rows.laid_unicode_utf8_first=Lib.firstData:=by kernel_rfl
theorem Ba:(Rows.laid_unicode_utf8_acceptRanges:DataW Unit)=Lib.acceptData:=by kernel_rfl
theorem Ae:Rows.historyStepsUptoRow.laid=[("unicode/utf8.acceptRanges",Rows.laid_unicode_utf8_acceptRanges),("unicode/utf8.first",Rows.laid_unicode_utf8_first)]:=rfl
theorem Gm {W:SI} (h:W.ShapedOpen Tryz.prog):∃ m,W.cell? ⟨2,0,none⟩=some (.int .i64 m) :=
 Go.Proofs.cell_of_shapedOpen_int (zero:=#[.int .i64 0]) (t:=3) h (of_decide_eq_true (by kernel_rfl)) (by kernel_rfl) rfl (by kernel_rfl) (by kernel_rfl) Tryz.underlying3
theorem env_of {W:SI} (hL:laidMetH Tryz.prog Rows.historyStepsUptoRow.laid W)(hS:W.ShapedOpen Tryz.prog):Env W:=by
 have hL':laidMet Tryz.prog Rows.historyStepsUptoRow.laid W:=by
  rw [Go.MakeChecks.laidMetH_plain _ _ _ (by kernel_rfl)] at hL
  exact hL
 rw [Ae,CF,Ba] at hL'
 exact⟨utf8Tabs_of_readsT (U8Types.of196 Tryz.lays196) ⟨by kernel_rfl,by kernel_rfl,by kernel_rfl,by kernel_rfl,by kernel_rfl,by kernel_rfl,by kernel_rfl⟩ (Lib.laidMet.reads hL' (List.Mem.tail _ (List.Mem.head _))) (Lib.laidMet.reads hL' (List.Mem.head _)),Gm hS⟩
end Go.Proofs.YtjebaagkomejaaaGreatDoor.historySeat
namespace Go.Proofs.YtjebaagkomejaaaGreatDoor
open Go.RowKit
structure Ic (B0 g1 g2:Nat)(A B:Ev)(w:SI):Prop where
 al:A.lies w
 bl:B.lies w
 au:∀ k,A.uses k→k≠g1∧k≠g2∧B0≤k
 bu:∀ k,B.uses k→k≠g1∧k≠g2∧B0≤k
 z1:w.heap[g1]? =some (.cells A.enc.toArray 72 (0,0))
 z2:w.heap[g2]? =some (.cells B.enc.toArray 72 (0,0))
 n1:B0≤g1
 n2:B0≤g2
 ne:g1≠g2
theorem xm {B0 g1 g2:Nat} {A B:Ev} {v w:SI} (al:A.lies v)(bl:B.lies v)(au:∀ k,A.uses k→k≠g1∧k≠g2∧B0≤k)(bu:∀ k,B.uses k→k≠g1∧k≠g2∧B0≤k)(z1:v.heap[g1]? =some (.cells zeE 72 (0,0)))(z2:v.heap[g2]? =some (.cells zeE 72 (0,0)))(n1:B0≤g1)(n2:B0≤g2)(ne:g1≠g2)
 (hw:w=(v.setRow g1 A.enc.toArray).setRow g2 B.enc.toArray∨w=(v.setRow g2 B.enc.toArray).setRow g1 A.enc.toArray):Ic B0 g1 g2 A B w:=by
 have hsz:w.heap.size=v.heap.size:=by
  rcases hw with rfl|rfl
  · rw [size_setRow,size_setRow]
  · rw [size_setRow,size_setRow]
 have hoff:∀ k,k≠g1→k≠g2→w.heap[k]? =v.heap[k]?:=fun k h1 h2=>by
  rcases hw with rfl|rfl
  · rw [aK _ _ _ _ h2,aK _ _ _ _ h1]
  · rw [aK _ _ _ _ h1,aK _ _ _ _ h2]
 refine⟨Ev.frame al (by omega) fun k h=>hoff k (au k h).1 (au k h).2.1,Ev.frame bl (by omega) fun k h=>hoff k (bu k h).1 (bu k h).2.1,au,bu,?_,?_,n1,n2,ne⟩
 · rcases hw with rfl|rfl
   · rw [aK _ _ _ _ ne];exact SL _ _ _ _ 72 (0,0) z1
   · exact SL _ _ _ _ 72 (0,0) ((aK _ _ _ _ ne).trans z1)
 · rcases hw with rfl|rfl
   · exact SL _ _ _ _ 72 (0,0) ((aK _ _ _ _ ne.symm).trans z2)
   · rw [aK _ _ _ _ ne.symm];exact SL _ _ _ _ 72 (0,0) z2
theorem ug {e A:Ev} {fr row:Int} (he:e.fits)(hfr:i64 fr)(h:A.c=fS e.c fr row):A.fits:=by
 rw [←Ev.fits_c,h]
 obtain⟨p1,p2,p3,p4,p5,p6,p7,p8,p9⟩:=(Ev.fits_c e).2 he
 exact⟨p1,p2,hfr,p4,p5,p6,p7,fun r hr=>p8 r (List.mem_of_mem_take hr),SW (by simp [fS];omega) p9⟩
theorem uf {e B:Ev} {fr row:Int} (he:e.fits)(hfr:i64 fr)(h:B.c=iI e.c fr row 0):B.fits:=by
 rw [←Ev.fits_c,h]
 obtain⟨p1,p2,p3,p4,p5,p6,p7,p8,p9⟩:=(Ev.fits_c e).2 he
 exact⟨(show i64 0 from⟨by decide,by decide⟩),hfr,p3,p4,p5,p6,p7,fun r hr=>p8 r (List.mem_of_mem_drop hr),SW (by simp [iI]) p9⟩
end Go.Proofs.YtjebaagkomejaaaGreatDoor
