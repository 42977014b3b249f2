/- history: undos lead back, redos forward again, in plain words. (by hand) captionerlaw16.HistorySteps. captionerlaw16.HistoryReturns: the list of documents beside a history. (by hand) captionerlaw16.HistoryReturns. -/
import Derived.Great.BuildSlice
import Derived.Test.YtjebaagkomejaaaGreatDoorH39
set_option linter.unusedVariables false
set_option linter.unusedSimpArgs false
set_option maxRecDepth 100000
set_option maxHeartbeats 12800000
open Go.Lib renaming hid→h_
open List renaming setIfInBounds_toArray→YA,getElem_cons_zero→YB,getElem_cons_succ→YC,getElem_toArray→YD,set_cons_zero→YE,set_cons_succ→YF
open Array renaming toArray_toList→YG
open List renaming length_map→Sj,getElem?_eq_getElem→Sk,length_dropLast→Sl,length_nil→Sm,mem_singleton→Sn,getElem?_eq_some_iff→Sp,mem_of_getElem?→Sq,length_append→Sr,length_take→Ss,length_cons→St,dropLast_concat_getLast→Su,take_of_length_le→Sv,dropLast_eq_take→Sw,dropLast_concat→Sx,getElem?_take→Sy,length_drop→Sz,getElem_map→SA,mem_append→SB,drop_zero→SC,map_cons→SD,map_nil→SF,length→SG
open Nat renaming le_refl→SH,zero_add→SI,sub_zero→SJ,zero_le→SK
open Go.Value renaming int→SL,oneCell'→SM
open Go renaming World→SN,wp_region_held_drew→SO,yieldsIf_load_mid→SQ,wpList_buildSlice→SR
open Go.RowKit renaming Below→SS
open Option.some renaming injEq→SU
open Go.IntKind renaming wrap_i64→SV,i64→SW
namespace Go.Proofs.YtjebaagkomejaaaGreatDoor
open Go.RowKit
def lastN {α:Type} (n:Nat)(l:List α):List α:=l.drop (l.length-n)
theorem lastN_len {α:Type} (n:Nat)(l:List α):(lastN n l).length=min n l.length:=by unfold lastN;rw [Sz];omega
theorem lastN_put {α:Type} (l:List α)(x:α):(if 16<(lastN 16 l).length+1 then (lastN 16 l++[x]).drop 1 else lastN 16 l++[x])=lastN 16 (l++[x]):=by
 rw [lastN_len]
 unfold lastN
 rw [Sr]
 simp only [St,Sm]
 split
 · rw [←List.drop_append_of_le_length (by omega),List.drop_drop]
   congr 1
   omega
 · rw [show l.length-16=0 by omega,show l.length+(0+1)-16=0 by omega,SC,SC]
theorem stK_undoL {α:Type} [Inhabited α] (D:List α)(k:Nat)(hD:D≠[])(hk:k<min 16 (D.length-1)) :
 ((lastN 16 D.dropLast).take (min 16 (D.length-1)-k)).getLast? =some D[D.length-1-(k+1)]!∧((lastN 16 D.dropLast).take (min 16 (D.length-1)-k)).dropLast=(lastN 16 D.dropLast).take (min 16 (D.length-1)-(k+1)):=by
 have hl:(lastN 16 D.dropLast).length=min 16 (D.length-1):=by rw [lastN_len,Sl]
 constructor
 · rw [List.getLast?_eq_getElem?,Ss,hl,show min (min 16 (D.length-1)-k) (min 16 (D.length-1))-1=min 16 (D.length-1)-k-1 by omega,Sy,if_pos (by omega)]
   unfold lastN
   rw [List.getElem?_drop,Sl,Sw,Sy,if_pos (by omega),show D.length-1-16+(min 16 (D.length-1)-k-1)=D.length-1-(k+1) by omega,Sk (by omega),getElem!_pos _ _ (by omega)]
 · rw [Sw,Ss,hl,List.take_take]
   congr 1
   omega
theorem stK_redoL {α:Type} [Inhabited α] (D:List α)(k:Nat)(hk:k<D.length):(D.drop (D.length-k)).reverse++[D[D.length-1-k]!]=(D.drop (D.length-(k+1))).reverse:=by
 have e:D.drop (D.length-(k+1))=D[D.length-1-k]!::D.drop (D.length-k):=by
  rw [show D.length-(k+1)=D.length-1-k by omega,List.drop_eq_getElem_cons (by omega),getElem!_pos _ _ (by omega),show D.length-1-k+1=D.length-k by omega]
 rw [e,List.reverse_cons]
instance:Inhabited DocC:=⟨aV⟩
def stK (s:DocC)(D:List DocC)(k:Nat):HsC:=⟨D[D.length-1-k]!,s,(lastN 16 D.dropLast).take (min 16 (D.length-1)-k),(D.drop (D.length-k)).reverse⟩
theorem st_new (d:DocC):newH d=stK d [d] 0:=by
 unfold newH stK lastN
 simp
theorem st_len (s:DocC)(D:List DocC)(k:Nat):(stK s D k).undo.length=min 16 (D.length-1)-k∧(stK s D k).redo.length=D.length-(D.length-k):=by
 refine⟨?_,?_⟩
 · show(List.take _ _).length=_
   rw [Ss,lastN_len,Sl];omega
 · show(List.reverse _).length=_
   rw [List.length_reverse,Sz]
theorem st_put (s:DocC)(D:List DocC)(c:DocC)(hD:D≠[]):putH (stK s D 0) c=stK s (D++[c]) 0:=by
 have hl:0<D.length:=List.length_pos_iff.2 hD
 have hU:(lastN 16 D.dropLast).take (min 16 (D.length-1)-0)=lastN 16 D.dropLast:=Sv (by rw [lastN_len,Sl];omega)
 have hD2:D.dropLast++[D[D.length-1-0]!]=D:=by
  rw [SJ,getElem!_pos _ _ (by omega),←List.getLast_eq_getElem hD]
  exact Su hD
 have hp:=lastN_put D.dropLast (D[D.length-1-0]!)
 rw [hD2] at hp
 unfold putH stK
 simp only
 rw [hU,hp,Sx,Sr]
 simp only [St,Sm,SJ,SI,Nat.add_sub_cancel]
 have e1:(D++[c])[D.length]! =c:=by simp
 have e2:(lastN 16 D).take (min 16 D.length)=lastN 16 D:=Sv (by rw [lastN_len];omega)
 have e3:(D++[c]).drop (D.length+1)=[]:=List.drop_of_length_le (by simp)
 rw [e1,e2,e3]
 rfl
theorem st_undo (s:DocC)(D:List DocC)(k:Nat)(hD:D≠[])(hk:k<min 16 (D.length-1)):fq (stK s D k)=(0,stK s D (k+1)):=by
 obtain⟨h1,h2⟩:=stK_undoL D k hD hk
 have h3:=stK_redoL D k (by omega)
 unfold fq stK
 simp only
 rw [h1,h2,h3]
theorem last_split {α:Type} {l l':List α} {x:α} (h1:l.getLast? =some x)(h2:l.dropLast=l'):l=l'++[x]:=by
 have hne:l≠[]:=fun e=>by rw [e] at h1;cases h1
 rw [←h2]
 have:l.getLast hne=x:=by rw [List.getLast?_eq_some_getLast hne] at h1;exact Option.some.inj h1
 rw [←this]
 exact(Su hne).symm
theorem st_redo (s:DocC)(D:List DocC)(k:Nat)(hD:D≠[])(hk:k<min 16 (D.length-1)):gW (stK s D (k+1))=(0,stK s D k):=by
 obtain⟨h1,h2⟩:=stK_undoL D k hD hk
 have h3:=stK_redoL D k (by omega)
 have hs:=last_split h1 h2
 unfold gW stK
 simp only
 rw [←h3,List.getLast?_concat,Sx]
 simp only
 rw [←hs]
theorem st_redo0 (s:DocC)(D:List DocC):gW (stK s D 0)=(6,stK s D 0):=by
 have:(D.drop (D.length-0)).reverse=[]:=by simp
 unfold gW stK
 simp only
 rw [this]
 rfl
theorem Ie (x:Ed):(x.enc.toArray.all (·.oneCell'))=true:=by simp [Ed.enc,SM]
structure DocsAt (S b:Nat)(h:Hs)(v:Value)(Ds_q:List Doc)(w:SN):Prop where
 row:w.ownsRow 0 27 8 v Ds_q.length (Ds_q.flatMap Doc.enc)
 new:∀ k,v.ownBlock=some k→S≤k∧¬ h.own b k∧(∀ d∈h.docs,¬ d.uses k)∧∀ D∈Ds_q,¬ D.uses k
 docs:∀ D∈Ds_q,eC (h.own b) w D
theorem DocsAt.step {S b:Nat} {h h':Hs} {v:Value} {Ds_q:List Doc} {w w':SN} (A:DocsAt S b h v Ds_q w)(n:qM (iI w) b h h' w)(hk:Kept (h.own b) w w'):DocsAt S b h' v Ds_q w':=by
 refine⟨aB A.row fun k e=>hk.block k (A.row.lt k e).2 (A.new k e).2.1,fun k e=>?_,fun D hD=>(A.docs D hD).keep hk fun k hlt ho=>(n.own k ho).elim id fun q=>by omega⟩
 have hlt:=(A.row.lt k e).2
 obtain⟨h1,h2,h3,h4⟩:=A.new k e
 refine⟨h1,fun ho=>(n.own k ho).elim h2 fun q=>by omega,fun d hd hu=>?_,h4⟩
 rcases n.docs d hd with q|q
 · exact h3 d q hu
 · have:=q k hu;omega
theorem DocsAt.later {S b:Nat} {h:Hs} {v:Value} {Ds_q:List Doc} {w w':SN} (A:DocsAt S b h v Ds_q w)(hb:SS w.heap.size w w'):DocsAt S b h v Ds_q w' :=
 A.step .same (Kept.of_below hb)
theorem DocsAt.range {S b:Nat} {h:Hs} {a:Option Addr} {n c:Nat} {Ds_q:List Doc} {w:SN} (A:DocsAt S b h (.slice a n c) Ds_q w) {i:Nat} {D:Doc} (hi:Ds_q[i]? =some D):n=Ds_q.length∧∃ g,a=some ⟨g,0,none⟩∧w.rangeAt g (i*8) D.enc∧g<w.heap.size:=by
 obtain⟨a',c',he,hs⟩:=aA (k:=8) (enc:=Doc.enc) (Ok:=Flat) (fun _=>rfl) A.row (fun _ _=>trivial)
 simp only [Value.slice.injEq] at he
 obtain⟨rfl,rfl,rfl⟩:=he
 have hlt:=(Sp.1 hi).1
 rcases A.row.2 with⟨h0,h1⟩|⟨g,cap,cur,h0,_,hg,_⟩
 · omega
 · simp only [Value.slice.injEq] at h0
   obtain⟨rfl,_,_⟩:=h0
   rcases hs with rfl|⟨b',off,e,hb,hc⟩
   · simp at hlt
   · simp only [SU,Addr.mk.injEq,and_true] at e
     obtain⟨rfl,rfl⟩:=e
     refine⟨rfl,_,rfl,fun j v hv=>?_,hb⟩
     have:=(hc i D hi).1 j v hv
     rwa [SI] at this
theorem DocsAt.push {S b:Nat} {h:Hs} {v v':Value} {Ds_q:List Doc} {D:Doc} {w0 w w1 w2:SN} {o:Obj} (H:HsIn S w0 b h w)(A:DocsAt S b h v Ds_q w)(hS:S≤w.heap.size)(hb:SS w.heap.size w w1)(hl:D.lies w1)(hf:D.fits)(hu:∀ k,D.uses k→w.heap.size≤k)
 (ho:w2.ownsRow 0 27 8 v' (Ds_q.length+1) (Ds_q.flatMap Doc.enc++D.enc)) (hg:(w1.alloc o).grownBy w2 v.ownBlock) (hat:v'.ownBlock=v.ownBlock∨v'.ownBlock=some (w1.heap.size+1)) :
 DocsAt S b h v' (Ds_q++[D]) w2∧HsIn S w0 b h w2:=by
 have hs:=hb.size
 have H1:=H.later hb hS
 have A1:=A.later hb
 have hk0:Kept (fun k=>v.ownBlock=some k) w1 w2:=(Kept.of_below ((SS.refl _ _).alloc (SH _) o)).andGrown hg fun k hk _=>hk
 have hnew:∀ k,v'.ownBlock=some k→v.ownBlock=some k∨w1.heap.size≤k:=fun k e=>by
  rcases hat with q|q
  · exact .inl (q▸e)
  · rw [q] at e;simp only [SU] at e;exact .inr (by omega)
 have hDn:∀ k,v.ownBlock=some k→¬ D.uses k:=fun k e q=>by have:=hu k q;have:=(A.row.lt k e).2;omega
 have HH:HsAt b h w2:=H1.1.off hk0 (fun k q e=>(A1.new k e).2.1 q) fun d hd k q e=>(A1.new k e).2.2.1 d hd q
 refine⟨⟨?_,fun k e=>?_,fun E hE=>?_⟩,HH,H1.2.1,H1.2.2.trans (hk0.below (by omega) fun k q e=>by have:=(A1.new k e).1;omega)⟩
 · rw [Sr,List.flatMap_append]
   simp only [St,Sm,List.flatMap_cons,List.flatMap_nil,List.append_nil]
   exact ho
 · have hm:∀ E∈Ds_q++[D],∀ k,E.uses k→(∃ F∈Ds_q,F.uses k)∨D.uses k:=fun E hE k q=>by
    rcases SB.1 hE with r|r
    · exact .inl ⟨E,r,q⟩
    · rw [Sn] at r;subst r;exact .inr q
   rcases hnew k e with q|q
   · obtain⟨h1,h2,h3,h4⟩:=A1.new k q
     refine⟨h1,h2,h3,fun E hE r=>?_⟩
     rcases hm E hE k r with⟨F,hF,r2⟩|r2
     · exact h4 F hF r2
     · exact hDn k q r2
   · refine⟨by omega,fun r=>?_,fun d hd r=>?_,fun E hE r=>?_⟩
     · have:=H1.1.lt r;omega
     · have:=Doc.uses_lt (H1.1.docs d hd).1 r;omega
     · rcases hm E hE k r with⟨F,hF,r2⟩|r2
       · have:=Doc.uses_lt (A1.docs F hF).1 r2;omega
       · have:=Doc.uses_lt hl r2;omega
 · rcases SB.1 hE with r|r
   · exact(A1.docs E r).frame hk0.size (fun k q=>hk0.block k (Doc.uses_lt (A1.docs E r).1 q) fun e=>(A1.new k e).2.2.2 E r q) fun _ _ q=>q
   · rw [Sn] at r
     subst r
     exact⟨Doc.frame hl hk0.size fun k q=>hk0.block k (Doc.uses_lt hl q) fun e=>hDn k e q,hf,fun k q r=>by have:=hu k q;have:=H.1.lt r;omega⟩
theorem DocsAt.one {S b:Nat} {h:Hs} {D:Doc} {w0 w w1:SN} (H:HsIn S w0 b h w)(hS:S≤w.heap.size)(hb:SS w.heap.size w w1)(hl:D.lies w1)(hf:D.fits)(hu:∀ k,D.uses k→w.heap.size≤k) :
 DocsAt S b h (.slice (some ⟨w1.heap.size,0,none⟩) 1 1) [D] (w1.alloc (.cells D.enc.toArray 27))∧HsIn S w0 b h (w1.alloc (.cells D.enc.toArray 27)):=by
 have hs:=hb.size
 have H1:=H.later hb hS
 have hal:SS w1.heap.size w1 (w1.alloc (.cells D.enc.toArray 27)):=(SS.refl _ _).alloc (SH _) _
 refine⟨⟨?_,fun k e=>?_,fun E hE=>?_⟩,H1.later hal (by omega)⟩
 · have:=SN.ownsRow_lit (base:=0) (e:=27) (size:=8) w1 D.enc.toArray 1 (SK _) (by unfold maxLen;omega) (by simp [Doc.enc])
   simpa using this
 · obtain rfl:w1.heap.size=k:=by simpa [Value.ownBlock] using e
   refine⟨by omega,fun q=>?_,fun d hd q=>?_,fun E hE q=>?_⟩
   · have:=H1.1.lt q;omega
   · have:=Doc.uses_lt (H1.1.docs d hd).1 q;omega
   · rw [Sn] at hE
     subst hE
     have:=Doc.uses_lt hl q;omega
 · rw [Sn] at hE
   subst hE
   exact⟨Doc.later hl hal,hf,fun k q r=>by have:=hu k q;have:=H.1.lt r;omega⟩
theorem HsIn.step {N:Doc→Prop} {S b:Nat} {w0 w w':SN} {h h':Hs} (H:HsIn S w0 b h w)(hS:S≤w.heap.size)(H':HsAt b h' w')(n:qM N b h h' w)(k:Kept (h.own b) w w'):HsIn S w0 b h' w' :=
 ⟨H',fun q hq=>(n.own q hq).elim (H.2.1 q) fun h=>by omega,H.2.2.trans (k.below hS fun q hq ho=>by have:=H.2.1 q ho;omega)⟩
theorem DocsAt.range' {S b:Nat} {h:Hs} {g n c:Nat} {Ds_q:List Doc} {w:SN} (A:DocsAt S b h (.slice (some ⟨g,0,none⟩) n c) Ds_q w) {i:Nat} {D:Doc} (hi:Ds_q[i]? =some D):w.rangeAt g (i*8) D.enc:=by
 obtain⟨_,g',e,h,_⟩:=A.range hi
 simp only [SU,Addr.mk.injEq,and_true] at e
 subst e
 exact h
theorem lawReturns_calls (d:Doc)(a:Option Addr)(xs:List Ed)(c:Nat)(kn_q:Nat)(w:SN)(hE:Env w)(hd:d.lies w)(hf:d.fits)(hxs:ah 23 Ed.enc (fun w x=>x.lies w) w a xs)(hxf:∀ x∈xs,x.fits)(hxl:xs.length≤4000000)(hk1:kn_q≤255):Calls Tryz.prog 4 #[.agg d.enc.toArray,.slice a xs.length c,.int .u8 kn_q] w fun e w'=>e=.returned (.bool true)∧SS w.heap.size w w':=by
 have HE:=h_ hE
 have HQ:=h_ (fun(w':SN) (h:SS w.heap.size w w')=>(show(fun(e:Ending) (w':SN)=>e=.returned (.bool true)∧SS w.heap.size w w') (.returned (.bool true)) w' from⟨rfl,h⟩))
 have HNW:=h_ (fun(w1:SN) (hb:SS w.heap.size w w1)=>mV d w1 (hE.below hb (SH _)) (Doc.later hd hb) hf)
 have HXS:=h_ (fun(w1:SN) (hb:SS w.heap.size w w1)=>ah.keeps (Ok:=fun w x=>Ed.lies w x) (fun _ _ _ h q=>Ed.later q h) w w1 a xs hb hxs)
 have HXF:=h_ hxf
 generalize (fun(e:Ending) (w':SN)=>e=.returned (.bool true)∧SS w.heap.size w w')=Q at *
 have HBX:=h_ (iy w (.cells d.enc.toArray 27))
 clear hE hd hf hxs hxf
 go_enter Tryz.func4,Tryz.ntmps4
 go_upto_region 1 with fail
 have h0:=HBX.out.1
 have hbw:=HBX.out.2.1
 have hsz:=HBX.out.2.2
 clear HBX
 generalize w.alloc (.cells d.enc.toArray 27)=W0 at *
 have H0:=h_ h0;have HBW:=h_ hbw
 clear h0 hbw
 go_wp2_with fail
 refine(qi W0 (HE.out.below HBW.out (SH _))).mono ?_
 rintro e w1 ⟨rfl,hb1⟩
 have hs1:=hb1.size
 have hbw1:=HBW.out.trans (hb1.mono (by omega))
 have hr1:=ai ((hb1.block (w.heap.size) (by omega)).trans H0.out)
 have HB1:=h_ hbw1
 clear hb1 H0 HBW hbw1
 go_wp2_with (refine aj 27 (.tmp 3) rfl (w.heap.size) 0 rfl d.enc _ hr1 Tryz.underlying27 rfl ag (by rfl) ?_)
 refine(HNW.out w1 HB1.out).mono ?_
 rintro e w2 ⟨hb2,⟨hx,rfl⟩|⟨_,b,h,rfl,H,hc_h,hown,_⟩⟩
 · have hne:(cErr d.c != 0)=true:=by simpa using hx
   have HF:=h_ (HQ.out w2 (HB1.out.trans (hb2.mono (by omega))))
   generalize cErr d.c=CE at *
   clear HNW HXS HXF hr1 HB1 hb2 HQ hx
   go_wp2_with fail
   first
    | exact HF.out
    | (go_ret;exact HF.out)
 · have hs2:=hb2.size
   have I2:=h_ (show HsIn w.heap.size w b h w2 from⟨H,fun k hk=>Nat.le_trans (by omega) (hown k hk),HB1.out.trans (hb2.mono (by omega))⟩)
   have HC2:=h_ (show h.c=stK d.c [d.c] 0 from hc_h.trans (st_new d.c))
   have HDD:=h_ (show h.doc.c=d.c from congrArg HsC.doc hc_h)
   clear HNW hr1 HB1 hb2 H hown hc_h
   go_wp2_with fail
   refine(iz b h w2 I2.out.1).mono ?_
   rintro e w3 ⟨D,rfl,hDc,hDl,hDf,hDu,hb3⟩
   have hs3:=hb3.size
   have hst:=DocsAt.one I2.out (by omega) hb3 hDl hDf hDu
   have HC3:=h_ (show h.c=stK d.c ([D].map Doc.c) 0 from by rw [HC2.out,SD,SF,hDc,HDD.out])
   clear hDc hDl hDf hDu hb3 I2 HC2 HDD
   obtain⟨j0,hj,hy0,hy1,hy2⟩:=info_parts Tryz.info27
   have JI:=h_ hj;have J0:=h_ hy0;have J1:=h_ hy1;have J2:=h_ hy2
   clear hj hy0 hy1 hy2
   go_upto_region 7 with(refine SR rfl 55 27 1 _ rfl D.enc.toArray j0 _ Tryz.underlying55 JI.out J0.out (by rw [J1.out];decide) (by rw [J1.out];decide) (by rw [J1.out];kernel_rfl) ?_)
   generalize w3.alloc (.cells D.enc.toArray 27)=w4 at *
   generalize w3.heap.size=g3 at *
   have HST:=h_ hst
   clear hst
   go_wp2_with fail
   go_loopw [9,31] (fun v i wr=>∃ (k:Nat) (h:Hs) (Ds_q:List Doc) (a9:Option Addr) (c9:Nat),k≤xs.length∧i=.int .i64 k∧v=.slice a9 Ds_q.length c9∧HsIn w.heap.size w b h wr∧DocsAt w.heap.size b h (.slice a9 Ds_q.length c9) Ds_q wr∧h.c=stK d.c (Ds_q.map Doc.c) 0∧1≤Ds_q.length∧Ds_q.length≤k+1∧Ds_q.length≤21) (fun v i _=>xs.length-(intOf i).toNat)
   case atStart=>exact⟨0,h,[D],some ⟨g3,0,none⟩,1,by omega,rfl,rfl,HST.out.2,HST.out.1,HC3.out,by simp,by simp,by simp⟩
   case round =>
    clear HST HC3 hs2 hs3 hs1
    obtain⟨k,hh,Ds_q,a9,c9,hk,rfl,rfl,hI,hA,hcc,hD1,hD2,hD3⟩:=hrel
    by_cases hlt:k<xs.length
    · have hltI:(k:Int)<(xs.length:Int):=by omega
      obtain⟨b0,off,z,hat,hb0,hzx,hcz,hzl⟩:=ah.at_ (HXS.out wr hI.2.2) hlt
      subst hat
      have hzf:=HXF.out z (Sq hzx)
      have hrz:wr.rangeAt b0 (off+k*23) z.enc:=fun q v hv=>hcz q v hv
      have hbs:=hI.2.2.size
      have zA:=heap_alloc_last wr (.cells #[SL .u8 0,.int .i64 0,.int .i64 0,.int .i64 0,.int .i64 0,.int .i64 0,.int .i64 0,.int .i64 0,.int .i64 0,.int .u8 0,.int .u8 0,.bool false,.bool false,.string ⟨#[]⟩,.string ⟨#[]⟩,.string ⟨#[]⟩,.int .i64 0,.int .i64 0,.int .i64 0,.int .i64 0,.int .u8 0,.bool false,.slice none 0 0] 40)
      have hbA:SS wr.heap.size wr (wr.alloc (.cells #[SL .u8 0,.int .i64 0,.int .i64 0,.int .i64 0,.int .i64 0,.int .i64 0,.int .i64 0,.int .i64 0,.int .i64 0,.int .u8 0,.int .u8 0,.bool false,.bool false,.string ⟨#[]⟩,.string ⟨#[]⟩,.string ⟨#[]⟩,.int .i64 0,.int .i64 0,.int .i64 0,.int .i64 0,.int .u8 0,.bool false,.slice none 0 0] 40)):=(SS.refl _ _).alloc (SH _) _
      have hone:=Ie z
      have HHI:=h_ hI
      have HHA:=h_ hA
      have HCC:=h_ hcc
      have HZL:=h_ hzl
      have HDL:=h_ (And.intro hD1 (And.intro hD2 hD3))
      clear hI hA hcc hcz hzl hzx hD1 hD2 hD3
      go_upto_region 10 with(first|(refine aj 40 (.tmp 34) rfl b0 (off+k*23) rfl z.enc _ hrz Tryz.underlying40 rfl cS (by rfl) ?_)|(refine wpList_store_row rfl 40 (.tmp 11) (.tmp 35) rfl wr.heap.size z.enc.toArray rfl rfl 40 _ zA cS rfl hone ?_))
      have z4:=setRow_heap (wr.alloc (.cells #[SL .u8 0,.int .i64 0,.int .i64 0,.int .i64 0,.int .i64 0,.int .i64 0,.int .i64 0,.int .i64 0,.int .i64 0,.int .u8 0,.int .u8 0,.bool false,.bool false,.string ⟨#[]⟩,.string ⟨#[]⟩,.string ⟨#[]⟩,.int .i64 0,.int .i64 0,.int .i64 0,.int .i64 0,.int .u8 0,.bool false,.slice none 0 0] 40)) wr.heap.size _ z.enc.toArray 40 (0,0) zA
      have hb4:SS wr.heap.size wr ((wr.alloc (.cells #[SL .u8 0,.int .i64 0,.int .i64 0,.int .i64 0,.int .i64 0,.int .i64 0,.int .i64 0,.int .i64 0,.int .i64 0,.int .u8 0,.int .u8 0,.bool false,.bool false,.string ⟨#[]⟩,.string ⟨#[]⟩,.string ⟨#[]⟩,.int .i64 0,.int .i64 0,.int .i64 0,.int .i64 0,.int .u8 0,.bool false,.slice none 0 0] 40)).setRow wr.heap.size z.enc.toArray):=below_setRow hbA (SH _) _
      generalize (wr.alloc (.cells #[SL .u8 0,.int .i64 0,.int .i64 0,.int .i64 0,.int .i64 0,.int .i64 0,.int .i64 0,.int .i64 0,.int .i64 0,.int .u8 0,.int .u8 0,.bool false,.bool false,.string ⟨#[]⟩,.string ⟨#[]⟩,.string ⟨#[]⟩,.int .i64 0,.int .i64 0,.int .i64 0,.int .i64 0,.int .u8 0,.bool false,.slice none 0 0] 40)).setRow wr.heap.size z.enc.toArray=w4 at *
      have hs4:=hb4.size
      have I4:=h_ (HHI.out.later hb4 hbs)
      have A4_q:=h_ (HHA.out.later hb4)
      clear zA hbA hrz HHI HHA
      by_cases h20:(k:Int)<20
      · have hr4:=ai z4
        have hzl4:=Ed.later HZL.out hb4
        have hlu:hh.undo.length≤16:=by rw [(eM HCC.out).1,(st_len _ _ _).1];omega
        have HDO:=kO b hh z w4 (HE.out.below I4.out.2.2 (SH _)) I4.out.1 hzl4 hzf hlu
        have HDOH:=h_ (show doH hh.c z.c=if (bU hh.doc.c z.c).1=0 then (0,putH hh.c (bU hh.doc.c z.c).2) else ((bU hh.doc.c z.c).1,hh.c) from rfl)
        generalize bU hh.doc.c z.c=R at *
        obtain⟨EE,AC⟩:=R
        simp only at HDOH
        rw [HDOH.out] at HDO
        clear hb4 z4 hzl4 hlu HZL HDOH
        by_cases h0:EE=0
        · subst h0
          rw [if_pos rfl] at HDO
          have HDO':=h_ HDO
          clear HDO
          go_wp2_with (refine aj 40 (.tmp 11) rfl wr.heap.size 0 rfl z.enc _ hr4 Tryz.underlying40 rfl cS (by rfl) ?_)
          refine HDO'.out.mono ?_
          rintro e w5 ⟨rfl,h',hH',hc',ho',hk'⟩
          have hs5:=hk'.size
          have I5:=h_ (I4.out.step (by omega) hH' ho' hk')
          have A5_q:=h_ (A4_q.out.step ho' hk')
          have hc5:h'.c=stK d.c (Ds_q.map Doc.c++[AC]) 0:=by
           rw [hc',HCC.out]
           exact st_put _ _ _ (by intro q;have hq:=congrArg SG q;rw [Sj,Sm] at hq;have:=HDL.out.1;omega)
          have hc5':h'.doc.c=AC:=by
           have:=congrArg HsC.doc hc'
           exact this
          have HC5:=h_ hc5
          have HC5':=h_ hc5'
          clear HDO' hH' hc' ho' hk' hr4 I4 A4_q hc5 hc5' HCC
          go_wp2_with fail
          refine(iz b h' w5 I5.out.1).mono ?_
          rintro e w6 ⟨D,rfl,hDc,hDl,hDf,hDu,hb6⟩
          have hs6:=hb6.size
          have HOW:=h_ (aB A5_q.out.row fun q e=>hb6.block q (A5_q.out.row.lt q e).2)
          have HPU:=h_ (fun(v':Value) (w2:SN) (o:Obj) ho hg hat=>DocsAt.push (v':=v') (w2:=w2) (o:=o) I5.out A5_q.out (by omega) hb6 hDl hDf hDu ho hg hat)
          have HDC:=h_ (show h'.c=stK d.c ((Ds_q++[D]).map Doc.c) 0 from by rw [HC5.out,List.map_append,SD,SF,hDc,HC5'.out])
          have hdl:=HDL.out
          clear hDc hDl hDf hDu hb6 HC5 HC5' I5 A5_q
          go_wp2_with (first|(refine SR rfl 55 27 1 _ rfl D.enc.toArray j0 _ Tryz.underlying55 JI.out J0.out (by rw [J1.out];decide) (by rw [J1.out];decide) (by rw [J1.out];kernel_rfl) ?_)|(at_builtin;refine fi w6 D.enc.toArray rfl (.tmp 44) (.tmp 47) 55 rfl 0 27 j0 _ 8 120 Tryz.underlying55 JI.out J0.out J1.out J2.out rfl (by decide) (.slice a9 Ds_q.length c9) Ds_q.length (Ds_q.flatMap Doc.enc) (by rfl) HOW.out w6.heap.size (by rfl) rfl rfl (by simp [Doc.enc,SM]) (by unfold maxLen;omega) (by omega) (SK _) ?_))
          intro v' w7 ho hg hat
          obtain⟨a',c',rfl⟩:=l9 ho
          have hP:=h_ (HPU.out _ _ _ ho hg hat)
          clear ho hg hat HPU HOW HDL
          go_wp2_with fail
          go_roundw
          case rel =>
           have hl:(Ds_q++[D]).length=Ds_q.length+1:=by simp
           first
            | exact⟨k+1,h',Ds_q++[D],a',c',by omega,by go_num,by rw [hl],hP.out.2,by rw [hl];exact hP.out.1,HDC.out,by omega,by omega,by omega⟩
            | (refine⟨_,_,_,_,_,_,_,_,_,_,_,_,_,_,_,_,_,_,?_,rfl⟩;exact⟨k+1,h',Ds_q++[D],a',c',by omega,by go_num,by rw [hl],hP.out.2,by rw [hl];exact hP.out.1,HDC.out,by omega,by omega,by omega⟩)
          case measure=>simp [intOf];omega
        · rw [if_neg h0] at HDO
          have HDO':=h_ HDO
          have hne2:(EE==0)=false:=by simpa using h0
          clear HDO
          go_wp2_with (refine aj 40 (.tmp 11) rfl wr.heap.size 0 rfl z.enc _ hr4 Tryz.underlying40 rfl cS (by rfl) ?_)
          refine HDO'.out.mono ?_
          rintro e w5 ⟨rfl,h',hH',hc',ho',hk'⟩
          have hs5:=hk'.size
          have I5:=h_ (I4.out.step (by omega) hH' ho' hk')
          have A5_q:=h_ (A4_q.out.step ho' hk')
          have HC5:=h_ (show h'.c=stK d.c (Ds_q.map Doc.c) 0 from hc'.trans HCC.out)
          clear HDO' hH' hc' ho' hk' hr4 I4 A4_q HCC
          go_wp2_with fail
          go_roundw
          case rel =>
           have hdl:=HDL.out
           first
            | exact⟨k+1,h',Ds_q,a9,c9,by omega,by go_num,rfl,I5.out,A5_q.out,HC5.out,by omega,by omega,by omega⟩
            | (refine⟨_,_,_,_,_,_,_,_,_,_,_,_,_,_,_,_,_,_,?_,rfl⟩;exact⟨k+1,h',Ds_q,a9,c9,by omega,by go_num,rfl,I5.out,A5_q.out,HC5.out,by omega,by omega,by omega⟩)
          case measure=>simp [intOf];omega
      · clear hb4 z4 HZL
        go_wp2_with fail
        go_roundw
        case rel =>
         have hdl:=HDL.out
         first
          | exact⟨k+1,hh,Ds_q,a9,c9,by omega,by go_num,rfl,I4.out,A4_q.out,HCC.out,by omega,by omega,by omega⟩
          | (refine⟨_,_,_,_,_,_,_,_,_,_,_,_,_,_,_,_,_,_,?_,rfl⟩;exact⟨k+1,hh,Ds_q,a9,c9,by omega,by go_num,rfl,I4.out,A4_q.out,HCC.out,by omega,by omega,by omega⟩)
        case measure=>simp [intOf];omega
    · obtain rfl:k=xs.length:=by omega
      have HNE:=h_ (show Ds_q.map Doc.c≠[] from by intro q;have hq:=congrArg SG q;rw [Sj,Sm] at hq;omega)
      obtain⟨g9,hg9⟩:∃ g,a9=some ⟨g,0,none⟩:=by
       obtain⟨X,hX⟩:∃ X,Ds_q[0]? =some X:=⟨Ds_q[0],Sk (by omega)⟩
       obtain⟨_,g,e,_⟩:=hA.range hX
       exact⟨g,e⟩
      subst hg9
      have HHI:=h_ hI
      have HHA:=h_ hA
      have HCC:=h_ hcc
      clear hI hA hcc HXS HXF hlt
      go_upto_region 14 with fail
      obtain⟨n,hn⟩:∃ n:Nat,(n:Int)=(kn_q:Int) % (min ((Ds_q.length:Int)-1) 16+1):=⟨((kn_q:Int) % (min ((Ds_q.length:Int)-1) 16+1)).toNat,Int.toNat_of_nonneg (Int.emod_nonneg _ (by omega))⟩
      have hn1:=Int.emod_lt_of_pos (kn_q:Int) (show 0<min ((Ds_q.length:Int)-1) 16+1 by omega)
      rw [←hn] at hn1 ⊢
      have hnl:n≤Ds_q.length-1∧n≤16:=by omega
      clear hn hn1
      go_wp2_with fail
      go_loopw [59] (fun v wr=>∃ (i:Nat) (h:Hs),i≤n∧v=.int .i64 i∧HsIn w.heap.size w b h wr∧DocsAt w.heap.size b h (.slice (some ⟨g9,0,none⟩) Ds_q.length c9) Ds_q wr∧h.c=stK d.c (Ds_q.map Doc.c) i) (fun v _=>n-(intOf v).toNat)
      case atStart=>exact⟨0,hh,by omega,rfl,HHI.out,HHA.out,HCC.out⟩
      case round =>
       clear HHI HHA HCC
       obtain⟨i,hh,hi,rfl,hI,hA,hcc⟩:=hrel
       by_cases hlt:i<n
       · have hltI:(i:Int)<(n:Int):=by omega
         obtain⟨ix_q,hix⟩:∃ ix_q:Nat,ix_q=Ds_q.length-2-i:=⟨_,rfl⟩
         have hixlt:ix_q<Ds_q.length:=by omega
         obtain⟨X,hX⟩:∃ X,Ds_q[ix_q]? =some X:=⟨Ds_q[ix_q],Sk hixlt⟩
         have hXm:=Sq hX
         have HXD:=h_ (show X.c=(stK d.c (Ds_q.map Doc.c) (i+1)).doc from by
          show _=(Ds_q.map Doc.c)[(Ds_q.map Doc.c).length-1-(i+1)]!
          rw [Sj,show Ds_q.length-1-(i+1)=ix_q by omega,getElem!_pos _ _ (by rw [Sj];omega),SA,(Sp.1 hX).2])
         have HUN0:=fun(v0:SN) (q:HsAt b hh v0)=>lz b hh v0 q (by rw [(eM hcc).1,(st_len _ _ _).1];omega) (by rw [(eM hcc).2,(st_len _ _ _).2];omega)
         have hun:fq hh.c=(0,stK d.c (Ds_q.map Doc.c) (i+1)):=by
          rw [hcc]
          exact st_undo _ _ _ HNE.out (by rw [Sj];omega)
         rw [hun] at HUN0
         have HUN1:=h_ HUN0
         have hd0:SS wr.heap.size wr wr.drew:=(SS.refl _ _).drew
         have I0_q:=h_ (hI.later hd0 (by have:=hI.2.2.size;omega))
         have A0_q:=h_ (hA.later hd0)
         have HX:=h_ hX
         have HIX:=h_ (show((Ds_q.length:Int)-2-i=ix_q)∧(ix_q:Int)<(Ds_q.length:Int) from by omega)
         have hS00:=A0_q.out.range' hX
         have hwS:=I0_q.out.2.2.size
         clear HUN0 hun hcc hI hA hX hix hd0
         go_upto_region 17 with fail
         refine SO (S:=fun w'=>w'.rangeAt g9 (ix_q*8) X.enc) (by kernel_rfl) hS00 (fun _=>?_)
         generalize wr.drew=v0 at *
         have HUN:=h_ (HUN1.out v0 I0_q.out.1)
         have hS0:=A0_q.out.range' HX.out
         have e1:SW.wrap ((Ds_q.length:Int)-2)=(Ds_q.length:Int)-2:=by rw [SV];omega
         have e2:SW.wrap ((Ds_q.length:Int)-2-i)=ix_q:=by rw [SV];have:=HIX.out;omega
         have e3:=HIX.out.2
         have e4:(0:Int)≤(ix_q:Int):=by omega
         clear hS00 HUN1
         refine ab 0 (.pointer (some ⟨b,0,none⟩)) hS0 ?_
         refine aq 1 (fun K hK=>?_)
         go_simp
         refine(HUN.out).mono ?_
         rintro e_ v1 ⟨rfl,h1,hH1,hc1,ho1,hk1⟩
         have hs1_:=hk1.size
         have I1:=h_ (I0_q.out.step (by omega) hH1 ho1 hk1)
         have A1:=h_ (A0_q.out.step (ho1.mono fun _ q=>q.elim) hk1)
         have hvS:=A1.out.range' HX.out
         have HC1:=h_ hc1
         clear hH1 hc1 ho1 hk1 HUN I0_q A0_q hS0
         have HDC:=h_ (iz b h1 v1 I1.out.1)
         go_wp2_with fail
         refine goOn hK hvS ?_
         clear hK
         refine ab 2 (.bool false) hvS ?_
         refine ab 3 (.bool false) hvS ?_
         refine ab 4 (.pointer (some ⟨b,0,none⟩)) hvS ?_
         refine ab 6 (.slice (some ⟨g9,0,none⟩) Ds_q.length c9) hvS ?_
         refine ab 7 (.slice (some ⟨g9,0,none⟩) Ds_q.length c9) hvS ?_
         refine ab 8 (.int .i64 Ds_q.length) hvS ?_
         refine ab 9 (.int .i64 ((Ds_q.length:Int)-2)) hvS ?_
         refine ab 10 (.int .i64 i) hvS ?_
         refine ab 11 (.int .i64 (ix_q:Int)) hvS ?_
         refine ab 12 (.pointer (some ⟨g9,ix_q*8,none⟩)) hvS ?_
         refine ab 13 (.agg X.enc.toArray) hvS ?_ (hy:=SQ (by rfl) 27 (.tmp 74) rfl g9 (ix_q*8) rfl X.enc _ (fun w_ h_=>h_) Tryz.underlying27 rfl ag)
         refine aq 5 (fun K hK=>?_)
         go_simp
         refine(HDC.out).mono ?_
         rintro e_ v2 ⟨D3,rfl,hc3,hl3,hf3,_,hb_⟩
         have hs2_:=hb_.size
         have I2:=h_ (I1.out.later hb_ (by omega))
         have A2:=h_ (A1.out.later hb_)
         have hv2:=A2.out.range' HX.out
         have HSA:=h_ (iZ D3 X v2 hl3 (A2.out.docs X hXm).1 hf3 (A2.out.docs X hXm).2.1)
         have hE3:oo D3 X=true:=(kn D3 X).2 (by rw [HXD.out,hc3,←HC1.out];rfl)
         rw [hE3] at HSA
         clear hb_ HDC I1 A1 hc3 hl3 hf3 hE3
         go_wp2_with fail
         refine goOn hK hv2 ?_
         clear hK
         refine aq 14 (fun K hK=>?_)
         go_simp
         refine(HSA.out).mono ?_
         rintro e_ v3 ⟨rfl,hb_⟩
         have hs3_:=hb_.size
         have I3:=h_ (I2.out.later hb_ (by omega))
         have A3:=h_ (A2.out.later hb_)
         have hv3:=A3.out.range' HX.out
         clear hb_ HSA I2 A2
         go_wp2_with fail
         refine goOn hK hv3 ?_
         clear hK
         refine ab 15 (.bool false) hv3 ?_
         refine ab 16 (.bool false) hv3 ?_
         refine wpAnyH_done (by kernel_rfl) ?_ _
         clear hv3 e1 e2 e3 e4 HIX HX HXD
         go_wp2_with fail
         go_roundw
         case rel =>
          first
           | exact⟨i+1,h1,by omega,by go_num,I3.out,A3.out,HC1.out⟩
           | (refine⟨_,_,_,_,_,_,_,_,_,_,_,_,_,_,_,_,_,_,_,?_,rfl⟩;exact⟨i+1,h1,by omega,by go_num,I3.out,A3.out,HC1.out⟩)
         case measure=>simp [intOf];omega
       · obtain rfl:n=i:=by omega
         have HHI:=h_ hI
         have HHA:=h_ hA
         have HCC:=h_ hcc
         clear hI hA hcc hlt
         go_wp2_with fail
         go_loopw [81] (fun v wr=>∃ (i:Nat) (h:Hs),i≤n∧v=.int .i64 i∧HsIn w.heap.size w b h wr∧DocsAt w.heap.size b h (.slice (some ⟨g9,0,none⟩) Ds_q.length c9) Ds_q wr∧h.c=stK d.c (Ds_q.map Doc.c) (n-i)) (fun v _=>n-(intOf v).toNat)
         case atStart=>exact⟨0,hh,by omega,rfl,HHI.out,HHA.out,HCC.out⟩
         case round =>
          clear HHI HHA HCC
          obtain⟨i,hh,hi,rfl,hI,hA,hcc⟩:=hrel
          by_cases hlt:i<n
          · have hltI:(i:Int)<(n:Int):=by omega
            obtain⟨ix_q,hix⟩:∃ ix_q:Nat,ix_q=Ds_q.length-n+i:=⟨_,rfl⟩
            have hixlt:ix_q<Ds_q.length:=by omega
            obtain⟨X,hX⟩:∃ X,Ds_q[ix_q]? =some X:=⟨Ds_q[ix_q],Sk hixlt⟩
            have hXm:=Sq hX
            have HXD:=h_ (show X.c=(stK d.c (Ds_q.map Doc.c) (n-(i+1))).doc from by
             show _=(Ds_q.map Doc.c)[(Ds_q.map Doc.c).length-1-(n-(i+1))]!
             rw [Sj,show Ds_q.length-1-(n-(i+1))=ix_q by omega,getElem!_pos _ _ (by rw [Sj];omega),SA,(Sp.1 hX).2])
            have HUN0:=fun(v0:SN) (q:HsAt b hh v0)=>Dm b hh v0 q (by rw [(eM hcc).2,(st_len _ _ _).2];omega) (by rw [(eM hcc).1,(st_len _ _ _).1];omega)
            have hun:gW hh.c=(0,stK d.c (Ds_q.map Doc.c) (n-(i+1))):=by
             rw [hcc]
             rw [show n-i=n-(i+1)+1 by omega];exact st_redo _ _ _ HNE.out (by rw [Sj];omega)
            rw [hun] at HUN0
            have HUN1:=h_ HUN0
            have hd0:SS wr.heap.size wr wr.drew:=(SS.refl _ _).drew
            have I0_q:=h_ (hI.later hd0 (by have:=hI.2.2.size;omega))
            have A0_q:=h_ (hA.later hd0)
            have HX:=h_ hX
            have HIX:=h_ (show((Ds_q.length:Int)-n+i=ix_q)∧(ix_q:Int)<(Ds_q.length:Int) from by omega)
            have hS00:=A0_q.out.range' hX
            have hwS:=I0_q.out.2.2.size
            clear HUN0 hun hcc hI hA hX hix hd0
            go_upto_region 23 with fail
            refine SO (S:=fun w'=>w'.rangeAt g9 (ix_q*8) X.enc) (by kernel_rfl) hS00 (fun _=>?_)
            generalize wr.drew=v0 at *
            have HUN:=h_ (HUN1.out v0 I0_q.out.1)
            have hS0:=A0_q.out.range' HX.out
            have e1:SW.wrap ((Ds_q.length:Int)-n)=(Ds_q.length:Int)-n:=by rw [SV];omega
            have e2:SW.wrap ((Ds_q.length:Int)-n+i)=ix_q:=by rw [SV];have:=HIX.out;omega
            have e3:=HIX.out.2
            have e4:(0:Int)≤(ix_q:Int):=by omega
            clear hS00 HUN1
            refine ab 0 (.pointer (some ⟨b,0,none⟩)) hS0 ?_
            refine aq 1 (fun K hK=>?_)
            go_simp
            refine(HUN.out).mono ?_
            rintro e_ v1 ⟨rfl,h1,hH1,hc1,ho1,hk1⟩
            have hs1_:=hk1.size
            have I1:=h_ (I0_q.out.step (by omega) hH1 ho1 hk1)
            have A1:=h_ (A0_q.out.step (ho1.mono fun _ q=>q.elim) hk1)
            have hvS:=A1.out.range' HX.out
            have HC1:=h_ hc1
            clear hH1 hc1 ho1 hk1 HUN I0_q A0_q hS0
            have HDC:=h_ (iz b h1 v1 I1.out.1)
            go_wp2_with fail
            refine goOn hK hvS ?_
            clear hK
            refine ab 2 (.bool false) hvS ?_
            refine ab 3 (.bool false) hvS ?_
            refine ab 4 (.pointer (some ⟨b,0,none⟩)) hvS ?_
            refine ab 6 (.slice (some ⟨g9,0,none⟩) Ds_q.length c9) hvS ?_
            refine ab 7 (.slice (some ⟨g9,0,none⟩) Ds_q.length c9) hvS ?_
            refine ab 8 (.int .i64 Ds_q.length) hvS ?_
            refine ab 9 (.int .i64 n) hvS ?_
            refine ab 10 (.int .i64 ((Ds_q.length:Int)-n)) hvS ?_
            refine ab 11 (.int .i64 i) hvS ?_
            refine ab 12 (.int .i64 (ix_q:Int)) hvS ?_
            refine ab 13 (.pointer (some ⟨g9,ix_q*8,none⟩)) hvS ?_
            refine ab 14 (.agg X.enc.toArray) hvS ?_ (hy:=SQ (by rfl) 27 (.tmp 97) rfl g9 (ix_q*8) rfl X.enc _ (fun w_ h_=>h_) Tryz.underlying27 rfl ag)
            refine aq 5 (fun K hK=>?_)
            go_simp
            refine(HDC.out).mono ?_
            rintro e_ v2 ⟨D3,rfl,hc3,hl3,hf3,_,hb_⟩
            have hs2_:=hb_.size
            have I2:=h_ (I1.out.later hb_ (by omega))
            have A2:=h_ (A1.out.later hb_)
            have hv2:=A2.out.range' HX.out
            have HSA:=h_ (iZ D3 X v2 hl3 (A2.out.docs X hXm).1 hf3 (A2.out.docs X hXm).2.1)
            have hE3:oo D3 X=true:=(kn D3 X).2 (by rw [HXD.out,hc3,←HC1.out];rfl)
            rw [hE3] at HSA
            clear hb_ HDC I1 A1 hc3 hl3 hf3 hE3
            go_wp2_with fail
            refine goOn hK hv2 ?_
            clear hK
            refine aq 15 (fun K hK=>?_)
            go_simp
            refine(HSA.out).mono ?_
            rintro e_ v3 ⟨rfl,hb_⟩
            have hs3_:=hb_.size
            have I3:=h_ (I2.out.later hb_ (by omega))
            have A3:=h_ (A2.out.later hb_)
            have hv3:=A3.out.range' HX.out
            clear hb_ HSA I2 A2
            go_wp2_with fail
            refine goOn hK hv3 ?_
            clear hK
            refine ab 16 (.bool false) hv3 ?_
            refine ab 17 (.bool false) hv3 ?_
            refine wpAnyH_done (by kernel_rfl) ?_ _
            clear hv3 e1 e2 e3 e4 HIX HX HXD
            go_wp2_with fail
            go_roundw
            case rel =>
             first
              | exact⟨i+1,h1,by omega,by go_num,I3.out,A3.out,HC1.out⟩
              | (refine⟨_,_,_,_,_,_,_,_,_,_,_,_,_,_,_,_,_,_,_,?_,rfl⟩;exact⟨i+1,h1,by omega,by go_num,I3.out,A3.out,HC1.out⟩)
            case measure=>simp [intOf];omega
          · obtain rfl:n=i:=by omega
            have HHI:=h_ hI
            have HHA:=h_ hA
            have HCC:=h_ hcc
            clear hI hA hcc hlt
            have hcc:=HCC.out
            rw [Nat.sub_self] at hcc
            have HUN0:=Dm b hh wr HHI.out.1 (by rw [(eM hcc).2,(st_len _ _ _).2];omega) (by rw [(eM hcc).1,(st_len _ _ _).1];omega)
            have hun:gW hh.c=(6,stK d.c (Ds_q.map Doc.c) 0):=by rw [hcc];exact st_redo0 _ _
            rw [hun] at HUN0
            have HUN:=h_ HUN0
            clear HUN0 hun hcc HCC HHA
            go_wp2_with fail
            refine HUN.out.mono ?_
            rintro e v1 ⟨rfl,h1,hH1,hc1,ho1,hk1⟩
            have HF:=h_ (HQ.out v1 (HHI.out.step HHI.out.2.2.size hH1 ho1 hk1).2.2)
            clear HUN hH1 hc1 ho1 hk1 HHI HQ
            go_wp2_with fail
            first
             | exact HF.out
             | (go_ret;exact HF.out)
end Go.Proofs.YtjebaagkomejaaaGreatDoor
