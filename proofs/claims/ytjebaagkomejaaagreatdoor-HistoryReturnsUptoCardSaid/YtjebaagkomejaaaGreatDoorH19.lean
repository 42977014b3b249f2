/- One step of a region that draws its order, with what is always shown in one way left to the law. The reference's SameChange and Same at changes with equal contents. document.Same of any two documents: whether their contents are equal. -/
import Derived.Lib.BufferRead
import Derived.Deep.DeepWitnessRowRef
import Derived.Lib.LaidU8T
import Derived.Stop.LaidErr
import Derived.MakeChecks
import Derived.Test.YtjebaagkomejaaaGreatDoorH17
set_option linter.unusedVariables false
set_option linter.unusedSimpArgs false
set_option maxRecDepth 100000
set_option maxHeartbeats 12800000
open List renaming setIfInBounds_toArray→YA,getElem_cons_zero→YB,getElem_cons_succ→YC,getElem_toArray→YD,set_cons_zero→YE,set_cons_succ→YF
open Array renaming toArray_toList→YG
open Go renaming World→Sh,Value→Si,wp_at_zero→Sj,wp_at_succ→Sk
open Go.RowKit renaming Below→Sl
open Go.Region renaming wanted→Sm,ready→Sn,noSelect→Sp,free→Sq
open List renaming getElem?_eq_some_iff→Sr,filter_eq_self→Ss,pairwise_cons→St,getElem?_eq_getElem→Su,take_append_drop→Sv,getElem_of_mem→Sw,filter_append→Sx,filter_cons→Sy,map_id→Sz,drop_eq_getElem_cons→SA,filter_eq_nil_iff→SB,getElem_take→SC,length_take→SD,cons_ne_nil→SF,find?_some→SG,map_cons→SH
open Go.Lib renaming allEq→SI
open Bool renaming false_ne_true→SJ,and_eq_true→SK
open Go.Value renaming slice→SL,int→SM
namespace Go.Proofs.YtjebaagkomejaaaGreatDoor
open Go.RowKit
theorem ak {w w1 w2:Sh} (h:Sl w.heap.size w w1)(q:Sl w1.heap.size w1 w2):Sl w.heap.size w w2:=h.trans (q.mono h.size)
section
variable {P:Program} {md:Region.Mode} {ops:Array Oper} {Q:Exit→Act→Sh→Prop} {S:Sh→Prop} {fuel:Nat} {listed:Array Bool} {a a':Act} {w:Sh} {oi:Oper}
theorem ab (i:Nat)(v:Si)(hS:S w)(h:wpAnyH P md ops Q S fuel (listed.setIfInBounds i true) a' w)
 (hi:ops[i]? =some oi:=by rfl) (hs:Sp ops=true:=by kernel_rfl) (hf:Sq md ops listed i=true:=by kernel_rfl) (hr:(Sn md ops listed).contains i=true:=by kernel_rfl)
 (hP:∀ c a w,Q (.panic c) (a.put oi.dst v) w→Q (.panic c) a w:=by exact fun _ _ _ h=>h)
 (hy:YieldsIf P ops S oi v a:=by exact .inl ⟨by rfl,fun w_ aH=>by go_simp⟩)
 (hp:a.put oi.dst v=a':=by simp only [Act.put,YD,YB,YC,YA,YE,YF,YG]<;>rfl) :
 wpAnyH P md ops Q S (fuel+1) listed a w :=
 wpAnyH_take hi hs hf hr hP hy hS (by rw [hp];exact h)
theorem aw (i:Nat)(hS:S w)(h:wpAnyH P md ops Q S fuel (listed.setIfInBounds i true) a' w)
 (hi:ops[i]? =some oi:=by rfl) (hs:Sp ops=true:=by kernel_rfl) (hf:Sq md ops listed i=true:=by kernel_rfl) (hr:(Sn md ops listed).contains i=true:=by kernel_rfl) (hP:∀ c a w,Q (.panic c) (a.put oi.dst undef) w→Q (.panic c) a w:=by exact fun _ _ _ h=>h) (hw:Sm oi (yielded ops a.tmps)=false:=by rfl)
 (hp:a.put oi.dst undef=a':=by simp only [Act.put,YD,YB,YC,YA,YE,YF,YG]<;>rfl):wpAnyH P md ops Q S (fuel+1) listed a w:=ab i undef hS h hi hs hf hr hP (.inr ⟨hw,rfl⟩) hp
theorem goOn {K:Act→Sh→Prop} (hK:Shut (∀ a w,S w→(S w→wpAnyH P md ops Q S fuel listed a w)→K a w))(hS:S w)(h:wpAnyH P md ops Q S fuel listed a' w)
 (hp:a=a':=by(try simp only [Act.put,YD,YB,YC,YA,YE,YF,YG])<;>rfl):K a w:=hK.out _ _ hS fun _=>by rw [hp];exact h
theorem aq (i:Nat)(h:∀ K':Act→Sh→Prop,Shut (∀ a w,S w→(S w→wpAnyH P md ops Q S fuel (listed.setIfInBounds i true) a w)→K' a w)→if Sm oi (yielded ops a.tmps)=true then Oper.wp P oi a w K' Q else K' (a.put oi.dst undef) w)
 (hr:Sn md ops listed=[i]:=by kernel_rfl) (hi:ops[i]? =some oi:=by rfl):wpAnyH P md ops Q S (fuel+1) listed a w:=wpAnyH_ready hr (SF _ _) (.cons hi h .nil)
theorem dH (i j:Nat) {oj:Oper} (h:∀ K':Act→Sh→Prop,Shut (∀ a w,S w→(S w→wpAnyH P md ops Q S fuel (listed.setIfInBounds i true) a w)→K' a w)→if Sm oi (yielded ops a.tmps)=true then Oper.wp P oi a w K' Q else K' (a.put oi.dst undef) w)
 (h':∀ K':Act→Sh→Prop,Shut (∀ a w,S w→(S w→wpAnyH P md ops Q S fuel (listed.setIfInBounds j true) a w)→K' a w)→if Sm oj (yielded ops a.tmps)=true then Oper.wp P oj a w K' Q else K' (a.put oj.dst undef) w)
 (hr:Sn md ops listed=[i,j]:=by kernel_rfl) (hi:ops[i]? =some oi:=by rfl) (hj:ops[j]? =some oj:=by rfl):wpAnyH P md ops Q S (fuel+1) listed a w:=wpAnyH_ready hr (SF _ _) (.cons hi h (.cons hj h' .nil))
end
end Go.Proofs.YtjebaagkomejaaaGreatDoor
namespace Go.Proofs.YtjebaagkomejaaaGreatDoor
open Go.RowKit
attribute [local go_sem ↓] Sj Sk
theorem pj {α:Type} (eq:α→α→Bool)(h:∀ x,eq x x=true):∀ xs:List α,SI eq xs xs=true
 | []=>by rw [SI]
 | x::l=>by rw [SI,h x,pj eq h l];rfl
theorem wQ (x:Run):kJ x x=true:=by simp [kJ]
theorem oR:∀ xs ys:List Row,xs.map Row.runs=ys.map Row.runs→fK xs ys=true
 | [],[],_=>by unfold fK;rw [SI]
 | [],y::l,h=>by simp at h
 | x::l,[],h=>by simp at h
 | x::l,y::m,h=>by
   simp only [SH,List.cons.injEq] at h
   have ih:=oR l m h.2
   unfold fK at ih ⊢
   rw [SI,ih,pO,h.1,pj kJ wQ]
   rfl
theorem Ib (x y:Ev)(h:x.c=y.c):evEq x y=true:=by
 simp only [Ev.c,EvC.mk.injEq] at h
 obtain⟨h1,h2,h3,h4,h5,h6,h7⟩:=h
 unfold evEq
 rw [h1,h2,h3,h4,h5,h6,oR _ _ h7]
 simp
theorem Ap (x:Hd):hdEq x x=true:=by simp [hdEq]
theorem wS (x:Reg):gV x x=true:=by simp [gV]
theorem AX (x:Cm):cmEq x x=true:=by simp [cmEq]
end Go.Proofs.YtjebaagkomejaaaGreatDoor
namespace Go.Proofs.YtjebaagkomejaaaGreatDoor
open Go.RowKit
attribute [local go_sem ↓] Sj Sk
def oo (d d':Doc):Bool:=hdEq d.hd d'.hd&&(SI gV d.rG d'.rG&&(SI evEq d.eV d'.eV&&SI cmEq d.cM d'.cM))
theorem ks {α β:Type} {eq:α→α→Bool} {f:α→β} (h:∀ x y,eq x y=true↔f x=f y):∀ xs ys:List α,SI eq xs ys=true↔xs.map f=ys.map f
 | [],[]=>by simp [SI]
 | [],y::l=>by simp [SI]
 | x::l,[]=>by simp [SI]
 | x::l,y::m=>by
   simp only [SI,SK,SH,List.cons.injEq,h,ks h l m]
theorem kn (d d':Doc):oo d d'=true↔d.c=d'.c:=by
 unfold oo
 rw [SK,SK,SK]
 rw [ks (f:=id) (eq:=gV) fun x y=>⟨Ga,fun e=>(show x=y from e)▸wS _⟩,ks (f:=Ev.c) (eq:=evEq) fun x y=>⟨Lk,Ib x y⟩,ks (f:=id) (eq:=cmEq) fun x y=>⟨Lm,fun e=>(show x=y from e)▸AX _⟩,Sz,Sz,Sz,Sz]
 unfold Doc.c
 rw [DocC.mk.injEq]
 refine and_congr_left fun _=>⟨K2,fun e=>e▸Ap _⟩
end Go.Proofs.YtjebaagkomejaaaGreatDoor
namespace Go.Proofs.YtjebaagkomejaaaGreatDoor
open Go.RowKit
theorem aL {fn:Func} {Q:Ending→Sh→Prop} {p u:Tmp} {a:Act} {w:Sh} {g:Nat} {cs:Array Si} (h:fn.results=#[.cell p 27,.tmp u])(hd:a.defers=[])(hp:a.tmps.getD p undef=.pointer (some ⟨g,0,none⟩))(r:w.heap[g]? =some (.cells cs 27 (0,0)))(hs:cs.size=8)(hQ:Q (.returned (.tuple #[.agg cs,a.tmps.getD u undef])) w):bodyPost Tryz.prog fn Q .ret a w:=by
 refine bodyPost_ret (v:=.tuple #[.agg cs,a.tmps.getD u undef]) ?_ hd hQ
 rw [results_cell_tmp h,hp]
 simp [asAddr,run_loadVar_row w g 27 27 cs (0,0) _ r Tryz.underlying27 rfl (by rw [hs];exact ag)]
theorem nx:∀ {l:List Cm} (_:l.Pairwise fun x y=>x.id<y.id)(k:Nat)(m:Cm),l[k]? =some m→l.filter (fun x=>!(x.id==m.id))=bI l k
 | [],_,k,m,h=>by simp at h
 | a::l,hp,0,m,h=>by
   obtain rfl:a=m:=by simpa using h
   have h1:l.filter (fun x=>!(x.id==a.id))=l:=Ss.2 fun x hx=>by
    have:=(St.1 hp).1 x hx
    have:x.id≠a.id:=by omega
    simpa using this
   simp [Sy,bI,h1]
 | a::l,hp,k+1,m,h=>by
   have hm:l[k]? =some m:=by simpa using h
   have h1:=(St.1 hp).1 m (List.mem_of_getElem? hm)
   have h2:a.id≠m.id:=by omega
   have h3:=nx (St.1 hp).2 k m hm
   rw [Sy,if_pos (by simpa using h2),h3]
   rfl
theorem vX {d:DocC} {id:Int} (h:bJ d id=0):cErr d=0∧∃ (j:Nat)(x:Cm),gA d id=(j:Int)∧d.cM[j]? =some x∧cR d.cM id=some x:=by
 have hI:gA d id=posOf (isCm id) d.cM:=by unfold gA;rw [if_pos h]
 unfold bJ at h
 split at h
 · rename_i hn;exact absurd h hn
 · rename_i h0
   refine⟨Classical.not_not.1 h0,?_⟩
   rw [hI]
   rcases AV d.cM id with⟨_,hn⟩|h'
   · rw [hn] at h;simp at h
   · exact h'
theorem Dq {d:Doc} {n:Nat} {w5 w6 w9:Sh} {ys:List Cm} {cb cap:Nat} (hl:d.lies w5)(hu:∀ b,d.uses b→n≤b)(hap:d.apart)(he:d.ca=some ⟨cb,0,none⟩)(hne:d.cM≠[])
 (hS:ah 8 Cm.enc Flat w6 (some ⟨cb,0,none⟩) ys) (k6:Kept (fun b=>b=cb) w5 w6) (k9:Kept (fun b=>b<n) w6 w9) :
 ({ d with cc:=cap,cM:=ys }:Doc).lies w9∧∀ b,({ d with cc:=cap,cM:=ys }:Doc).uses b→n≤b:=by
 obtain⟨t,t1,t2,t3,t4⟩:=hap
 have s6:=k6.size
 have s9:=k9.size
 have hcb:bt d.ca d.cM cb:=⟨hne,⟨cb,0,none⟩,he,rfl⟩
 have htb:=t4 cb hcb
 have hnb:=hu cb (.inr (.inr hcb))
 have hys:∀ b,bt d.ca ys b→b=cb:=fun b h=>by
  obtain⟨_,a,ha,hb⟩:=h
  rw [he] at ha
  obtain rfl:=Option.some.inj ha
  exact hb.symm
 have qh:∀ b,({ d with cc:=cap,cM:=ys }:Doc).uses b→n≤b:=fun b h=>by
  rcases h with h|h|h
  · exact hu b (.inl h)
  · exact hu b (.inr (.inl h))
  · rw [hys b h];exact hnb
 refine⟨⟨?_,?_,?_⟩,qh⟩
 · refine ah.frame hl.1 (by omega) (fun b hb=>?_) (fun _ _ _=>trivial)
   have h1:=aP hl.1 hb
   have h2:=hu b (.inl hb)
   have:=t1 b hb
   rw [k9.block b (by omega) (by omega),k6.block b h1 (fun e=>by rw [e] at this;omega)]
 · show dG w9 d.ea d.eV
   refine dG.frame hl.2.1 (by omega) fun b hb=>?_
   have h1:=el hl.2.1 hb
   have h2:=hu b (.inr (.inl hb))
   rw [k9.block b (by omega) (by omega),k6.block b h1 (fun e=>by
    rw [e] at hb
    rcases hb with h|⟨x,hx,h⟩
    · have:=t2 cb h;omega
    · have:=t3 x hx cb h;omega)]
 · show ah 8 Cm.enc Flat w9 d.ca ys
   rw [he]
   refine ah.frame hS (by omega) (fun b hb=>?_) (fun _ _ _=>trivial)
   have h1:=aP hS hb
   have h2:b=cb:=hys b (he▸hb)
   rw [k9.block b h1 (by omega)]
theorem sU {d:DocC} {id:Int} (h:bJ d id≠0):bY d id=(bJ d id,aV):=by
 unfold bY
 unfold bJ at h ⊢
 by_cases h0:cErr d≠0
 · rw [if_pos h0,if_pos h0]
 · rw [if_neg h0] at h ⊢
   rw [if_neg h0]
   by_cases h1:(cR d.cM id).isNone=true
   · rw [if_pos h1,if_pos h1]
   · rw [if_neg h1] at h;exact absurd rfl h
theorem uV {d:DocC} {id:Int} {j:Nat} {x:Cm} (h0:cErr d=0)(hx:d.cM[j]? =some x)(hf:cR d.cM id=some x):bY d id=(0,{ d with cM:=bI d.cM j }):=by
 have hid:x.id=id:=by
  have:=SG hf
  simpa [cmAt] using this
 have hfl:=nx (iF h0).cM j x hx
 unfold bY
 rw [if_neg (fun h=>h h0),hf,if_neg (by simp),←hfl,hid]
theorem wR {l:List Reg} {nm:ByteArray} {k:Nat} (hs:l.Pairwise fun x y=>baLt x.name y.name)(hlo:∀ j r,j<k→l[j]? =some r→dO nm r=true)(hhi:∀ r,l[k]? =some r→dO nm r=false):l.filter (dO nm)=l.take k∧l.filter (fun r=>!(dO nm r))=l.drop k:=by
 have h1:∀ r∈l.take k,dO nm r=true:=by
  intro r hr
  obtain⟨j,hj,rfl⟩:=Sw hr
  rw [SD] at hj
  exact hlo j _ (by omega) (by rw [SC,Su])
 have h2:∀ r∈l.drop k,dO nm r=false:=by
  cases hk:l.drop k with
  | nil=>simp
  | cons a t =>
    have ha:l[k]? =some a:=by
     have:=congrArg (fun z:List Reg=>z[0]?) hk
     simpa using this
    have hp:=hs.sublist (List.drop_sublist k l)
    rw [hk] at hp
    intro r hr
    rcases List.mem_cons.1 hr with rfl|hr
    · exact hhi _ ha
    · exact(DX nm a r ((St.1 hp).1 r hr) (hhi a ha)).1
 have e1:l.filter (dO nm)=(l.take k).filter (dO nm)++(l.drop k).filter (dO nm):=by rw [←Sx,Sv]
 have e2:l.filter (fun r=>!(dO nm r))=(l.take k).filter (fun r=>!(dO nm r))++(l.drop k).filter (fun r=>!(dO nm r)):=by rw [←Sx,Sv]
 constructor
 · rw [e1,Ss.2 h1,SB.2 (fun r hr=>by rw [h2 r hr];exact SJ),List.append_nil]
 · rw [e2,SB.2 (fun r hr=>by rw [h1 r hr];exact SJ),Ss.2 (fun r hr=>by rw [h2 r hr];rfl),List.nil_append]
theorem vy {l:List Reg} {nm:ByteArray} {k:Nat} (hs:l.Pairwise fun x y=>baLt x.name y.name)(hlo:∀ j r,j<k→l[j]? =some r→dO nm r=true)(hhi:∀ r,l[k]? =some r→dO nm r=false)(x:Reg):l.filter (dO nm)++x::l.filter (fun r=>!(dO nm r))=fk l k x:=by
 obtain⟨h1,h2⟩:=wR hs hlo hhi
 rw [h1,h2]
 unfold fk
 simp
theorem vx {l:List Reg} {nm:ByteArray} {i:Nat} {r:Reg} (hs:l.Pairwise fun x y=>baLt x.name y.name)(hi:l[i]? =some r)(hr:eH nm r=true):∀ j z,l[j]? =some z→j≠i→eH nm z=false:=by
 intro j z hz hne
 have hn:r.name=nm:=ib (by simpa [eH] using hr)
 have hii:=(Sr.1 hi)
 have hjj:=(Sr.1 hz)
 obtain⟨hil,rfl⟩:=hii
 obtain⟨hjl,rfl⟩:=hjj
 rw [List.pairwise_iff_getElem] at hs
 cases h:eH nm l[j] with
 | false=>rfl
 | true =>
   have hn2:l[j].name=nm:=ib (by simpa [eH] using h)
   exfalso
   rcases Nat.lt_or_gt_of_ne hne with hlt|hlt
   · have:=hs j i hjl hil hlt
     rw [hn,hn2] at this
     exact nz _ this
   · have:=hs i j hil hjl hlt
     rw [hn,hn2] at this
     exact nz _ this
theorem BM {l:List Reg} {nm:ByteArray} {i:Nat} {r:Reg} (hs:l.Pairwise fun x y=>baLt x.name y.name)(hi:l[i]? =some r)(hr:eH nm r=true)(x:Reg):l.map (fun z=>if eH nm z=true then x else z)=l.set i x:=by
 have h1:=vx hs hi hr
 have hil:=(Sr.1 hi).1
 apply List.ext_getElem?
 intro j
 rw [List.getElem?_map,List.getElem?_set]
 by_cases e:i=j
 · subst e
   rw [if_pos rfl,if_pos hil,hi]
   show some (if eH nm r=true then x else r)=_
   rw [if_pos hr]
 · rw [if_neg e]
   cases hj:l[j]? with
   | none=>rfl
   | some z =>
     show some (if eH nm z=true then x else z)=_
     rw [if_neg (by rw [h1 j z hj (fun h=>e h.symm)];exact SJ)]
theorem zt {l:List Reg} {nm:ByteArray} {i:Nat} {r:Reg} (hs:l.Pairwise fun x y=>baLt x.name y.name)(hi:l[i]? =some r)(hr:eH nm r=true):l.filter (fun z=>!(eH nm z))=bI l i:=by
 have h1:=vx hs hi hr
 obtain⟨hil,hrr⟩:=Sr.1 hi
 have e0:l=l.take i++r::l.drop (i+1):=by rw [←hrr,←SA hil,Sv]
 have e1:l.filter (fun z=>!(eH nm z))=(l.take i++r::l.drop (i+1)).filter (fun z=>!(eH nm z)):=by rw [←e0]
 rw [e1,Sx,Sy,if_neg (by rw [hr];exact SJ),Ss.2 (fun z hz=>?_),Ss.2 (fun z hz=>?_)]
 · rfl
 · obtain⟨j,hj,rfl⟩:=Sw hz
   rw [List.length_drop] at hj
   rw [List.getElem_drop,h1 (i+1+j) _ (Su (by omega)) (by omega)]
   rfl
 · obtain⟨j,hj,rfl⟩:=Sw hz
   rw [SD] at hj
   rw [SC,h1 j _ (Su (by omega)) (by omega)]
   rfl
def mz (x:EdC):ByteArray:=if x.op=14 then x.name else x.reg.name
theorem BN (d:DocC)(x:EdC):fu d x=if x.op=12 then (if (fj d.rG (mz x)).isSome=true then (7,aV) else if 16≤d.rG.length then (9,aV) else (0,{ d with rG:=d.rG.filter (dO (mz x))++x.reg::d.rG.filter fun r=>!(dO (mz x) r) }))
 else if (fj d.rG (mz x)).isNone=true then (6,aV)
 else if x.op=13 then
  (match d.eV.find? (fun e=>bT (d.rG.map fun r=>if eH (mz x) r=true then x.reg else r) e != 0) with
   | some e=>(bT (d.rG.map fun r=>if eH (mz x) r=true then x.reg else r) e,aV)
   | none=>(0,{ d with rG:=d.rG.map fun r=>if eH (mz x) r=true then x.reg else r }))
 else if d.eV.any (fun e=>e.region.toList==(mz x).toList)=true then (17,aV)
 else (0,{ d with rG:=d.rG.filter fun r=>!(eH (mz x) r) }):=rfl
theorem pQ {d:Doc} {n:Nat} {w5 w6 w9:Sh} {ys:List Reg} {a:Option Addr} {c:Nat} (hl:d.lies w5)(hu:∀ b,d.uses b→n≤b)(hap:∀ b,(SL d.ra d.rG.length d.rc).ownBlock=some b→¬ iQ d.ea d.eV b∧¬ bt d.ca d.cM b)
 (hS:ah 7 Reg.enc Flat w6 a ys) (ha:∀ ad,a=some ad→n≤ad.block) (k6:Kept (fun b=>(SL d.ra d.rG.length d.rc).ownBlock=some b) w5 w6) (k9:Kept (fun b=>b<n) w6 w9) :
 ({ d with ra:=a,rc:=c,rG:=ys }:Doc).lies w9∧∀ b,({ d with ra:=a,rc:=c,rG:=ys }:Doc).uses b→n≤b:=by
 have s6:=k6.size
 have s9:=k9.size
 have hys:∀ b,bt a ys b→n≤b:=fun b h=>by
  obtain⟨_,ad,had,rfl⟩:=h
  exact ha ad had
 have qh:∀ b,({ d with ra:=a,rc:=c,rG:=ys }:Doc).uses b→n≤b:=fun b h=>by
  rcases h with h|h|h
  · exact hys b h
  · exact hu b (.inr (.inl h))
  · exact hu b (.inr (.inr h))
 refine⟨⟨?_,?_,?_⟩,qh⟩
 · show ah 7 Reg.enc Flat w9 a ys
   refine ah.frame hS (by omega) (fun b hb=>?_) (fun _ _ _=>trivial)
   have h1:=aP hS hb
   have h2:=hys b hb
   rw [k9.block b h1 (by omega)]
 · show dG w9 d.ea d.eV
   refine dG.frame hl.2.1 (by omega) fun b hb=>?_
   have h1:=el hl.2.1 hb
   have h2:=hu b (.inr (.inl hb))
   rw [k9.block b (by omega) (by omega),k6.block b h1 (fun e=>(hap b e).1 hb)]
 · refine ah.frame hl.2.2 (by omega) (fun b hb=>?_) (fun _ _ _=>trivial)
   have h1:=aP hl.2.2 hb
   have h2:=hu b (.inr (.inr hb))
   rw [k9.block b (by omega) (by omega),k6.block b h1 (fun e=>(hap b e).2 hb)]
theorem Kept.of_grown {w w':Sh} {o:Option Nat} (h:w.grownBy w' o):Kept (fun b=>o=some b) w w':=⟨h.os,h.tape,h.output,h.size,fun k hk hn=>h.block k hk (fun e=>hn e.symm)⟩
def cd (rs:List Reg):List EvC→Int
 | []=>0
 | e::l=>if bT rs e≠0 then bT rs e else cd rs l
theorem ni (rs:List Reg)(d:DocC):∀ l:List EvC,(match l.find? (fun e=>bT rs e != 0) with
 | some e=>(bT rs e,aV)
 | none=>(0,d))=if cd rs l≠0 then (cd rs l,aV) else (0,d)
 | []=>rfl
 | e::l=>by
   rw [List.find?_cons,cd]
   by_cases h:bT rs e=0
   · rw [show(bT rs e != 0)=false by simp [h],if_neg (show ¬ bT rs e≠0 from fun k=>k h)]
     exact ni rs d l
   · rw [show(bT rs e != 0)=true by simpa using h,if_pos (show bT rs e≠0 from h)]
     simp only
     rw [if_pos h]
theorem AJ (rs:List Reg)(l:List Ev)(k:Nat)(x:Ev)(h:l[k]? =some x):cd rs ((l.map Ev.c).drop k)=if bT rs x.c≠0 then bT rs x.c else cd rs ((l.map Ev.c).drop (k+1)):=by
 have hk:k<(l.map Ev.c).length:=by rw [List.length_map];exact(Sr.1 h).1
 rw [SA hk,cd,List.getElem_map]
 have:l[k]'(by simpa using hk)=x:=(Sr.1 h).2
 rw [this]
theorem CG (rs:List Reg)(x:Ev):fS x rs=bT rs x.c:=by
 unfold bT
 exact jk (EvC.rep_c x.c).symm rs
end Go.Proofs.YtjebaagkomejaaaGreatDoor
namespace Go.Proofs.YtjebaagkomejaaaGreatDoor.historySeat
open Go.Shelf Go.ChangeShapes Go.WideShapes Go.ChangeAt Go.RowKit Go.Lib
theorem own:ownKnob Tryz.prog.godebug=none:=by kernel_rfl
theorem laidOut:laidOutB Tryz.prog=true:=by kernel_rfl
noncomputable def laidWorld (os:Os):Sh :=
 let w0:=Sh.holding Tryz.prog os ⟨#[],#[],[]⟩
 let put (h:Array Obj) (g:Nat) (cs:Array Si):Array Obj:=h.modify g fun
  | .cells _ t frozen=>.cells cs t frozen
  | o=>o
 let h1:=put w0.heap 0 (Lib.firstTab.map fun z=>SM .u8 z).toArray
 let h2:=put h1 1 ((List.range 16).flatMap fun i=>[SM .u8 (Lib.accLo i),SM .u8 (Lib.accHi i)]).toArray
 { w0 with heap:=h2 }
def zd:Array Si:=#[.string ⟨#[]⟩,.string ⟨#[]⟩,.int .u8 0,.bool false,.int .i64 0,.slice none 0 0,.slice none 0 0,.slice none 0 0]
def ze:Array Si:=#[.int .u8 0,.int .i64 0,.int .i64 0,.int .i64 0,.int .i64 0,.int .i64 0,.int .i64 0,.int .i64 0,.int .i64 0,.int .u8 0,.int .u8 0,.bool false,.bool false,.string ⟨#[]⟩,.string ⟨#[]⟩,.string ⟨#[]⟩,.int .i64 0,.int .i64 0,.int .i64 0,.int .i64 0,.int .u8 0,.bool false,.slice none 0 0]
theorem laid_met (os:Os)(args:Array Si):laidMet Tryz.prog Rows.historyStepsUptoRow.laid ((laidWorld os).forCall (fun _ _=>0) ⟨#[],args,[]⟩).memory :=
 laidMet_of_run' 8 (by kernel_rfl) (by kernel_rfl)
theorem CA:Rows.laid_unicode_utf8_first=Lib.firstData:=by kernel_rfl
theorem A0:(Rows.laid_unicode_utf8_acceptRanges:DataW Unit)=Lib.acceptData:=by kernel_rfl
theorem zP:Rows.historyStepsUptoRow.laid=[("unicode/utf8.acceptRanges",Rows.laid_unicode_utf8_acceptRanges),("unicode/utf8.first",Rows.laid_unicode_utf8_first)]:=rfl
theorem Gg {W:Sh} (h:W.ShapedOpen Tryz.prog):∃ m,W.cell? ⟨2,0,none⟩=some (.int .i64 m) :=
 Go.Proofs.cell_of_shapedOpen_int (zero:=#[.int .i64 0]) (t:=3) h (of_decide_eq_true (by kernel_rfl)) (by kernel_rfl) rfl (by kernel_rfl) (by kernel_rfl) Tryz.underlying3
theorem env_of {W:Sh} (hL:laidMetH Tryz.prog Rows.historyStepsUptoRow.laid W)(hS:W.ShapedOpen Tryz.prog):Env W:=by
 have hL':laidMet Tryz.prog Rows.historyStepsUptoRow.laid W:=by
  rw [Go.MakeChecks.laidMetH_plain _ _ _ (by kernel_rfl)] at hL
  exact hL
 rw [zP,CA,A0] at hL'
 exact⟨utf8Tabs_of_readsT (U8Types.of196 Tryz.lays196) ⟨by kernel_rfl,by kernel_rfl,by kernel_rfl,by kernel_rfl,by kernel_rfl,by kernel_rfl,by kernel_rfl⟩ (Lib.laidMet.reads hL' (List.Mem.tail _ (List.Mem.head _))) (Lib.laidMet.reads hL' (List.Mem.head _)),Gg hS⟩
end Go.Proofs.YtjebaagkomejaaaGreatDoor.historySeat
namespace Go.Proofs.YtjebaagkomejaaaGreatDoor
open Go.RowKit
def cO (f:EvC→Int × EvC)(B g:Nat)(y:Ev)(w:Sh)(e:Ending)(w':Sh):Prop:=∃ y2:Ev,e=.returned (.int .i64 (f y.c).1)∧((f y.c).1=0→y2.c=(f y.c).2∧y2.lies w'∧y2.fits∧w'.heap[g]? =some (.cells y2.enc.toArray 72 (0,0)))∧Sl B w w'
def fF (N:Nat)(caps:Array Si)(f:EvC→Int × EvC)(w:Sh):Prop:=∀ (g B:Nat) (y:Ev) (w1:Sh),Sl w.heap.size w w1→w.heap.size≤B→B≤g→y.lies w1→(∀ k,y.uses k→B≤k∧k≠g)→(∀ r∈y.rows,r.fits)→y.fits→w1.heap[g]? =some (.cells y.enc.toArray 72 (0,0))→w1.ownsRow B 75 1 (.slice y.at_ y.rows.length y.cap) y.rows.length (y.rows.flatMap Row.enc)→(∀ r∈y.rows,∀ b,r.uses b→(SL y.at_ y.rows.length y.cap).ownBlock≠some b) →
 Calls Tryz.prog N (#[.pointer (some ⟨g,0,none⟩)]++caps) w1 (cO f B g y w1)
def eJ (x:Ed):List (Int × Bool):=[(1,inB x.id 1 1099511627776),(2,if x.op=11 then inB x.other (-5184000) 5184000 else inB x.other 1 1099511627776),(4,cL x.inn x.out),(8,inB x.frame 0 5184000),(16,inB x.row 0 3),(32,inB x.frm 0 262144&&inB x.til 0 262144)]
def okR (u:Int)(p:Int × Bool):Bool:=!hasB u p.1||p.2
theorem ux {r:Int} (h:0≤r):inB r 0 3=decide (r<4):=by
 unfold inB
 by_cases h2:r<4
 · rw [decide_eq_true h2,decide_eq_true (by omega)]
 · rw [decide_eq_false h2,decide_eq_false (by omega)]
theorem uN {c:Cm} (h:c.fits∧(c.lost=false→(-1000000000000000000≤c.frm∧c.frm≤1000000000000000000)∧(-1000000000000000000≤c.til∧c.til≤1000000000000000000)))(hl:c.lost=false) {a b:List Nat} (ha:a.length≤20000000000000)(hb:b.length≤20000000000000):(nd c a b).fits:=by
 obtain⟨h1,h2⟩:=h
 obtain⟨⟨f1,f2⟩,g1,g2⟩:=h2 hl
 have hp:=jm a b
 have hs:=nD a b (alike a b)
 obtain⟨c1,c2,c3,c4,c5,c6⟩:=h1
 rw [kR]
 simp only
 split
 · exact⟨c1,c2,(show i64 0 from⟨by decide,by decide⟩),(show i64 0 from⟨by decide,by decide⟩),c5,c6⟩
 · refine⟨c1,c2,?_,?_,c5,c6⟩
   · show i64 (gq a.length b.length (alike a b) (fV a b (alike a b)) c.frm c.til).1
     unfold gq i64
     simp only
     split
     · omega
     · split<;>omega
   · show i64 (gq a.length b.length (alike a b) (fV a b (alike a b)) c.frm c.til).2
     unfold gq i64
     simp only
     split
     · omega
     · split<;>omega
theorem oP {s:ByteArray} (h:s.size≤20000000000000):(runes s).length≤20000000000000:=Nat.le_trans (eG s s.size 0) h
theorem o_ {o:EvC} (h:o.fits):(eo (some o)).size≤20000000000000:=by
 have:=jO (x:=o.rep) ((Ev.fits_c _).1 (by rw [EvC.rep_c];exact h))
 rwa [EvC.rep_c] at this
theorem hZ {l:List EvC} {k:Int} {o:EvC} (h:aU l k=some o):o∈l∧o.id=k:=by
 unfold aU at h
 exact⟨List.mem_of_find?_eq_some h,by have:=SG h;simpa [evAt] using this⟩
theorem tQ {l:List EvC} {e o:EvC} (h:aU l e.id=some o):(oO l e.id (some e)).length≤l.length:=by
 obtain⟨hm,hi⟩:=hZ h
 have h1:(l.filter fun x=>!(x.id==e.id)).length<l.length:=List.length_filter_lt_length_iff_exists.2 ⟨o,hm,by simp [hi]⟩
 unfold oO de
 rw [List.length_mergeSort,List.length_append]
 simp
 omega
theorem vD {d D:Doc} {e:EvC} (hf:d.fits)(he:e.fits)(h:D.c=(putC d.c e).2)(h0:(putC d.c e).1=0):D.fits:=by
 have hc:=Doc.fits.c (n:=4000000) hf hf.2.2.2.2.2.2.1 hf.2.2.2.2.2.2.2.2.1 hf.2.2.2.2.2.2.2.2.2.2
 obtain⟨q1,q2,q3,q4,q5,q6,q7⟩:=hc
 have:D.c.fits 4000000:=by
  rw [h]
  unfold putC at h0 ⊢
  by_cases hn:cErr d.c≠0
  · rw [if_pos hn] at h0;exact absurd h0 hn
  · rw [if_neg hn] at h0 ⊢
    have hd0:a_ d=0:=by rw [bw];exact Decidable.not_not.1 hn
    have hcm:=vV hd0 hf
    cases Cr:aU d.c.eV e.id with
    | none=>rw [Cr] at h0;cases h0
    | some o =>
      rw [Cr] at h0
      simp only at h0 ⊢
      by_cases hv:bT d.c.rG e≠0
      · rw [if_pos hv] at h0;exact absurd h0 hv
      · rw [if_neg hv]
        have ho:=q4 o (hZ Cr).1
        refine⟨q1,q2,q3,fun x hx=>?_,Nat.le_trans (tQ Cr) q5,fun c hc=>?_,by simpa using q7⟩
        · rcases wI hx with h|h
          · exact q4 x h
          · rw [←Option.some.inj h];exact he
        · obtain⟨c0,hc0,rfl⟩:=List.mem_map.1 hc
          have ht:=hcm c0 hc0
          split
          · unfold gp
            split
            · exact ht.1
            · rename_i hl
              exact uN ht (by simpa using hl) (oP (o_ ho)) (oP (o_ he))
          · exact ht.1
 exact this.doc (Nat.le_refl _)
def k_ (d:DocC)(id fr til:Int)(au tx:ByteArray)(w:Sh)(e:Ending)(w':Sh):Prop:=∃ d2:Doc,e=.returned (.tuple #[.agg d2.enc.toArray,.int .i64 (if bO d id fr til au tx=0 then d.hd.last+1 else 0),.int .i64 (bO d id fr til au tx)])∧d2.c=(fT d id fr til au tx).2∧d2.lies w'∧(∀ b,d2.uses b→w.heap.size≤b)∧Sl w.heap.size w w'
theorem k_.bad {d:DocC} {id fr til:Int} {au tx:ByteArray} {w w':Sh} {q:Int} (hq:bO d id fr til au tx=q)(h0:q≠0)(h:Sl w.heap.size w w'):k_ d id fr til au tx w (.returned (.tuple #[.agg zDoc.enc.toArray,.int .i64 0,.int .i64 q])) w':=by
 subst hq
 exact⟨zDoc,by rw [if_neg h0],by unfold fT;rw [if_pos h0];rfl,jX w',fun b=>jW b _,h⟩
theorem CF (x:Ev):AP x.c=gK x.rows:=pb (congrArg EvC.rows (EvC.rep_c x.c))
theorem Fa {d:Doc} {y:Cm} {w6 w7:Sh} {v':Si} {cs:Array Si} {B:Nat} {o:Obj}
 (hcs:cs.toList=y.enc) (hown:w7.ownsRow B 102 8 v' (d.cM.length+1) (d.cM.flatMap Cm.enc++cs.toList)) (hg:(w6.alloc o).grownBy w7 (SL d.ca d.cM.length d.cc).ownBlock) :
 ∃ a c,v'=.slice a (d.cM.length+1) c∧ah 8 Cm.enc Flat w7 a (d.cM++[y])∧Kept (fun b=>(SL d.ca d.cM.length d.cc).ownBlock=some b) w6 w7∧(∀ b,bt a (d.cM++[y]) b→B≤b):=by
 obtain⟨a,c,hv,hS⟩:=aA (k:=8) (enc:=Cm.enc) (Ok:=Flat) (xs:=d.cM++[y]) (fun _=>rfl) (by simpa [hcs] using hown) (fun _ _=>trivial)
 have hk1:Kept (fun b=>(SL d.ca d.cM.length d.cc).ownBlock=some b) w6 (w6.alloc o):=(Kept.refl _ _).alloc _
 refine⟨a,c,by rw [hv];simp,hS,hk1.andGrown hg fun k hk _=>hk,fun b hb=>?_⟩
 obtain⟨_,ad,e,rfl⟩:=hb
 refine(hown.lt ad.block ?_).1
 rw [hv,e];rfl
def gN (l:List Run)(w:Sh)(k:Nat)(wr:Sh):Prop:=∃ av cv,wr.heap[w.heap.size+1]? =some (.cells #[.slice av (cG (l.take k)).length cv] 75 (0,0))∧wr.ownsRow (w.heap.size+2) 77 5 (.slice av (cG (l.take k)).length cv) (cG (l.take k)).length ((cG (l.take k)).flatMap Run.enc)∧wr.heap[w.heap.size]? =some (.cells #[.slice none 0 0] 75 (0,0))∧Sl w.heap.size w wr
def qK (l:List Run)(w:Sh)(e:Ending)(w':Sh):Prop:=∃ r:Row,e=.returned (.agg r.enc.toArray)∧r.runs=cG l∧w'.ownsRow w.heap.size 77 5 (.slice r.at_ r.runs.length r.cap) r.runs.length (r.runs.flatMap Run.enc)∧Sl w.heap.size w w'
theorem gN.below {l:List Run} {w wr w1:Sh} {k:Nat} (h:gN l w k wr)(hb:Sl wr.heap.size wr w1):gN l w k w1:=by
 obtain⟨av,cv,h1,h2,h3,h4⟩:=h
 exact⟨av,cv,(hb.block _ (aR h1)).trans h1,aJ h2 hb,(hb.block _ (aR h3)).trans h3,h4.trans (hb.mono h4.size)⟩
theorem zH {zs zs':List Run} {w wr w2 w3:Sh} {av:Option Addr} {cv:Nat} {v':Si} {cs:Array Si} {x:Run} (hcs:cs.toList=x.enc)(hz:zs'=zs++[x])(h1:wr.heap[w.heap.size+1]? =some (.cells #[.slice av zs.length cv] 75 (0,0)))(h2:wr.ownsRow (w.heap.size+2) 77 5 (.slice av zs.length cv) zs.length (zs.flatMap Run.enc))(h3:wr.heap[w.heap.size]? =some (.cells #[.slice none 0 0] 75 (0,0)))(h4:Sl w.heap.size w wr)(hb:Sl wr.heap.size wr w2)
 (hown:w3.ownsRow (w.heap.size+2) 77 5 v' (zs.length+1) (zs.flatMap Run.enc++cs.toList)) (hg:(w2.alloc (.cells cs 77)).grownBy w3 (SL av zs.length cv).ownBlock) :
 w3.heap[w.heap.size+1]? =some (.cells #[.slice av zs.length cv] 75 (0,0))∧w3.ownsRow (w.heap.size+2) 77 5 v' zs'.length (zs'.flatMap Run.enc)∧w3.heap[w.heap.size]? =some (.cells #[.slice none 0 0] 75 (0,0))∧Sl w.heap.size w w3:=by
 have hs:=hb.size
 have hs4:=h4.size
 have l1:=aR h1
 have l3:=aR h3
 have hlt:∀ b,(SL av zs.length cv).ownBlock=some b→w.heap.size+2≤b:=fun b e=>(h2.lt b e).1
 refine⟨?_,?_,?_,((h4.trans (hb.mono hs4)).alloc (by omega) _).grown hg (by simp;omega) (fun j hj=>by have:=hlt j hj;omega)⟩
 · rw [hg.block _ (by simp;omega) (fun e=>by have:=hlt _ e.symm;omega),Sl.heap_alloc _ _ _ (by omega)]
   exact(hb.block _ l1).trans h1
 · rw [hz]
   rw [hcs] at hown
   simpa using hown
 · rw [hg.block _ (by simp;omega) (fun e=>by have:=hlt _ e.symm;omega),Sl.heap_alloc _ _ _ (by omega)]
   exact(hb.block _ l3).trans h3
theorem vH {l:List Run} {w w3:Sh} {k n:Nat} {av av':Option Addr} {cv cv' m:Nat} (h1:w3.heap[w.heap.size+1]? =some (.cells #[.slice av m cv] 75 (0,0)))(h2:w3.ownsRow (w.heap.size+2) 77 5 (.slice av' n cv') (cG (l.take (k+1))).length ((cG (l.take (k+1))).flatMap Run.enc))(h3:w3.heap[w.heap.size]? =some (.cells #[.slice none 0 0] 75 (0,0)))(h4:Sl w.heap.size w w3) :
 gN l w (k+1) (w3.setCell ⟨w.heap.size+1,0,none⟩ (.slice av' n cv')):=by
 have hn:n=(cG (l.take (k+1))).length:=by
  rcases h2.2 with⟨e,h⟩|⟨_,_,_,e,_⟩
  · simp only [SL.injEq] at e;omega
  · simp only [SL.injEq] at e;omega
 subst hn
 refine⟨av',cv',?_,aB h2 fun b e=>Sl.heap_setCell _ _ _ _ (by have:=(h2.lt b e).1;simp;omega),(Sl.heap_setCell _ _ _ _ (by simp)).trans h3,h4.setCell (by simp) _⟩
 exact heap_setCell_same w3 (w.heap.size+1) 0 _ 75 _ h1
theorem lu (t:ByteArray):t.toList.isEmpty=decide (t.size=0):=by
 rw [←jI t]
 cases t.toList<;>simp
end Go.Proofs.YtjebaagkomejaaaGreatDoor
