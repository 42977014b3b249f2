/- HistoryReturns: undos lead back to the documents that the changes had left, and redos forward again. -/
import Derived.Test.YtjebaagkomejaaaGreatDoorCards
import Derived.Test.YtjebaagkomejaaaGreatDoorTie
import Derived.Test.YtjebaagkomejaaaGreatDoorR00
set_option linter.unusedVariables false
set_option linter.unusedSimpArgs false
set_option maxRecDepth 100000
set_option maxHeartbeats 12800000
open Go.Value renaming okWide→Sj,cells→Sk
open Go.DataW renaming trod_lt→Sl,whole→Sm
namespace Go.Proofs.YtjebaagkomejaaaGreatDoor.historyReturns
open Go.Shelf Go.ChangeShapes Go.WideShapes Go.ChangeAt Go.RowKit Go.Lib
open Go.Proofs.YtjebaagkomejaaaGreatDoor.historySeat (own laidOut laidWorld laid_met env_of zd)
theorem bound {H:Type} {l:List (DataW H)} (hk:Rows.uptoSmall H l=true):Rows.uptoBulkAll l≤1048576:=of_decide_eq_true hk
theorem F6 {P:Program} {W:World} {r:Reach} {base len cap:Nat} {t e:TypeId} {a:Option Addr} (ht:P.underlying t=some (.slice e))(h:Sj P W r base t (.slice a len cap)):len≤cap:=by
 simp only [Sj,ht,Cell.okWide] at h
 cases a with
 | none =>
   by_cases hl:len=0
   · omega
   · obtain⟨n,rfl⟩:∃ n,len=n+1:=⟨len-1,by omega⟩
     simp only [Cell.ok,ht] at h
 | some a=>simp only [Cell.ok,ht] at h;exact h.1
def wargs:Array Value:=#[.agg zd,.slice none 0 0,.int .u8 0]
theorem contract (H:Type)(enc:TypeId × Value→H)(F:Stop.Interp)(W:World)(base:Nat)(args:Array Value)(ds gs:List (DataW H))(before:List MemPlace)
 (hval:∀ (j:Nat) t v,Tryz.f4.params[j]? =some t→args[j]? =some v→Sj Tryz.prog W .any base t v)
 (hW:DataW.Whole enc Tryz.prog Tryz.f4.params.toList (Rows.OpenSpec.upto Rows.historyReturnsSpec).vars false W args.toList ds gs before) (hk:Rows.uptoSmall H (ds++gs)=true) (hE:Env W) :
 Calls Tryz.prog 4 args W fun e W'=>∃ v,e=.returned v∧((Rows.OpenSpec.upto Rows.historyReturnsSpec).at F).post enc Tryz.prog Tryz.f4 false true false false W args v W':=by
 have hW':=hW
 obtain⟨p,q,hA0,hV,rfl,hfz,hnd⟩:=hW
 have hA:DataW.TrodAll enc Tryz.prog W 0 (fun _=>true) true Tryz.f4.params.toList args.toList ds p:=hA0
 rw [Tryz.params4] at hA hval
 obtain⟨v0,vs0,d0,ds0,p0,q0,hargs,rfl,rfl,h0,r0⟩:=trodAll_cons hA
 obtain⟨v1,vs1,d1,ds1,p1,q1,rfl,rfl,rfl,h1,r1⟩:=trodAll_cons r0
 obtain⟨v2,vs2,d2,ds2,p2,q2,rfl,rfl,rfl,h2,r2⟩:=trodAll_cons r1
 obtain⟨rfl,rfl,rfl⟩:=trodAll_nil r2
 obtain rfl:args=#[v0,v1,v2]:=by cases args;simp_all
 obtain⟨rfl,rfl⟩:=trodVars_none hV
 have hbk:=bound hk
 simp only [List.append_nil,Rows.uptoBulkAll] at hbk
 have k0:=h0
 have lt0:∀ x∈p0,x.block<W.heap.size:=by obtain⟨m,hm⟩:=k0;exact Sl m _ _ _ hm
 obtain⟨f0,t0⟩:=h0
 have k1:=h1
 have lt1:∀ x∈p1,x.block<W.heap.size:=by obtain⟨m,hm⟩:=k1;exact Sl m _ _ _ hm
 obtain⟨f1,t1⟩:=h1
 have k2:=h2
 have lt2:∀ x∈p2,x.block<W.heap.size:=by obtain⟨m,hm⟩:=k2;exact Sl m _ _ _ hm
 obtain⟨f2,t2⟩:=h2
 obtain⟨c0,rfl,hc0⟩:=okWide_struct Tryz.underlying27 (hval 0 27 v0 rfl rfl)
 obtain⟨d,e0,l0,g0,_⟩:=BP f0 _ (d0,p0) t0 (by simp only;omega)
 simp only [Sk] at e0
 have e0':c0=d.enc.toArray:=by rw [←e0]
 subst e0'
 obtain⟨a1,len1,cap1,rfl⟩:=okWide_slice Tryz.underlying46 (hval 1 46 v1 rfl rfl)
 obtain⟨A1,xs,C1_q,e1,l1,g1,n1,_⟩:=eI Tryz.underlying46 ce40 (by decide) (fun _=>rfl) zv f1 _ (d1,p1) t1 (by simp only;omega)
 simp [Sk] at e1
 obtain⟨rfl,rfl,rfl⟩:=e1
 obtain⟨z2,rfl⟩:=okWide_int Tryz.underlying5 (hval 2 5 v2 rfl rfl)
 obtain⟨y2,e2,_,w2⟩:=DataW.trod_int Tryz.underlying5 t2
 simp [Sk] at e2
 subst e2
 have u2:=mh w2
 obtain⟨kn_q,rfl⟩:∃ kn_q:Nat,z2=(kn_q:Int):=⟨z2.toNat,by omega⟩
 clear hA0
 refine(lawReturns_calls d a1 xs cap1 kn_q W hE l0 g0 l1 g1 (by simp only at n1;omega) (by omega)).mono fun e W' ⟨he,bel⟩=>?_
 subst he
 exact⟨_,rfl,_,_,_,[],_,[],hW',trodAll_mk1 (shut_bool Tryz.underlying4 _),(trodAll_cons_mk (Below.trod laidOut (by kernel_rfl) (of_decide_eq_true (by kernel_rfl)) k0 bel lt0) (trodAll_cons_mk (Below.trod laidOut (by kernel_rfl) (of_decide_eq_true (by kernel_rfl)) k1 bel lt1) (trodAll_cons_mk (Below.trod laidOut (by kernel_rfl) (of_decide_eq_true (by kernel_rfl)) k2 bel lt2) trodAll_mk0))),rfl,bel.frame _,fun h=>by cases h⟩
def zdoc {H:Type}:DataW H:=.agg [.lit (.string []),.lit (.string []),.lit (.int .u8 0),.lit (.bool false),.lit (.int .i64 0),.nil,.nil,.nil]
theorem wreads (os:Os) {H:Type} (enc:TypeId × Value→H):∃ places,Sm enc Tryz.prog ((laidWorld os).forCall (fun _ _=>0) ⟨#[],wargs,[]⟩).memory Tryz.f4.params.toList (Rows.OpenSpec.upto Rows.historyReturnsSpec).vars false wargs.toList 8=some ([zdoc,.nil,.lit (.int .u8 0)],[],places):=by
 have hw:(Sm enc Tryz.prog ((laidWorld os).forCall (fun _ _=>0) ⟨#[],wargs,[]⟩).memory Tryz.f4.params.toList (Rows.OpenSpec.upto Rows.historyReturnsSpec).vars false wargs.toList 8).map (fun x=>(x.1,x.2.1))=some ([zdoc,.nil,.lit (.int .u8 0)],[]):=by kernel_rfl
 obtain⟨⟨x1,x2,x3⟩,hx,hx1⟩:=Option.map_eq_some_iff.1 hw
 simp only [Prod.mk.injEq] at hx1
 obtain⟨rfl,rfl⟩:=hx1
 exact⟨x3,hx⟩
theorem xi (os:Os)(started:os.Started)(H:Type)(enc:TypeId × Value→H)(F:Stop.Interp) :
 ReturnsInHanded {} Tryz.checked os 4 .any ((Rows.OpenSpec.upto Rows.historyReturnsSpec).preRow enc Tryz.prog Tryz.f4 Rows.historyReturnsUptoRow.domain false Rows.historyReturnsUptoRow.laid) (((Rows.OpenSpec.upto Rows.historyReturnsSpec).at F).post enc Tryz.prog Tryz.f4 false true false false):=by
 obtain⟨places,hx⟩:=wreads os enc
 refine returnsInHanded_of_row (C:=Tryz.checked) (s:=Rows.OpenSpec.upto Rows.historyReturnsSpec) own started (by kernel_rfl) Tryz.func4
  (witness_row_at (enc:=enc) (C:=Tryz.checked) false (laidWorld os) wargs rfl (by kernel_rfl) (by kernel_rfl) (by kernel_rfl)
   (OpenSpec.preRow_of_cond 8 hx (by kernel_rfl) (fun k hk=>by cases hk;kernel_rfl) (by kernel_rfl) (laid_met os _))) ?_
 intro W base args ds gs before hval hW _ hcond _ hL hS _
 exact contract H enc F W base args ds gs before hval hW (hcond _ rfl) (env_of hL hS)
theorem xv:Rows.historyReturnsUptoRow.inPlace=Tryz.prog.inPlace 4:=by kernel_rfl
theorem jY:Tryz.prog.unfollowed 4=true:=by kernel_rfl
theorem t_:Tryz.prog.recurses 4=true:=by
 unfold Program.recurses
 rw [jY]
 rfl
theorem qZ:Rows.historyReturnsUptoRow.named=Tryz.prog.varsNamed 4:=by kernel_rfl
theorem sd:mapsRowed Tryz.prog=true:=by kernel_rfl
theorem rS:Rows.historyReturnsUptoRow.plainKeys=Tryz.prog.plainKeys:=by kernel_rfl
theorem joined:joinedFacts Tryz.prog 4 Tryz.f4 (Rows.OpenSpec.upto Rows.historyReturnsSpec).bare Rows.historyReturnsUptoRow=true:=by
 unfold joinedFacts
 rw [←xv,jY,t_,←qZ,laidOut,sd,←rS]
 refine Eq.trans ?_ (Eq.refl _)
 kernel_rfl
theorem named:Tryz.pinned.checked.prog.funcNamed Rows.historyReturnsUptoRow.func=some 4:=by kernel_rfl
theorem Gp:Tryz.f4.isInstance Tryz.pinned.checked.prog Rows.historyReturnsUptoRow.origin Rows.historyReturnsUptoRow.targs:=of_decide_eq_true (by kernel_rfl)
theorem Gn:Tryz.f4.isWrapper Tryz.pinned.checked.prog Rows.historyReturnsUptoRow.wrapper Rows.historyReturnsUptoRow.mainSum:=by
 unfold Func.isWrapper
 first|(rw [if_pos (by decide +kernel)];kernel_rfl)|(rw [if_neg (by decide +kernel)];exact⟨rfl,rfl⟩)
theorem BG:Rows.HistoryReturnsUptoSaid :=
 OpenClaim.holds_of_cond 4 Tryz.f4 rfl rfl rfl rfl rfl rfl rfl ⟨rfl,rfl,rfl,rfl,rfl⟩ rfl rfl rfl rfl rfl named Tryz.func4 joined Gp Gn
  (fun os started H enc _ F=>by rw [OpenClaim.pre_eq_preRow];exact xi os started H enc F)
theorem plain (f:FuncId)(fn:Func)(hf:Tryz.pinned.checked.prog.funcNamed "captioner/captionerlaw16.HistoryReturns" =some f)(hfn:Tryz.pinned.checked.prog.funcs[f]? =some fn) :
 false=Tryz.pinned.checked.prog.looks []∧∀ (j:Nat) t,fn.params[j]? =some t→Tryz.pinned.checked.prog.wantsStandIn t=false:=by
 obtain rfl:f=4:=Option.some.inj ((show Tryz.prog.funcNamed "captioner/captionerlaw16.HistoryReturns" =some 4 by kernel_rfl).symm.trans hf) |>.symm
 obtain rfl:fn=Tryz.f4:=(Option.some.inj (Tryz.func4.symm.trans hfn)).symm
 refine⟨by kernel_rfl,fun j t ht=>?_⟩
 rw [Tryz.params4] at ht
 have hm:=Array.mem_of_getElem? ht
 simp at hm
 rcases hm with rfl|rfl|rfl
 · exact(show Tryz.prog.wantsStandIn 27=false by kernel_rfl)
 · exact(show Tryz.prog.wantsStandIn 46=false by kernel_rfl)
 · exact(show Tryz.prog.wantsStandIn 5=false by kernel_rfl)
theorem cardUpto:Rows.HistoryReturnsUptoCardSaid :=
 Claim7.holds_tied_plain_at .later [] _ _ _ _ BG (fun _ h=>by cases h) (by kernel_rfl) (fun _ h=>by cases h) historyReturnsUpto_row_tie rfl ⟨rfl,rfl⟩ (by kernel_rfl) rfl plain (by kernel_rfl)
#print axioms cardUpto
end Go.Proofs.YtjebaagkomejaaaGreatDoor.historyReturns
