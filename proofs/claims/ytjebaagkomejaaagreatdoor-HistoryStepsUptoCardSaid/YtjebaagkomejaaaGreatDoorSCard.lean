/- HistorySteps: a command has the same effect and the same error in a history as by itself, and one that is refused changes nothing. -/
import Derived.Test.YtjebaagkomejaaaGreatDoorCards
import Derived.Test.YtjebaagkomejaaaGreatDoorTie
import Derived.Test.YtjebaagkomejaaaGreatDoorS00
set_option linter.unusedVariables false
set_option linter.unusedSimpArgs false
set_option maxRecDepth 100000
set_option maxHeartbeats 12800000
open Go.Value renaming okWide→Sh,cells→Si
open Go.DataW renaming trod_lt→Sj,whole→Sk
namespace Go.Proofs.YtjebaagkomejaaaGreatDoor.historySteps
open Go.Shelf Go.ChangeShapes Go.WideShapes Go.ChangeAt Go.RowKit Go.Lib
open Go.Proofs.YtjebaagkomejaaaGreatDoor.historySeat (own laidOut laidWorld laid_met env_of zd ze)
theorem bound {H:Type} {l:List (DataW H)} (hk:Rows.uptoSmall H l=true):Rows.uptoBulkAll l≤1048576:=of_decide_eq_true hk
theorem F6 {P:Program} {W:World} {r:Reach} {base len cap:Nat} {t e:TypeId} {a:Option Addr} (ht:P.underlying t=some (.slice e))(h:Sh P W r base t (.slice a len cap)):len≤cap:=by
 simp only [Sh,ht,Cell.okWide] at h
 cases a with
 | none =>
   by_cases hl:len=0
   · omega
   · obtain⟨n,rfl⟩:∃ n,len=n+1:=⟨len-1,by omega⟩
     simp only [Cell.ok,ht] at h
 | some a=>simp only [Cell.ok,ht] at h;exact h.1
def wargs:Array Value:=#[.agg zd,.agg ze,.agg ze]
theorem contract (H:Type)(enc:TypeId × Value→H)(F:Stop.Interp)(W:World)(base:Nat)(args:Array Value)(ds gs:List (DataW H))(before:List MemPlace)
 (hval:∀ (j:Nat) t v,Tryz.f3.params[j]? =some t→args[j]? =some v→Sh Tryz.prog W .any base t v)
 (hW:DataW.Whole enc Tryz.prog Tryz.f3.params.toList (Rows.OpenSpec.upto Rows.historyStepsSpec).vars false W args.toList ds gs before) (hk:Rows.uptoSmall H (ds++gs)=true) (hE:Env W) :
 Calls Tryz.prog 3 args W fun e W'=>∃ v,e=.returned v∧((Rows.OpenSpec.upto Rows.historyStepsSpec).at F).post enc Tryz.prog Tryz.f3 false true false false W args v W':=by
 have hW':=hW
 obtain⟨p,q,MG,hV,rfl,hfz,hnd⟩:=hW
 have hA:DataW.TrodAll enc Tryz.prog W 0 (fun _=>true) true Tryz.f3.params.toList args.toList ds p:=MG
 rw [Tryz.params3] at hA hval
 obtain⟨v0,vs0,d0,ds0,p0,q0,hargs,rfl,rfl,h0,r0⟩:=trodAll_cons hA
 obtain⟨v1,vs1,d1,ds1,p1,q1,rfl,rfl,rfl,h1,r1⟩:=trodAll_cons r0
 obtain⟨v2,vs2,d2,ds2,p2,q2,rfl,rfl,rfl,h2,r2⟩:=trodAll_cons r1
 obtain⟨rfl,rfl,rfl⟩:=trodAll_nil r2
 obtain rfl:args=#[v0,v1,v2]:=by cases args;simp_all
 obtain⟨rfl,rfl⟩:=trodVars_none hV
 have hbk:=bound hk
 simp only [List.append_nil,Rows.uptoBulkAll] at hbk
 have k0:=h0
 have lt0:∀ x∈p0,x.block<W.heap.size:=by obtain⟨m,hm⟩:=k0;exact Sj m _ _ _ hm
 obtain⟨f0,t0⟩:=h0
 have k1:=h1
 have lt1:∀ x∈p1,x.block<W.heap.size:=by obtain⟨m,hm⟩:=k1;exact Sj m _ _ _ hm
 obtain⟨f1,t1⟩:=h1
 have k2:=h2
 have lt2:∀ x∈p2,x.block<W.heap.size:=by obtain⟨m,hm⟩:=k2;exact Sj m _ _ _ hm
 obtain⟨f2,t2⟩:=h2
 obtain⟨c0,rfl,hc0⟩:=okWide_struct Tryz.underlying27 (hval 0 27 v0 rfl rfl)
 obtain⟨d,e0,l0,g0,_⟩:=BP f0 _ (d0,p0) t0 (by simp only;omega)
 simp only [Si] at e0
 have e0':c0=d.enc.toArray:=by rw [←e0]
 subst e0'
 obtain⟨c1,rfl,hc1⟩:=okWide_struct Tryz.underlying40 (hval 1 40 v1 rfl rfl)
 obtain⟨x,e1,l1,g1,_⟩:=zv f1 _ (d1,p1) t1 (by simp only;omega)
 simp only [Si] at e1
 have e1':c1=x.enc.toArray:=by rw [←e1]
 subst e1'
 obtain⟨c2,rfl,hc2⟩:=okWide_struct Tryz.underlying40 (hval 2 40 v2 rfl rfl)
 obtain⟨y,e2,l2,g2,_⟩:=zv f2 _ (d2,p2) t2 (by simp only;omega)
 simp only [Si] at e2
 have e2':c2=y.enc.toArray:=by rw [←e2]
 subst e2'
 clear MG
 refine(lawSteps_calls d x y W hE l0 g0 l1 g1 l2 g2).mono fun e W' ⟨he,bel⟩=>?_
 subst he
 exact⟨_,rfl,_,_,_,[],_,[],hW',trodAll_mk1 (shut_bool Tryz.underlying4 _),(trodAll_cons_mk (Below.trod laidOut (by kernel_rfl) (of_decide_eq_true (by kernel_rfl)) k0 bel lt0) (trodAll_cons_mk (Below.trod laidOut (by kernel_rfl) (of_decide_eq_true (by kernel_rfl)) k1 bel lt1) (trodAll_cons_mk (Below.trod laidOut (by kernel_rfl) (of_decide_eq_true (by kernel_rfl)) k2 bel lt2) trodAll_mk0))),rfl,bel.frame _,fun h=>by cases h⟩
def zdoc {H:Type}:DataW H:=.agg [.lit (.string []),.lit (.string []),.lit (.int .u8 0),.lit (.bool false),.lit (.int .i64 0),.nil,.nil,.nil]
def zedit {H:Type}:DataW H:=.agg [.lit (.int .u8 0),.lit (.int .i64 0),.lit (.int .i64 0),.agg [.lit (.int .i64 0),.lit (.int .i64 0)],.lit (.int .i64 0),.lit (.int .i64 0),.lit (.int .i64 0),.lit (.int .i64 0),.lit (.int .u8 0),.agg [.lit (.int .u8 0),.lit (.bool false),.lit (.bool false)],.lit (.string []),.lit (.string []),.agg [.lit (.string []),.lit (.int .i64 0),.lit (.int .i64 0),.lit (.int .i64 0),.lit (.int .i64 0),.lit (.int .u8 0),.lit (.bool false)],.nil]
theorem wreads (os:Os) {H:Type} (enc:TypeId × Value→H):∃ places,Sk enc Tryz.prog ((laidWorld os).forCall (fun _ _=>0) ⟨#[],wargs,[]⟩).memory Tryz.f3.params.toList (Rows.OpenSpec.upto Rows.historyStepsSpec).vars false wargs.toList 8=some ([zdoc,zedit,zedit],[],places):=by
 have hw:(Sk enc Tryz.prog ((laidWorld os).forCall (fun _ _=>0) ⟨#[],wargs,[]⟩).memory Tryz.f3.params.toList (Rows.OpenSpec.upto Rows.historyStepsSpec).vars false wargs.toList 8).map (fun x=>(x.1,x.2.1))=some ([zdoc,zedit,zedit],[]):=by kernel_rfl
 obtain⟨⟨x1,x2,x3⟩,hx,hx1⟩:=Option.map_eq_some_iff.1 hw
 simp only [Prod.mk.injEq] at hx1
 obtain⟨rfl,rfl⟩:=hx1
 exact⟨x3,hx⟩
theorem xi (os:Os)(started:os.Started)(H:Type)(enc:TypeId × Value→H)(F:Stop.Interp) :
 ReturnsInHanded {} Tryz.checked os 3 .any ((Rows.OpenSpec.upto Rows.historyStepsSpec).preRow enc Tryz.prog Tryz.f3 Rows.historyStepsUptoRow.domain false Rows.historyStepsUptoRow.laid) (((Rows.OpenSpec.upto Rows.historyStepsSpec).at F).post enc Tryz.prog Tryz.f3 false true false false):=by
 obtain⟨places,hx⟩:=wreads os enc
 refine returnsInHanded_of_row (C:=Tryz.checked) (s:=Rows.OpenSpec.upto Rows.historyStepsSpec) own started (by kernel_rfl) Tryz.func3
  (witness_row_at (enc:=enc) (C:=Tryz.checked) false (laidWorld os) wargs rfl (by kernel_rfl) (by kernel_rfl) (by kernel_rfl)
   (OpenSpec.preRow_of_cond 8 hx (by kernel_rfl) (fun k hk=>by cases hk;kernel_rfl) (by kernel_rfl) (laid_met os _))) ?_
 intro W base args ds gs before hval hW _ hcond _ hL hS _
 exact contract H enc F W base args ds gs before hval hW (hcond _ rfl) (env_of hL hS)
theorem xv:Rows.historyStepsUptoRow.inPlace=Tryz.prog.inPlace 3:=by kernel_rfl
theorem jY:Tryz.prog.unfollowed 3=true:=by kernel_rfl
theorem t_:Tryz.prog.recurses 3=true:=by
 unfold Program.recurses
 rw [jY]
 rfl
theorem qZ:Rows.historyStepsUptoRow.named=Tryz.prog.varsNamed 3:=by kernel_rfl
theorem sd:mapsRowed Tryz.prog=true:=by kernel_rfl
theorem rS:Rows.historyStepsUptoRow.plainKeys=Tryz.prog.plainKeys:=by kernel_rfl
theorem joined:joinedFacts Tryz.prog 3 Tryz.f3 (Rows.OpenSpec.upto Rows.historyStepsSpec).bare Rows.historyStepsUptoRow=true:=by
 unfold joinedFacts
 rw [←xv,jY,t_,←qZ,laidOut,sd,←rS]
 refine Eq.trans ?_ (Eq.refl _)
 kernel_rfl
theorem named:Tryz.pinned.checked.prog.funcNamed Rows.historyStepsUptoRow.func=some 3:=by kernel_rfl
theorem Gp:Tryz.f3.isInstance Tryz.pinned.checked.prog Rows.historyStepsUptoRow.origin Rows.historyStepsUptoRow.targs:=of_decide_eq_true (by kernel_rfl)
theorem Gn:Tryz.f3.isWrapper Tryz.pinned.checked.prog Rows.historyStepsUptoRow.wrapper Rows.historyStepsUptoRow.mainSum:=by
 unfold Func.isWrapper
 first|(rw [if_pos (by decide +kernel)];kernel_rfl)|(rw [if_neg (by decide +kernel)];exact⟨rfl,rfl⟩)
theorem BG:Rows.HistoryStepsUptoSaid :=
 OpenClaim.holds_of_cond 3 Tryz.f3 rfl rfl rfl rfl rfl rfl rfl ⟨rfl,rfl,rfl,rfl,rfl⟩ rfl rfl rfl rfl rfl named Tryz.func3 joined Gp Gn
  (fun os started H enc _ F=>by rw [OpenClaim.pre_eq_preRow];exact xi os started H enc F)
theorem plain (f:FuncId)(fn:Func)(hf:Tryz.pinned.checked.prog.funcNamed "captioner/captionerlaw16.HistorySteps" =some f)(hfn:Tryz.pinned.checked.prog.funcs[f]? =some fn) :
 false=Tryz.pinned.checked.prog.looks []∧∀ (j:Nat) t,fn.params[j]? =some t→Tryz.pinned.checked.prog.wantsStandIn t=false:=by
 obtain rfl:f=3:=Option.some.inj ((show Tryz.prog.funcNamed "captioner/captionerlaw16.HistorySteps" =some 3 by kernel_rfl).symm.trans hf) |>.symm
 obtain rfl:fn=Tryz.f3:=(Option.some.inj (Tryz.func3.symm.trans hfn)).symm
 refine⟨by kernel_rfl,fun j t ht=>?_⟩
 rw [Tryz.params3] at ht
 have hm:=Array.mem_of_getElem? ht
 simp at hm
 rcases hm with rfl|rfl
 · exact(show Tryz.prog.wantsStandIn 27=false by kernel_rfl)
 · exact(show Tryz.prog.wantsStandIn 40=false by kernel_rfl)
theorem cardUpto:Rows.HistoryStepsUptoCardSaid :=
 Claim7.holds_tied_plain_at .later [] _ _ _ _ BG (fun _ h=>by cases h) (by kernel_rfl) (fun _ h=>by cases h) historyStepsUpto_row_tie rfl ⟨rfl,rfl⟩ (by kernel_rfl) rfl plain (by kernel_rfl)
#print axioms cardUpto
end Go.Proofs.YtjebaagkomejaaaGreatDoor.historySteps
