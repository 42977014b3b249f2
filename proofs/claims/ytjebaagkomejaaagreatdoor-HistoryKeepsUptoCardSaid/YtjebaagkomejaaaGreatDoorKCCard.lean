/- HistoryKeeps: copies are independent, documents that are returned share no memory, and nil histories do nothing. -/
import Derived.Test.YtjebaagkomejaaaGreatDoorCards
import Derived.Test.YtjebaagkomejaaaGreatDoorTie
import Derived.Test.YtjebaagkomejaaaGreatDoorK39
set_option linter.unusedVariables false
set_option linter.unusedSimpArgs false
set_option maxRecDepth 100000
set_option maxHeartbeats 12800000
open Go.Value renaming okWide→Sj,cells→Sk
namespace Go.Proofs.YtjebaagkomejaaaGreatDoor.historyKeeps
open Go.Shelf Go.ChangeShapes Go.WideShapes Go.ChangeAt Go.RowKit Go.Lib
open Go.Proofs.YtjebaagkomejaaaGreatDoor.historySeat (own laidOut laidWorld laid_met env_of zd ze)
theorem bound {H:Type} {l:List (DataW H)} (hk:Rows.uptoSmall H l=true):Rows.uptoBulkAll l≤1048576:=of_decide_eq_true hk
theorem Gb {P:Program} {W:World} {r:Reach} {base len cap:Nat} {t e:TypeId} {a:Option Addr} (ht:P.underlying t=some (.slice e))(h:Sj P W r base t (.slice a len cap)):len≤cap:=by
 simp only [Sj,ht,Cell.okWide] at h
 cases a with
 | none =>
   by_cases hl:len=0
   · omega
   · obtain⟨n,rfl⟩:∃ n,len=n+1:=⟨len-1,by omega⟩
     simp only [Cell.ok,ht] at h
 | some a=>simp only [Cell.ok,ht] at h;exact h.1
def wargs:Array Value:=#[.agg zd,.agg ze]
theorem contract (H:Type)(enc:TypeId × Value→H)(F:Stop.Interp)(W:World)(base:Nat)(args:Array Value)(ds gs:List (DataW H))(before:List MemPlace)
 (hval:∀ (j:Nat) t v,Tryz.f6.params[j]? =some t→args[j]? =some v→Sj Tryz.prog W .any base t v)
 (hW:DataW.Whole enc Tryz.prog Tryz.f6.params.toList (Rows.OpenSpec.upto Rows.historyKeepsSpec).vars false W args.toList ds gs before) (hk:Rows.uptoSmall H (ds++gs)=true) (hE:Env W) :
 Calls Tryz.prog 6 args W fun e W'=>∃ v,e=.returned v∧((Rows.OpenSpec.upto Rows.historyKeepsSpec).at F).post enc Tryz.prog Tryz.f6 false true false false W args v W':=by
 have hW':=hW
 obtain⟨p,q,Mt,hV,rfl,hfz,hnd⟩:=hW
 have hA:DataW.TrodAll enc Tryz.prog W 0 (fun _=>true) true Tryz.f6.params.toList args.toList ds p:=Mt
 rw [Tryz.params6] at hA hval
 obtain⟨v0,vs0,d0,ds0,p0,q0,hargs,rfl,rfl,h0,r0⟩:=trodAll_cons hA
 obtain⟨v1,vs1,d1,ds1,p1,q1,rfl,rfl,rfl,h1,r1⟩:=trodAll_cons r0
 obtain⟨rfl,rfl,rfl⟩:=trodAll_nil r1
 obtain rfl:args=#[v0,v1]:=by cases args;simp_all
 obtain⟨rfl,rfl⟩:=trodVars_none hV
 have hbk:=bound hk
 simp only [List.append_nil,Rows.uptoBulkAll] at hbk
 have k0:=h0
 have lt0:∀ x∈p0,x.block<W.heap.size:=by obtain⟨m,hm⟩:=k0;exact DataW.trod_lt m _ _ _ hm
 obtain⟨f0,t0⟩:=h0
 have k1:=h1
 have lt1:∀ x∈p1,x.block<W.heap.size:=by obtain⟨m,hm⟩:=k1;exact DataW.trod_lt m _ _ _ hm
 obtain⟨f1,t1⟩:=h1
 obtain⟨c0,rfl,hc0⟩:=okWide_struct Tryz.underlying27 (hval 0 27 v0 rfl rfl)
 obtain⟨d,e0,l0,g0,_⟩:=BS f0 _ (d0,p0) t0 (by simp only;omega)
 simp only [Sk] at e0
 have e0':c0=d.enc.toArray:=by rw [←e0]
 subst e0'
 obtain⟨c1,rfl,hc1⟩:=okWide_struct Tryz.underlying40 (hval 1 40 v1 rfl rfl)
 obtain⟨x,e1,l1,g1,_⟩:=D8 f1 _ (d1,p1) t1 (by simp only;omega)
 simp only [Sk] at e1
 have e1':c1=x.enc.toArray:=by rw [←e1]
 subst e1'
 clear Mt
 refine(mS d x W hE l0 g0 l1 g1).mono fun e W' ⟨he,bel⟩=>?_
 subst he
 exact⟨_,rfl,_,_,_,[],_,[],hW',trodAll_mk1 (shut_bool Tryz.underlying4 _),(trodAll_cons_mk (Below.trod laidOut (by kernel_rfl) (of_decide_eq_true (by kernel_rfl)) k0 bel lt0) (trodAll_cons_mk (Below.trod laidOut (by kernel_rfl) (of_decide_eq_true (by kernel_rfl)) k1 bel lt1) trodAll_mk0)),rfl,bel.frame _,fun h=>by cases h⟩
def zdoc {H:Type}:DataW H:=.agg [.lit (.string []),.lit (.string []),.lit (.int .u8 0),.lit (.bool false),.lit (.int .i64 0),.nil,.nil,.nil]
def zedit {H:Type}:DataW H:=.agg [.lit (.int .u8 0),.lit (.int .i64 0),.lit (.int .i64 0),.agg [.lit (.int .i64 0),.lit (.int .i64 0)],.lit (.int .i64 0),.lit (.int .i64 0),.lit (.int .i64 0),.lit (.int .i64 0),.lit (.int .u8 0),.agg [.lit (.int .u8 0),.lit (.bool false),.lit (.bool false)],.lit (.string []),.lit (.string []),.agg [.lit (.string []),.lit (.int .i64 0),.lit (.int .i64 0),.lit (.int .i64 0),.lit (.int .i64 0),.lit (.int .u8 0),.lit (.bool false)],.nil]
theorem wreads (os:Os) {H:Type} (enc:TypeId × Value→H):∃ places,DataW.whole enc Tryz.prog ((laidWorld os).forCall (fun _ _=>0) ⟨#[],wargs,[]⟩).memory Tryz.f6.params.toList (Rows.OpenSpec.upto Rows.historyKeepsSpec).vars false wargs.toList 8=some ([zdoc,zedit],[],places):=by
 have hw:(DataW.whole enc Tryz.prog ((laidWorld os).forCall (fun _ _=>0) ⟨#[],wargs,[]⟩).memory Tryz.f6.params.toList (Rows.OpenSpec.upto Rows.historyKeepsSpec).vars false wargs.toList 8).map (fun x=>(x.1,x.2.1))=some ([zdoc,zedit],[]):=by kernel_rfl
 obtain⟨⟨x1,x2,x3⟩,hx,hx1⟩:=Option.map_eq_some_iff.1 hw
 simp only [Prod.mk.injEq] at hx1
 obtain⟨rfl,rfl⟩:=hx1
 exact⟨x3,hx⟩
theorem xO (os:Os)(started:os.Started)(H:Type)(enc:TypeId × Value→H)(F:Stop.Interp) :
 ReturnsInHanded {} Tryz.checked os 6 .any ((Rows.OpenSpec.upto Rows.historyKeepsSpec).preRow enc Tryz.prog Tryz.f6 Rows.historyKeepsUptoRow.domain false Rows.historyKeepsUptoRow.laid) (((Rows.OpenSpec.upto Rows.historyKeepsSpec).at F).post enc Tryz.prog Tryz.f6 false true false false):=by
 obtain⟨places,hx⟩:=wreads os enc
 refine returnsInHanded_of_row (C:=Tryz.checked) (s:=Rows.OpenSpec.upto Rows.historyKeepsSpec) own started (by kernel_rfl) Tryz.func6
  (witness_row_at (enc:=enc) (C:=Tryz.checked) false (laidWorld os) wargs rfl (by kernel_rfl) (by kernel_rfl) (by kernel_rfl)
   (OpenSpec.preRow_of_cond 8 hx (by kernel_rfl) (fun k hk=>by cases hk;kernel_rfl) (by kernel_rfl) (laid_met os _))) ?_
 intro W base args ds gs before hval hW _ hcond _ hL hS _
 exact contract H enc F W base args ds gs before hval hW (hcond _ rfl) (env_of hL hS)
theorem xV:Rows.historyKeepsUptoRow.inPlace=Tryz.prog.inPlace 6:=by kernel_rfl
theorem j1:Tryz.prog.unfollowed 6=true:=by kernel_rfl
theorem uG:Tryz.prog.recurses 6=true:=by
 unfold Program.recurses
 rw [j1]
 rfl
theorem rL:Rows.historyKeepsUptoRow.named=Tryz.prog.varsNamed 6:=by kernel_rfl
theorem sx:mapsRowed Tryz.prog=true:=by kernel_rfl
theorem sm:Rows.historyKeepsUptoRow.plainKeys=Tryz.prog.plainKeys:=by kernel_rfl
theorem joined:joinedFacts Tryz.prog 6 Tryz.f6 (Rows.OpenSpec.upto Rows.historyKeepsSpec).bare Rows.historyKeepsUptoRow=true:=by
 unfold joinedFacts
 rw [←xV,j1,uG,←rL,laidOut,sx,←sm]
 refine Eq.trans ?_ (Eq.refl _)
 kernel_rfl
theorem named:Tryz.pinned.checked.prog.funcNamed Rows.historyKeepsUptoRow.func=some 6:=by kernel_rfl
theorem Gv:Tryz.f6.isInstance Tryz.pinned.checked.prog Rows.historyKeepsUptoRow.origin Rows.historyKeepsUptoRow.targs:=of_decide_eq_true (by kernel_rfl)
theorem Gu:Tryz.f6.isWrapper Tryz.pinned.checked.prog Rows.historyKeepsUptoRow.wrapper Rows.historyKeepsUptoRow.mainSum:=by
 unfold Func.isWrapper
 first|(rw [if_pos (by decide +kernel)];kernel_rfl)|(rw [if_neg (by decide +kernel)];exact⟨rfl,rfl⟩)
theorem BJ:Rows.HistoryKeepsUptoSaid :=
 OpenClaim.holds_of_cond 6 Tryz.f6 rfl rfl rfl rfl rfl rfl rfl ⟨rfl,rfl,rfl,rfl,rfl⟩ rfl rfl rfl rfl rfl named Tryz.func6 joined Gv Gu
  (fun os started H enc _ F=>by rw [OpenClaim.pre_eq_preRow];exact xO os started H enc F)
theorem plain (f:FuncId)(fn:Func)(hf:Tryz.pinned.checked.prog.funcNamed "captioner/captionerlaw16.HistoryKeeps" =some f)(hfn:Tryz.pinned.checked.prog.funcs[f]? =some fn) :
 false=Tryz.pinned.checked.prog.looks []∧∀ (j:Nat) t,fn.params[j]? =some t→Tryz.pinned.checked.prog.wantsStandIn t=false:=by
 obtain rfl:f=6:=Option.some.inj ((show Tryz.prog.funcNamed "captioner/captionerlaw16.HistoryKeeps" =some 6 by kernel_rfl).symm.trans hf) |>.symm
 obtain rfl:fn=Tryz.f6:=(Option.some.inj (Tryz.func6.symm.trans hfn)).symm
 refine⟨by kernel_rfl,fun j t ht=>?_⟩
 rw [Tryz.params6] at ht
 have hm:=Array.mem_of_getElem? ht
 simp at hm
 rcases hm with rfl|rfl
 · exact(show Tryz.prog.wantsStandIn 27=false by kernel_rfl)
 · exact(show Tryz.prog.wantsStandIn 40=false by kernel_rfl)
theorem cardUpto:Rows.HistoryKeepsUptoCardSaid :=
 Claim7.holds_tied_plain_at .later [] _ _ _ _ BJ (fun _ h=>by cases h) (by kernel_rfl) (fun _ h=>by cases h) historyKeepsUpto_row_tie rfl ⟨rfl,rfl⟩ (by kernel_rfl) rfl plain (by kernel_rfl)
#print axioms cardUpto
end Go.Proofs.YtjebaagkomejaaaGreatDoor.historyKeeps
