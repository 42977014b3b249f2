/- MergeKeeps: what one side alone has changed is in the merged document as on that side. -/
import Derived.Test.YtnlnmbcaongehaaGreatDoorCards
import Derived.Test.YtnlnmbcaongehaaGreatDoorTie
import Derived.Test.YtnlnmbcaongehaaGreatDoorN27
set_option linter.unusedVariables false
set_option linter.unusedSimpArgs false
set_option maxRecDepth 100000
set_option maxHeartbeats 12800000
open Go.Lib renaming hid→h_
open List renaming setIfInBounds_toArray→SG,getElem_cons_zero→SH,getElem_cons_succ→SI,getElem_toArray→SJ,set_cons_zero→SK,set_cons_succ→SL
open Array renaming toArray_toList→SQ
open Go.Proofs.YtnlnmbcaongehaaGreatDoor.Rows renaming mergeKeepsUptoRow→Su,mergeKeepsSpec→Sv,uptoBulkAll→Sw,uptoSmall→Sx
open Go.Proofs.Tryz renaming prog→Sy,f8→Sz,checked→SA,func8→SB,params8→SC
open Go.Proofs.YtnlnmbcaongehaaGreatDoor.Rows.OpenSpec renaming upto→SD
namespace Go.Proofs.YtnlnmbcaongehaaGreatDoor.mergeKeeps
open Go.Shelf Go.ChangeShapes Go.WideShapes Go.ChangeAt Go.RowKit Go.Lib
open Go.Proofs.YtnlnmbcaongehaaGreatDoor.mergeSeat (own laidOut laidWorld laid_met env_of zd)
theorem bound {H:Type} {l:List (DataW H)} (hk:Sx H l=true):Sw l≤1048576:=of_decide_eq_true hk
theorem N3 {P:Program} {W:World} {r:Reach} {base len cap:Nat} {t e:TypeId} {a:Option Addr} (ht:P.underlying t=some (.slice e))(h:Value.okWide P W r base t (.slice a len cap)):len≤cap:=by
 simp only [Value.okWide,ht,Cell.okWide] at h
 cases a with
 | none =>
   by_cases hl:len=0
   · omega
   · obtain⟨n,rfl⟩:∃ n,len=n+1:=⟨len-1,by omega⟩
     simp only [Cell.ok,ht] at h
 | some a=>simp only [Cell.ok,ht] at h;exact h.1
def wargs:Array Value:=#[.agg (zd++zd++zd)]
theorem contract (H:Type)(enc:TypeId × Value→H)(F:Stop.Interp)(W:World)(base:Nat)(args:Array Value)(ds gs:List (DataW H))(before:List MemPlace)
 (hval:∀ (j:Nat) t v,Sz.params[j]? =some t→args[j]? =some v→Value.okWide Sy W .any base t v)
 (hW:DataW.Whole enc Sy Sz.params.toList (SD Sv).vars false W args.toList ds gs before) (hk:Sx H (ds++gs)=true) (hE:Env W) :
 Calls Sy 8 args W fun e W'=>∃ v,e=.returned v∧((SD Sv).at F).post enc Sy Sz false true false false W args v W':=by
 have hW':=hW
 obtain⟨p,q,hA0,hV,rfl,hfz,hnd⟩:=hW
 have hA:DataW.TrodAll enc Sy W 0 (fun _=>true) true Sz.params.toList args.toList ds p:=hA0
 rw [SC] at hA hval
 obtain⟨v0,vs0,d0,ds0,p0,q0,hargs,rfl,rfl,h0,r0⟩:=trodAll_cons hA
 obtain⟨rfl,rfl,rfl⟩:=trodAll_nil r0
 obtain rfl:args=#[v0]:=by cases args;simp_all
 obtain⟨rfl,rfl⟩:=trodVars_none hV
 have hbk:=bound hk
 simp only [List.append_nil,Sw] at hbk
 have k0:=h0
 have lt0:∀ x∈p0,x.block<W.heap.size:=by obtain⟨m,hm⟩:=k0;exact DataW.trod_lt m _ _ _ hm
 obtain⟨f0,t0⟩:=h0
 obtain⟨c0,rfl,hc0⟩:=okWide_struct Tryz.underlying63 (hval 0 63 v0 rfl rfl)
 obtain⟨x,y,z,e0,l0,g0⟩:=DQ f0 _ (d0,p0) t0 (by simp only;omega)
 simp only [Value.cells] at e0
 have e0':c0=(x.enc++(y.enc++z.enc)).toArray:=by rw [←e0]
 subst e0'
 clear hA0
 refine(lawKeeps_calls x y z W hE l0.1 l0.2.1 l0.2.2 g0.1 g0.2.1 g0.2.2).mono fun e W' ⟨he,bel⟩=>?_
 subst he
 exact⟨_,rfl,_,_,_,[],_,[],hW',trodAll_mk1 (shut_bool Tryz.underlying4 _),(trodAll_cons_mk (Below.trod laidOut (by kernel_rfl) (of_decide_eq_true (by kernel_rfl)) k0 bel lt0) trodAll_mk0),rfl,bel.frame _,fun h=>by cases h⟩
def zdoc {H:Type}:DataW H:=.agg [.lit (.string []),.lit (.string []),.lit (.int .u8 0),.lit (.bool false),.lit (.int .i64 0),.nil,.nil,.nil]
theorem wreads (os:Os) {H:Type} (enc:TypeId × Value→H):∃ places,DataW.whole enc Sy ((laidWorld os).forCall (fun _ _=>0) ⟨#[],wargs,[]⟩).memory Sz.params.toList (SD Sv).vars false wargs.toList 8=some ([.agg [zdoc,zdoc,zdoc]],[],places):=by
 have hw:(DataW.whole enc Sy ((laidWorld os).forCall (fun _ _=>0) ⟨#[],wargs,[]⟩).memory Sz.params.toList (SD Sv).vars false wargs.toList 8).map (fun x=>(x.1,x.2.1))=some ([.agg [zdoc,zdoc,zdoc]],[]):=by kernel_rfl
 obtain⟨⟨x1,x2,x3⟩,hx,hx1⟩:=Option.map_eq_some_iff.1 hw
 simp only [Prod.mk.injEq] at hx1
 obtain⟨rfl,rfl⟩:=hx1
 exact⟨x3,hx⟩
theorem D4 (os:Os)(started:os.Started)(H:Type)(enc:TypeId × Value→H)(F:Stop.Interp) :
 ReturnsInHanded {} SA os 8 .any ((SD Sv).preRow enc Sy Sz Su.domain false Su.laid) (((SD Sv).at F).post enc Sy Sz false true false false):=by
 obtain⟨places,hx⟩:=wreads os enc
 refine returnsInHanded_of_row (C:=SA) (s:=SD Sv) own started (by kernel_rfl) SB
  (witness_row_at (enc:=enc) (C:=SA) false (laidWorld os) wargs rfl (by kernel_rfl) (by kernel_rfl) (by kernel_rfl)
   (OpenSpec.preRow_of_cond 8 hx (by kernel_rfl) (fun k hk=>by cases hk;kernel_rfl) (by kernel_rfl) (laid_met os _))) ?_
 intro W base args ds gs before hval hW _ hcond _ hL hS _
 exact contract H enc F W base args ds gs before hval hW (hcond _ rfl) (env_of hL hS)
theorem D_:Su.inPlace=Sy.inPlace 8:=by kernel_rfl
theorem oL:Sy.unfollowed 8=true:=by kernel_rfl
theorem Bs:Sy.recurses 8=true:=by
 unfold Program.recurses
 rw [oL]
 rfl
theorem xW:Su.named=Sy.varsNamed 8:=by kernel_rfl
theorem yR:mapsRowed Sy=true:=by kernel_rfl
theorem yF:Su.plainKeys=Sy.plainKeys:=by kernel_rfl
theorem joined:joinedFacts Sy 8 Sz (SD Sv).bare Su=true:=by
 unfold joinedFacts
 rw [←D_,oL,Bs,←xW,laidOut,yR,←yF]
 refine Eq.trans ?_ (Eq.refl _)
 kernel_rfl
theorem named:Tryz.pinned.checked.prog.funcNamed Su.func=some 8:=by kernel_rfl
theorem Ot:Sz.isInstance Tryz.pinned.checked.prog Su.origin Su.targs:=of_decide_eq_true (by kernel_rfl)
theorem Oq:Sz.isWrapper Tryz.pinned.checked.prog Su.wrapper Su.mainSum:=by
 unfold Func.isWrapper
 first|(rw [if_pos (by decide +kernel)];kernel_rfl)|(rw [if_neg (by decide +kernel)];exact⟨rfl,rfl⟩)
theorem Iw:Rows.MergeKeepsUptoSaid :=
 OpenClaim.holds_of_cond 8 Sz rfl rfl rfl rfl rfl rfl rfl ⟨rfl,rfl,rfl,rfl,rfl⟩ rfl rfl rfl rfl rfl named SB joined Ot Oq
  (fun os started H enc _ F=>by rw [OpenClaim.pre_eq_preRow];exact D4 os started H enc F)
theorem plain (f:FuncId)(fn:Func)(hf:Tryz.pinned.checked.prog.funcNamed "captioner/captionerlaw18.MergeKeeps" =some f)(hfn:Tryz.pinned.checked.prog.funcs[f]? =some fn) :
 false=Tryz.pinned.checked.prog.looks []∧∀ (j:Nat) t,fn.params[j]? =some t→Tryz.pinned.checked.prog.wantsStandIn t=false:=by
 obtain rfl:f=8:=Option.some.inj ((show Sy.funcNamed "captioner/captionerlaw18.MergeKeeps" =some 8 by kernel_rfl).symm.trans hf) |>.symm
 obtain rfl:fn=Sz:=(Option.some.inj (SB.symm.trans hfn)).symm
 refine⟨by kernel_rfl,fun j t ht=>?_⟩
 rw [SC] at ht
 have hm:=Array.mem_of_getElem? ht
 simp at hm
 obtain rfl:=hm
 · exact(show Sy.wantsStandIn 63=false by kernel_rfl)
theorem cardUpto:Rows.MergeKeepsUptoCardSaid :=
 Claim7.holds_tied_plain_at .later [] _ _ _ _ Iw (fun _ h=>by cases h) (by kernel_rfl) (fun _ h=>by cases h) mergeKeepsUpto_row_tie rfl ⟨rfl,rfl⟩ (by kernel_rfl) rfl plain (by kernel_rfl)
#print axioms cardUpto
end Go.Proofs.YtnlnmbcaongehaaGreatDoor.mergeKeeps
