/- The contract of the reference's Check of documents: the same specification as the program's. The error of a document hangs on its contents alone; what a document without an error holds. The changes between two documents in order lead from the one to the other, and their inverses back: the plain law. The plain law of MergeUnchanged: a merge with an unchanged side, or of equal sides, gives the other side without a clash. The plain law of MergeUnchanged, put together: each of its three merges is refused alike, or gives the changed side without a clash. How the readings of the arguments give links and documents in memory. The chapter's example of a merge: a document with one event (law 18's one). -/
import Derived.Test.YtnlnmbcaongehaaGreatDoorRows
import Derived.Test.YtnlnmbcaongehaaGreatDoorM28
import Derived.Test.YtnlnmbcaongehaaGreatDoorM29
set_option linter.unusedVariables false
set_option linter.unusedSimpArgs false
set_option maxRecDepth 100000
set_option maxHeartbeats 12800000
open Go.Lib renaming hid→h_
open List.Pairwise renaming nil→kR
open List renaming getElem?_eq_some_iff→kS,pairwise_iff_getElem→kT,mem_iff_getElem?→kU,mem_singleton→kV,flatMap_cons→kW,pairwise_cons→kX,mem_cons→kY,getElem?_eq_getElem→kZ,range→k9,mem_append→k_,mem_cons_of_mem→lf,mem_map→lg,find?_isSome→lh,mem_of_find?_eq_some→lj,map_map→lk,mem_cons_self→ll,pairwise_map→ln,mem_flatMap→lp,length_cons→lq,find?_some→lr,sum_cons→lu,map_cons→lv
open Option.some renaming inj→lC
open Nat renaming zero_le→lD,lt_trichotomy→lE
open Bool renaming and_eq_true→lF
open Go renaming heap_alloc_last→lG,World→lH,MemPlace→lI,DataW→lJ,Value→lK,TypeId→lL
open Go.DataW renaming trod_int→lM,trod_string→lN,trod_struct→lO,trod_bool→lP,trod→lQ
open Go.RowKit.Below renaming heap_alloc→lR
open Go.Value renaming string→lS,int→lT
namespace Go.Proofs.YtnlnmbcaongehaaGreatDoor
open Go.RowKit
theorem seen_hit (evs:List Ev):∀ k y j x,j<k→evs[j]? =some x→x.id=y→(aU evs k y).isSome=true
 | 0,y,j,x,h,_,_=>by omega
 | k+1,y,j,x,h,hx,hy=>by
   simp only [aU]
   by_cases hj:j=k
   · subst hj
     rw [hx]
     simp [hy]
   · split
     · exact seen_hit evs k y j x (by omega) hx hy
     · split
       · rfl
       · exact seen_hit evs k y j x (by omega) hx hy
theorem baLt_irrefl (a:ByteArray):¬ baLt a a:=List.lt_irrefl _
theorem listFrom_asc:∀ (xs:List Reg)(p:Option ByteArray),cE p xs=0→(∀ q,p=some q→∀ x∈xs,baLt q x.name)∧xs.Pairwise fun x y=>baLt x.name y.name
 | [],p,_=>⟨fun q _ x hx=>by simp at hx,kR⟩
 | x::l,p,h=>by
   rw [cE] at h
   split at h
   · rename_i hne
     rw [h] at hne
     cases hne
   · rename_i hne
     have h0:cZ p x=0:=by simpa using hne
     have ih:=listFrom_asc l _ h
     have hx:=ih.1 x.name rfl
     refine⟨fun q hq y hy=>?_,kX.2 ⟨hx,ih.2⟩⟩
     subst hq
     have hqx:baLt q x.name:=by
      unfold cZ at h0
      split at h0
      · rename_i h1
        rw [h0] at h1
        cases h1
      · simp only at h0
        split at h0
        · cases h0
        · rename_i h2
          split at h0
          · cases h0
          · rename_i h3
            exact zhV (fun h=>h3 ((zhT _ _).2 h)) (fun h=>h2 (by rw [h];simp))
     rcases kY.1 hy with rfl|hy
     · exact hqx
     · exact zhU hqx (hx y hy)
theorem cmsFrom_asc (last:Int)(f:Int→Option Nat)(evs:List Ev):∀ (xs:List Cm)(p:Option Cm),bF last f evs p xs=0→(∀ q,p=some q→∀ x∈xs,q.id<x.id)∧xs.Pairwise fun x y=>x.id<y.id
 | [],p,_=>⟨fun q _ x hx=>by simp at hx,kR⟩
 | x::l,p,h=>by
   rw [bF] at h
   split at h
   · rename_i hne
     rw [h] at hne
     cases hne
   · rename_i hne
     have h0:dw last f evs p x=0:=by simpa using hne
     have ih:=cmsFrom_asc last f evs l _ h
     have hx:=ih.1 x rfl
     refine⟨fun q hq y hy=>?_,kX.2 ⟨hx,ih.2⟩⟩
     subst hq
     have hqx:q.id<x.id:=by
      unfold dw at h0
      split at h0
      · cases h0
      · split at h0
        · cases h0
        · rename_i h2
          simp only [di,decide_eq_true_eq] at h2
          omega
     rcases kY.1 hy with rfl|hy
     · exact hqx
     · have:=hx y hy
       omega
theorem steps_pairwise {α:Type} {R:α→α→Prop} (ht:∀ a b c,R a b→R b c→R a c):∀ xs:List α,(∀ k x y,xs[k]? =some x→xs[k+1]? =some y→R x y)→xs.Pairwise R
 | [],_=>kR
 | [x],_=>by simp
 | x::y::l,h=>by
   have ih:=steps_pairwise ht (y::l) fun k a b ha hb=>h (k+1) a b (by simpa using ha) (by simpa using hb)
   have hxy:=h 0 x y rfl rfl
   refine kX.2 ⟨fun z hz=>?_,ih⟩
   rcases kY.1 hz with rfl|hz
   · exact hxy
   · exact ht _ _ _ hxy (List.rel_of_pairwise_cons ih hz)
theorem evStep_zero {rG:List Reg} {last:Int} {f:Int→Option Nat} {prev:Option Ev} {x:Ev} (h:cS rG last f prev x=0):zbv x rG=0∧x.id≤last∧(f x.id).isSome=false∧eC prev x=false:=by
 rcases zfy rG last f prev x _ rfl with⟨h1,h2⟩|⟨h1,⟨h2,h3⟩|⟨h2,⟨h3,h4⟩|⟨h3,⟨h4,h5⟩|⟨h4,h5⟩⟩⟩⟩
 · rw [←h2,h] at h1;cases h1
 · rw [h] at h3;cases h3
 · rw [h] at h4;cases h4
 · rw [h] at h5;cases h5
 · exact⟨h1,h2,h4,h3⟩
theorem lessB_lt (x y:Ev):zex x y=true↔x.c.lt y.c:=by
 show ltOf zcW x y=true↔_
 rw [za5]
 simp [EvC.lt,Ev.c]
theorem docOk {d:Doc} (h:aG d=0):zjT d.c:=by
 obtain⟨_,h2,h3,h4,h5⟩:=za2 h
 refine⟨?_,?_,?_,?_⟩
 · unfold dK at h2
   split at h2
   · cases h2
   · exact(listFrom_asc _ _ h2).2
 · unfold dW at h5
   split at h5
   · cases h5
   · exact(cmsFrom_asc _ _ _ _ _ h5).2
 · show(d.evs.map Ev.c).Pairwise _
   rw [ln,kT]
   intro i j hi hj hij he
   have:=(evStep_zero (h4 j _ (kZ hj))).2.2.1
   rw [seen_hit d.evs j d.evs[j].id i d.evs[i] hij (kZ hi) he] at this
   cases this
 · show(d.evs.map Ev.c).Pairwise _
   rw [ln]
   refine steps_pairwise (fun a b c h1 h2=>?_) _ fun k x y hx hy=>?_
   · simp only [EvC.lt] at *
     omega
   · have:=(evStep_zero (h4 (k+1) y hy)).2.2.2
     rw [aL,hx] at this
     simp only [eC,Bool.not_eq_false'] at this
     exact(lessB_lt x y).1 this
def Uniq {α:Type} (p:α→Bool)(l:List α):Prop:=∀ x∈l,∀ y∈l,p x=true→p y=true→x=y
theorem find_iff {α:Type} {p:α→Bool}:∀ {l:List α},Uniq p l→∀ x,l.find? p=some x↔x∈l∧p x=true
 | [],_,x=>by simp
 | y::l,h,x=>by
   rw [List.find?_cons]
   cases hy:p y
   · rw [find_iff (l:=l) (fun a ha b hb=>h a (lf _ ha) b (lf _ hb)) x]
     constructor
     · rintro ⟨h1,h2⟩
       exact⟨lf _ h1,h2⟩
     · rintro ⟨h1,h2⟩
       rcases kY.1 h1 with rfl|h1
       · rw [hy] at h2;cases h2
       · exact⟨h1,h2⟩
   · constructor
     · intro e
       obtain rfl:=lC e
       exact⟨ll,hy⟩
     · rintro ⟨h1,h2⟩
       exact congrArg some (h y ll x h1 hy h2)
theorem uniq_reg {l:List Reg} (h:l.Pairwise fun x y=>baLt x.name y.name)(k:ByteArray):Uniq (zaK k) l:=by
 intro x hx y hy hpx hpy
 have ex:=eF (a:=x.name) (b:=k) (by simpa [zaK] using hpx)
 have ey:=eF (a:=y.name) (b:=k) (by simpa [zaK] using hpy)
 obtain⟨i,hi⟩:=kU.1 hx
 obtain⟨j,hj⟩:=kU.1 hy
 obtain⟨hi',ei⟩:=kS.1 hi
 obtain⟨hj',ej⟩:=kS.1 hj
 rcases lE i j with hij|rfl|hij
 · have:=kT.1 h i j hi' hj' hij
   rw [ei,ej,ex,ey] at this
   exact absurd this (baLt_irrefl _)
 · rw [hi] at hj
   exact lC hj
 · have:=kT.1 h j i hj' hi' hij
   rw [ei,ej,ex,ey] at this
   exact absurd this (baLt_irrefl _)
theorem uniq_cm {l:List Cm} (h:l.Pairwise fun x y=>x.id<y.id)(k:Int):Uniq (cmAt k) l:=by
 intro x hx y hy hpx hpy
 have ex:x.id=k:=by simpa [cmAt] using hpx
 have ey:y.id=k:=by simpa [cmAt] using hpy
 obtain⟨i,hi⟩:=kU.1 hx
 obtain⟨j,hj⟩:=kU.1 hy
 obtain⟨hi',ei⟩:=kS.1 hi
 obtain⟨hj',ej⟩:=kS.1 hj
 rcases lE i j with hij|rfl|hij
 · have:=kT.1 h i j hi' hj' hij
   rw [ei,ej] at this
   omega
 · rw [hi] at hj
   exact lC hj
 · have:=kT.1 h j i hj' hi' hij
   rw [ei,ej] at this
   omega
theorem uniq_ev {l:List EvC} (h:l.Pairwise fun x y=>x.id≠y.id)(k:Int):Uniq (evAt k) l:=by
 intro x hx y hy hpx hpy
 have ex:x.id=k:=by simpa [evAt] using hpx
 have ey:y.id=k:=by simpa [evAt] using hpy
 exact zkm h hx hy (ex.trans ey.symm)
theorem regAt_name {k:ByteArray} {x:Reg} (h:zaK k x=true):x.name=k:=eF (by simpa [zaK] using h)
theorem evCEq_refl (x:EvC):zcP x x=true:=by
 simp [zcP]
 exact zd0 _ (fun r=>zd0 eL zhf r) _
theorem pick_tgt {α:Type} {eq:α→α→Bool} (hr:∀ a,eq a a=true)(he:∀ a b,eq a b=true→a=b) {x y z t:α} (h:Tgt x y z t):ai eq x y z=(t,false):=by
 unfold ai
 rcases h with⟨rfl,rfl|rfl⟩|⟨rfl,rfl⟩
 · split
   · rfl
   · rw [if_pos (hr _)]
 · rw [if_pos (hr _)]
 · split
   · rename_i h
     rw [he _ _ h]
   · rename_i h
     rw [if_pos (hr _)]
theorem pick_part {α β:Type} [DecidableEq β] {eq:α→α→Bool} (f:α→β)(hf:∀ a b,eq a b=decide (f a=f b)) {x y z t:α} (h:Tgt x y z t):f (ai eq x y z).1=f t∧(ai eq x y z).2=false:=by
 unfold ai
 rcases h with⟨rfl,rfl|rfl⟩|⟨rfl,rfl⟩
 · split
   · exact⟨rfl,rfl⟩
   · rw [if_pos (by rw [hf];simp)];exact⟨rfl,rfl⟩
 · rw [if_pos (by rw [hf];simp)];exact⟨rfl,rfl⟩
 · split
   · rename_i h
     rw [hf] at h
     exact⟨by simpa using h,rfl⟩
   · rename_i h
     rw [if_pos (by rw [hf];simp)]
     exact⟨rfl,rfl⟩
theorem strEq_refl (a:ByteArray):b_ a a=true:=by simp [b_]
theorem strEq_eq (a b:ByteArray)(h:b_ a b=true):a=b:=eF (by simpa [b_] using h)
theorem rateEq_refl (a:Int × Bool):bV a a=true:=by simp [bV]
theorem rateEq_eq (a b:Int × Bool)(h:bV a b=true):a=b:=by
 obtain⟨p,q⟩:=a;obtain⟨r,s⟩:=b
 simp only [bV,lF,beq_iff_eq] at h
 rw [h.1,h.2]
theorem spanEq_refl (a:Int × Int):bR a a=true:=by simp [bR]
theorem spanEq_eq (a b:Int × Int)(h:bR a b=true):a=b:=by
 obtain⟨p,q⟩:=a;obtain⟨r,s⟩:=b
 simp only [bR,lF,beq_iff_eq] at h
 rw [h.1,h.2]
theorem kindEq_refl (a:Int):dU a a=true:=by simp [dU]
theorem kindEq_eq (a b:Int)(h:dU a b=true):a=b:=by simpa [dU] using h
theorem flagEq_refl (a:Bool):eB a a=true:=by simp [eB]
theorem flagEq_eq (a b:Bool)(h:eB a b=true):a=b:=by simpa [eB] using h
theorem rowsEqC_refl (a:List (List Run)):zbl a a=true:=zd0 _ (zd0 _ zhf) a
theorem rowsEqC_eq (a b:List (List Run))(h:zbl a b=true):a=b:=zgT _ (fun _ _=>zgT _ (fun _ _=>run_eq) _ _) _ _ h
theorem mayEq_refl (a:Option Reg):ziz a a=true:=by
 cases a with
 | none=>rfl
 | some x=>exact zdP x
theorem mayEq_eq (a b:Option Reg)(h:ziz a b=true):a=b:=by
 cases a<;>cases b
 · rfl
 · cases h
 · cases h
 · rw [zkD h]
theorem clIf_false (c:Cl):clIf false c=[]:=rfl
theorem hd_side {x y z t:Hd} (h:Tgt x y z t):mgHd x y z t.last=t∧zcy x y z=[]:=by
 have h1:zay x y z=(t.title,false):=pick_tgt strEq_refl strEq_eq (h.map Hd.title)
 have h2:zcw x y z=(t.lang,false):=pick_tgt strEq_refl strEq_eq (h.map Hd.lang)
 have h3:zaP x y z=((t.rate,t.drop),false):=pick_tgt rateEq_refl rateEq_eq (h.map fun d:Hd=>(d.rate,d.drop))
 unfold mgHd zcy
 rw [h1,h2,h3]
 exact⟨rfl,rfl⟩
theorem reg_side {x y z t:List Reg} (h:Tgt x y z t)(n:ByteArray):zbo x y z n=(aQ t n,false):=pick_tgt mayEq_refl mayEq_eq (h.map fun l=>aQ l n)
theorem regs_side {x y z t:List Reg} (h:Tgt x y z t)(ns:List ByteArray):bY x y z ns=ns.flatMap (fun n=>(aQ t n).toList)∧bD x y z ns=[]:=by
 unfold bY bD
 simp only [reg_side h,clIf_false]
 refine⟨trivial,?_⟩
 induction ns with
 | nil=>rfl
 | cons n l ih=>rw [kW,ih];rfl
theorem regFind_name {l:List Reg} {n:ByteArray} {r:Reg} (h:aQ l n=some r):r∈l∧r.name=n:=⟨lj h,regAt_name (lr h)⟩
theorem found_pairwise {α κ:Type} (key:α→κ)(lt:κ→κ→Prop)(f:κ→Option α)(hk:∀ k a,f k=some a→key a=k):∀ ks:List κ,ks.Pairwise lt→(ks.flatMap fun k=>(f k).toList).Pairwise fun a b=>lt (key a) (key b)
 | [],_=>kR
 | k::l,h=>by
   rw [kX] at h
   rw [kW,List.pairwise_append]
   refine⟨by cases f k<;>simp,found_pairwise key lt f hk l h.2,fun a ha b hb=>?_⟩
   obtain⟨k',hk',hb⟩:=lp.1 hb
   rw [hk k a (by simpa using ha),hk k' b (by simpa using hb)]
   exact h.1 k' hk'
theorem found_mem {α κ:Type} {f:κ→Option α} {ks:List κ} {a:α}:a∈(ks.flatMap fun k=>(f k).toList)↔∃ k∈ks,f k=some a:=by
 rw [lp]
 simp
theorem regs_found {t:List Reg} (ht:t.Pairwise fun x y=>baLt x.name y.name) {ns:List ByteArray} (hn:ns.Pairwise baLt)(hm:∀ r∈t,r.name∈ns):ns.flatMap (fun n=>(aQ t n).toList)=t:=by
 refine zcY (fun x y:Reg=>baLt x.name y.name) (fun a h=>baLt_irrefl _ h) (fun a b h h'=>baLt_irrefl _ (zhU h h')) _ _ (found_pairwise Reg.name baLt (aQ t) (fun k a h=>(regFind_name h).2) ns hn) ht fun r=>?_
 rw [found_mem]
 constructor
 · rintro ⟨n,_,h⟩
   exact(regFind_name h).1
 · intro hr
   exact⟨r.name,hm r hr,(find_iff (uniq_reg ht _) r).2 ⟨hr,by simp [zaK]⟩⟩
theorem both_side {x y z t:EvC} (h:Tgt x y z t)(hi:x.id=t.id):eV x y z=t∧bf x y z=[]:=by
 have h1:zaO x y z=((t.inn,t.out),false):=pick_tgt spanEq_refl spanEq_eq (h.map fun d:EvC=>(d.inn,d.out))
 have h2:ed x y z=(t.region,false):=pick_tgt strEq_refl strEq_eq (h.map EvC.region)
 have h3:zcx x y z=(t.kind,false):=pick_tgt kindEq_refl kindEq_eq (h.map EvC.kind)
 have h4:dj x y z=(t.speaker,false):=pick_tgt strEq_refl strEq_eq (h.map EvC.speaker)
 have h5:zgE x y z=(t.rows,false):=pick_tgt rowsEqC_refl rowsEqC_eq (h.map EvC.rows)
 unfold eV bf
 rw [h1,h2,h3,h4,h5,hi]
 exact⟨rfl,rfl⟩
theorem ev3_side {x y z t:Option EvC} (h:Tgt x y z t)(hi:∀ p q,x=some p→t=some q→p.id=q.id)(hne:¬ (x=none∧y=none∧z=none)):zag x y z=t.map fun e=>(e,[]):=by
 rcases h with⟨rfl,rfl|rfl⟩|⟨rfl,rfl⟩
 · cases z with
   | none =>
     cases t with
     | none=>exact absurd ⟨rfl,rfl,rfl⟩ hne
     | some e=>rfl
   | some p =>
     cases t with
     | none=>simp [zag,evCEq_refl]
     | some e =>
       obtain⟨h1,h2⟩:=both_side (x:=p) (y:=e) (z:=p) (t:=e) (.inl ⟨rfl,.inl rfl⟩) (hi _ _ rfl rfl)
       simp [zag,h1,h2]
 · cases x with
   | none =>
     cases z with
     | none=>exact absurd ⟨rfl,rfl,rfl⟩ hne
     | some e=>rfl
   | some p =>
     cases z with
     | none=>rfl
     | some e =>
       obtain⟨h1,h2⟩:=both_side (x:=p) (y:=e) (z:=e) (t:=e) (.inl ⟨rfl,.inr rfl⟩) (hi _ _ rfl rfl)
       simp [zag,h1,h2]
 · cases y with
   | none =>
     cases t with
     | none=>exact absurd ⟨rfl,rfl,rfl⟩ hne
     | some e=>rfl
   | some p =>
     cases t with
     | none=>simp [zag,evCEq_refl]
     | some e =>
       obtain⟨h1,h2⟩:=both_side (x:=p) (y:=p) (z:=e) (t:=e) (.inr ⟨rfl,rfl⟩) (hi _ _ rfl rfl)
       simp [zag,h1,h2]
theorem ev_side {rG:List Reg} {x y z t:List EvC} (h:Tgt x y z t)(ht:∀ e∈t,zgK rG e=0) {id:Int} (hid:id∈bE x y z):mgEv rG x y z id=(b8 t id).map fun e=>(e,[]):=by
 unfold mgEv
 rw [ev3_side (h.map fun l=>b8 l id) (fun p q h1 h2=>(zcO h1).2.trans (zcO h2).2.symm) (fun⟨h1,h2,h3⟩=>by
  rcases((zaX x y z).2 id).1 hid with h|h|h
  · exact zaD h1 h
  · exact zaD h2 h
  · exact zaD h3 h)]
 cases hf:b8 t id with
 | none=>rfl
 | some e =>
   have h0:=ht e (zcO hf).1
   simp [dv,h0]
theorem flatMap_congr' {α β:Type} {f g:α→List β}:∀ {l:List α},(∀ a∈l,f a=g a)→l.flatMap f=l.flatMap g
 | [],_=>rfl
 | a::l,h=>by rw [kW,kW,h a (by simp),flatMap_congr' fun b hb=>h b (by simp [hb])]
theorem flatMap_nil' {α β:Type} {f:α→List β}:∀ {l:List α},(∀ a∈l,f a=[])→l.flatMap f=[]
 | [],_=>rfl
 | a::l,h=>by rw [kW,h a (by simp),flatMap_nil' fun b hb=>h b (by simp [hb])];rfl
theorem evs_side {rG:List Reg} {x y z t:List EvC} (h:Tgt x y z t)(ht:∀ e∈t,zgK rG e=0)(hi:t.Pairwise fun x y=>x.id≠y.id)(ho:t.Pairwise EvC.lt) :
 dD (eH rG x y z (bE x y z))=t∧cg rG x y z (bE x y z)=[]:=by
 have hm:∀ e∈t,e.id∈bE x y z:=fun e he=>((zaX x y z).2 e.id).2 (by
  rcases k_.1 (h.mem he) with h|h
  · rcases k_.1 h with h|h
    · exact .inl ⟨e,h,rfl⟩
    · exact .inr (.inl ⟨e,h,rfl⟩)
  · exact .inr (.inr ⟨e,h,rfl⟩))
 have e1:eH rG x y z (bE x y z)=(bE x y z).flatMap fun id=>(b8 t id).toList:=by
  unfold eH
  refine flatMap_congr' fun id hid=>?_
  rw [ev_side h ht hid]
  cases b8 t id<;>rfl
 refine⟨?_,?_⟩
 · rw [e1]
   have hp:((bE x y z).flatMap fun id=>(b8 t id).toList).Pairwise fun x y=>x.id<y.id:=found_pairwise EvC.id (·<·) (b8 t) (fun k a h=>(zcO h).2) _ (zaX x y z).1
   have hp':=hp.imp (S:=fun x y:EvC=>x.id≠y.id) fun h=>by omega
   symm
   refine zaU ?_ (ho.imp fun h=>?_) hp'
   · refine(List.perm_ext_iff_of_nodup (hi.imp fun h e=>h (by rw [e])) (hp'.imp fun h e=>h (by rw [e]))).2 fun e=>?_
     rw [found_mem]
     constructor
     · intro he
       exact⟨e.id,hm e he,(find_iff (uniq_ev hi _) e).2 ⟨he,by simp [evAt]⟩⟩
     · rintro ⟨k,_,hk⟩
       exact(zcO hk).1
   · simp only [EvC.lt] at h
     simp only [evLe,decide_eq_true_eq]
     omega
 · unfold cg
   refine flatMap_nil' fun id hid=>?_
   rw [ev_side h ht hid]
   cases b8 t id<;>rfl
theorem alike_self:∀ l:List Nat,alike l l=l.length
 | []=>rfl
 | x::l=>by rw [alike,if_pos rfl,alike_self l,lq]
theorem follow_self (c:Cm)(l:List Nat)(hf:c.frm<c.til):eW c l l=c:=by
 unfold eW
 simp only [alike_self,List.drop_length,List.reverse_nil,List.length_nil]
 have q:dB l.length l.length l.length (0:Nat) c.frm c.til=(c.frm,c.til):=by
  unfold dB
  simp only [Int.sub_self,Int.add_zero,Prod.mk.injEq]
  constructor
  · split
    · rfl
    · split
      · omega
      · rfl
  · split
    · rfl
    · split
      · rfl
      · omega
 rw [q]
 simp only
 rw [if_neg (by omega)]
theorem move_self {l:List EvC} {c:Cm} (h:c.lost=true∨((b8 l c.ev).isSome=true∧c.frm<c.til)):dT l l c=c:=by
 unfold dT
 split
 · rfl
 · rename_i hl
   rcases h with h|⟨h1,h2⟩
   · exact absurd h hl
   · cases he:b8 l c.ev with
     | none=>rw [he] at h1;cases h1
     | some e=>exact follow_self c _ h2
theorem cmFind_id {l:List Cm} {z:Int} {x:Cm} (h:aN l z=some x):x∈l∧x.id=z:=⟨lj h,by simpa [cmAt] using lr h⟩
theorem move_id (f t:List EvC)(c:Cm):(dT f t c).id=c.id:=by
 unfold dT eW
 simp only
 repeat' split
 all_goals rfl
theorem anc_part (a b:Cm):zgj a b=decide ((a.ev,a.frm,a.til,a.lost)=(b.ev,b.frm,b.til,b.lost)):=by
 simp only [zgj,Prod.mk.injEq]
 rw [Bool.eq_iff_iff]
 simp [and_assoc]
theorem cmBoth_side {x y z t:Cm} (h:Tgt x y z t)(hi:x.id=t.id):zaQ x y z=t∧dm x y z=[]:=by
 obtain⟨a1,a2⟩:=pick_part (fun c:Cm=>(c.ev,c.frm,c.til,c.lost)) anc_part h
 have h2:zcb x y z=(t.author,false):=pick_tgt strEq_refl strEq_eq (h.map Cm.author)
 have h3:zgD x y z=(t.text,false):=pick_tgt strEq_refl strEq_eq (h.map Cm.text)
 have h4:zgF x y z=(t.done,false):=pick_tgt flagEq_refl flagEq_eq (h.map Cm.done)
 simp only [Prod.mk.injEq] at a1
 unfold zaQ dm zfk
 rw [a1.1,a1.2.1,a1.2.2.1,a1.2.2.2,a2,h2,h3,h4,hi]
 exact⟨rfl,rfl⟩
theorem ancEq_refl (x:Cm):zgj x x=true:=by simp [zgj]
def Tgt2 {α:Type} (ox oy oz:α) {β:Type} (x y z t:β):Prop:=(t=y∧((z=x∧oz=ox)∨z=y))∨(t=z∧y=x∧oy=ox)
theorem cm3_side {ox oy oz x y z t:Option Cm} (h:Tgt2 ox oy oz x y z t)(hi:∀ p q,x=some p→t=some q→p.id=q.id)(hne:¬ (x=none∧y=none∧z=none)):eI ox oy oz x y z=t.map fun e=>(e,[]):=by
 rcases h with⟨rfl,⟨rfl,rfl⟩|rfl⟩|⟨rfl,rfl,rfl⟩
 · cases z with
   | none =>
     cases t with
     | none=>exact absurd ⟨rfl,rfl,rfl⟩ hne
     | some e=>rfl
   | some p =>
     cases t with
     | none=>simp [eI,zi3]
     | some e =>
       obtain⟨h1,h2⟩:=cmBoth_side (x:=p) (y:=e) (z:=p) (t:=e) (.inl ⟨rfl,.inl rfl⟩) (hi _ _ rfl rfl)
       simp [eI,h1,h2]
 · cases x with
   | none =>
     cases z with
     | none=>exact absurd ⟨rfl,rfl,rfl⟩ hne
     | some e=>simp [eI,ancEq_refl]
   | some p =>
     cases z with
     | none=>rfl
     | some e =>
       obtain⟨h1,h2⟩:=cmBoth_side (x:=p) (y:=e) (z:=e) (t:=e) (.inl ⟨rfl,.inr rfl⟩) (hi _ _ rfl rfl)
       simp [eI,h1,h2]
 · cases y with
   | none =>
     cases t with
     | none=>exact absurd ⟨rfl,rfl,rfl⟩ hne
     | some e=>rfl
   | some p =>
     cases t with
     | none=>simp [eI,zi3]
     | some e =>
       obtain⟨h1,h2⟩:=cmBoth_side (x:=p) (y:=p) (z:=e) (t:=e) (.inr ⟨rfl,rfl⟩) (hi _ _ rfl rfl)
       simp [eI,h1,h2]
theorem cmFind_none {l:List Cm} {k:Int} (h:aN l k=none):¬ ∃ e∈l,e.id=k:=by
 rintro ⟨e,he,rfl⟩
 have:=List.find?_eq_none.1 h e he
 simp [cmAt] at this
theorem cm_side {txs:List EvC} {x y z t:DocC} (h:Tgt x y z t)(hev:t.evs=txs)(ht:∀ c∈t.cms,c.lost=true∨((b8 t.evs c.ev).isSome=true∧c.frm<c.til)) {id:Int} (hid:id∈ck x.cms y.cms z.cms) :
 mgCm txs x y z id=(aN t.cms id).map fun e=>(e,[]):=by
 subst hev
 have hmv:(aN t.cms id).map (dT t.evs t.evs)=aN t.cms id:=by
  cases hf:aN t.cms id with
  | none=>rfl
  | some c=>rw [Option.map_some,move_self (ht c (cmFind_id hf).1)]
 unfold mgCm
 rw [cm3_side (t:=aN t.cms id) ?_ ?_ ?_]
 · rcases h with⟨rfl,rfl|rfl⟩|⟨rfl,rfl⟩
   · exact .inl ⟨hmv.symm,.inl ⟨rfl,rfl⟩⟩
   · exact .inl ⟨hmv.symm,.inr rfl⟩
   · exact .inr ⟨hmv.symm,rfl,rfl⟩
 · intro p q h1 h2
   obtain⟨c,hc,rfl⟩:=Option.map_eq_some_iff.1 h1
   rw [move_id,(cmFind_id hc).2,(cmFind_id h2).2]
 · rintro ⟨h1,h2,h3⟩
   rcases((zfE x.cms y.cms z.cms).2 id).1 hid with h|h|h
   · exact cmFind_none (by simpa using h1) h
   · exact cmFind_none (by simpa using h2) h
   · exact cmFind_none (by simpa using h3) h
theorem cms_side {txs:List EvC} {x y z t:DocC} (h:Tgt x y z t)(hev:t.evs=txs)(ht:∀ c∈t.cms,c.lost=true∨((b8 t.evs c.ev).isSome=true∧c.frm<c.til))(ho:t.cms.Pairwise fun x y=>x.id<y.id) :
 eU txs x y z (ck x.cms y.cms z.cms)=t.cms∧dz txs x y z (ck x.cms y.cms z.cms)=[]:=by
 have hm:∀ e∈t.cms,e.id∈ck x.cms y.cms z.cms:=fun e he=>((zfE _ _ _).2 e.id).2 (by
  rcases k_.1 ((h.map DocC.cms).mem he) with h|h
  · rcases k_.1 h with h|h
    · exact .inl ⟨e,h,rfl⟩
    · exact .inr (.inl ⟨e,h,rfl⟩)
  · exact .inr (.inr ⟨e,h,rfl⟩))
 have e1:eU txs x y z (ck x.cms y.cms z.cms)=(ck x.cms y.cms z.cms).flatMap fun id=>(aN t.cms id).toList:=by
  unfold eU
  refine flatMap_congr' fun id hid=>?_
  rw [cm_side h hev ht hid]
  cases aN t.cms id<;>rfl
 refine⟨?_,?_⟩
 · rw [e1]
   refine zcY (fun x y:Cm=>x.id<y.id) (fun a h=>by omega) (fun a b h h'=>by omega) _ _ (found_pairwise Cm.id (·<·) (aN t.cms) (fun k a h=>(cmFind_id h).2) _ (zfE _ _ _).1) ho fun e=>?_
   rw [found_mem]
   constructor
   · rintro ⟨k,_,hk⟩
     exact(cmFind_id hk).1
   · intro he
     exact⟨e.id,hm e he,(find_iff (uniq_cm ho _) e).2 ⟨he,by simp [cmAt]⟩⟩
 · unfold dz
   refine flatMap_nil' fun id hid=>?_
   rw [cm_side h hev ht hid]
   cases aN t.cms id<;>rfl
theorem cErr_ok {t:DocC} (h:cErr t=0):zjT t:=by
 have:=docOk (d:=t.rep) h
 rwa [DocC.rep_c] at this
theorem cErr_ev {t:DocC} (h:cErr t=0):∀ e∈t.evs,zgK t.rG e=0:=by
 intro e he
 have hp:=za2 (d:=t.rep) h
 obtain⟨j,hj⟩:=kU.1 he
 have:=hp.2.2.2.1 j e.rep (by simp [DocC.rep,hj])
 exact(evStep_zero this).1
theorem seenEv_mem (evs:List Ev):∀ k z i,aU evs k z=some i→∃ x∈evs,x.id=z
 | 0,z,i,h=>by simp [aU] at h
 | k+1,z,i,h=>by
   simp only [aU] at h
   split at h
   · exact seenEv_mem evs k z i h
   · rename_i x hx
     split at h
     · rename_i hz
       exact⟨x,List.mem_of_getElem? hx,hz.symm⟩
     · exact seenEv_mem evs k z i h
theorem cErr_cm {t:DocC} (h:cErr t=0):∀ c∈t.cms,c.lost=true∨((b8 t.evs c.ev).isSome=true∧c.frm<c.til):=by
 intro c hc
 have hp:=(za2 (d:=t.rep) h).2.2.2.2
 unfold dW at hp
 split at hp
 · cases hp
 · have:=zbU _ _ _ _ _ hp c hc
   unfold aW at this
   split at this
   · cases this
   · split at this
     · rename_i hl
       exact .inl hl
     · split at this
       · cases this
       · rename_i i hi
         split at this
         · cases this
         · rename_i hn
           obtain⟨x,hx,hid⟩:=seenEv_mem _ _ _ _ hi
           obtain⟨e,he,rfl⟩:=lg.1 (show x∈t.evs.map EvC.rep from hx)
           refine .inr ⟨lh.2 ⟨e,he,?_⟩,by omega⟩
           simpa [evAt,EvC.rep] using hid
theorem mgOut_side {x y z t:DocC} (h:Tgt x y z t)(ht:cErr t=0):zht x y z t.hd.last=(t,[]):=by
 have ok:=cErr_ok ht
 obtain⟨h1,h2⟩:=hd_side (h.map DocC.hd)
 obtain⟨r1,r2⟩:=regs_side (h.map DocC.rG) (aR x.rG y.rG z.rG)
 have r3:=regs_found ok.rG (ns:=aR x.rG y.rG z.rG) (zbN _ _ kR) (fun r hr=>(zbM _ _ _).2 (.inr (lg.2 ⟨r,(h.map DocC.rG).mem hr,rfl⟩)))
 have r4:=r1.trans r3
 obtain⟨e1,e2⟩:=evs_side (rG:=t.rG) (h.map DocC.evs) (cErr_ev ht) ok.ids ok.ord
 obtain⟨c1,c2⟩:=cms_side (txs:=t.evs) h rfl (cErr_cm ht) ok.cms
 unfold zht
 simp only [r4,r2,e1,e2,c1,c2,h1,h2]
 rfl
theorem evFind_mem {l:List EvC} {x:EvC} (h:x∈l):(b8 l x.id).isSome=true:=lh.2 ⟨x,h,by simp [evAt]⟩
theorem cmFind_mem {l:List Cm} {x:Cm} (h:x∈l):(aN l x.id).isSome=true:=lh.2 ⟨x,h,by simp [cmAt]⟩
theorem old_base (base a:DocC):zdf base a base=[]:=zjr (fun x hx=>by simp [zaz,evFind_mem hx]) (fun x hx=>by simp [zaA,cmFind_mem hx])
theorem adds_self (a:DocC)(z:Int):zfl a a z=false:=by
 unfold zfl
 cases (b8 a.evs z).isSome<;>cases (aN a.cms z).isSome<;>rfl
theorem old_a (base a:DocC):zdf base base a=[]:=zjr (fun x hx=>by simp [zaz,adds_self]) (fun x hx=>by simp [zaA,adds_self])
theorem old_both (base:DocC) {a:DocC} (h:zjT a):zdf base a a=[]:=zjr
 (fun x hx=>by
  have:b8 a.evs x.id=some x:=(find_iff (uniq_ev h.ids _) x).2 ⟨hx,by simp [evAt]⟩
  simp [zaz,this,evCEq_refl])
 (fun x hx=>by
  have:aN a.cms x.id=some x:=(find_iff (uniq_cm h.cms _) x).2 ⟨hx,by simp [cmAt]⟩
  simp [zaA,this,zi3])
theorem unch_refused (base a:DocC):aO base base a=aO base a base∧aO base a a=aO base a base:=by
 unfold aO
 by_cases h1:cErr base=0<;>by_cases h2:cErr a=0<;>simp [h1,h2]
theorem mg_side {base a b t:DocC} (h:Tgt base a b t)(ht:cErr t=0)(h0:aO base a b=0)(ho:zdf base a b=[])(hl:cO a b=t.hd.last):zah base a b=0∧zcA base a b=t∧mgCl base a b=[]:=by
 obtain⟨h1,h2⟩:=fh ho
 rw [hl] at h1 h2
 rw [mgOut_side h ht] at h1
 have he:zah base a b=0:=by
  unfold zah
  rw [if_neg (by simp [h0]),h2,if_neg (by have:=za8 ht;omega),h1]
  exact ht
 refine⟨he,?_,?_⟩
 · unfold zcA
   rw [if_pos he,h1]
 · unfold mgCl
   rw [if_pos he,h1]
theorem unch_ok {base a:DocC} (h0:aO base a base=0) :
 (zah base a base=0∧zcA base a base=a∧mgCl base a base=[])∧(zah base base a=0∧zcA base base a=a∧mgCl base base a=[])∧(zah base a a=0∧zcA base a a=a∧mgCl base a a=[]):=by
 obtain⟨h1,h2,_,h3,_⟩:=eb h0
 obtain⟨e1,e2⟩:=unch_refused base a
 refine⟨mg_side (.inl ⟨rfl,.inl rfl⟩) h2 h0 (old_base base a) ?_,mg_side (.inr ⟨rfl,rfl⟩) h2 (e1.trans h0) (old_a base a) ?_,mg_side (.inl ⟨rfl,.inr rfl⟩) h2 (e2.trans h0) (old_both base (cErr_ok h2)) ?_⟩
 · unfold cO;omega
 · unfold cO;omega
 · unfold cO;omega
theorem unch_err {base a:DocC} (h0:aO base a base≠0) :
 (zah base a base=aO base a base∧zcA base a base=zj2∧mgCl base a base=[])∧(zah base base a=aO base a base∧zcA base base a=zj2∧mgCl base base a=[])∧(zah base a a=aO base a base∧zcA base a a=zj2∧mgCl base a a=[]):=by
 obtain⟨e1,e2⟩:=unch_refused base a
 have key:∀ b c:DocC,aO base b c=aO base a base→zah base b c=aO base a base∧zcA base b c=zj2∧mgCl base b c=[]:=fun b c he=>by
  have h:zah base b c=aO base a base:=by
   unfold zah
   rw [if_pos (by rw [he];exact h0),he]
  refine⟨h,?_,?_⟩
  · unfold zcA
    rw [if_neg (by rw [h];exact h0)]
  · unfold mgCl
    rw [if_neg (by rw [h];exact h0)]
 exact⟨key _ _ rfl,key _ _ e1,key _ _ e2⟩
end Go.Proofs.YtnlnmbcaongehaaGreatDoor
namespace Go.Proofs.YtnlnmbcaongehaaGreatDoor
open Go.RowKit Go.ChangeShapes Go.WideShapes Go.Deep
theorem bulk_one {H:Type} (d:lJ H):1≤Rows.uptoBulk d:=by
 cases d with
 | lit l=>cases l<;>simp [Rows.uptoBulk]
 | nil=>simp [Rows.uptoBulk]
 | ptr d=>simp [Rows.uptoBulk]
 | slice elems spare=>simp [Rows.uptoBulk]
 | agg parts=>simp [Rows.uptoBulk]
 | iface t d=>simp [Rows.uptoBulk]
 | map entries=>simp [Rows.uptoBulk]
 | held h=>simp [Rows.uptoBulk]
theorem bulk_part {H:Type} {d:lJ H} {l:List (lJ H)} (h:d∈l):Rows.uptoBulk d≤Rows.uptoBulkAll l:=by
 induction l with
 | nil=>cases h
 | cons x r ih =>
   simp only [Rows.uptoBulkAll]
   cases kY.1 h with
   | inl e=>subst e;omega
   | inr e=>have:=ih e;omega
theorem bulk_sum {H:Type} (l:List (lJ H)):Rows.uptoBulkAll l=(l.map Rows.uptoBulk).sum:=by
 induction l with
 | nil=>simp [Rows.uptoBulkAll]
 | cons x r ih=>simp [Rows.uptoBulkAll,ih]
theorem build {α:Type} {Q:Nat→α→Prop}:∀ n,(∀ i,i<n→∃ a,Q i a)→∃ xs:List α,xs.length=n∧∀ i x,xs[i]? =some x→Q i x
 | 0,_=>⟨[],rfl,by simp⟩
 | n+1,h=>by
   obtain⟨xs,hl,hx⟩:=build n (fun i hi=>h i (by omega))
   obtain⟨a,ha⟩:=h n (by omega)
   refine⟨xs++[a],by simp [hl],fun i x hi=>?_⟩
   by_cases hn:i<n
   · rw [List.getElem?_append_left (by omega)] at hi
     exact hx i x hi
   · have hil:i<(xs++[a]).length:=(kS.1 hi).1
     obtain rfl:i=n:=by simp at hil;omega
     rw [List.getElem?_append_right (by omega),hl,Nat.sub_self] at hi
     obtain rfl:a=x:=by simpa using hi
     exact ha
theorem sum_le {α:Type} (μ:α→Nat):∀ (xs:List α)(g:Nat→Nat),(∀ i x,xs[i]? =some x→μ x≤g i)→(xs.map μ).sum≤((k9 xs.length).map g).sum
 | [],g,_=>by simp
 | x::l,g,h=>by
   have ih:=sum_le μ l (fun i=>g (i+1)) (fun i y hy=>h (i+1) y (by simpa using hy))
   have h0:=h 0 x rfl
   rw [lq,List.range_succ_eq_map,lv,lv,lu,lu,lk]
   exact Nat.add_le_add h0 ih
theorem len_le (g:Nat→Nat)(h:∀ i,1≤g i):∀ n,n≤((k9 n).map g).sum
 | 0=>by simp
 | n+1=>by
   have:=len_le g h n
   have:=h n
   rw [List.range_succ,List.map_append,List.sum_append]
   simp
   omega
section
variable {H:Type} (enc:lL × lK→H)(w:lH)(base:Nat)(sp:Nat→Bool)(held:Bool)
def Reads {α:Type} (t:lL)(ea:α→List lK)(Ok:lH→α→Prop)(fits:α→Prop)(μ:α→Nat):Prop :=
 ∀ fuel cs (x:lJ H × List lI),lQ enc Tryz.prog w base sp held fuel t cs=some x→Rows.uptoBulk x.1≤1048576→∃ a:α,cs=ea a∧Ok w a∧fits a∧μ a≤Rows.uptoBulk x.1
end
theorem reads_slice {H:Type} {enc:lL × lK→H} {w:lH} {base:Nat} {sp:Nat→Bool} {held:Bool} {α:Type} {t e k:Nat} {ea:α→List lK} {Ok:lH→α→Prop} {fits:α→Prop} {μ:α→Nat}
 (ht:Tryz.prog.underlying t=some (.slice e)) (hk:Tryz.prog.cellsOf e=k) (hk0:0<k) (hlen:∀ a,(ea a).length=k) (hr:Reads enc w base sp held e ea Ok fits μ)
 (fuel:Nat) (cs:List lK) (x:lJ H × List lI) (h:lQ enc Tryz.prog w base sp held fuel t cs=some x) (hb:Rows.uptoBulk x.1≤1048576) :
 ∃ (a:Option Addr) (xs:List α) (cap:Nat),cs=[.slice a xs.length cap]∧af k ea Ok w a xs∧(∀ y∈xs,fits y)∧xs.length≤Rows.uptoBulk x.1∧(xs.map μ).sum≤Rows.uptoBulk x.1:=by
 rcases open_slice ht h with⟨rfl,rfl⟩|⟨a,len,cap,m,n,D,Pl,rfl,hbl,hl,hm,hmm,rfl,hi⟩
 · exact⟨none,[],0,rfl,.inl rfl,by simp,by simp,by simp⟩
 · have hml:len≤m:=by rw [hmm];split<;>omega
   simp only [Rows.uptoBulk] at hb ⊢
   have hD:∀ i,i<len→Rows.uptoBulk (D i)≤Rows.uptoBulkAll ((k9 len).map D):=fun i hi=>bulk_part (lg.2 ⟨i,List.mem_range.2 hi,rfl⟩)
   obtain⟨xs,hxl,hx⟩:=build (Q:=fun i y=>(∀ j v,(ea y)[j]? =some v→w.cell? ((a.add (i*k)).add j)=some v)∧Ok w y∧fits y∧μ y≤Rows.uptoBulk (D i)) len (fun i hil=>by
    obtain⟨cs',hc,htr⟩:=hi i (by omega)
    obtain⟨y,hy1,hy2,hy3,hy4⟩:=hr n cs' (D i,Pl i) htr (by have:=hD i hil;simp only;omega)
    rw [hk] at hc
    obtain⟨_,hcl,hat⟩:=lH.cells?_some hc
    refine⟨y,fun j v hv=>?_,hy2,hy3,hy4⟩
    have hj:j<k:=by have:=(kS.1 hv).1;rw [hlen] at this;exact this
    rw [hat j hj,hy1]
    exact hv)
   refine⟨some a,xs,cap,by rw [hxl],?_,fun y hy=>?_,?_,?_⟩
   · cases xs with
     | nil=>exact .inl rfl
     | cons y0 ys =>
       have h0:=(hx 0 y0 rfl).1
       have hy0:∃ v,(ea y0)[0]? =some v:=⟨_,kZ (by rw [hlen];exact hk0)⟩
       obtain⟨v0,hv0⟩:=hy0
       have hc0:=h0 0 v0 hv0
       simp only [Nat.zero_mul] at hc0
       obtain⟨b,off,spot⟩:=a
       have hspot:spot=none:=by simpa [Addr.add] using lH.cell?_spot hc0
       subst hspot
       refine .inr ⟨b,off,rfl,by simpa [Addr.add] using lH.block_lt_of_cell? w _ hc0,fun i y hy=>⟨fun j v hv=>?_,(hx i y hy).2.1⟩⟩
       have:=(hx i y hy).1 j v hv
       have e:((⟨b,off,none⟩:Addr).add (i*k)).add j=⟨b,off+i*k+j,none⟩:=by
        unfold Addr.add
        split<;>split<;>simp_all
       rw [e] at this
       exact this
   · obtain⟨i,hi'⟩:=List.getElem?_of_mem hy
     exact(hx i y hi').2.2.1
   · have h1:xs.length≤Rows.uptoBulkAll ((k9 len).map D):=by
      rw [bulk_sum,lk,hxl]
      exact len_le _ (fun i=>bulk_one _) len
     omega
   · have h1:=sum_le μ xs (fun i=>Rows.uptoBulk (D i)) (fun i y hy=>(hx i y hy).2.2.2)
     have h2:((k9 xs.length).map fun i=>Rows.uptoBulk (D i)).sum=Rows.uptoBulkAll ((k9 len).map D):=by
      rw [bulk_sum,lk,hxl];rfl
     omega
theorem min64:IntKind.i64.min=-9223372036854775808:=by decide
theorem max64:IntKind.i64.max=9223372036854775807:=by decide
theorem min8:IntKind.u8.min=0:=by decide
theorem max8:IntKind.u8.max=255:=by decide
theorem i64_of {n:Int} (h:(Lit.int .i64 n).wf=true):i64 n:=by
 simp only [Lit.wf,lF,decide_eq_true_eq,min64,max64] at h
 exact h
theorem u8_of {n:Int} (h:(Lit.int .u8 n).wf=true):0≤n∧n≤255:=by
 simp only [Lit.wf,lF,decide_eq_true_eq,min8,max8] at h
 exact h
theorem list1 {α:Type} {l:List α} (h:l.length=1):∃ a0,l=[a0]:=by
 obtain _|⟨a0,l⟩:=l
 · simp at h
 obtain _|⟨b,l⟩:=l
 · exact⟨a0,rfl⟩
 · simp at h
theorem list2 {α:Type} {l:List α} (h:l.length=2):∃ a0 a1,l=[a0,a1]:=by
 obtain _|⟨a0,l⟩:=l
 · simp at h
 obtain _|⟨a1,l⟩:=l
 · simp at h
 obtain _|⟨b,l⟩:=l
 · exact⟨a0,a1,rfl⟩
 · simp at h
theorem list3 {α:Type} {l:List α} (h:l.length=3):∃ a0 a1 a2,l=[a0,a1,a2]:=by
 obtain _|⟨a0,l⟩:=l
 · simp at h
 obtain _|⟨a1,l⟩:=l
 · simp at h
 obtain _|⟨a2,l⟩:=l
 · simp at h
 obtain _|⟨b,l⟩:=l
 · exact⟨a0,a1,a2,rfl⟩
 · simp at h
theorem list5 {α:Type} {l:List α} (h:l.length=5):∃ a0 a1 a2 a3 a4,l=[a0,a1,a2,a3,a4]:=by
 obtain _|⟨a0,l⟩:=l
 · simp at h
 obtain _|⟨a1,l⟩:=l
 · simp at h
 obtain _|⟨a2,l⟩:=l
 · simp at h
 obtain _|⟨a3,l⟩:=l
 · simp at h
 obtain _|⟨a4,l⟩:=l
 · simp at h
 obtain _|⟨b,l⟩:=l
 · exact⟨a0,a1,a2,a3,a4,rfl⟩
 · simp at h
theorem list6 {α:Type} {l:List α} (h:l.length=6):∃ a0 a1 a2 a3 a4 a5,l=[a0,a1,a2,a3,a4,a5]:=by
 obtain _|⟨a0,l⟩:=l
 · simp at h
 obtain _|⟨a1,l⟩:=l
 · simp at h
 obtain _|⟨a2,l⟩:=l
 · simp at h
 obtain _|⟨a3,l⟩:=l
 · simp at h
 obtain _|⟨a4,l⟩:=l
 · simp at h
 obtain _|⟨a5,l⟩:=l
 · simp at h
 obtain _|⟨b,l⟩:=l
 · exact⟨a0,a1,a2,a3,a4,a5,rfl⟩
 · simp at h
theorem list7 {α:Type} {l:List α} (h:l.length=7):∃ a0 a1 a2 a3 a4 a5 a6,l=[a0,a1,a2,a3,a4,a5,a6]:=by
 obtain _|⟨a0,l⟩:=l
 · simp at h
 obtain _|⟨a1,l⟩:=l
 · simp at h
 obtain _|⟨a2,l⟩:=l
 · simp at h
 obtain _|⟨a3,l⟩:=l
 · simp at h
 obtain _|⟨a4,l⟩:=l
 · simp at h
 obtain _|⟨a5,l⟩:=l
 · simp at h
 obtain _|⟨a6,l⟩:=l
 · simp at h
 obtain _|⟨b,l⟩:=l
 · exact⟨a0,a1,a2,a3,a4,a5,a6,rfl⟩
 · simp at h
theorem list8 {α:Type} {l:List α} (h:l.length=8):∃ a0 a1 a2 a3 a4 a5 a6 a7,l=[a0,a1,a2,a3,a4,a5,a6,a7]:=by
 obtain _|⟨a0,l⟩:=l
 · simp at h
 obtain _|⟨a1,l⟩:=l
 · simp at h
 obtain _|⟨a2,l⟩:=l
 · simp at h
 obtain _|⟨a3,l⟩:=l
 · simp at h
 obtain _|⟨a4,l⟩:=l
 · simp at h
 obtain _|⟨a5,l⟩:=l
 · simp at h
 obtain _|⟨a6,l⟩:=l
 · simp at h
 obtain _|⟨a7,l⟩:=l
 · simp at h
 obtain _|⟨b,l⟩:=l
 · exact⟨a0,a1,a2,a3,a4,a5,a6,a7,rfl⟩
 · simp at h
section
variable {H:Type} {enc:lL × lK→H} {w:lH} {base:Nat} {sp:Nat→Bool} {held:Bool}
theorem c2:Tryz.prog.cellsOf 2=1:=by kernel_rfl
theorem c3:Tryz.prog.cellsOf 3=1:=by kernel_rfl
theorem c4:Tryz.prog.cellsOf 4=1:=by kernel_rfl
theorem c5:Tryz.prog.cellsOf 5=1:=by kernel_rfl
theorem c9q:Tryz.prog.cellsOf 9=1:=by kernel_rfl
theorem c23:Tryz.prog.cellsOf 22=1:=by kernel_rfl
theorem c24:Tryz.prog.cellsOf 23=1:=by kernel_rfl
theorem c25:Tryz.prog.cellsOf 24=1:=by kernel_rfl
theorem c26:Tryz.prog.cellsOf 25=1:=by kernel_rfl
theorem c28:Tryz.prog.cellsOf 27=8:=by kernel_rfl
theorem c56:Tryz.prog.cellsOf 46=2:=by kernel_rfl
theorem c57:Tryz.prog.cellsOf 47=1:=by kernel_rfl
theorem c58:Tryz.prog.cellsOf 48=1:=by kernel_rfl
theorem c60:Tryz.prog.cellsOf 50=7:=by kernel_rfl
theorem c81:Tryz.prog.cellsOf 71=1:=by kernel_rfl
theorem c83:Tryz.prog.cellsOf 73=3:=by kernel_rfl
theorem c85:Tryz.prog.cellsOf 75=5:=by kernel_rfl
theorem c86:Tryz.prog.cellsOf 76=1:=by kernel_rfl
theorem c88:Tryz.prog.cellsOf 78=1:=by kernel_rfl
theorem c99:Tryz.prog.cellsOf 42=1:=by kernel_rfl
theorem c101:Tryz.prog.cellsOf 44=7:=by kernel_rfl
theorem c116:Tryz.prog.cellsOf 52=8:=by kernel_rfl
theorem agg_part {x:lJ H × List lI} {ys:List (lJ H × List lI)} (hx:x=(.agg (ys.map (·.1)),ys.flatMap (·.2))) {y:lJ H × List lI} (hy:y∈ys):Rows.uptoBulk y.1≤Rows.uptoBulk x.1:=by
 rw [hx]
 simp only [Rows.uptoBulk]
 have:=bulk_part (lg.2 ⟨y,hy,rfl⟩:y.1∈ys.map (·.1))
 omega
theorem str_size {s:ByteArray} {y:lJ H × List lI} (h:y=(.lit (.string s.data.toList),[])):s.size≤Rows.uptoBulk y.1:=by
 rw [h]
 simp only [Rows.uptoBulk]
 have:s.data.toList.length=s.size:=by simp
 omega
theorem read_reg:Reads enc w base sp held 44 Reg.enc Flat Reg.fits (fun _=>0):=by
 intro fuel cs x h hb
 obtain⟨ys,n,rfl,hx,hlen,hyl,hf⟩:=lO Tryz.underlying44 h
 rw [c101] at hlen
 obtain⟨v0,v1,v2,v3,v4,v5,v6,rfl⟩:=list7 hlen
 obtain⟨y0,y1,y2,y3,y4,y5,y6,rfl⟩:=list7 hyl
 have g0:=hf 0 _ rfl;have g1:=hf 1 _ rfl;have g2:=hf 2 _ rfl;have g3:=hf 3 _ rfl;have g4:=hf 4 _ rfl;have g5:=hf 5 _ rfl;have g6:=hf 6 _ rfl
 simp [c9q,c3,c99,c4] at g0 g1 g2 g3 g4 g5 g6
 obtain⟨s0,e0,q0,w0⟩:=lN Tryz.underlying9 g0
 obtain⟨z1,e1,_,w1⟩:=lM Tryz.underlying3 g1
 obtain⟨z2,e2,_,w2⟩:=lM Tryz.underlying3 g2
 obtain⟨z3,e3,_,w3⟩:=lM Tryz.underlying3 g3
 obtain⟨z4,e4,_,w4⟩:=lM Tryz.underlying3 g4
 obtain⟨z5,e5,_,w5⟩:=lM Tryz.underlying42 g5
 obtain⟨z6,e6,_⟩:=lP Tryz.underlying4 g6
 simp at e0 e1 e2 e3 e4 e5 e6
 subst e0 e1 e2 e3 e4 e5 e6
 have k0:=agg_part hx (y:=y0) (by simp)
 have k1:=str_size q0
 exact⟨⟨s0,z1,z2,z3,z4,z5,z6⟩,rfl,trivial,⟨by simp only;omega,i64_of w1,i64_of w2,i64_of w3,i64_of w4,(u8_of w5).1,(u8_of w5).2⟩,lD _⟩
theorem read_cm:Reads enc w base sp held 52 Cm.enc Flat Cm.fits (fun _=>0):=by
 intro fuel cs x h hb
 obtain⟨ys,n,rfl,hx,hlen,hyl,hf⟩:=lO Tryz.underlying52 h
 rw [c116] at hlen
 obtain⟨v0,v1,v2,v3,v4,v5,v6,v7,rfl⟩:=list8 hlen
 obtain⟨y0,y1,y2,y3,y4,y5,y6,y7,rfl⟩:=list8 hyl
 have g0:=hf 0 _ rfl;have g1:=hf 1 _ rfl;have g2:=hf 2 _ rfl;have g3:=hf 3 _ rfl;have g4:=hf 4 _ rfl;have g5:=hf 5 _ rfl;have g6:=hf 6 _ rfl;have g7:=hf 7 _ rfl
 simp [c9q,c3,c2,c4] at g0 g1 g2 g3 g4 g5 g6 g7
 obtain⟨z0,e0,_,w0⟩:=lM Tryz.underlying2 g0
 obtain⟨z1,e1,_,w1⟩:=lM Tryz.underlying2 g1
 obtain⟨z2,e2,_,w2⟩:=lM Tryz.underlying3 g2
 obtain⟨z3,e3,_,w3⟩:=lM Tryz.underlying3 g3
 obtain⟨s4,e4,q4,_⟩:=lN Tryz.underlying9 g4
 obtain⟨s5,e5,q5,_⟩:=lN Tryz.underlying9 g5
 obtain⟨z6,e6,_⟩:=lP Tryz.underlying4 g6
 obtain⟨z7,e7,_⟩:=lP Tryz.underlying4 g7
 simp at e0 e1 e2 e3 e4 e5 e6 e7
 subst e0 e1 e2 e3 e4 e5 e6 e7
 have k4:=agg_part hx (y:=y4) (by simp)
 have k5:=agg_part hx (y:=y5) (by simp)
 have l4:=str_size q4
 have l5:=str_size q5
 exact⟨⟨z0,z1,z2,z3,s4,s5,z6,z7⟩,rfl,trivial,⟨i64_of w0,i64_of w1,i64_of w2,i64_of w3,by simp only;omega,by simp only;omega⟩,lD _⟩
theorem read_run:Reads enc w base sp held 75 Run.enc Flat Run.fits (fun r=>r.text.size):=by
 intro fuel cs x h hb
 obtain⟨ys,n,rfl,hx,hlen,hyl,hf⟩:=lO Tryz.underlying75 h
 rw [c85] at hlen
 obtain⟨v0,v1,v2,v3,v4,rfl⟩:=list5 hlen
 obtain⟨y0,y1,y2,rfl⟩:=list3 hyl
 have g0:=hf 0 _ rfl;have g1:=hf 1 _ rfl;have g2:=hf 2 _ rfl
 simp [c9q,c83] at g0 g1 g2
 obtain⟨s0,e0,q0,_⟩:=lN Tryz.underlying9 g0
 obtain⟨s4,e4,q4,_⟩:=lN Tryz.underlying9 g2
 obtain⟨us,n',rfl,hx',hlen',hyl',hf'⟩:=lO Tryz.underlying73 g1
 obtain⟨u0,u1,u2,rfl⟩:=list3 hyl'
 have p0:=hf' 0 _ rfl;have p1:=hf' 1 _ rfl;have p2:=hf' 2 _ rfl
 simp [c81,c4] at p0 p1 p2
 obtain⟨z1,e1,_,w1⟩:=lM Tryz.underlying71 p0
 obtain⟨z2,e2,_⟩:=lP Tryz.underlying4 p1
 obtain⟨z3,e3,_⟩:=lP Tryz.underlying4 p2
 simp at e0 e1 e2 e3 e4
 subst e0 e1 e2 e3 e4
 have k0:=agg_part hx (y:=y0) (by simp)
 have k2:=agg_part hx (y:=y2) (by simp)
 have l0:=str_size q0
 have l2:=str_size q4
 exact⟨⟨s0,z1,z2,z3,s4⟩,rfl,trivial,⟨by simp only;omega,by simp only;omega,(u8_of w1).1,(u8_of w1).2⟩,by simp only;omega⟩
theorem sumText_eq:∀ l:List Run,(l.map fun r=>r.text.size).sum=bQ l
 | []=>rfl
 | r::l=>by simp [bQ,sumText_eq l]
theorem read_row:Reads enc w base sp held 78 Row.enc Row.lies Row.fits (fun _=>0):=by
 intro fuel cs x h hb
 obtain⟨ys,n,rfl,hx,hlen,hyl,hf⟩:=lO Tryz.underlying78 h
 rw [c88] at hlen
 obtain⟨v0,rfl⟩:=list1 hlen
 obtain⟨y0,rfl⟩:=list1 hyl
 have g0:=hf 0 _ rfl
 simp [c86] at g0
 have k0:=agg_part hx (y:=y0) (by simp)
 obtain⟨a,xs,cap,e,hS,hF,hL,hM⟩:=reads_slice Tryz.underlying76 c85 (by decide) (fun _=>rfl) read_run n [v0] y0 g0 (by omega)
 simp at e
 subst e
 rw [sumText_eq] at hM
 exact⟨⟨a,cap,xs⟩,rfl,hS,⟨hF,by simp only;omega,by simp only;omega⟩,lD _⟩
theorem read_ev:Reads enc w base sp held 50 Ev.enc Ev.lies Ev.fits (fun _=>0):=by
 intro fuel cs x h hb
 obtain⟨ys,n,rfl,hx,hlen,hyl,hf⟩:=lO Tryz.underlying50 h
 rw [c60] at hlen
 obtain⟨v0,v1,v2,v3,v4,v5,v6,rfl⟩:=list7 hlen
 obtain⟨y0,y1,y2,y3,y4,y5,rfl⟩:=list6 hyl
 have g0:=hf 0 _ rfl;have g1:=hf 1 _ rfl;have g2:=hf 2 _ rfl;have g3:=hf 3 _ rfl;have g4:=hf 4 _ rfl;have g5:=hf 5 _ rfl
 simp [c2,c56,c9q,c57,c58] at g0 g1 g2 g3 g4 g5
 obtain⟨z0,e0,_,w0⟩:=lM Tryz.underlying2 g0
 obtain⟨us,n',rfl,hx',hlen',hyl',hf'⟩:=lO Tryz.underlying46 g1
 obtain⟨u0,u1,rfl⟩:=list2 hyl'
 have p0:=hf' 0 _ rfl;have p1:=hf' 1 _ rfl
 simp [c2] at p0 p1
 obtain⟨z1,e1,_,w1⟩:=lM Tryz.underlying2 p0
 obtain⟨z2,e2,_,w2⟩:=lM Tryz.underlying2 p1
 obtain⟨s3,e3,q3,_⟩:=lN Tryz.underlying9 g2
 obtain⟨z4,e4,_,w4⟩:=lM Tryz.underlying47 g3
 obtain⟨s5,e5,q5,_⟩:=lN Tryz.underlying9 g4
 have k2:=agg_part hx (y:=y2) (by simp)
 have k4:=agg_part hx (y:=y4) (by simp)
 have k5:=agg_part hx (y:=y5) (by simp)
 have l3:=str_size q3
 have l5:=str_size q5
 obtain⟨a,xs,cap,e6,hS,hF,hL,hM⟩:=reads_slice Tryz.underlying48 c88 (by decide) (fun _=>rfl) read_row _ [v6] y5 g5 (by omega)
 simp at e0 e1 e2 e3 e4 e5 e6
 subst e0 e1 e2 e3 e4 e5 e6
 exact⟨⟨z0,z1,z2,s3,z4,s5,a,cap,xs⟩,rfl,hS,⟨i64_of w0,i64_of w1,i64_of w2,by simp only;omega,(u8_of w4).1,(u8_of w4).2,by simp only;omega,hF,by simp only;omega⟩,lD _⟩
theorem read_doc:Reads enc w base sp held 27 Doc.enc (fun w d=>d.lies w) Doc.fits (fun _=>0):=by
 intro fuel cs x h hb
 obtain⟨ys,n,rfl,hx,hlen,hyl,hf⟩:=lO Tryz.underlying27 h
 rw [c28] at hlen
 obtain⟨v0,v1,v2,v3,v4,v5,v6,v7,rfl⟩:=list8 hlen
 obtain⟨y0,y1,y2,y3,y4,y5,y6,y7,rfl⟩:=list8 hyl
 have g0:=hf 0 _ rfl;have g1:=hf 1 _ rfl;have g2:=hf 2 _ rfl;have g3:=hf 3 _ rfl;have g4:=hf 4 _ rfl;have g5:=hf 5 _ rfl;have g6:=hf 6 _ rfl;have g7:=hf 7 _ rfl
 simp [c9q,c23,c4,c2,c24,c25,c26] at g0 g1 g2 g3 g4 g5 g6 g7
 obtain⟨s0,e0,q0,_⟩:=lN Tryz.underlying9 g0
 obtain⟨s1,e1,q1,_⟩:=lN Tryz.underlying9 g1
 obtain⟨z2,e2,_,w2⟩:=lM Tryz.underlying22 g2
 obtain⟨z3,e3,_⟩:=lP Tryz.underlying4 g3
 obtain⟨z4,e4,_,w4⟩:=lM Tryz.underlying2 g4
 have k0:=agg_part hx (y:=y0) (by simp)
 have k1:=agg_part hx (y:=y1) (by simp)
 have k5:=agg_part hx (y:=y5) (by simp)
 have k6:=agg_part hx (y:=y6) (by simp)
 have k7:=agg_part hx (y:=y7) (by simp)
 have l0:=str_size q0
 have l1:=str_size q1
 obtain⟨ra,rG,rc,e5,hS5,hF5,hL5,_⟩:=reads_slice Tryz.underlying23 c101 (by decide) (fun _=>rfl) read_reg _ [v5] y5 g5 (by omega)
 obtain⟨ea,evs,ec,e6,hS6,hF6,hL6,_⟩:=reads_slice Tryz.underlying24 c60 (by decide) (fun _=>rfl) read_ev _ [v6] y6 g6 (by omega)
 obtain⟨ca,cms,cc,e7,hS7,hF7,hL7,_⟩:=reads_slice Tryz.underlying25 c116 (by decide) (fun _=>rfl) read_cm _ [v7] y7 g7 (by omega)
 simp at e0 e1 e2 e3 e4 e5 e6 e7
 subst e0 e1 e2 e3 e4 e5 e6 e7
 exact⟨⟨s0,s1,z2,z3,z4,ra,rc,rG,ea,ec,evs,ca,cc,cms⟩,rfl,⟨hS5,hS6,hS7⟩,⟨by simp only;omega,by simp only;omega,(u8_of w2).1,(u8_of w2).2,i64_of w4,hF5,by simp only;omega,hF6,by simp only;omega,hF7,by simp only;omega⟩,lD _⟩
end
end Go.Proofs.YtnlnmbcaongehaaGreatDoor
namespace Go.Proofs.YtnlnmbcaongehaaGreatDoor
open Go.RowKit
def OnePost (inn out:Int)(t:ByteArray)(w:lH)(e:Ending)(w':lH):Prop:=∃ d:Doc,e=.returned (.agg d.enc.toArray)∧d.c=aw18 inn out t∧d.lies w'∧d.fits∧(∀ b,d.uses b→w.heap.size≤b)∧Below w.heap.size w w'
theorem five_boxes (w:lH)(o1 o2 o3 o4 o5:Obj):((((((w.alloc o1).alloc o2).alloc o3).alloc o4).alloc o5).heap[w.heap.size+1]? =some o2∧(((((w.alloc o1).alloc o2).alloc o3).alloc o4).alloc o5).heap[w.heap.size+1+1]? =some o3∧(((((w.alloc o1).alloc o2).alloc o3).alloc o4).alloc o5).heap[w.heap.size+1+1+1]? =some o4∧(((((w.alloc o1).alloc o2).alloc o3).alloc o4).alloc o5).heap[w.heap.size+1+1+1+1]? =some o5)∧Below w.heap.size w (((((w.alloc o1).alloc o2).alloc o3).alloc o4).alloc o5):=by
 have a2:=lG (w.alloc o1) o2
 have a3:=lG ((w.alloc o1).alloc o2) o3
 have a4:=lG (((w.alloc o1).alloc o2).alloc o3) o4
 have a5:=lG ((((w.alloc o1).alloc o2).alloc o3).alloc o4) o5
 simp only [lH.size_alloc] at a2 a3 a4 a5
 refine⟨⟨?_,?_,?_,a5⟩,?_⟩
 · rw [lR _ _ _ (by simp;try omega),lR _ _ _ (by simp;try omega),lR _ _ _ (by simp)]
   exact a2
 · rw [lR _ _ _ (by simp;try omega),lR _ _ _ (by simp)]
   exact a3
 · rw [lR _ _ _ (by simp)]
   exact a4
 · exact((((((Below.refl _ _).alloc (Nat.le_refl _) _).alloc (by simp) _).alloc (by simp;try omega) _).alloc (by simp;try omega) _).alloc (by simp;try omega) _)
theorem one_slice {α:Type} {k:Nat} {enc:α→List lK} {Ok:lH→α→Prop} {w:lH} {b:Nat} {t:lL} (x:α)(h:w.heap[b]? =some (.cells (enc x).toArray t (0,0)))(ho:Ok w x):af k enc Ok w (some ⟨b,0,none⟩) [x]:=by
 refine .inr ⟨b,0,rfl,(Array.getElem?_eq_some_iff.1 h).1,fun i y hy=>?_⟩
 obtain⟨rfl,rfl⟩:i=0∧x=y:=by
  cases i with
  | zero=>exact⟨rfl,by simpa using hy⟩
  | succ n=>simp at hy
 refine⟨fun j v hv=>?_,ho⟩
 rw [show 0+0*k+j=j by omega,cell_of_row _ _ j _ t (0,0) h]
 simpa using hv
def oneRun (t:ByteArray):Run:=⟨t,0,false,false,⟨#[]⟩⟩
def oneDoc (n:Nat)(inn out:Int)(t:ByteArray):Doc:=⟨⟨#[]⟩,⟨#[]⟩,3,false,1,none,0,[],some ⟨n+1+1+1+1,0,none⟩,1,[⟨1,inn,out,⟨#[]⟩,1,⟨#[]⟩,some ⟨n+1+1+1,0,none⟩,1,[⟨some ⟨n+1+1,0,none⟩,1,[oneRun t]⟩]⟩],none,0,[]⟩
theorem nat0:0≤4000000:=lD _
theorem oneDoc_fits (n:Nat) {inn out:Int} {t:ByteArray} (hi:i64 inn)(ho:i64 out)(ht:t.size≤4000000):(oneDoc n inn out t).fits:=by
 refine⟨nat0,nat0,(by decide:(0:Int)≤3),(by decide:(3:Int)≤255),(by decide:(-9223372036854775808:Int)≤1∧(1:Int)≤9223372036854775807),(fun r hr=>by cases hr),nat0,fun e he=>?_,(by decide:1≤4000000),(fun c hc=>by cases hc),nat0⟩
 obtain rfl:=kV.1 he
 refine⟨(by decide:(-9223372036854775808:Int)≤1∧(1:Int)≤9223372036854775807),hi,ho,nat0,(by decide:(0:Int)≤1),(by decide:(1:Int)≤255),nat0,fun r hr=>?_,(by decide:1≤4000000)⟩
 obtain rfl:=kV.1 hr
 refine⟨fun q hq=>?_,(by decide:1≤4000000),?_⟩
 · obtain rfl:=kV.1 hq
   exact⟨ht,nat0,(by decide:(0:Int)≤0),(by decide:(0:Int)≤255)⟩
 · show t.size+0≤4000000
   omega
theorem one_calls (inn out:Int)(t:ByteArray)(w:lH)(hi:i64 inn)(ho:i64 out)(ht:t.size≤4000000):Calls Tryz.prog 73 #[.agg #[.int .i64 inn,.int .i64 out],.string t] w (OnePost inn out t w):=by
 have HQ:=h_ (fun(w':lH) (hl:(oneDoc w.heap.size inn out t).lies w') (hb:Below w.heap.size w w')=>(show OnePost inn out t w (.returned (.agg #[lS ⟨#[]⟩,.string ⟨#[]⟩,.int .u8 3,.bool false,.int .i64 1,.slice none 0 0,.slice (some ⟨w.heap.size+1+1+1+1,0,none⟩) 1 1,.slice none 0 0])) w' from⟨oneDoc w.heap.size inn out t,rfl,rfl,hl,oneDoc_fits _ hi ho ht,by
  rintro b (⟨h,_⟩|(⟨_,ad,ha,rfl⟩|⟨x,hx,hb⟩)|⟨h,_⟩)
  · exact absurd rfl h
  · have ha':some (⟨w.heap.size+1+1+1+1,0,none⟩:Addr)=some ad:=ha
    obtain rfl:=lC ha'
    show w.heap.size≤w.heap.size+1+1+1+1
    omega
  · obtain rfl:=kV.1 hx
    rcases hb with⟨_,ad,ha,rfl⟩|⟨r,hr,_,ad,ha,rfl⟩
    · have ha':some (⟨w.heap.size+1+1+1,0,none⟩:Addr)=some ad:=ha
      obtain rfl:=lC ha'
      show w.heap.size≤w.heap.size+1+1+1
      omega
    · obtain rfl:=kV.1 hr
      have ha':some (⟨w.heap.size+1+1,0,none⟩:Addr)=some ad:=ha
      obtain rfl:=lC ha'
      show w.heap.size≤w.heap.size+1+1
      omega
  · exact absurd rfl h,hb⟩))
 generalize OnePost inn out t w=Q at *
 have H5:=h_ (five_boxes w)
 go_enter Tryz.func73,Tryz.ntmps73
 go_wp2_with fail
 obtain⟨⟨h2,h3,h4,h5⟩,hb⟩:=H5.out (.cells #[.int .i64 inn,.int .i64 out] 46) (.cells #[lS ⟨#[]⟩,.string ⟨#[]⟩,.int .u8 3,.bool false,.int .i64 1,.slice none 0 0,.slice (some ⟨w.heap.size+1+1+1+1,0,none⟩) 1 1,.slice none 0 0] 27) (.cells #[lS t,.int .u8 0,.bool false,.bool false,.string ⟨#[]⟩] 75) (.cells #[.slice (some ⟨w.heap.size+1+1,0,none⟩) 1 1] 78) (.cells #[lT .i64 1,.int .i64 inn,.int .i64 out,.string ⟨#[]⟩,.int .u8 1,.string ⟨#[]⟩,.slice (some ⟨w.heap.size+1+1+1,0,none⟩) 1 1] 50)
 generalize (((((w.alloc (.cells #[.int .i64 inn,.int .i64 out] 46)).alloc (.cells #[lS ⟨#[]⟩,.string ⟨#[]⟩,.int .u8 3,.bool false,.int .i64 1,.slice none 0 0,.slice (some ⟨w.heap.size+1+1+1+1,0,none⟩) 1 1,.slice none 0 0] 27)).alloc (.cells #[lS t,.int .u8 0,.bool false,.bool false,.string ⟨#[]⟩] 75)).alloc (.cells #[.slice (some ⟨w.heap.size+1+1,0,none⟩) 1 1] 78)).alloc (.cells #[lT .i64 1,.int .i64 inn,.int .i64 out,.string ⟨#[]⟩,.int .u8 1,.string ⟨#[]⟩,.slice (some ⟨w.heap.size+1+1+1,0,none⟩) 1 1] 50))=wf at *
 have a4:∀ j,wf.cell? ⟨w.heap.size+1,j,none⟩=_:=fun j=>cell_of_row _ _ j _ 27 (0,0) h2
 have hl:(oneDoc w.heap.size inn out t).lies wf:=⟨.inl rfl,one_slice (t:=50) _ h5 (one_slice (t:=78) _ h4 (one_slice (t:=75) _ h3 trivial)),.inl rfl⟩
 refine bodyPost_ret (v:=.agg #[lS ⟨#[]⟩,.string ⟨#[]⟩,.int .u8 3,.bool false,.int .i64 1,.slice none 0 0,.slice (some ⟨w.heap.size+1+1+1+1,0,none⟩) 1 1,.slice none 0 0]) (by simp [results,Tryz.results73,go_sem,a4]) rfl ?_
 exact HQ.out wf hl hb
end Go.Proofs.YtnlnmbcaongehaaGreatDoor
