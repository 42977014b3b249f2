/- What one change does to the contents of a document, in plain words; diff.apply does just that to a document in order. The example's two changes: what each does to the document. -/
import Derived.Test.YtnlnmbcaongehaaGreatDoorN09
set_option linter.unusedVariables false
set_option linter.unusedSimpArgs false
set_option maxRecDepth 100000
set_option maxHeartbeats 12800000
open Go.Lib renaming hid→h_
open List renaming filter_eq_nil_iff→Su,mem_append→Sv,length_append→Sw,mem_cons→Sx,drop_length→Sy,mem_map→Sz,drop_eq_nil_of_le→SA,mem_filter→SB,pairwise_append→SC,filter_cons→SD,length_map→SE,mem_of_getElem?→SF,getElem_of_mem→SG,filter_eq_self→SH,pairwise_cons→SI,filter_append→SJ,append_assoc→SK,append_nil→SL,map_map→SM
open Option.some renaming inj→SN
open Go renaming World→SO,Calls→SQ,Ending→SR,Value→SS
open Nat renaming add_zero→SU,le_refl→SV,le_trans→SW
open Go.Lib renaming allEq→SX,compact→SY
open Go.Proofs.Tryz renaming prog→SZ,ntmps61→S5,ntmps60→S6,ntmps59→S7,func61→S8,func60→S9,func59→S_
open Go.RowKit renaming Below→Ta
open Go.RowKit.Below renaming refl→Tb
open Array renaming getElem?_eq_some_iff→Tc
namespace Go.Proofs.YtnlnmbcaongehaaGreatDoor
open Go.RowKit
theorem ye {α:Type} (lo eq:α→Bool)(R:α→α→Prop)(hR:∀ x y,R x y→lo x=false→lo y=false∧eq y=false) :
 ∀ xs:List α,xs.Pairwise R→∃ (A:List α) (M:Option α) (B:List α),xs=A++M.toList++B∧(∀ a∈A,lo a=true)∧(∀ m,M=some m→lo m=false∧eq m=true)∧(∀ b∈B,lo b=false∧eq b=false)
 | [],_=>⟨[],none,[],rfl,by simp,by simp,by simp⟩
 | x::l,h=>by
   rw [SI] at h
   cases hx:lo x
   · have hl:∀ b∈l,lo b=false∧eq b=false:=fun b hb=>hR x b (h.1 b hb) hx
     cases he:eq x
     · refine⟨[],none,x::l,rfl,by simp,by simp,fun b hb=>?_⟩
       rcases Sx.1 hb with rfl|hb
       · exact⟨hx,he⟩
       · exact hl b hb
     · exact⟨[],some x,l,rfl,by simp,fun m hm=>by obtain rfl:=SN hm;exact⟨hx,he⟩,hl⟩
   · obtain⟨A,M,B,hl,h1,h2,h3⟩:=ye lo eq R hR l h.2
     refine⟨x::A,M,B,by rw [hl];simp,fun a ha=>?_,h2,h3⟩
     rcases Sx.1 ha with rfl|ha
     · exact hx
     · exact h1 a ha
def setAt {α:Type} (lo eq:α→Bool)(v:Option α)(xs:List α):List α:=xs.filter lo++v.toList++xs.filter fun x=>!lo x&&!eq x
theorem Bk {α:Type} {lo eq:α→Bool} {A B:List α} {M:Option α} (h1:∀ a∈A,lo a=true)(h2:∀ m,M=some m→lo m=false∧eq m=true)(h3:∀ b∈B,lo b=false∧eq b=false)(v:Option α):setAt lo eq v (A++M.toList++B)=A++v.toList++B:=by
 have a1:A.filter lo=A:=SH.2 h1
 have a2:(A.filter fun x=>!lo x&&!eq x)=[]:=Su.2 fun a ha=>by simp [h1 a ha]
 have b1:B.filter lo=[]:=Su.2 fun b hb=>by simp [(h3 b hb).1]
 have b2:(B.filter fun x=>!lo x&&!eq x)=B:=SH.2 fun b hb=>by simp [h3 b hb]
 have m1:M.toList.filter lo=[]:=Su.2 fun m hm=>by simp [(h2 m (by simpa using hm)).1]
 have m2:(M.toList.filter fun x=>!lo x&&!eq x)=[]:=Su.2 fun m hm=>by simp [h2 m (by simpa using hm)]
 unfold setAt
 simp only [SJ,a1,a2,b1,b2,m1,m2,SL,List.nil_append]
theorem qw {α:Type} {lo eq:α→Bool} {R:α→α→Prop} (hR:∀ x y,R x y→lo x=false→lo y=false∧eq y=false) {xs:List α} (hp:xs.Pairwise R)(v:Option α)(h1:∀ y,v=some y→∀ a,lo a=true→R a y)(h2:∀ y,v=some y→∀ b,lo b=false→eq b=false→R y b):(setAt lo eq v xs).Pairwise R:=by
 obtain⟨A,M,B,rfl,q1,q2,q3⟩:=ye lo eq R hR xs hp
 rw [Bk q1 q2 q3]
 have hAB:(A++B).Pairwise R:=hp.sublist (by rw [SK];exact List.Sublist.append (List.Sublist.refl _) (List.sublist_append_right _ _))
 rw [SC] at hAB
 obtain⟨hA,hB,hc⟩:=hAB
 rw [SK,SC]
 refine⟨hA,?_,fun a ha x hx=>?_⟩
 · cases v with
   | none=>simpa using hB
   | some y=>exact SI.2 ⟨fun b hb=>h2 y rfl b (q3 b hb).1 (q3 b hb).2,hB⟩
 · rcases Sv.1 hx with hx|hx
   · exact h1 x (by simpa using hx) a (q1 a ha)
   · exact hc a ha x hx
theorem CF {α:Type} (lo eq:α→Bool)(v:Option α)(xs:List α):(setAt lo eq v xs).length≤xs.length+1:=by
 have h:∀ l:List α,(l.filter lo).length+(l.filter fun x=>!lo x&&!eq x).length≤l.length:=by
  intro l
  induction l with
  | nil=>simp
  | cons x l ih =>
    simp only [SD]
    cases lo x<;>cases eq x<;>simp<;>omega
 have:=h xs
 unfold setAt
 rw [Sw,Sw]
 cases v<;>simp<;>omega
theorem yg {α:Type} {lo eq:α→Bool} {v:Option α} {xs:List α} {x:α} (h:x∈setAt lo eq v xs):x∈xs∨v=some x:=by
 unfold setAt at h
 rcases Sv.1 h with h|h
 · rcases Sv.1 h with h|h
   · exact .inl ((SB.1 h).1)
   · exact .inr (by simpa using h)
 · exact .inl ((SB.1 h).1)
def evLe (x y:EvC):Bool:=decide (x.inn<y.inn∨(x.inn=y.inn∧x.id≤y.id))
def fM (l:List EvC):List EvC:=l.mergeSort evLe
theorem iK (l:List EvC):(fM l).Perm l:=List.mergeSort_perm l _
theorem ph (l:List EvC):(fM l).Pairwise fun x y=>evLe x y=true :=
 List.pairwise_mergeSort (fun a b c h1 h2=>by simp only [evLe,decide_eq_true_eq] at *;omega) (fun a b=>by simp only [evLe,Bool.or_eq_true,decide_eq_true_eq];omega) l
theorem BK {l:List EvC} (h:l.Pairwise fun x y=>x.id≠y.id) {a b:EvC} (ha:a∈l)(hb:b∈l)(he:a.id=b.id):a=b:=by
 obtain⟨i,hi,rfl⟩:=SG ha
 obtain⟨j,hj,rfl⟩:=SG hb
 rw [List.pairwise_iff_getElem] at h
 rcases Nat.lt_trichotomy i j with hij|rfl|hij
 · exact absurd he (h i j hi hj hij)
 · rfl
 · exact absurd he.symm (h j i hj hi hij)
theorem pg {xs l:List EvC} (hp:xs.Perm l)(hs:xs.Pairwise fun x y=>evLe x y=true)(hi:l.Pairwise fun x y=>x.id≠y.id):xs=fM l:=by
 refine List.Perm.eq_of_pairwise (le:=fun x y=>evLe x y=true) (fun a b ha hb h1 h2=>?_) hs (ph l) (hp.trans (iK l).symm)
 simp only [evLe,decide_eq_true_eq] at h1 h2
 exact BK hi (hp.subset ha) ((iK l).subset hb) (by omega)
theorem GD {l:List EvC} (hi:l.Pairwise fun x y=>x.id≠y.id):(fM l).Pairwise EvC.lt∧(fM l).Pairwise fun x y=>x.id≠y.id:=by
 have h2:(fM l).Pairwise fun x y=>x.id≠y.id:=hi.perm (iK l).symm (fun h h'=>h h'.symm)
 refine⟨?_,h2⟩
 refine((ph l).and h2).imp fun h=>?_
 obtain⟨h,h'⟩:=h
 simp only [evLe,decide_eq_true_eq] at h
 simp only [EvC.lt]
 omega
def CE (eV:List EvC)(id:Int)(v:Option EvC):List EvC:=fM (eV.filter (fun x=>!(x.id==id))++v.toList)
theorem DG {eV:List EvC} (h:eV.Pairwise fun x y=>x.id≠y.id)(id:Int)(v:Option EvC)(hv:∀ y,v=some y→y.id=id):(eV.filter (fun x=>!(x.id==id))++v.toList).Pairwise fun x y=>x.id≠y.id:=by
 rw [SC]
 refine⟨h.sublist List.filter_sublist,by cases v<;>simp,fun a ha b hb=>?_⟩
 have h1:=(SB.1 ha).2
 have h2:=hv b (by simpa using hb)
 simp at h1
 omega
def ChgC.yI (c:ChgC):Reg:=⟨c.name,c.nr.top,c.nr.aK,c.nr.left,c.nr.width,c.nr.align,c.nr.bottom⟩
def ChgC.newEv (c:ChgC):EvC:=⟨c.id,c.ne.inn,c.ne.out,c.ne.region,c.ne.kind,c.ne.speaker,c.ne.rows⟩
def ChgC.FF (c:ChgC):Cm:=⟨c.id,c.nc.ev,c.nc.frm,c.nc.til,c.nc.author,c.nc.text,c.nc.done,c.nc.lost⟩
def KI (c:ChgC):Int:=if c.sec<1∨4<c.sec then 3 else if (c.added&&c.gone||(c.sec==1&&(c.added||c.gone)))=true then 1 else 0
def Bq (k:ByteArray)(x:Reg):Bool:=Op.bytesLess x.name.toList k.toList
def oT (k:ByteArray)(x:Reg):Bool:=x.name.toList==k.toList
def cmLo (k:Int)(x:Cm):Bool:=decide (x.id<k)
def cmAt (k:Int)(x:Cm):Bool:=x.id==k
def evAt (k:Int)(x:EvC):Bool:=x.id==k
def yE (rG:List Reg)(c:ChgC):Int:=qe c.added (rG.find? (oT c.name)).isSome (mD ((rG.find? (oT c.name)).getD aD) c.rg)
def De (cM:List Cm)(c:ChgC):Int:=qe c.added (cM.find? (cmAt c.id)).isSome (cmEq ((cM.find? (cmAt c.id)).getD aM) c.oc)
def C9 (eV:List EvC)(c:ChgC):Int:=qe c.added (eV.find? (evAt c.id)).isSome (ob ((eV.find? (evAt c.id)).getD bC) c.oe)
def pC (d:DocC)(c:ChgC):Int × DocC :=
 if KI c≠0 then (KI c,d)
 else if c.sec=1 then (if hdEq d.hd c.oh=true then (0,⟨c.nh,d.rG,d.eV,d.cM⟩) else (16,d))
 else if c.sec=2 then (if yE d.rG c=0 then (0,⟨d.hd,setAt (Bq c.name) (oT c.name) (if c.gone=true then none else some c.yI) d.rG,d.eV,d.cM⟩) else (yE d.rG c,d))
 else if c.sec=3 then (if C9 d.eV c=0 then (0,⟨d.hd,d.rG,CE d.eV c.id (if c.gone=true then none else some c.newEv),d.cM⟩) else (C9 d.eV c,d))
 else (if De d.cM c=0 then (0,⟨d.hd,d.rG,d.eV,setAt (cmLo c.id) (cmAt c.id) (if c.gone=true then none else some c.FF) d.cM⟩) else (De d.cM c,d))
theorem Lv (k:ByteArray)(x y:Reg)(h:baLt x.name y.name)(hx:Bq k x=false):Bq k y=false∧oT k y=false:=by
 have hx':¬ baLt x.name k:=fun h=>by rw [Bq,(Cd _ _).2 h] at hx;cases hx
 constructor
 · cases hy:Bq k y
   · rfl
   · exact absurd (vz h ((Cd _ _).1 hy)) hx'
 · cases hy:oT k y
   · rfl
   · have e:=qU (a:=y.name) (b:=k) (by simpa [oT] using hy)
     rw [e] at h
     exact absurd h hx'
theorem PD (k:Int)(x y:Cm)(h:x.id<y.id)(hx:cmLo k x=false):cmLo k y=false∧cmAt k y=false:=by
 simp only [cmLo,cmAt,decide_eq_false_iff_not,beq_eq_false_iff_ne] at *
 omega
theorem tD.step {St:Int→Doc→Prop} {err:Int} {c':DocC} {d:Doc} {g:Nat} {w:SO} {e:SR} {w':SO} (h:tD err c' d g w e w')(hS:∀ d':Doc,d'.c=c'→St err d'):JG St d g w e w':=by
 obtain⟨rfl,d',h1,h2,h3,h4,h5⟩:=h
 exact⟨err,d',rfl,⟨h1,h3,fun b hu=>(h4 b hu).1⟩,fun b hu=>(h4 b hu).2,h5,hS d' h2⟩
theorem G4 {d:DocC} {c:ChgC} (h:ES d):ES (pC d c).2:=by
 unfold pC
 split
 · exact h
 · split
   · split
     · exact⟨h.rG,h.cM,h.ids,h.ord⟩
     · exact h
   · split
     · split
       · refine⟨?_,h.cM,h.ids,h.ord⟩
         have hv:∀ y,(if c.gone=true then none else some c.yI)=some y→y.name=c.name:=by
          intro y hy
          split at hy
          · cases hy
          · obtain rfl:=SN hy
            rfl
         refine qw (Lv c.name) h.rG _ (fun y hy a ha=>?_) (fun y hy b hb he=>?_)
         · rw [hv y hy]
           exact(Cd _ _).1 ha
         · rw [hv y hy]
           refine vC (fun h=>?_) (fun h=>?_)
           · rw [Bq,(Cd _ _).2 h] at hb
             cases hb
           · rw [oT,h] at he
             simp at he
       · exact h
     · split
       · split
         · have hv:∀ y,(if c.gone=true then none else some c.newEv)=some y→y.id=c.id:=by
            intro y hy
            split at hy
            · cases hy
            · obtain rfl:=SN hy
              rfl
           have:=GD (DG h.ids c.id _ hv)
           exact⟨h.rG,h.cM,this.2,this.1⟩
         · exact h
       · split
         · refine⟨h.rG,?_,h.ids,h.ord⟩
           have hv:∀ y,(if c.gone=true then none else some c.FF)=some y→y.id=c.id:=by
            intro y hy
            split at hy
            · cases hy
            · obtain rfl:=SN hy
              rfl
           refine qw (PD c.id) h.cM _ (fun y hy a ha=>?_) (fun y hy b hb he=>?_)
           · rw [hv y hy]
             simpa [cmLo] using ha
           · rw [hv y hy]
             simp only [cmLo,cmAt,decide_eq_false_iff_not,beq_eq_false_iff_ne] at hb he
             omega
         · exact h
def EvC.fits (x:EvC):Prop:=i64 x.id∧i64 x.inn∧i64 x.out∧x.region.size≤4000000∧0≤x.kind∧x.kind≤255∧x.speaker.size≤4000000∧(∀ r∈x.rows,(∀ y∈r,y.fits)∧r.length≤4000000∧fE r≤4000000)∧x.rows.length≤4000000
theorem Ev.fits_c (x:Ev):x.c.fits↔x.fits:=by
 unfold EvC.fits Ev.fits
 simp only [Ev.c,SE,Sz,forall_exists_index,and_imp,forall_apply_eq_imp_iff₂]
 rfl
def Hd.fits (h:Hd):Prop:=h.title.size≤4000000∧h.lang.size≤4000000∧0≤h.rate∧h.rate≤255∧i64 h.last
def DocC.fits (n:Nat)(d:DocC):Prop:=d.hd.fits∧(∀ r∈d.rG,r.fits)∧d.rG.length≤n∧(∀ x∈d.eV,x.fits)∧d.eV.length≤n∧(∀ c∈d.cM,c.fits)∧d.cM.length≤n
theorem DocC.fits.doc {d:Doc} {n:Nat} (h:d.c.fits n)(hn:n≤4000000):d.fits:=by
 obtain⟨⟨h1,h2,h3,h4,h5⟩,h6,h7,h8,h9,h10,h11⟩:=h
 have h9':d.eV.length≤n:=by
  have:d.c.eV.length=d.eV.length:=SE ..
  omega
 exact⟨h1,h2,h3,h4,h5,h6,SW h7 hn,fun x hx=>(Ev.fits_c x).1 (h8 x.c (Sz.2 ⟨x,hx,rfl⟩)),by omega,h10,SW h11 hn⟩
theorem Doc.fits.c {d:Doc} {n:Nat} (h:d.fits)(h1:d.rG.length≤n)(h2:d.eV.length≤n)(h3:d.cM.length≤n):d.c.fits n:=by
 obtain⟨q1,q2,q3,q4,q5,q6,q7,q8,q9,q10,q11⟩:=h
 refine⟨⟨q1,q2,q3,q4,q5⟩,q6,h1,fun x hx=>?_,by show(d.eV.map Ev.c).length≤n;rw [SE];exact h2,q10,h3⟩
 obtain⟨y,hy,rfl⟩:=Sz.1 hx
 exact(Ev.fits_c y).2 (q8 y hy)
theorem DocC.fits.mono {d:DocC} {n m:Nat} (h:d.fits n)(hn:n≤m):d.fits m:=by
 obtain⟨h1,h2,h3,h4,h5,h6,h7⟩:=h
 exact⟨h1,h2,by omega,h4,by omega,h6,by omega⟩
def ChgC.full (c:ChgC):Prop:=0≤c.sec∧i64 c.id∧c.name.size≤4000000∧c.nh.fits∧c.nr.fits∧c.oe.fits∧c.ne.fits∧c.nc.fits
theorem By {c:ChgC} (h:c.full):c.yI.fits:=by
 obtain⟨_,_,h1,_,⟨_,h2⟩,_⟩:=h
 exact⟨h1,h2⟩
theorem DY {c:ChgC} (h:c.full):c.newEv.fits:=by
 obtain⟨_,h1,_,_,_,_,⟨_,h2⟩,_⟩:=h
 exact⟨h1,h2⟩
theorem DZ {c:ChgC} (h:c.full):c.FF.fits:=by
 obtain⟨_,h1,_,_,_,_,_,⟨_,h2⟩⟩:=h
 exact⟨h1,h2⟩
theorem Fj (eV:List EvC)(id:Int)(v:Option EvC):(CE eV id v).length≤eV.length+1:=by
 unfold CE fM
 rw [List.length_mergeSort,Sw]
 have:=List.length_filter_le (fun x:EvC=>!(x.id==id)) eV
 cases v<;>simp<;>omega
theorem DF {eV:List EvC} {id:Int} {v:Option EvC} {x:EvC} (h:x∈CE eV id v):x∈eV∨v=some x:=by
 have h1:=(iK _).subset h
 rcases Sv.1 h1 with h1|h1
 · exact .inl (SB.1 h1).1
 · exact .inr (by simpa using h1)
theorem BI {α:Type} {b:Bool} {y x:α} (h:(if b=true then none else some y)=some x):x=y:=by
 split at h
 · cases h
 · exact(SN h).symm
theorem Ce {d:DocC} {c:ChgC} {n:Nat} (h:d.fits n)(hc:c.full):(pC d c).2.fits (n+1):=by
 have h0:=h.mono (Nat.le_succ n)
 obtain⟨h1,h2,h3,h4,h5,h6,h7⟩:=h
 unfold pC
 split
 · exact h0
 · split
   · split
     · exact⟨hc.2.2.2.1,h2,by simp only;omega,h4,by simp only;omega,h6,by simp only;omega⟩
     · exact h0
   · split
     · split
       · refine⟨h1,fun x hx=>?_,?_,h4,by simp only;omega,h6,by simp only;omega⟩
         · rcases yg hx with hx|hx
           · exact h2 x hx
           · rw [BI hx]
             exact By hc
         · have:=CF (Bq c.name) (oT c.name) (if c.gone=true then none else some c.yI) d.rG
           simp only
           omega
       · exact h0
     · split
       · split
         · refine⟨h1,h2,by simp only;omega,fun x hx=>?_,?_,h6,by simp only;omega⟩
           · rcases DF hx with hx|hx
             · exact h4 x hx
             · rw [BI hx]
               exact DY hc
           · have:=Fj d.eV c.id (if c.gone=true then none else some c.newEv)
             simp only
             omega
         · exact h0
       · split
         · refine⟨h1,h2,by simp only;omega,h4,by simp only;omega,fun x hx=>?_,?_⟩
           · rcases yg hx with hx|hx
             · exact h6 x hx
             · rw [BI hx]
               exact DZ hc
           · have:=CF (cmLo c.id) (cmAt c.id) (if c.gone=true then none else some c.FF) d.cM
             simp only
             omega
         · exact h0
def sl:DocC→List ChgC→Int × DocC
 | d,[]=>(0,d)
 | d,c::l=>if (pC d c).1=0 then sl (pC d c).2 l else ((pC d c).1,d)
def EvC.rep (x:EvC):Ev:=⟨x.id,x.inn,x.out,x.region,x.kind,x.speaker,none,0,x.rows.map fun r=>⟨none,0,r⟩⟩
def DocC.rep (d:DocC):Doc:=⟨d.hd.title,d.hd.lang,d.hd.rate,d.hd.drop,d.hd.last,none,0,d.rG,none,0,d.eV.map EvC.rep,none,0,d.cM⟩
theorem EvC.rep_c (x:EvC):x.rep.c=x:=by
 obtain⟨id,inn,out,region,kind,speaker,rows⟩:=x
 simp [EvC.rep,Ev.c,SM,Function.comp_def]
theorem DocC.rep_c (d:DocC):d.rep.c=d:=by
 obtain⟨⟨title,lang,rate,drop,last⟩,rG,eV,cM⟩:=d
 have:(eV.map EvC.rep).map Ev.c=eV:=by
  rw [SM]
  exact(List.map_congr_left fun x _=>EvC.rep_c x).trans (List.map_id' eV)
 simp only [DocC.rep,Doc.c,Doc.hd,this]
def cErr (d:DocC):Int:=aL d.rep
theorem eN (d:Doc):aL d=cErr d.c:=B6 (DocC.rep_c d.c).symm
def EY:DocC:=⟨aZ,[],[],[]⟩
def zDoc:Doc:=⟨⟨#[]⟩,⟨#[]⟩,0,false,0,none,0,[],none,0,[],none,0,[]⟩
theorem rS (w:SO):zDoc.lies w:=⟨.inl rfl,.inl rfl,.inl rfl⟩
theorem rU (n:Nat):zDoc.c.fits n:=⟨⟨by decide,by decide,by decide,by decide,⟨by decide,by decide⟩⟩,by simp [zDoc,Doc.c],by simp [zDoc,Doc.c],by simp [zDoc,Doc.c],by simp [zDoc,Doc.c],by simp [zDoc,Doc.c],by simp [zDoc,Doc.c]⟩
theorem one7 (a b c:Int)(s:ByteArray)(k:Int)(p:ByteArray)(ad:Option Addr)(n m:Nat):∀ u∈[SS.int .i64 a,.int .i64 b,.int .i64 c,.string s,.int .u8 k,.string p,.slice ad n m],u.oneCell'=true:=by
 intro u hu
 simp only [Sx,List.not_mem_nil,or_false] at hu
 rcases hu with rfl|rfl|rfl|rfl|rfl|rfl|rfl<;>rfl
end Go.Proofs.YtnlnmbcaongehaaGreatDoor
namespace Go.Proofs.YtnlnmbcaongehaaGreatDoor
open Go.RowKit
attribute [local go_sem ↓] Go.wp_at_zero Go.wp_at_succ
theorem allEq_len {α:Type} (eq:α→α→Bool):∀ xs ys:List α,xs.length≠ys.length→SX eq xs ys=false
 | [],[],h=>absurd rfl h
 | [],_::_,_=>rfl
 | _::_,[],_=>rfl
 | x::xs,y::ys,h=>by
   have:=allEq_len eq xs ys (by simpa using h)
   simp only [SX,this,Bool.and_false]
theorem qf {α:Type} (eq:α→α→Bool)(h:∀ x,eq x x=true):∀ xs:List α,SX eq xs xs=true
 | []=>rfl
 | x::l=>by simp only [SX,h x,qf eq h l,Bool.and_self]
theorem ui (a b:Option Addr)(c c':Nat)(xs ys:List Reg)(w:SO)(hx:af 7 Reg.enc Flat w a xs)(hy:af 7 Reg.enc Flat w b ys)(hl:xs.length≤4000000)(hl':ys.length≤4000000) :
 SQ SZ 59 #[.slice a xs.length c,.slice b ys.length c'] w fun e w'=>e=.returned (.bool (SX mD xs ys))∧Ta w.heap.size w w':=by
 generalize hR:SX mD xs ys=R
 by_cases hle:xs.length=ys.length
 · have HX:=h_ (fun(w1:SO) (h:Ta w.heap.size w w1)=>af.keeps Flat.keeps _ _ _ _ h hx)
   have HY:=h_ (fun(w1:SO) (h:Ta w.heap.size w w1)=>af.keeps Flat.keeps _ _ _ _ h hy)
   have H0:=h_ (show SX mD (xs.drop 0) (ys.drop 0)=R from hR)
   rw [←hle]
   have Ac:=h_ hle
   clear hle hx hy hl' hR
   go_enter S_,S7
   go_wp2_with fail
   go_loopw [13] (fun i wr=>∃ k:Nat,k≤xs.length∧i=.int .i64 k∧SX mD (xs.drop k) (ys.drop k)=R∧Ta w.heap.size w wr) (fun i _=>xs.length-(intOf i).toNat)
   case atStart=>exact⟨0,by omega,rfl,H0.out,Tb _ _⟩
   case round =>
    clear H0
    obtain⟨k,hk,rfl,hp,hb⟩:=hrel
    by_cases hlt:k<xs.length
    · obtain⟨b0,off,x,rfl,hbl,hxk,hcx,_⟩:=(HX.out _ hb).at_ hlt
      obtain⟨b0',off',y,rfl,Gg,hyk,hcy,_⟩:=(HY.out _ hb).at_ (show k<ys.length from by have:=Ac.out;omega)
      rw [eT xs k x hxk,eT ys k y hyk,SX] at hp
      have r1:=fun wx=>ym x y wx
      have d0:=hcx 0 _ rfl;have d1:=hcx 1 _ rfl;have d2:=hcx 2 _ rfl;have d3:=hcx 3 _ rfl;have d4:=hcx 4 _ rfl;have d5:=hcx 5 _ rfl;have d6:=hcx 6 _ rfl;have e0:=hcy 0 _ rfl;have e1:=hcy 1 _ rfl;have e2:=hcy 2 _ rfl;have e3:=hcy 3 _ rfl;have e4:=hcy 4 _ rfl;have e5:=hcy 5 _ rfl;have e6:=hcy 6 _ rfl
      generalize hQ:mD x y=EQ at hp r1
      obtain⟨xnm,xtop,xheight,xleft,xwidth,xalign,xbottom⟩:=x
      obtain⟨ynm,ytop,yheight,yleft,ywidth,yalign,ybottom⟩:=y
      simp only [Reg.enc,SU] at r1 d0 e0 d1 e1 d2 e2 d3 e3 d4 e4 d5 e5 d6 e6
      have QJ:=h_ (fun n=>below_drewN hb n)
      clear hcx hcy hxk hyk hQ
      cases EQ with
      | true =>
        have HP:=h_ (by simpa using hp)
        clear hp
        go_wp2_with fail
        go_quiet (fail)
        go_wp2_with fail
        go_roundw
        case rel=>exact⟨k+1,by omega,by go_num,HP.out,QJ.out _⟩
        all_goals first|(simp [intOf];done)|(simp [intOf];omega)
      | false =>
        have HP:=h_ (show R=false from by rw [←hp];rfl)
        clear hp
        go_wp2_with fail
        go_quiet (fail)
        go_wp2_with fail
        go_ret
        exact⟨by rw [HP.out];rfl,QJ.out _⟩
    · obtain rfl:k=xs.length:=by omega
      have HP:=h_ (show R=true from by
       rw [←hp,Sy,SA (by have:=Ac.out;omega)]
       rfl)
      clear hp
      go_wp2_with fail
      go_ret
      exact⟨by rw [HP.out];rfl,hb⟩
 · have HP:=h_ (show R=false from by rw [←hR];exact allEq_len _ _ _ hle)
   have hne:(((xs.length:Nat):Int) != ((ys.length:Nat):Int))=true:=by
    simp only [bne_iff_ne,ne_eq]
    omega
   clear hx hy hR hle
   go_enter S_,S7
   go_wp2_with fail
   go_ret
   exact⟨by rw [HP.out];rfl,Tb _ _⟩
theorem xg (a b:Option Addr)(c c':Nat)(xs ys:List Cm)(w:SO)(hx:af 8 Cm.enc Flat w a xs)(hy:af 8 Cm.enc Flat w b ys)(hl:xs.length≤4000000)(hl':ys.length≤4000000) :
 SQ SZ 61 #[.slice a xs.length c,.slice b ys.length c'] w fun e w'=>e=.returned (.bool (SX cmEq xs ys))∧Ta w.heap.size w w':=by
 generalize hR:SX cmEq xs ys=R
 by_cases hle:xs.length=ys.length
 · have HX:=h_ (fun(w1:SO) (h:Ta w.heap.size w w1)=>af.keeps Flat.keeps _ _ _ _ h hx)
   have HY:=h_ (fun(w1:SO) (h:Ta w.heap.size w w1)=>af.keeps Flat.keeps _ _ _ _ h hy)
   have H0:=h_ (show SX cmEq (xs.drop 0) (ys.drop 0)=R from hR)
   rw [←hle]
   have Ac:=h_ hle
   clear hle hx hy hl' hR
   go_enter S8,S5
   go_wp2_with fail
   go_loopw [13] (fun i wr=>∃ k:Nat,k≤xs.length∧i=.int .i64 k∧SX cmEq (xs.drop k) (ys.drop k)=R∧Ta w.heap.size w wr) (fun i _=>xs.length-(intOf i).toNat)
   case atStart=>exact⟨0,by omega,rfl,H0.out,Tb _ _⟩
   case round =>
    clear H0
    obtain⟨k,hk,rfl,hp,hb⟩:=hrel
    by_cases hlt:k<xs.length
    · obtain⟨b0,off,x,rfl,hbl,hxk,hcx,_⟩:=(HX.out _ hb).at_ hlt
      obtain⟨b0',off',y,rfl,Gg,hyk,hcy,_⟩:=(HY.out _ hb).at_ (show k<ys.length from by have:=Ac.out;omega)
      rw [eT xs k x hxk,eT ys k y hyk,SX] at hp
      have r1:=fun wx=>oP x y wx
      have d0:=hcx 0 _ rfl;have d1:=hcx 1 _ rfl;have d2:=hcx 2 _ rfl;have d3:=hcx 3 _ rfl;have d4:=hcx 4 _ rfl;have d5:=hcx 5 _ rfl;have d6:=hcx 6 _ rfl;have d7:=hcx 7 _ rfl;have e0:=hcy 0 _ rfl;have e1:=hcy 1 _ rfl;have e2:=hcy 2 _ rfl;have e3:=hcy 3 _ rfl;have e4:=hcy 4 _ rfl;have e5:=hcy 5 _ rfl;have e6:=hcy 6 _ rfl;have e7:=hcy 7 _ rfl
      generalize hQ:cmEq x y=EQ at hp r1
      obtain⟨xid,xev,xfrm,xtil,xau,xtx,xdn,xlo⟩:=x
      obtain⟨yid,yev,yfrm,ytil,yau,ytx,ydn,ylo⟩:=y
      simp only [Cm.enc,SU] at r1 d0 e0 d1 e1 d2 e2 d3 e3 d4 e4 d5 e5 d6 e6 d7 e7
      have QJ:=h_ (fun n=>below_drewN hb n)
      clear hcx hcy hxk hyk hQ
      cases EQ with
      | true =>
        have HP:=h_ (by simpa using hp)
        clear hp
        go_wp2_with fail
        go_quiet (fail)
        go_wp2_with fail
        go_roundw
        case rel=>exact⟨k+1,by omega,by go_num,HP.out,QJ.out _⟩
        all_goals first|(simp [intOf];done)|(simp [intOf];omega)
      | false =>
        have HP:=h_ (show R=false from by rw [←hp];rfl)
        clear hp
        go_wp2_with fail
        go_quiet (fail)
        go_wp2_with fail
        go_ret
        exact⟨by rw [HP.out];rfl,QJ.out _⟩
    · obtain rfl:k=xs.length:=by omega
      have HP:=h_ (show R=true from by
       rw [←hp,Sy,SA (by have:=Ac.out;omega)]
       rfl)
      clear hp
      go_wp2_with fail
      go_ret
      exact⟨by rw [HP.out];rfl,hb⟩
 · have HP:=h_ (show R=false from by rw [←hR];exact allEq_len _ _ _ hle)
   have hne:(((xs.length:Nat):Int) != ((ys.length:Nat):Int))=true:=by
    simp only [bne_iff_ne,ne_eq]
    omega
   clear hx hy hR hle
   go_enter S8,S5
   go_wp2_with fail
   go_ret
   exact⟨by rw [HP.out];rfl,Tb _ _⟩
theorem xf (a b:Option Addr)(c c':Nat)(xs ys:List Ev)(w:SO)(hx:kJ w a xs)(hy:kJ w b ys)(hf:∀ x∈xs,x.rows.length≤4000000∧∀ r∈x.rows,r.runs.length≤4000000)(hf':∀ x∈ys,x.rows.length≤4000000∧∀ r∈x.rows,r.runs.length≤4000000)(hl:xs.length≤4000000)(hl':ys.length≤4000000) :
 SQ SZ 60 #[.slice a xs.length c,.slice b ys.length c',.func (.func 28) #[] #[]] w fun e w'=>e=.returned (.bool (SX evEq xs ys))∧Ta w.heap.size w w':=by
 generalize hR:SX evEq xs ys=R
 by_cases hle:xs.length=ys.length
 · have HX:=h_ (fun(w1:SO) (h:Ta w.heap.size w w1)=>hx.later h)
   have HY:=h_ (fun(w1:SO) (h:Ta w.heap.size w w1)=>hy.later h)
   have H0:=h_ (show SX evEq (xs.drop 0) (ys.drop 0)=R from hR)
   have HF:=h_ hf
   have HG:=h_ hf'
   rw [←hle]
   have Ac:=h_ hle
   clear hle hx hy hl' hR hf hf'
   go_enter S9,S6
   go_wp2_with fail
   go_loopw [17] (fun i wr=>∃ k:Nat,k≤xs.length∧i=.int .i64 k∧SX evEq (xs.drop k) (ys.drop k)=R∧Ta w.heap.size w wr) (fun i _=>xs.length-(intOf i).toNat)
   case atStart=>exact⟨0,by omega,rfl,H0.out,Tb _ _⟩
   case round =>
    clear H0
    obtain⟨k,hk,rfl,hp,hb⟩:=hrel
    by_cases hlt:k<xs.length
    · obtain⟨b0,off,x,rfl,hbl,hxk,hcx,hxl⟩:=(HX.out _ hb).at_ hlt
      obtain⟨b0',off',y,rfl,Gg,hyk,hcy,hyl⟩:=(HY.out _ hb).at_ (show k<ys.length from by have:=Ac.out;omega)
      rw [eT xs k x hxk,eT ys k y hyk,SX] at hp
      have hfx:=HF.out x (SF hxk)
      have wU:=HG.out y (SF hyk)
      have JZ:=h_ (fun(w1:SO) (h:Ta wr.heap.size wr w1)=>fY x y w1 (Ev.keeps _ _ _ h hxl) (Ev.keeps _ _ _ h hyl) hfx.2 wU.2 hfx.1)
      have hcell:∀ (w1:SO),Ta wr.heap.size wr w1→∀ (q:Nat) (u:SS),y.enc[q]? =some u→w1.cell? ⟨b0',off'+k*7+q,none⟩=some u:=fun w1 h q u e=>(h.cell (p:=⟨b0',off'+k*7+q,none⟩) Gg).trans (hcy q u e)
      have d0:=hcx 0 _ rfl;have d1:=hcx 1 _ rfl;have d2:=hcx 2 _ rfl;have d3:=hcx 3 _ rfl;have d4:=hcx 4 _ rfl;have d5:=hcx 5 _ rfl;have d6:=hcx 6 _ rfl
      have HA1:=h_ (fun(o:Obj)=>((Tb wr.heap.size wr).alloc (SV _) o))
      have HA2:=h_ (fun(o o':Obj)=>(((Tb wr.heap.size wr).alloc (SV _) o).alloc (by simp) o':Ta wr.heap.size wr ((wr.alloc o).alloc o')))
      have e0:=fun(o:Obj)=>hcell _ (HA1.out o) 0 _ rfl
      have e1:=fun(o:Obj)=>hcell _ (HA1.out o) 1 _ rfl
      have e2:=fun(o:Obj)=>hcell _ (HA1.out o) 2 _ rfl
      have e3:=fun(o:Obj)=>hcell _ (HA1.out o) 3 _ rfl
      have e4:=fun(o:Obj)=>hcell _ (HA1.out o) 4 _ rfl
      have e5:=fun(o:Obj)=>hcell _ (HA1.out o) 5 _ rfl
      have e6:=fun(o:Obj)=>hcell _ (HA1.out o) 6 _ rfl
      generalize hQ:evEq x y=EQ at hp JZ
      obtain⟨xid,xin,xout,xreg,xkind,xsp,xa,xc,xrows⟩:=x
      obtain⟨yid,yin,yout,yreg,ykind,ysp,ya,yc,yrows⟩:=y
      simp only [Ev.enc,SU] at JZ d0 e0
      have kI:=h_ hb
      clear hcx hcy hxk hyk hQ hcell hfx wU hxl hyl
      go_wp2_with fail
      refine(JZ.out _ (HA2.out _ _)).mono ?_
      rintro e w5 ⟨rfl,hb5⟩
      have uS:=h_ (kI.out.trans (((HA2.out _ _).trans (hb5.mono (HA2.out _ _).size)).mono kI.out.size))
      clear hb5 JZ
      cases EQ with
      | true =>
        have HP:=h_ (by simpa using hp)
        clear hp
        go_wp2_with fail
        go_roundw
        case rel=>exact⟨k+1,by omega,by go_num,HP.out,uS.out⟩
        all_goals first|(simp [intOf];done)|(simp [intOf];omega)
      | false =>
        have HP:=h_ (show R=false from by rw [←hp];rfl)
        clear hp
        go_wp2_with fail
        go_ret
        exact⟨by rw [HP.out];rfl,uS.out⟩
    · obtain rfl:k=xs.length:=by omega
      have HP:=h_ (show R=true from by
       rw [←hp,Sy,SA (by have:=Ac.out;omega)]
       rfl)
      clear hp
      go_wp2_with fail
      go_ret
      exact⟨by rw [HP.out];rfl,hb⟩
 · have HP:=h_ (show R=false from by rw [←hR];exact allEq_len _ _ _ hle)
   have hne:(((xs.length:Nat):Int) != ((ys.length:Nat):Int))=true:=by
    simp only [bne_iff_ne,ne_eq]
    omega
   clear hx hy hR hle hf hf'
   go_enter S9,S6
   go_wp2_with fail
   go_ret
   exact⟨by rw [HP.out];rfl,Tb _ _⟩
theorem zP:∀ xs ys:List Ev,xs.map Ev.c=ys.map Ev.c→SX evEq xs ys=true
 | [],[],_=>rfl
 | [],y::l,h=>by simp at h
 | x::l,[],h=>by simp at h
 | x::l,y::m,h=>by
   simp only [List.map_cons,List.cons.injEq] at h
   simp only [SX,Py x y h.1,zP l m h.2,Bool.and_self]
theorem zF (d d':Doc)(w:SO)(hd:d.lies w)(hd':d'.lies w)(hc:d.c=d'.c)(hf:∀ x∈d.eV,x.rows.length≤4000000∧∀ r∈x.rows,r.runs.length≤4000000)(hf':∀ x∈d'.eV,x.rows.length≤4000000∧∀ r∈x.rows,r.runs.length≤4000000)(hr:d.rG.length≤4000000)(he:d.eV.length≤4000000)(he':d'.eV.length≤4000000)(hm:d.cM.length≤4000000) :
 SQ SZ 18 #[.agg d.enc.toArray,.agg d'.enc.toArray] w fun e w'=>e=.returned (.bool true)∧Ta w.heap.size w w':=by
 generalize hQ:(fun(e:SR) (w':SO)=>e=.returned (.bool true)∧Ta w.heap.size w w')=Q
 have HQ:=h_ (fun w' (hb:Ta w.heap.size w w')=>show Q (.returned (.bool true)) w' from hQ▸⟨rfl,hb⟩)
 clear hQ
 have HH1:=h_ (fun w1=>j3 d w1)
 have HH2:=h_ (fun w1=>j3 d' w1)
 obtain⟨title,lang,rate,drop,last,ra,rc,rG,ea,ec,eV,ca,cc,cM⟩:=d
 obtain⟨title',lang',rate',drop',last',ra',rc',regs',ea',ec',evs',ca',cc',cms'⟩:=d'
 simp only [Doc.c,Doc.hd,DocC.mk.injEq,Hd.mk.injEq] at hc
 obtain⟨⟨rfl,rfl,rfl,rfl,rfl⟩,rfl,hev,rfl⟩:=hc
 simp only at hr he he' hm hf hf'
 have HE:=h_ (fun(w1:SO) (h:Ta w.heap.size w w1)=>(show SQ SZ 60 #[.slice ea eV.length ec,.slice ea' evs'.length ec',.func (.func 28) #[] #[]] w1 (fun e w'=>e=.returned (.bool true)∧Ta w1.heap.size w1 w') from by
  have:=xf ea ea' ec ec' eV evs' w1 (hd.2.1.later h) (hd'.2.1.later h) hf hf' he he'
  rwa [zP eV evs' hev] at this))
 have HR:=h_ (fun(w1:SO) (h:Ta w.heap.size w w1)=>(show SQ SZ 59 #[.slice ra rG.length rc,.slice ra' rG.length rc'] w1 (fun e w'=>e=.returned (.bool true)∧Ta w1.heap.size w1 w') from by
  have:=ui ra ra' rc rc' rG rG w1 (hd.1.later h) (hd'.1.later h) hr hr
  rwa [qf mD vj rG] at this))
 have HC:=h_ (fun(w1:SO) (h:Ta w.heap.size w w1)=>(show SQ SZ 61 #[.slice ca cM.length cc,.slice ca' cM.length cc'] w1 (fun e w'=>e=.returned (.bool true)∧Ta w1.heap.size w1 w') from by
  have:=xg ca ca' cc cc' cM cM w1 (hd.2.2.later h) (hd'.2.2.later h) hm hm
  rwa [qf cmEq GW cM] at this))
 have r1:=fun wx=>Iy ⟨title,lang,rate,drop,last⟩ ⟨title,lang,rate,drop,last⟩ wx
 rw [Gd] at r1
 simp only [Doc.enc,Doc.hd,Hd.enc] at *
 generalize hds:#[SS.string title,.string lang,.int .u8 rate,.bool drop,.int .i64 last,.slice ra rG.length rc,.slice ea eV.length ec,.slice ca cM.length cc]=ds
 generalize mV:#[SS.string title,.string lang,.int .u8 rate,.bool drop,.int .i64 last,.slice ra' rG.length rc',.slice ea' evs'.length ec',.slice ca' cM.length cc']=qs
 have f0:=aT w ds qs 27 27 0 (.string title) (by rw [←hds];rfl)
 have f1:=aT w ds qs 27 27 1 (.string lang) (by rw [←hds];rfl)
 have f2:=aT w ds qs 27 27 2 (.int .u8 rate) (by rw [←hds];rfl)
 have f3:=aT w ds qs 27 27 3 (.bool drop) (by rw [←hds];rfl)
 have f4:=aT w ds qs 27 27 4 (.int .i64 last) (by rw [←hds];rfl)
 have f5:=aT w ds qs 27 27 5 (.slice ra rG.length rc) (by rw [←hds];rfl)
 have f6:=aT w ds qs 27 27 6 (.slice ea eV.length ec) (by rw [←hds];rfl)
 have f7:=aT w ds qs 27 27 7 (.slice ca cM.length cc) (by rw [←hds];rfl)
 have g0:=aS w ds qs 27 27 0 (.string title) (by rw [←mV];rfl)
 have g1:=aS w ds qs 27 27 1 (.string lang) (by rw [←mV];rfl)
 have g2:=aS w ds qs 27 27 2 (.int .u8 rate) (by rw [←mV];rfl)
 have g3:=aS w ds qs 27 27 3 (.bool drop) (by rw [←mV];rfl)
 have g4:=aS w ds qs 27 27 4 (.int .i64 last) (by rw [←mV];rfl)
 have g5:=aS w ds qs 27 27 5 (.slice ra' rG.length rc') (by rw [←mV];rfl)
 have g6:=aS w ds qs 27 27 6 (.slice ea' evs'.length ec') (by rw [←mV];rfl)
 have g7:=aS w ds qs 27 27 7 (.slice ca' cM.length cc') (by rw [←mV];rfl)
 have HB:=h_ (fun(w1:SO) (h:Ta (w.heap.size+2) ((w.alloc (.cells ds 27)).alloc (.cells qs 27)) w1)=>j4 h)
 have hb0:Ta (w.heap.size+2) ((w.alloc (.cells ds 27)).alloc (.cells qs 27)) ((w.alloc (.cells ds 27)).alloc (.cells qs 27)):=Tb _ _
 have hsz:((w.alloc (.cells ds 27)).alloc (.cells qs 27)).heap.size=w.heap.size+2:=by simp
 generalize hW0:(w.alloc (.cells ds 27)).alloc (.cells qs 27)=W0 at *
 have HW0:=h_ hW0
 have bu:=h_ hsz
 have HT0:=h_ (fun(w2 w3:SO) (h:Ta (w.heap.size+2) W0 w2) (h3:Ta w2.heap.size w2 w3)=>(h.trans (h3.mono (by have:=h.size;rw [bu.out] at this;exact this)):Ta (w.heap.size+2) W0 w3))
 have G1:=h_ (fun(w1:SO) (h:Ta (w.heap.size+2) W0 w1)=>(HH1.out w1).mono (fun e w' p=>(show e=_∧Ta (w.heap.size+2) W0 w' from⟨p.1,HT0.out _ _ h p.2⟩)))
 have G2:=h_ (fun(w1:SO) (h:Ta (w.heap.size+2) W0 w1)=>(HH2.out w1).mono (fun e w' p=>(show e=_∧Ta (w.heap.size+2) W0 w' from⟨p.1,HT0.out _ _ h p.2⟩)))
 have GR:=h_ (fun(w1:SO) (h:Ta (w.heap.size+2) W0 w1)=>(HR.out w1 (HB.out _ h)).mono (fun e w' p=>(show e=_∧Ta (w.heap.size+2) W0 w' from⟨p.1,HT0.out _ _ h p.2⟩)))
 have GE:=h_ (fun(w1:SO) (h:Ta (w.heap.size+2) W0 w1)=>(HE.out w1 (HB.out _ h)).mono (fun e w' p=>(show e=_∧Ta (w.heap.size+2) W0 w' from⟨p.1,HT0.out _ _ h p.2⟩)))
 have GC:=h_ (fun(w1:SO) (h:Ta (w.heap.size+2) W0 w1)=>(HC.out w1 (HB.out _ h)).mono (fun e w' p=>(show e=_∧Ta (w.heap.size+2) W0 w' from⟨p.1,HT0.out _ _ h p.2⟩)))
 have hbd:Ta (w.heap.size+2) W0 W0.drew:=hb0.drew
 clear hW0 hsz hd hd' hev hf hf' HH1 HH2 HR HE HC
 go_enter Tryz.func18,Tryz.ntmps18
 subst hds
 subst mV
 go_upto_region 1 with fail
 rw [HW0.out]
 go_region_held3 (fun w'=>Ta (w.heap.size+2) W0 w') (first|with_reducible assumption|with_reducible exact hbd) (first
  | (go_at_call 33;(with_reducible refine(G1.out _ ?_).mono ?_);(first|with_reducible assumption);rintro e w33G1 ⟨rfl,zap⟩)
  | (go_at_call 33;(with_reducible refine(G2.out _ ?_).mono ?_);(first|with_reducible assumption);rintro e w33G2 ⟨rfl,zao⟩)
  | (go_at_call 59;(with_reducible refine(GR.out _ ?_).mono ?_);(first|with_reducible assumption);rintro e w59GR ⟨rfl,zan⟩)
  | (go_at_call 60;(with_reducible refine(GE.out _ ?_).mono ?_);(first|with_reducible assumption);rintro e w60GE ⟨rfl,zam⟩)
  | (go_at_call 61;(with_reducible refine(GC.out _ ?_).mono ?_);(first|with_reducible assumption);rintro e w61GC ⟨rfl,Pr⟩))
 go_wp2_with fail
 exact HQ.out _ (HB.out _ Pr)
end Go.Proofs.YtnlnmbcaongehaaGreatDoor
namespace Go.Proofs.YtnlnmbcaongehaaGreatDoor
open Go.RowKit
def pE (St:Nat→Doc→Prop)(w:SO)(gB:Nat)(k:Nat)(wr:SO):Prop :=
 ∃ d':Doc,uU d' gB wr∧St k d'∧(∀ b,d'.uses b→w.heap.size+2≤b)∧wr.heap[w.heap.size+1]? =some (.cells kK 27 (0,0))∧Ta w.heap.size w wr
theorem pE.start {St:Nat→Doc→Prop} {w w2:SO} {d2:Doc} (hz:w2.heap[w.heap.size+1]? =some (.cells kK 27 (0,0)))(hl:d2.lies w2)(hu:∀ b,d2.uses b→w.heap.size+2≤b)(hb:Ta w.heap.size w w2)(h0:St 0 d2) :
 pE St w w2.heap.size 0 (w2.alloc (.cells d2.enc.toArray 27)):=by
 have hba:Ta w2.heap.size w2 (w2.alloc (.cells d2.enc.toArray 27)):=(Tb _ _).alloc (SV _) _
 exact⟨d2,⟨heap_alloc_last w2 _,Doc.later hl hba,fun b h=>by have:=Doc.uses_lt hl h;omega⟩,h0,hu,JE hz,hb.trans (hba.mono hb.size)⟩
theorem pE.step {St:Nat→Doc→Prop} {w wr w1 w5:SO} {gB:Nat} {d' d2:Doc} {k:Nat} (h1:uU d' gB wr)(hg:w.heap.size+2≤gB)(h3:∀ b,d'.uses b→w.heap.size+2≤b)(h4:wr.heap[w.heap.size+1]? =some (.cells kK 27 (0,0)))(h5:Ta w.heap.size w wr)(hb:Ta wr.heap.size wr w1)
 (q1:d2.lies w5) (q2:∀ b,d2.uses b→d'.uses b∨w1.heap.size≤b) (q3:Ta w1.heap.size w1 w5) (q4:St k d2):pE St w gB k (w5.setRow gB d2.enc.toArray)∧(w5.setRow gB d2.enc.toArray).heap[w.heap.size+1]? =some (.cells kK 27 (0,0))∧Ta w.heap.size w (w5.setRow gB d2.enc.toArray):=by
 have hgl:=(Tc.1 h1.cells).1
 have hlt:w.heap.size+1<wr.heap.size:=(Tc.1 h4).1
 have hs:=hb.size
 have hb5:=hb.trans (q3.mono hs)
 have hk5:=(hb5.block gB hgl).trans h1.cells
 have Oz:(w5.setRow gB d2.enc.toArray).heap[w.heap.size+1]? =some (.cells kK 27 (0,0)):=by
  rw [setRow_other _ _ _ _ (by omega),hb5.block _ hlt]
  exact h4
 have hbw:Ta w.heap.size w (w5.setRow gB d2.enc.toArray):=below_setRow (h5.trans (hb5.mono h5.size)) (by omega) _
 have hne:∀ b,d2.uses b→b≠gB:=fun b hu=>by
  rcases q2 b hu with h|h
  · exact h1.apart b h
  · omega
 refine⟨⟨d2,⟨setRow_heap w5 _ _ _ 27 (0,0) hk5,Doc.frame q1 (by simp) (fun b h=>setRow_other w5 _ b _ (hne b h)),hne⟩,q4,fun b hu=>?_,Oz,hbw⟩,Oz,hbw⟩
 rcases q2 b hu with h|h
 · exact h3 b h
 · have:=h5.size
   omega
def PSt (d:DocC)(l:List ChgC)(n k:Nat)(d':Doc):Prop:=k≤l.length∧ES d'.c∧d'.c.fits (n+k)∧sl d l=sl d'.c (l.drop k)
theorem PSt.step {d:DocC} {l:List ChgC} {n k:Nat} {d' d2:Doc} {c:ChgC} {err:Int} (h:PSt d l n k d')(hc:l[k]? =some c)(hf:c.full)(he:err=(pC d'.c c).1)(h2:d2.c=(pC d'.c c).2):(err=0→PSt d l n (k+1) d2)∧(err≠0→(sl d l).1=err):=by
 obtain⟨h1,h3,h4,h5⟩:=h
 have hk:k<l.length:=(List.getElem?_eq_some_iff.1 hc).1
 rw [eT l k c hc,sl] at h5
 refine⟨fun h0=>⟨by omega,by rw [h2];exact G4 h3,by rw [h2];exact Ce h4 hf,?_⟩,fun h0=>?_⟩
 · rw [if_pos (he.symm.trans h0)] at h5
   rw [h5,h2]
 · rw [if_neg (fun e=>h0 (he.trans e))] at h5
   rw [h5,←he]
theorem PSt.fin {d:DocC} {l:List ChgC} {n:Nat} {d':Doc} (h:PSt d l n l.length d'):sl d l=(0,d'.c):=by
 obtain⟨_,_,_,h5⟩:=h
 rw [Sy,sl] at h5
 exact h5
def strV (s:ByteArray):List SS:=[.string s]
def ib (fs:List Fld)(w:SO)(k:Nat)(v:SS)(wr:SO):Prop:=wr.ownsRow w.heap.size 9 1 v (oD (fs.take k)).length ((oD (fs.take k)).flatMap strV)∧Ta w.heap.size w wr
theorem qx (fs:List Fld)(k:Nat)(f:Fld)(h:fs[k]? =some f):oD (fs.take (k+1))=oD (fs.take k)++(if f.differs=true then [f.name] else []):=by
 unfold oD
 rw [List.take_add_one,h]
 simp only [Option.toList_some,SJ,List.map_append]
 congr 1
 by_cases hd:f.differs=true
 · simp [SD,hd]
 · simp [SD,hd]
theorem ib.start (fs:List Fld) {w wr:SO} (hb:Ta w.heap.size w wr):ib fs w 0 (.slice none 0 0) wr:=by
 unfold ib
 rw [List.take_zero]
 exact⟨SO.ownsRow_nil _ _ _ _,hb⟩
theorem ib.skip {fs:List Fld} {w wr w1:SO} {k:Nat} {f:Fld} {v:SS} (hf:fs[k]? =some f)(hd:f.differs=false)(h:ib fs w k v wr)(hb:Ta wr.heap.size wr w1):ib fs w (k+1) v w1:=by
 obtain⟨h1,h2⟩:=h
 unfold ib
 rw [qx fs k f hf,if_neg (by rw [hd];decide),SL]
 exact⟨aH h1 hb,h2.trans (hb.mono h2.size)⟩
theorem ib.push {fs:List Fld} {w wr w1 w2:SO} {k:Nat} {f:Fld} {v v':SS} (hf:fs[k]? =some f)(hd:f.differs=true)(h:ib fs w k v wr)(hb:Ta wr.heap.size wr w1)
 (hown:w2.ownsRow w.heap.size 9 1 v' ((oD (fs.take k)).length+1) ((oD (fs.take k)).flatMap strV++[.string f.name])) (hg:(w1.alloc (.cells #[.string f.name] 9)).grownBy w2 v.ownBlock):ib fs w (k+1) v' w2:=by
 obtain⟨h1,h2⟩:=h
 have hb1:=h2.trans (hb.mono h2.size)
 unfold ib
 rw [qx fs k f hf,if_pos hd]
 refine⟨?_,(hb1.alloc hb1.size _).grown hg (by have:=hb1.size;simp;omega) (fun j hj=>(h1.lt j hj).1)⟩
 rw [Sw,List.flatMap_append]
 simpa [strV] using hown
def aF {α:Type} (eq:α→α→Bool)(x y z:α):α × Bool:=if eq y z=true then (y,false) else if eq x z=true then (y,false) else if eq x y=true then (z,false) else (x,true)
def fH (a b:ByteArray):Bool:=a.toList==b.toList
def mo (a b:Bool):Bool:=a==b
def jd (a b:Int):Bool:=a==b
theorem uh (a b:ByteArray)(w:SO):SQ SZ 129 #[.string a,.string b] w fun e w'=>e=.returned (.bool (fH a b))∧Ta w.heap.size w w':=by
 unfold fH
 go_enter Tryz.func129,Tryz.ntmps129
 go_wp2_with fail
 go_ret
 exact⟨rfl,Tb _ _⟩
theorem e_ (x y z:ByteArray)(w:SO):SQ SZ 128 #[.string x,.string y,.string z,.func (.func 129) #[] #[]] w fun e w'=>e=.returned (.tuple #[.string (aF fH x y z).1,.bool (aF fH x y z).2])∧Ta w.heap.size w w':=by
 have HE:=h_ (fun(a b:ByteArray) (w1:SO)=>uh a b w1)
 have HT:=h_ (fun(w1 w2:SO) (h:Ta w.heap.size w w1) (h2:Ta w1.heap.size w1 w2)=>h.trans (h2.mono h.size))
 generalize hQ:(fun(e:SR) (w':SO)=>e=.returned (.tuple #[.string (aF fH x y z).1,.bool (aF fH x y z).2])∧Ta w.heap.size w w')=Q
 have HQ:=h_ (fun(p:ByteArray × Bool) (hp:aF fH x y z=p) w' (hb:Ta w.heap.size w w')=>show Q (.returned (.tuple #[.string p.1,.bool p.2])) w' from hQ▸⟨by rw [hp],hb⟩)
 clear hQ
 have hb0:Ta w.heap.size w w:=Tb _ _
 go_enter Tryz.func128,Tryz.ntmps128
 go_wp2_with fail
 refine(HE.out y z _).mono ?_
 rintro e w1 ⟨rfl,hb1⟩
 have hc1:=HT.out _ _ hb0 hb1
 clear hb1 hb0
 generalize h1:fH y z=E1
 cases E1 with
 | true =>
   go_wp2_with fail
   exact HQ.out (y,false) (by simp [aF,h1]) _ hc1
 | false =>
   go_wp2_with fail
   refine(HE.out x z _).mono ?_
   rintro e w2 ⟨rfl,hb2⟩
   have hc2:=HT.out _ _ hc1 hb2
   clear hb2 hc1
   generalize h2:fH x z=E2
   cases E2 with
   | true =>
     go_wp2_with fail
     exact HQ.out (y,false) (by simp [aF,h1,h2]) _ hc2
   | false =>
     go_wp2_with fail
     refine(HE.out x y _).mono ?_
     rintro e w3 ⟨rfl,hb3⟩
     have hc3:=HT.out _ _ hc2 hb3
     clear hb3 hc2
     generalize h3:fH x y=E3
     cases E3 with
     | true =>
       go_wp2_with fail
       exact HQ.out (z,false) (by simp [aF,h1,h2,h3]) _ hc3
     | false =>
       go_wp2_with fail
       exact HQ.out (x,true) (by simp [aF,h1,h2,h3]) _ hc3
theorem s_ (a b:Bool)(w:SO):SQ SZ 146 #[.bool a,.bool b] w fun e w'=>e=.returned (.bool (mo a b))∧Ta w.heap.size w w':=by
 unfold mo
 go_enter Tryz.func146,Tryz.ntmps146
 go_wp2_with fail
 go_ret
 exact⟨rfl,Tb _ _⟩
theorem r_ (x y z:Bool)(w:SO):SQ SZ 145 #[.bool x,.bool y,.bool z,.func (.func 146) #[] #[]] w fun e w'=>e=.returned (.tuple #[.bool (aF mo x y z).1,.bool (aF mo x y z).2])∧Ta w.heap.size w w':=by
 have HE:=h_ (fun(a b:Bool) (w1:SO)=>s_ a b w1)
 have HT:=h_ (fun(w1 w2:SO) (h:Ta w.heap.size w w1) (h2:Ta w1.heap.size w1 w2)=>h.trans (h2.mono h.size))
 generalize hQ:(fun(e:SR) (w':SO)=>e=.returned (.tuple #[.bool (aF mo x y z).1,.bool (aF mo x y z).2])∧Ta w.heap.size w w')=Q
 have HQ:=h_ (fun(p:Bool × Bool) (hp:aF mo x y z=p) w' (hb:Ta w.heap.size w w')=>show Q (.returned (.tuple #[.bool p.1,.bool p.2])) w' from hQ▸⟨by rw [hp],hb⟩)
 clear hQ
 have hb0:Ta w.heap.size w w:=Tb _ _
 go_enter Tryz.func145,Tryz.ntmps145
 go_wp2_with fail
 refine(HE.out y z _).mono ?_
 rintro e w1 ⟨rfl,hb1⟩
 have hc1:=HT.out _ _ hb0 hb1
 clear hb1 hb0
 generalize h1:mo y z=E1
 cases E1 with
 | true =>
   go_wp2_with fail
   exact HQ.out (y,false) (by simp [aF,h1]) _ hc1
 | false =>
   go_wp2_with fail
   refine(HE.out x z _).mono ?_
   rintro e w2 ⟨rfl,hb2⟩
   have hc2:=HT.out _ _ hc1 hb2
   clear hb2 hc1
   generalize h2:mo x z=E2
   cases E2 with
   | true =>
     go_wp2_with fail
     exact HQ.out (y,false) (by simp [aF,h1,h2]) _ hc2
   | false =>
     go_wp2_with fail
     refine(HE.out x y _).mono ?_
     rintro e w3 ⟨rfl,hb3⟩
     have hc3:=HT.out _ _ hc2 hb3
     clear hb3 hc2
     generalize h3:mo x y=E3
     cases E3 with
     | true =>
       go_wp2_with fail
       exact HQ.out (z,false) (by simp [aF,h1,h2,h3]) _ hc3
     | false =>
       go_wp2_with fail
       exact HQ.out (x,true) (by simp [aF,h1,h2,h3]) _ hc3
theorem sZ (a b:Int)(w:SO):SQ SZ 199 #[.int .u8 a,.int .u8 b] w fun e w'=>e=.returned (.bool (jd a b))∧Ta w.heap.size w w':=by
 unfold jd
 go_enter Tryz.func199,Tryz.ntmps199
 go_wp2_with fail
 go_ret
 exact⟨rfl,Tb _ _⟩
theorem r8 (x y z:Int)(w:SO):SQ SZ 198 #[.int .u8 x,.int .u8 y,.int .u8 z,.func (.func 199) #[] #[]] w fun e w'=>e=.returned (.tuple #[.int .u8 (aF jd x y z).1,.bool (aF jd x y z).2])∧Ta w.heap.size w w':=by
 have HE:=h_ (fun(a b:Int) (w1:SO)=>sZ a b w1)
 have HT:=h_ (fun(w1 w2:SO) (h:Ta w.heap.size w w1) (h2:Ta w1.heap.size w1 w2)=>h.trans (h2.mono h.size))
 generalize hQ:(fun(e:SR) (w':SO)=>e=.returned (.tuple #[.int .u8 (aF jd x y z).1,.bool (aF jd x y z).2])∧Ta w.heap.size w w')=Q
 have HQ:=h_ (fun(p:Int × Bool) (hp:aF jd x y z=p) w' (hb:Ta w.heap.size w w')=>show Q (.returned (.tuple #[.int .u8 p.1,.bool p.2])) w' from hQ▸⟨by rw [hp],hb⟩)
 clear hQ
 have hb0:Ta w.heap.size w w:=Tb _ _
 go_enter Tryz.func198,Tryz.ntmps198
 go_wp2_with fail
 refine(HE.out y z _).mono ?_
 rintro e w1 ⟨rfl,hb1⟩
 have hc1:=HT.out _ _ hb0 hb1
 clear hb1 hb0
 generalize h1:jd y z=E1
 cases E1 with
 | true =>
   go_wp2_with fail
   exact HQ.out (y,false) (by simp [aF,h1]) _ hc1
 | false =>
   go_wp2_with fail
   refine(HE.out x z _).mono ?_
   rintro e w2 ⟨rfl,hb2⟩
   have hc2:=HT.out _ _ hc1 hb2
   clear hb2 hc1
   generalize h2:jd x z=E2
   cases E2 with
   | true =>
     go_wp2_with fail
     exact HQ.out (y,false) (by simp [aF,h1,h2]) _ hc2
   | false =>
     go_wp2_with fail
     refine(HE.out x y _).mono ?_
     rintro e w3 ⟨rfl,hb3⟩
     have hc3:=HT.out _ _ hc2 hb3
     clear hb3 hc2
     generalize h3:jd x y=E3
     cases E3 with
     | true =>
       go_wp2_with fail
       exact HQ.out (z,false) (by simp [aF,h1,h2,h3]) _ hc3
     | false =>
       go_wp2_with fail
       exact HQ.out (x,true) (by simp [aF,h1,h2,h3]) _ hc3
structure Cl where
 sec:Int
 id:Int
 name:ByteArray
 field:ByteArray
def Cl.enc (c:Cl):List SS:=[.int .u8 c.sec,.int .i64 c.id,.string c.name,.string c.field]
def mZ:ByteArray:=⟨#[84,73,84,76,69]⟩
def zA:ByteArray:=⟨#[76,65,78,71]⟩
def Gz:ByteArray:=⟨#[82,65,84,69]⟩
def bf:ByteArray:=⟨#[82,69,71,73,79,78]⟩
def jJ:ByteArray:=⟨#[71,79,78,69]⟩
def jI:ByteArray:=⟨#[83,80,65,78]⟩
def rC:ByteArray:=⟨#[75,73,78,68]⟩
def jH:ByteArray:=⟨#[83,80,69,65,75,69,82]⟩
def Em:ByteArray:=⟨#[82,79,87,83]⟩
def bK:ByteArray:=⟨#[65,78,67,72,79,82]⟩
def g_:ByteArray:=⟨#[65,85,84,72,79,82]⟩
def ug:ByteArray:=⟨#[84,69,88,84]⟩
def En:ByteArray:=⟨#[68,79,78,69]⟩
def aG:ByteArray:=⟨#[]⟩
def aj (l:List EvC)(z:Int):Option EvC:=l.find? (evAt z)
def bB (l:List Cm)(z:Int):Option Cm:=l.find? (cmAt z)
def bI (l:List Reg)(n:ByteArray):Option Reg:=l.find? (oT n)
def yQ (f g:DocC)(z:Int):Bool:=((aj g.eV z).isSome&&!(aj f.eV z).isSome)||((bB g.cM z).isSome&&!(bB f.cM z).isSome)
def lK (base a:DocC)(x:EvC):Bool:=!(aj base.eV x.id).isSome&&yQ base a x.id&&!(match aj a.eV x.id with|none=>false|some y=>ob x y)
def mR (base a:DocC)(x:Cm):Bool:=!(bB base.cM x.id).isSome&&yQ base a x.id&&!(match bB a.cM x.id with|none=>false|some y=>cmEq x y)
def k_ (base a b:DocC):List Int:=SY (aR ((b.eV.filter (lK base a)).map EvC.id++(b.cM.filter (mR base a)).map Cm.id))
def mC (ids:List Int)(last:Int):Nat→Int→Option Int
 | 0=>fun _=>none
 | k+1=>fun z=>if ids[k]? =some z then some (last+k+1) else mC ids last k z
def iE (a b:DocC):Int:=max a.hd.last b.hd.last
def iD (base a b:DocC)(z:Int):Int:=(mC (k_ base a b) (iE a b) (k_ base a b).length z).getD z
def eP (r:Int→Int)(b:DocC):DocC:=⟨b.hd,b.rG,b.eV.map fun x=>{ x with id:=r x.id },b.cM.map fun x=>{ x with id:=r x.id,ev:=r x.ev }⟩
def sn (base a b:DocC):Int:=iE a b+(k_ base a b).length
def gX (x y:Int × Bool):Bool:=x.1==y.1&&x.2==y.2
def clIf (b:Bool)(c:Cl):List Cl:=if b=true then [c] else []
def oG (x y z:Hd):ByteArray × Bool:=aF fH x.title y.title z.title
def sq (x y z:Hd):ByteArray × Bool:=aF fH x.lang y.lang z.lang
def oZ (x y z:Hd):(Int × Bool) × Bool:=aF gX (x.rate,x.drop) (y.rate,y.drop) (z.rate,z.drop)
def mgHd (x y z:Hd)(last:Int):Hd:=⟨(oG x y z).1,(sq x y z).1,(oZ x y z).1.1,(oZ x y z).1.2,last⟩
def sr (x y z:Hd):List Cl:=clIf (oG x y z).2 ⟨1,0,aG,mZ⟩++clIf (sq x y z).2 ⟨1,0,aG,zA⟩++clIf (oZ x y z).2 ⟨1,0,aG,Gz⟩
def FQ:Option Reg→Option Reg→Bool
 | none,none=>true
 | some x,some y=>mD x y
 | _,_=>false
def pT (x y z:List Reg)(n:ByteArray):Option Reg × Bool:=aF FQ (bI x n) (bI y n) (bI z n)
def bG (x y z:List Reg):List ByteArray:=iV [] (x++y++z)
def fW (x y z:List Reg)(ns:List ByteArray):List Reg:=ns.flatMap fun n=>(pT x y z n).1.toList
def fG (x y z:List Reg)(ns:List ByteArray):List Cl:=ns.flatMap fun n=>clIf (pT x y z n).2 ⟨2,0,n,bf⟩
def fu (x y:Int × Int):Bool:=x.1==y.1&&x.2==y.2
def mM (x y:List (List Run)):Bool:=SX (SX mz) x y
def fIf (b:Bool)(f:ByteArray):List ByteArray:=if b=true then [f] else []
def ot (x y z:EvC):(Int × Int) × Bool:=aF fu (x.inn,x.out) (y.inn,y.out) (z.inn,z.out)
def kM (x y z:EvC):ByteArray × Bool:=aF fH x.region y.region z.region
def qA (x y z:EvC):Int × Bool:=aF jd x.kind y.kind z.kind
def jc (x y z:EvC):ByteArray × Bool:=aF fH x.speaker y.speaker z.speaker
def yJ (x y z:EvC):List (List Run) × Bool:=aF mM x.rows y.rows z.rows
def lE (x y z:EvC):EvC:=⟨x.id,(ot x y z).1.1,(ot x y z).1.2,(kM x y z).1,(qA x y z).1,(jc x y z).1,(yJ x y z).1⟩
def eL (x y z:EvC):List ByteArray:=fIf (ot x y z).2 jI++fIf (kM x y z).2 bf++fIf (qA x y z).2 rC++fIf (jc x y z).2 jH++fIf (yJ x y z).2 Em
def fK:Option EvC→Option EvC→Option EvC→Option (EvC × List ByteArray)
 | none,some y,_=>some (y,[])
 | none,none,z=>some (z.getD bC,[])
 | some x,some y,some z=>some (lE x y z,eL x y z)
 | some x,some y,none=>if ob x y=true then none else some (y,[jJ])
 | some x,none,some z=>if ob x z=true then none else some (z,[jJ])
 | some _,none,none=>none
def C8 (rG:List Reg)(x:EvC):Int:=pk x.rep rG
def fZ (rG:List Reg)(p:EvC × List ByteArray):EvC × List ByteArray :=
 if C8 rG p.1=0 then p else ({ p.1 with region:=aG },if p.2.any (fun f=>f.toList==bf.toList)=true then p.2 else p.2++[bf])
def mgEv (rG:List Reg)(a b c:List EvC)(id:Int):Option (EvC × List ByteArray):=(fK (aj a id) (aj b id) (aj c id)).map (fZ rG)
def aY (a b c:List EvC):List Int:=SY (aR (a.map EvC.id++b.map EvC.id++c.map EvC.id))
def jl (rG:List Reg)(a b c:List EvC)(ids:List Int):List EvC:=ids.flatMap fun id=>((mgEv rG a b c id).map (·.1)).toList
def fJ (rG:List Reg)(a b c:List EvC)(ids:List Int):List Cl:=ids.flatMap fun id=>(((mgEv rG a b c id).map (·.2)).getD []).map fun f=>⟨3,id,aG,f⟩
def pO:List Run→List UInt8
 | []=>[]
 | x::l=>x.text.data.toList++pO l
def fp:List (List Run)→List UInt8
 | []=>[]
 | [r]=>pO r
 | r::l=>pO r++10::fp l
def kV (x:Option EvC):ByteArray:=⟨(fp ((x.map EvC.rows).getD [])).toArray⟩
def alike:List Nat→List Nat→Nat
 | x::l,y::m=>if x=y then alike l m+1 else 0
 | _,_=>0
def kQ (n m p s:Int)(frm til:Int):Int × Int :=
 (if n-s≤frm then frm+(m-n) else if p≤frm then m-s else frm,if til≤p then til else if n-s<til then til+(m-n) else p)
def mY (c:Cm)(a b:List Nat):Cm :=
 let p:=alike a b
 let s:=alike (a.drop p).reverse (b.drop p).reverse
 let q:=kQ a.length b.length p s c.frm c.til
 if q.2≤q.1 then { c with frm:=0,til:=0,lost:=true } else { c with frm:=q.1,til:=q.2 }
def lC (fr txs:List EvC)(c:Cm):Cm :=
 if c.lost=true then c else match aj txs c.ev with
  | none=>{ c with frm:=0,til:=0,lost:=true }
  | some x=>mY c (runes (kV (aj fr c.ev))) (runes (kV (some x)))
def Cf (x y:Cm):Bool:=x.ev==y.ev&&x.frm==y.frm&&x.til==y.til&&x.lost==y.lost
def yP (x y z:Cm):Cm × Bool:=aF Cf x y z
def rK (x y z:Cm):ByteArray × Bool:=aF fH x.author y.author z.author
def CR (x y z:Cm):ByteArray × Bool:=aF fH x.text y.text z.text
def CS (x y z:Cm):Bool × Bool:=aF mo x.done y.done z.done
def o0 (x y z:Cm):Cm:=⟨x.id,(yP x y z).1.ev,(yP x y z).1.frm,(yP x y z).1.til,(rK x y z).1,(CR x y z).1,(CS x y z).1,(yP x y z).1.lost⟩
def kg (x y z:Cm):List ByteArray:=fIf (yP x y z).2 bK++fIf (rK x y z).2 g_++fIf (CR x y z).2 ug++fIf (CS x y z).2 En
def mF (ox oy oz:Option Cm):Option Cm→Option Cm→Option Cm→Option (Cm × List ByteArray)
 | none,some y,some z=>if Cf y z=true then some (y,[]) else some ({ y with frm:=0,til:=0,lost:=true },[bK])
 | none,some y,none=>some (y,[])
 | none,none,z=>some (z.getD aM,[])
 | some x,some y,some z=>some (o0 x y z,kg x y z)
 | some x,some y,none=>if cmEq (oy.getD aM) (ox.getD aM)=true then none else some (y,[jJ])
 | some x,none,some z=>if cmEq (oz.getD aM) (ox.getD aM)=true then none else some (z,[jJ])
 | some _,none,none=>none
def mgCm (txs:List EvC)(a b c:DocC)(id:Int):Option (Cm × List ByteArray) :=
 mF (bB a.cM id) (bB b.cM id) (bB c.cM id) ((bB a.cM id).map (lC a.eV txs)) ((bB b.cM id).map (lC b.eV txs)) ((bB c.cM id).map (lC c.eV txs))
def iF (a b c:List Cm):List Int:=SY (aR (a.map Cm.id++b.map Cm.id++c.map Cm.id))
def mU (txs:List EvC)(a b c:DocC)(ids:List Int):List Cm:=ids.flatMap fun id=>((mgCm txs a b c id).map (·.1)).toList
def kN (txs:List EvC)(a b c:DocC)(ids:List Int):List Cl:=ids.flatMap fun id=>(((mgCm txs a b c id).map (·.2)).getD []).map fun f=>⟨4,id,aG,f⟩
def a_ (base a b:DocC):Int:=if cErr base≠0 then cErr base else if cErr a≠0 then cErr a else if cErr b≠0 then cErr b else if a.hd.last<base.hd.last∨b.hd.last<base.hd.last then 8 else 0
def FL (base a b:DocC)(last:Int):DocC × List Cl :=
 let rG:=fW base.rG a.rG b.rG (bG base.rG a.rG b.rG)
 let eids:=aY base.eV a.eV b.eV
 let eV:=fM (jl rG base.eV a.eV b.eV eids)
 let cids:=iF base.cM a.cM b.cM
 (⟨mgHd base.hd a.hd b.hd last,rG,eV,mU eV base a b cids⟩,
  sr base.hd a.hd b.hd++fG base.rG a.rG b.rG (bG base.rG a.rG b.rG)++fJ rG base.eV a.eV b.eV eids++kN eV base a b cids)
def oH (base a b:DocC):DocC × List Cl:=FL base a (eP (iD base a b) b) (sn base a b)
def fL (base a b:DocC):Int :=
 if a_ base a b≠0 then a_ base a b else if 1099511627776<sn base a b then 9 else cErr (oH base a b).1
def jm (base a b:DocC):DocC:=if fL base a b=0 then (oH base a b).1 else EY
def mgCl (base a b:DocC):List Cl:=if fL base a b=0 then (oH base a b).2 else []
def Side {α:Type} (x y:Option α)(z:α)(ad gn:Bool)(o n:α):Prop:=ad=(!x.isSome)∧gn=(!y.isSome)∧o=x.getD z∧n=y.getD z∧(x.isSome=true∨y.isSome=true)
def Pick {α:Type} (P:Prop)(x a b:α):Prop:=(P→x=a)∧(¬ P→x=b)
theorem Pick.iff {α:Type} {P Q:Prop} {x a b:α} (h:Pick P x a b)(e:P↔Q):Pick Q x a b:=⟨fun q=>h.1 (e.2 q),fun q=>h.2 fun p=>q (e.1 p)⟩
structure Mid (a b d:DocC)(L:List ChgC):Prop where
 ok:ES d
 hd:Pick (∃ c∈L,c.sec=1) d.hd a.hd b.hd
 rG:∀ k,Pick (∃ c∈L,c.sec=2∧c.name=k) (d.rG.find? (oT k)) (a.rG.find? (oT k)) (b.rG.find? (oT k))
 eV:∀ k,Pick (∃ c∈L,c.sec=3∧c.id=k) (d.eV.find? (evAt k)) (a.eV.find? (evAt k)) (b.eV.find? (evAt k))
 cM:∀ k,Pick (∃ c∈L,c.sec=4∧c.id=k) (d.cM.find? (cmAt k)) (a.cM.find? (cmAt k)) (b.cM.find? (cmAt k))
theorem MQ {P:ChgC→Prop} {c:ChgC} {L:List ChgC} (h:¬ P c):(∃ x∈c::L,P x)↔∃ x∈L,P x:=by
 constructor
 · rintro ⟨x,hx,hp⟩
   rcases Sx.1 hx with rfl|hx
   · exact absurd hp h
   · exact⟨x,hx,hp⟩
 · rintro ⟨x,hx,hp⟩
   exact⟨x,List.mem_cons_of_mem _ hx,hp⟩
theorem Pick.skip {α:Type} {P:ChgC→Prop} {c:ChgC} {L:List ChgC} {x a b:α} (h:Pick (∃ z∈c::L,P z) x a b)(hn:¬ P c):Pick (∃ z∈L,P z) x a b:=h.iff (MQ hn)
theorem Pick.done {α:Type} {P:ChgC→Prop} {L:List ChgC} {x a b:α} (hn:∀ z∈L,¬ P z)(h:x=b):Pick (∃ z∈L,P z) x a b:=⟨fun⟨z,hz,hp⟩=>absurd hp (hn z hz),fun _=>h⟩
theorem nF (x:EvC):ob x x=true:=by
 simp [ob]
 exact j5 _ (fun r=>j5 mz pM r) _
theorem Side.val {α:Type} {x y:Option α} {z:α} {ad gn:Bool} {o n:α} {f:α→α} (h:Side x y z ad gn o n)(hf:∀ v,y=some v→f v=v):(if gn=true then none else some (f n))=y:=by
 obtain⟨_,rfl,_,rfl,_⟩:=h
 cases y with
 | none=>rfl
 | some v=>simp [hf v rfl]
def Tgt {α:Type} (x y z t:α):Prop:=(t=y∧(z=x∨z=y))∨(t=z∧y=x)
theorem Tgt.map {α β:Type} {x y z t:α} (h:Tgt x y z t)(f:α→β):Tgt (f x) (f y) (f z) (f t):=by
 rcases h with⟨rfl,rfl|rfl⟩|⟨rfl,rfl⟩
 · exact .inl ⟨rfl,.inl rfl⟩
 · exact .inl ⟨rfl,.inr rfl⟩
 · exact .inr ⟨rfl,rfl⟩
theorem oU {α:Type} {eq:α→α→Bool} (hr:∀ a,eq a a=true)(he:∀ a b,eq a b=true→a=b) {x y z t:α} (h:Tgt x y z t):aF eq x y z=(t,false):=by
 unfold aF
 rcases h with⟨rfl,rfl|rfl⟩|⟨rfl,rfl⟩
 · split
   · rfl
   · rw [if_pos (hr _)]
 · rw [if_pos (hr _)]
 · split
   · rename_i h
     rw [he _ _ h]
   · rename_i h
     rw [if_pos (hr _)]
theorem uY (a:ByteArray):fH a a=true:=by simp [fH]
theorem CD (a b:ByteArray)(h:fH a b=true):a=b:=qU (by simpa [fH] using h)
theorem Bi (a:Int × Int):fu a a=true:=by simp [fu]
theorem Fh (a b:Int × Int)(h:fu a b=true):a=b:=by
 obtain⟨p,q⟩:=a;obtain⟨r,s⟩:=b
 simp only [fu,Bool.and_eq_true,beq_iff_eq] at h
 rw [h.1,h.2]
theorem BF (a:Int):jd a a=true:=by simp [jd]
theorem F5 (a b:Int)(h:jd a b=true):a=b:=by simpa [jd] using h
theorem yv (a:List (List Run)):mM a a=true:=j5 _ (j5 _ pM) a
theorem vg (a b:List (List Run))(h:mM a b=true):a=b:=xv _ (fun _ _=>xv _ (fun _ _=>run_eq) _ _) _ _ h
theorem wZ {x y:EvC} (h:ob x y=true):x=y:=by
 obtain⟨a,b,c,d,e,f,g⟩:=x
 obtain⟨a',b',c',d',e',f',g'⟩:=y
 simp only [ob,Bool.and_eq_true,beq_iff_eq] at h
 obtain⟨⟨⟨⟨⟨rfl,rfl,rfl⟩,h1⟩,rfl⟩,h2⟩,h3⟩:=h
 rw [qU h1,qU h2,vg _ _ h3]
theorem Tgt.mem {α:Type} {x y z t:List α} (h:Tgt x y z t) {a:α} (ha:a∈t):a∈x++y++z:=by
 rcases h with⟨rfl,_⟩|⟨rfl,_⟩<;>simp [ha]
theorem Gv {α κ:Type} {f:κ→Option α} {ks:List κ} {a:α}:a∈(ks.flatMap fun k=>(f k).toList)↔∃ k∈ks,f k=some a:=by
 rw [List.mem_flatMap]
 simp
theorem bw {l:List EvC} {z:Int} {x:EvC} (h:aj l z=some x):x∈l∧x.id=z:=⟨List.mem_of_find?_eq_some h,by simpa [evAt] using List.find?_some h⟩
theorem tj {x y z t:EvC} (h:Tgt x y z t)(hi:x.id=t.id):lE x y z=t∧eL x y z=[]:=by
 have h1:ot x y z=((t.inn,t.out),false):=oU Bi Fh (h.map fun d:EvC=>(d.inn,d.out))
 have h2:kM x y z=(t.region,false):=oU uY CD (h.map EvC.region)
 have h3:qA x y z=(t.kind,false):=oU BF F5 (h.map EvC.kind)
 have h4:jc x y z=(t.speaker,false):=oU uY CD (h.map EvC.speaker)
 have h5:yJ x y z=(t.rows,false):=oU yv vg (h.map EvC.rows)
 unfold lE eL
 rw [h1,h2,h3,h4,h5,hi]
 exact⟨rfl,rfl⟩
theorem C_ {x y z t:Option EvC} (h:Tgt x y z t)(hi:∀ p q,x=some p→t=some q→p.id=q.id)(hne:¬ (x=none∧y=none∧z=none)):fK x y z=t.map fun e=>(e,[]):=by
 rcases h with⟨rfl,rfl|rfl⟩|⟨rfl,rfl⟩
 · cases z with
   | none =>
     cases t with
     | none=>exact absurd ⟨rfl,rfl,rfl⟩ hne
     | some e=>rfl
   | some p =>
     cases t with
     | none=>simp [fK,nF]
     | some e =>
       obtain⟨h1,h2⟩:=tj (x:=p) (y:=e) (z:=p) (t:=e) (.inl ⟨rfl,.inl rfl⟩) (hi _ _ rfl rfl)
       simp [fK,h1,h2]
 · cases x with
   | none =>
     cases z with
     | none=>exact absurd ⟨rfl,rfl,rfl⟩ hne
     | some e=>rfl
   | some p =>
     cases z with
     | none=>rfl
     | some e =>
       obtain⟨h1,h2⟩:=tj (x:=p) (y:=e) (z:=e) (t:=e) (.inl ⟨rfl,.inr rfl⟩) (hi _ _ rfl rfl)
       simp [fK,h1,h2]
 · cases y with
   | none =>
     cases t with
     | none=>exact absurd ⟨rfl,rfl,rfl⟩ hne
     | some e=>rfl
   | some p =>
     cases t with
     | none=>simp [fK,nF]
     | some e =>
       obtain⟨h1,h2⟩:=tj (x:=p) (y:=p) (z:=e) (t:=e) (.inr ⟨rfl,rfl⟩) (hi _ _ rfl rfl)
       simp [fK,h1,h2]
theorem jf (x y z:List EvC):(aY x y z).Pairwise (·<·)∧∀ k,k∈aY x y z↔(∃ e∈x,e.id=k)∨(∃ e∈y,e.id=k)∨∃ e∈z,e.id=k:=by
 obtain⟨h1,h2⟩:=i_ (x.map EvC.id++y.map EvC.id++z.map EvC.id)
 refine⟨h1,fun k=>(h2 k).trans ?_⟩
 simp only [Sv,Sz,or_assoc]
theorem lR {l:List EvC} {k:Int} (h:aj l k=none):¬ ∃ e∈l,e.id=k:=by
 rintro ⟨e,he,rfl⟩
 have:=List.find?_eq_none.1 h e he
 simp [evAt] at this
theorem zK (x y z:List Cm):(iF x y z).Pairwise (·<·)∧∀ k,k∈iF x y z↔(∃ e∈x,e.id=k)∨(∃ e∈y,e.id=k)∨∃ e∈z,e.id=k:=by
 obtain⟨h1,h2⟩:=i_ (x.map Cm.id++y.map Cm.id++z.map Cm.id)
 refine⟨h1,fun k=>(h2 k).trans ?_⟩
 simp only [Sv,Sz,or_assoc]
theorem G0 {t:DocC} (h:cErr t=0):ES t:=by
 have:=zac (d:=t.rep) h
 rwa [DocC.rep_c] at this
theorem qS (last:Int)(f:Int→Option Nat)(eV:List Ev):∀ (xs:List Cm)(p:Option Cm),eU last f eV p xs=0→∀ c∈xs,ct last f eV c=0
 | [],_,_=>fun c hc=>by simp at hc
 | x::l,p,h=>by
   rw [eU] at h
   split at h
   · rename_i hne;rw [h] at hne;cases hne
   · rename_i hne
     have h0:jg last f eV p x=0:=by simpa using hne
     intro c hc
     rcases Sx.1 hc with rfl|hc
     · unfold jg at h0
       split at h0
       · cases h0
       · split at h0
         · cases h0
         · split at h0
           · cases h0
           · split at h0
             · exact h0
             · rename_i hn
               simpa using hn
     · exact qS last f eV l _ h c hc
theorem pA {t:DocC} (h:cErr t=0):t.hd.last≤1099511627776:=by
 have hp:=(kp (d:=t.rep) h).1
 unfold lN at hp
 split at hp
 · cases hp
 · split at hp
   · cases hp
   · split at hp
     · cases hp
     · split at hp
       · rename_i h1
         rw [hp] at h1
         cases h1
       · split at hp
         · cases hp
         · rename_i h1
           have:t.rep.last=t.hd.last:=rfl
           omega
theorem qP:SY (aR ([]++[]))=[]:=by
 simp [aR,SY]
 rfl
theorem IM {base a b:DocC} (he:∀ x∈b.eV,lK base a x=false)(hc:∀ x∈b.cM,mR base a x=false):k_ base a b=[]:=by
 have h1:b.eV.filter (lK base a)=[]:=Su.2 fun x hx=>by simp [he x hx]
 have h2:b.cM.filter (mR base a)=[]:=Su.2 fun x hx=>by simp [hc x hx]
 unfold k_
 rw [h1,h2]
 exact qP
theorem N8 (b:DocC):eP (fun z=>z) b=b:=by
 obtain⟨hd,rG,eV,cM⟩:=b
 simp [eP]
theorem vm {base a b:DocC} (h:k_ base a b=[]):oH base a b=FL base a b (iE a b)∧sn base a b=iE a b:=by
 have h1:iD base a b=fun z=>z:=by
  funext z
  unfold iD
  rw [h]
  rfl
 have h2:sn base a b=iE a b:=by
  unfold sn
  rw [h]
  simp
 refine⟨?_,h2⟩
 unfold oH
 rw [h1,h2,N8]
theorem gW {base a b:DocC} (h:a_ base a b=0):cErr base=0∧cErr a=0∧cErr b=0∧base.hd.last≤a.hd.last∧base.hd.last≤b.hd.last:=by
 unfold a_ at h
 split at h
 · contradiction
 · split at h
   · contradiction
   · split at h
     · contradiction
     · split at h
       · cases h
       · refine⟨?_,?_,?_,by omega,by omega⟩<;>(refine Decidable.byContradiction fun hh=>?_;contradiction)
end Go.Proofs.YtnlnmbcaongehaaGreatDoor
