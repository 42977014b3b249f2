/- What one change does to the contents of a document, in plain words; diff.apply does just that to a document in order. The contracts of the reference's regions and comments: the list behind a change. (printed by gen_refset17.py) -/
import Derived.Test.YtnlnmbcaongehaaGreatDoorA06
import Derived.Test.YtnlnmbcaongehaaGreatDoorA07
set_option linter.unusedVariables false
set_option linter.unusedSimpArgs false
set_option maxRecDepth 100000
set_option maxHeartbeats 12800000
open Go.Lib renaming hid→h_
open List renaming length_append→e_,length_cons→fb,length_nil→fe,append_assoc→ff,filter_eq_nil_iff→fg,cons_append→fh,pairwise_append→fi,filter_eq_self→fj,pairwise_cons→fk,filter_cons→fm,nil_append→fo,mem_filter→fp,mem_append→fq,getElem_of_mem→fr,drop_length→ft,find?_cons→fu,take_left→fw,drop_left→fx,mem_cons→fy
open Bool renaming false_eq_true→fz,not_false→fA,or_true→fB
open Option renaming toList_some→fC,isSome_map→fD
open Go.Op renaming bytesLess→fE
open Go renaming World→fF,heap_alloc_last→fG,cell_of_row→fH,Value→fI
open Go.RowKit renaming Below→fJ
open Go.RowKit.Below renaming refl→fK
open Go.World renaming size_alloc→fL,ownsRow_nil→fM
open Nat renaming lt_succ_self→fN,add_zero→fO,zero_le→fP,le_refl→fQ
open Go.Value renaming oneCell'→fR,string→fS,int→fT
open Go.Proofs.Tryz renaming underlying25→fU,underlying23→fV
namespace Go.Proofs.YtnlnmbcaongehaaGreatDoor
open Go.RowKit
theorem zbx {α:Type} (lo eq:α→Bool)(R:α→α→Prop)(hR:∀ x y,R x y→lo x=false→lo y=false∧eq y=false) :
 ∀ xs:List α,xs.Pairwise R→∃ (A:List α) (M:Option α) (B:List α),xs=A++M.toList++B∧(∀ a∈A,lo a=true)∧(∀ m,M=some m→lo m=false∧eq m=true)∧(∀ b∈B,lo b=false∧eq b=false)
 | [],_=>⟨[],none,[],rfl,by simp,by simp,by simp⟩
 | x::l,h=>by
   rw [fk] at h
   cases hx:lo x
   · have hl:∀ b∈l,lo b=false∧eq b=false:=fun b hb=>hR x b (h.1 b hb) hx
     cases he:eq x
     · refine⟨[],none,x::l,rfl,by simp,by simp,fun b hb=>?_⟩
       rcases fy.1 hb with rfl|hb
       · exact⟨hx,he⟩
       · exact hl b hb
     · exact⟨[],some x,l,rfl,by simp,fun m hm=>by obtain rfl:=Option.some.inj hm;exact⟨hx,he⟩,hl⟩
   · obtain⟨A,M,B,hl,h1,h2,h3⟩:=zbx lo eq R hR l h.2
     refine⟨x::A,M,B,by rw [hl];simp,fun a ha=>?_,h2,h3⟩
     rcases fy.1 ha with rfl|ha
     · exact hx
     · exact h1 a ha
def setAt {α:Type} (lo eq:α→Bool)(v:Option α)(xs:List α):List α:=xs.filter lo++v.toList++xs.filter fun x=>!lo x&&!eq x
theorem zbj {α:Type} {lo eq:α→Bool} {A B:List α} {M:Option α} (h1:∀ a∈A,lo a=true)(h2:∀ m,M=some m→lo m=false∧eq m=true)(h3:∀ b∈B,lo b=false∧eq b=false)(v:Option α):setAt lo eq v (A++M.toList++B)=A++v.toList++B:=by
 have a1:A.filter lo=A:=fj.2 h1
 have a2:(A.filter fun x=>!lo x&&!eq x)=[]:=fg.2 fun a ha=>by simp [h1 a ha]
 have b1:B.filter lo=[]:=fg.2 fun b hb=>by simp [(h3 b hb).1]
 have b2:(B.filter fun x=>!lo x&&!eq x)=B:=fj.2 fun b hb=>by simp [h3 b hb]
 have m1:M.toList.filter lo=[]:=fg.2 fun m hm=>by simp [(h2 m (by simpa using hm)).1]
 have m2:(M.toList.filter fun x=>!lo x&&!eq x)=[]:=fg.2 fun m hm=>by simp [h2 m (by simpa using hm)]
 unfold setAt
 simp only [List.filter_append,a1,a2,b1,b2,m1,m2,List.append_nil,fo]
theorem zat {α:Type} {eq:α→Bool} (L:List α):∀ (A:List α)(i:Nat),(∀ a∈A,eq a=false)→aF eq (A++L) i=aF eq L (i+A.length)
 | [],i,_=>rfl
 | a::A,i,h=>by
   rw [fh,aF,if_neg (by rw [h a (by simp)];decide),zat L A (i+1) fun b hb=>h b (by simp [hb]),fb]
   congr 1
   omega
theorem zba {α:Type} {eq:α→Bool}:∀ (B:List α)(i:Nat),(∀ b∈B,eq b=false)→aF eq B i=none
 | [],i,_=>rfl
 | b::B,i,h=>by rw [aF,if_neg (by rw [h b (by simp)];decide),zba B (i+1) fun b hb=>h b (by simp [hb])]
theorem zic {α:Type} {eq:α→Bool} {A B:List α} {M:Option α} (h1:∀ a∈A,eq a=false)(h2:∀ m,M=some m→eq m=true)(h3:∀ b∈B,eq b=false):first eq (A++M.toList++B)=M.map fun m=>(m,A.length):=by
 unfold first
 rw [ff,zat _ _ _ h1,Nat.zero_add]
 cases M with
 | none=>simpa using zba B _ h3
 | some m=>simp [aF,h2 m rfl]
theorem zcM {α:Type} {lo:α→Bool} {B:List α} (h3:∀ b∈B,lo b=false):∀ A:List α,(∀ a∈A,lo a=true)→cE lo (A++B)=A.length
 | [],_=>by
   cases B with
   | nil=>rfl
   | cons b B=>rw [fo,cE,if_neg (by rw [h3 b (by simp)];decide)];rfl
 | a::A,h=>by rw [fh,cE,if_pos (h a (by simp)),zcM h3 A fun b hb=>h b (by simp [hb]),fb]
theorem zeo {α:Type} {lo eq:α→Bool} {R:α→α→Prop} (hR:∀ x y,R x y→lo x=false→lo y=false∧eq y=false)(hle:∀ x,lo x=true→eq x=false) {xs:List α} (hp:xs.Pairwise R)(ad gn:Bool)(y:α)
 (ha:ad=true→first eq xs=none∧gn=false) (hn:ad=false→(first eq xs).isSome=true):aJ ad gn (((first eq xs).map (·.2)).getD 0) lo xs y=setAt lo eq (if gn=true then none else some y) xs:=by
 obtain⟨A,M,B,rfl,h1,h2,h3⟩:=zbx lo eq R hR xs hp
 have hf:=zic (eq:=eq) (A:=A) (B:=B) (M:=M) (fun a h=>hle a (h1 a h)) (fun m h=>(h2 m h).2) fun b h=>(h3 b h).2
 rw [zbj h1 h2 h3]
 rw [hf] at ha hn ⊢
 have hAB:∀ L,L=A++B→bo L (cE lo L) y=A++[y]++B:=by
  rintro L rfl
  rw [zcM (fun b h=>(h3 b h).1) A h1]
  unfold bo
  rw [fw,fx]
 unfold aJ
 cases ad
 · have hm:=hn rfl
   cases M with
   | none=>simp at hm
   | some m =>
     have hd:br (A++(some m).toList++B) A.length=A++B:=by
      unfold br
      rw [ff,fw,←List.drop_drop,fx]
      simp
     simp only [Option.map_some,Option.getD_some,fz,if_false,hd]
     cases gn
     · simp only [fz,if_false,hAB _ rfl,fC]
     · simp
 · obtain⟨hm,rfl⟩:=ha rfl
   cases M with
   | some m=>simp at hm
   | none =>
     have e:A++(none:Option α).toList++B=A++B:=by simp
     rw [if_neg (by decide),if_pos rfl,hAB _ e]
     simp
def setL {α:Type} (lo eq:α→Bool)(y:α):Bool→List α→List α
 | d,[]=>if d=true then [] else [y]
 | d,x::l=>(if (!d&&!lo x)=true then [y] else [])++(if eq x=true then [] else [x])++setL lo eq y (d||!lo x) l
theorem ziC {α:Type} {lo eq:α→Bool} (y:α)(d:Bool)(L:List α):∀ A:List α,(∀ a∈A,lo a=true∧eq a=false)→setL lo eq y d (A++L)=A++setL lo eq y d L
 | [],_=>rfl
 | a::A,h=>by
   have ha:=h a (by simp)
   rw [fh,setL,ha.1,ha.2,Bool.not_true,Bool.and_false,Bool.or_false,ziC y d L A fun b hb=>h b (by simp [hb])]
   simp
theorem zbA {α:Type} {lo eq:α→Bool} (y:α):∀ B:List α,(∀ b∈B,eq b=false)→setL lo eq y true B=B
 | [],_=>rfl
 | b::B,h=>by
   rw [setL,h b (by simp),Bool.true_or,zbA y B fun x hx=>h x (by simp [hx])]
   simp
theorem zjW {α:Type} {lo eq:α→Bool} (y:α)(B:List α)(h:∀ b∈B,lo b=false∧eq b=false):setL lo eq y false B=y::B:=by
 cases B with
 | nil=>rfl
 | cons b B =>
   have hb:=h b (by simp)
   rw [setL,hb.1,hb.2,fA,fB,zbA y B fun x hx=>(h x (by simp [hx])).2]
   simp
theorem ziB {α:Type} {lo eq:α→Bool} {R:α→α→Prop} (hR:∀ x y,R x y→lo x=false→lo y=false∧eq y=false)(hle:∀ x,lo x=true→eq x=false) {xs:List α} (hp:xs.Pairwise R)(gn:Bool)(y:α) :
 setL lo eq y gn xs=setAt lo eq (if gn=true then none else some y) xs:=by
 obtain⟨A,M,B,rfl,h1,h2,h3⟩:=zbx lo eq R hR xs hp
 rw [zbj h1 h2 h3,ff,ziC y gn _ A fun a h=>⟨h1 a h,hle a (h1 a h)⟩,ff]
 congr 1
 cases M with
 | none =>
   cases gn
   · exact zjW y B h3
   · exact zbA y B fun b h=>(h3 b h).2
 | some m =>
   have hm:=h2 m rfl
   rw [fC,fh,setL,hm.1,hm.2,fA,fB,fo,zbA y B fun b h=>(h3 b h).2]
   cases gn<;>simp
theorem zcQ {α:Type} {lo eq:α→Bool} {R:α→α→Prop} (hR:∀ x y,R x y→lo x=false→lo y=false∧eq y=false) {xs:List α} (hp:xs.Pairwise R)(v:Option α)(h1:∀ y,v=some y→∀ a,lo a=true→R a y)(h2:∀ y,v=some y→∀ b,lo b=false→eq b=false→R y b):(setAt lo eq v xs).Pairwise R:=by
 obtain⟨A,M,B,rfl,q1,q2,q3⟩:=zbx lo eq R hR xs hp
 rw [zbj q1 q2 q3]
 have hAB:(A++B).Pairwise R:=hp.sublist (by rw [ff];exact List.Sublist.append (List.Sublist.refl _) (List.sublist_append_right _ _))
 rw [fi] at hAB
 obtain⟨hA,hB,hc⟩:=hAB
 rw [ff,fi]
 refine⟨hA,?_,fun a ha x hx=>?_⟩
 · cases v with
   | none=>simpa using hB
   | some y=>exact fk.2 ⟨fun b hb=>h2 y rfl b (q3 b hb).1 (q3 b hb).2,hB⟩
 · rcases fq.1 hx with hx|hx
   · exact h1 x (by simpa using hx) a (q1 a ha)
   · exact hc a ha x hx
theorem ziD {α:Type} (lo eq:α→Bool)(v:Option α)(xs:List α):(setAt lo eq v xs).length≤xs.length+1:=by
 have h:∀ l:List α,(l.filter lo).length+(l.filter fun x=>!lo x&&!eq x).length≤l.length:=by
  intro l
  induction l with
  | nil=>simp
  | cons x l ih =>
    simp only [fm]
    cases lo x<;>cases eq x<;>simp<;>omega
 have:=h xs
 unfold setAt
 rw [e_,e_]
 cases v<;>simp<;>omega
theorem zgI {α:Type} {lo eq:α→Bool} {v:Option α} {xs:List α} {x:α} (h:x∈setAt lo eq v xs):x∈xs∨v=some x:=by
 unfold setAt at h
 rcases fq.1 h with h|h
 · rcases fq.1 h with h|h
   · exact .inl ((fp.1 h).1)
   · exact .inr (by simpa using h)
 · exact .inl ((fp.1 h).1)
def evLe (x y:EvC):Bool:=decide (x.inn<y.inn∨(x.inn=y.inn∧x.id≤y.id))
def zc3 (l:List EvC):List EvC:=l.mergeSort evLe
theorem zai (l:List EvC):(zc3 l).Perm l:=List.mergeSort_perm l _
theorem zbV (l:List EvC):(zc3 l).Pairwise fun x y=>evLe x y=true :=
 List.pairwise_mergeSort (fun a b c h1 h2=>by simp only [evLe,decide_eq_true_eq] at *;omega) (fun a b=>by simp only [evLe,Bool.or_eq_true,decide_eq_true_eq];omega) l
theorem zlY {l:List EvC} (h:l.Pairwise fun x y=>x.id≠y.id) {a b:EvC} (ha:a∈l)(hb:b∈l)(he:a.id=b.id):a=b:=by
 obtain⟨i,hi,rfl⟩:=fr ha
 obtain⟨j,hj,rfl⟩:=fr hb
 rw [List.pairwise_iff_getElem] at h
 rcases Nat.lt_trichotomy i j with hij|rfl|hij
 · exact absurd he (h i j hi hj hij)
 · rfl
 · exact absurd he.symm (h j i hj hi hij)
theorem zbU {xs l:List EvC} (hp:xs.Perm l)(hs:xs.Pairwise fun x y=>evLe x y=true)(hi:l.Pairwise fun x y=>x.id≠y.id):xs=zc3 l:=by
 refine List.Perm.eq_of_pairwise (le:=fun x y=>evLe x y=true) (fun a b ha hb h1 h2=>?_) hs (zbV l) (hp.trans (zai l).symm)
 simp only [evLe,decide_eq_true_eq] at h1 h2
 exact zlY hi (hp.subset ha) ((zai l).subset hb) (by omega)
theorem zkq {l:List EvC} (hi:l.Pairwise fun x y=>x.id≠y.id):(zc3 l).Pairwise EvC.lt∧(zc3 l).Pairwise fun x y=>x.id≠y.id:=by
 have h2:(zc3 l).Pairwise fun x y=>x.id≠y.id:=hi.perm (zai l).symm (fun h h'=>h h'.symm)
 refine⟨?_,h2⟩
 refine((zbV l).and h2).imp fun h=>?_
 obtain⟨h,h'⟩:=h
 simp only [evLe,decide_eq_true_eq] at h
 simp only [EvC.lt]
 omega
def zfg (evs:List EvC)(id:Int)(v:Option EvC):List EvC:=zc3 (evs.filter (fun x=>!(x.id==id))++v.toList)
theorem zca {evs:List EvC} (h:evs.Pairwise fun x y=>x.id≠y.id)(id:Int)(v:Option EvC)(hv:∀ y,v=some y→y.id=id):(evs.filter (fun x=>!(x.id==id))++v.toList).Pairwise fun x y=>x.id≠y.id:=by
 rw [fi]
 refine⟨h.sublist List.filter_sublist,by cases v<;>simp,fun a ha b hb=>?_⟩
 have h1:=(fp.1 ha).2
 have h2:=hv b (by simpa using hb)
 simp at h1
 omega
theorem zkn {evs:List EvC} (h:evs.Pairwise fun x y=>x.id≠y.id):∀ (k:Nat)(m:EvC),evs[k]? =some m→evs.filter (fun x=>!(x.id==m.id))=br evs k:=by
 induction evs with
 | nil=>intro k m hk;simp at hk
 | cons a l ih =>
   rw [fk] at h
   intro k m hk
   cases k with
   | zero =>
     obtain rfl:a=m:=by simpa using hk
     rw [fm,if_neg (by simp),fj.2 fun x hx=>by simpa using fun e:x.id=a.id=>h.1 x hx e.symm]
     rfl
   | succ k =>
     have hk':l[k]? =some m:=by simpa using hk
     have hne:=h.1 m (List.mem_of_getElem? hk')
     rw [fm,if_pos (by simpa using hne),ih h.2 k m hk']
     rfl
def ChgC.bJ (c:ChgC):Reg:=⟨c.name,c.nr.top,c.nr.height,c.nr.left,c.nr.width,c.nr.align,c.nr.bottom⟩
def ChgC.newEv (c:ChgC):EvC:=⟨c.id,c.ne.inn,c.ne.out,c.ne.region,c.ne.kind,c.ne.speaker,c.ne.rows⟩
def ChgC.dP (c:ChgC):Cm:=⟨c.id,c.nc.ev,c.nc.frm,c.nc.til,c.nc.author,c.nc.text,c.nc.done,c.nc.lost⟩
def cu (c:ChgC):Int:=if c.sec<1∨4<c.sec then 3 else if (c.added&&c.gone||(c.sec==1&&(c.added||c.gone)))=true then 1 else 0
def ei (k:ByteArray)(x:Reg):Bool:=fE x.name.toList k.toList
def df (k:ByteArray)(x:Reg):Bool:=x.name.toList==k.toList
def cmLo (k:Int)(x:Cm):Bool:=decide (x.id<k)
def cmAt (k:Int)(x:Cm):Bool:=x.id==k
def evAt (k:Int)(x:EvC):Bool:=x.id==k
def cd (rG:List Reg)(c:ChgC):Int:=aB c.added (rG.find? (df c.name)).isSome (eF ((rG.find? (df c.name)).getD aw) c.rg)
def cW (cms:List Cm)(c:ChgC):Int:=aB c.added (cms.find? (cmAt c.id)).isSome (cmEq ((cms.find? (cmAt c.id)).getD aL) c.oc)
def b8 (evs:List EvC)(c:ChgC):Int:=aB c.added (evs.find? (evAt c.id)).isSome (zgf ((evs.find? (evAt c.id)).getD aY) c.oe)
def aV (d:DocC)(c:ChgC):Int × DocC :=
 if cu c≠0 then (cu c,d)
 else if c.sec=1 then (if hdEq d.hd c.oh=true then (0,⟨c.nh,d.rG,d.evs,d.cms⟩) else (16,d))
 else if c.sec=2 then (if cd d.rG c=0 then (0,⟨d.hd,setAt (ei c.name) (df c.name) (if c.gone=true then none else some c.bJ) d.rG,d.evs,d.cms⟩) else (cd d.rG c,d))
 else if c.sec=3 then (if b8 d.evs c=0 then (0,⟨d.hd,d.rG,zfg d.evs c.id (if c.gone=true then none else some c.newEv),d.cms⟩) else (b8 d.evs c,d))
 else (if cW d.cms c=0 then (0,⟨d.hd,d.rG,d.evs,setAt (cmLo c.id) (cmAt c.id) (if c.gone=true then none else some c.dP) d.cms⟩) else (cW d.cms c,d))
theorem zhQ (k:ByteArray)(x y:Reg)(h:baLt x.name y.name)(hx:ei k x=false):ei k y=false∧df k y=false:=by
 have hx':¬ baLt x.name k:=fun h=>by rw [ei,(zhF _ _).2 h] at hx;cases hx
 constructor
 · cases hy:ei k y
   · rfl
   · exact absurd (zfy h ((zhF _ _).1 hy)) hx'
 · cases hy:df k y
   · rfl
   · have e:=ziU (a:=y.name) (b:=k) (by simpa [df] using hy)
     rw [e] at h
     exact absurd h hx'
theorem zhR (k:ByteArray)(x:Reg)(h:ei k x=true):df k x=false:=by
 cases hy:df k x
 · rfl
 · have e:=ziU (a:=x.name) (b:=k) (by simpa [df] using hy)
   have:=(zhF _ _).1 h
   rw [e] at this
   exact absurd this (List.lt_irrefl _)
theorem zkA (k:Int)(x y:Cm)(h:x.id<y.id)(hx:cmLo k x=false):cmLo k y=false∧cmAt k y=false:=by
 simp only [cmLo,cmAt,decide_eq_false_iff_not,beq_eq_false_iff_ne] at *
 omega
theorem zkB (k:Int)(x:Cm)(h:cmLo k x=true):cmAt k x=false:=by
 simp only [cmLo,cmAt,decide_eq_true_eq,beq_eq_false_iff_ne] at *
 omega
theorem eT {α:Type} (p:α→Bool)(xs:List α):(first p xs).map (·.1)=xs.find? p:=dC p xs 0
theorem zh2 {α:Type} {o:Option α} (h:o.isSome=false):o=none:=by
 cases o with
 | none=>rfl
 | some x=>cases h
theorem zaM {ad th same:Bool} (h:aB ad th same=0):(ad=true→th=false)∧(ad=false→th=true):=by
 cases ad<;>cases th<;>cases same<;>simp [aB] at h ⊢
theorem dJ {α:Type} (p:α→Bool)(xs:List α):(first p xs).isSome=(xs.find? p).isSome:=by rw [←eT,fD]
theorem zlB (rG:List Reg)(x:Chg):bG rG x=cd rG x.c:=by
 unfold bG cd
 rw [dJ,eT]
 rfl
theorem zl9 (cms:List Cm)(x:Chg):cX cms x=cW cms x.c:=by
 unfold cX cW
 rw [dJ,eT]
 rfl
theorem zkm (id:Int):∀ evs:List Ev,(evs.map Ev.c).find? (evAt id)=(evs.find? fun x=>x.id==id).map Ev.c
 | []=>rfl
 | x::l=>by
   have ih:=zkm id l
   rw [List.map_cons,fu,fu]
   show(match x.id==id with|true=>some x.c|false=>_)=Option.map Ev.c (match x.id==id with|true=>some x|false=>_)
   cases x.id==id
   · exact ih
   · rfl
theorem ziv (evs:List Ev)(x:Chg):cB evs x=b8 (evs.map Ev.c) x.c:=by
 unfold cB b8
 rw [dJ,eT,zkr]
 show _=aB x.added ((evs.map Ev.c).find? (evAt x.id)).isSome (zgf (((evs.map Ev.c).find? (evAt x.id)).getD aY) x.oe.c)
 rw [zkm,fD]
 congr 2
 cases evs.find? fun x_1=>x_1.id==x.id<;>rfl
theorem zfB {d:DocC} {c:ChgC} (h:cu c≠0):aV d c=(cu c,d):=by
 unfold aV
 rw [if_pos h]
theorem zjL {d:Doc} {x:Chg} (hd:zds d.c)(hb:cu x.c=0)(hsec:x.sec=2):(bG d.rG x,d_ d x)=aV d.c x.c:=by
 have hag:x.added=true→x.gone=false:=by
  intro ha
  cases hg:x.gone
  · rfl
  · have:cu x.c=1:=by
     unfold cu
     show(if x.sec<1∨4<x.sec then 3 else if (x.added&&x.gone||(x.sec==1&&(x.added||x.gone)))=true then 1 else 0)=(1:Int)
     rw [if_neg (by omega),if_pos (by rw [ha,hg];rfl)]
    rw [hb] at this
    cases this
 unfold aV
 rw [if_neg (by simpa using hb),if_neg (by show ¬ x.sec=1;omega),if_pos (show x.c.sec=2 from hsec),←zlB]
 unfold d_
 show _=(if bG d.rG x=0 then _ else _)
 by_cases h0:bG d.rG x=0
 · rw [if_pos h0,if_pos h0]
   have hz:=h0
   unfold bG at hz
   obtain⟨z1,z2⟩:=zaM hz
   have:=zeo (lo:=ei x.name) (eq:=df x.name) (zhQ x.name) (zhR x.name) hd.rG x.added x.gone (bJ x) (fun h=>⟨zh2 (z1 h),hag h⟩) z2
   rw [h0]
   exact congrArg (fun l=>((0:Int),(⟨d.hd,l,d.evs.map Ev.c,d.cms⟩:DocC))) this
 · rw [if_neg h0,if_neg h0]
   rfl
theorem zkR {d:Doc} {x:Chg} (hd:zds d.c)(hb:cu x.c=0)(hsec:x.sec=4):(cX d.cms x,zbt d x)=aV d.c x.c:=by
 have hag:x.added=true→x.gone=false:=by
  intro ha
  cases hg:x.gone
  · rfl
  · have:cu x.c=1:=by
     unfold cu
     show(if x.sec<1∨4<x.sec then 3 else if (x.added&&x.gone||(x.sec==1&&(x.added||x.gone)))=true then 1 else 0)=(1:Int)
     rw [if_neg (by omega),if_pos (by rw [ha,hg];rfl)]
    rw [hb] at this
    cases this
 unfold aV
 rw [if_neg (by simpa using hb),if_neg (by show ¬ x.sec=1;omega),if_neg (by show ¬ x.sec=2;omega),if_neg (by show ¬ x.sec=3;omega),←zl9]
 unfold zbt
 show _=(if cX d.cms x=0 then _ else _)
 by_cases h0:cX d.cms x=0
 · rw [if_pos h0,if_pos h0]
   have hz:=h0
   unfold cX at hz
   obtain⟨z1,z2⟩:=zaM hz
   have:=zeo (lo:=cmLo x.id) (eq:=cmAt x.id) (zkA x.id) (zkB x.id) hd.cms x.added x.gone (dP x) (fun h=>⟨zh2 (z1 h),hag h⟩) z2
   rw [h0]
   exact congrArg (fun l=>((0:Int),(⟨d.hd,d.rG,d.evs.map Ev.c,l⟩:DocC))) this
 · rw [if_neg h0,if_neg h0]
   rfl
def ziV {α:Type} (T K:Nat)(enc:α→List fI)(lo eq:α→Bool)(y:α)(xs Z:List α)(w5:fF)(k:Nat)(d:Bool)(v:fI)(wr:fF):Prop :=
 ∃ zs:List α,wr.ownsRow w5.heap.size T K v zs.length (zs.flatMap enc)∧zs.length≤k+(if d=true then 1 else 0)∧zs++setL lo eq y d (xs.drop k)=Z∧fJ w5.heap.size w5 wr
theorem dy {α:Type} {lo eq:α→Bool} {y e:α} {xs zs Z:List α} {k:Nat} {d:Bool} (hx:xs[k]? =some e)(hz:zs++setL lo eq y d (xs.drop k)=Z) :
 zs++((if (!d&&!lo e)=true then [y] else [])++(if eq e=true then [] else [e])++setL lo eq y (d||!lo e) (xs.drop (k+1)))=Z:=by
 rw [aZ xs k e hx,setL] at hz
 exact hz
theorem bZ {α:Type} {T K:Nat} {enc:α→List fI} {w5 wr w1 w2:fF} {v v':fI} {zs:List α} {x:α} {cs:Array fI} (h:wr.ownsRow w5.heap.size T K v zs.length (zs.flatMap enc))(hb:fJ w5.heap.size w5 w1)(hcs:cs.toList=enc x)
 (hown:w2.ownsRow w5.heap.size T K v' (zs.length+1) (zs.flatMap enc++cs.toList)) (hg:(w1.alloc (.cells cs T)).grownBy w2 v.ownBlock):w2.ownsRow w5.heap.size T K v' (zs++[x]).length ((zs++[x]).flatMap enc)∧fJ w5.heap.size w5 w2:=by
 refine⟨?_,(hb.alloc hb.size _).grown hg (by have:=hb.size;simp;omega) (fun j hj=>(h.lt j hj).1)⟩
 rw [hcs] at hown
 rw [e_,List.flatMap_append]
 simpa using hown
theorem aS {w:fF} {base e size n:Nat} {v:fI} {xs:List fI} (h:w.ownsRow base e size v n xs):∃ a c,v=.slice a n c:=by
 rcases h.2 with⟨rfl,h0⟩|⟨g',cap,cur,rfl,_⟩
 · exact⟨none,0,by rw [h0]⟩
 · exact⟨_,cap,rfl⟩
theorem zd0 {α:Type} {T K:Nat} {enc:α→List fI} (hk:∀ x,(enc x).length=K) {w w5 w':fF} {v:fI} {ys:List α} (h:w'.ownsRow w5.heap.size T K v ys.length (ys.flatMap enc))(hb:fJ w.heap.size w w')(hs:w.heap.size≤w5.heap.size):bR K enc ys w (.returned v) w':=by
 obtain⟨a,c,rfl,hS⟩:=ax (k:=K) (enc:=enc) (Ok:=Flat) hk h (fun _ _=>trivial)
 exact⟨a,c,rfl,hS,fun ad e=>by have:=(h.lt ad.block (by rw [e];rfl)).1;omega,hb⟩
theorem zfS (a:Option Addr)(cap:Nat)(xs:List Reg)(x:Chg)(w:fF)(hx:ab 7 Reg.enc Flat w a xs)(hl:xs.length≤4000000) :
 Calls Tryz.prog 115 #[.slice a xs.length cap,.agg x.enc.toArray] w (bR 7 Reg.enc (setL (ei x.name) (df x.name) x.c.bJ x.gone xs) w):=by
 have HQ:=h_ (fun(v:fI) (w5 w':fF) (h1:w'.ownsRow w5.heap.size 44 7 v (setL (ei x.name) (df x.name) x.c.bJ x.gone xs).length ((setL (ei x.name) (df x.name) x.c.bJ x.gone xs).flatMap Reg.enc)) h2 h3=>zd0 (T:=44) (K:=7) (enc:=Reg.enc) (fun _=>rfl) h1 h2 h3 (w:=w))
 generalize hZ:setL (ei x.name) (df x.name) x.c.bJ x.gone xs=Z at *
 generalize bR 7 Reg.enc Z w=Q at *
 have HX:=h_ (fun(w1:fF) (h:fJ w.heap.size w w1)=>ab.keeps Flat.keeps _ _ _ _ h hx)
 obtain⟨i0,hi,hz0,hz1,hz2⟩:=info_parts Tryz.info44
 have JI:=h_ hi;have J0:=h_ hz0;have J1:=h_ hz1;have J2:=h_ hz2
 clear hi hz0 hz1 hz2 hx
 obtain⟨sec,id,name,ad,gn,oh,nh,rg,nr,oe,ne,oc,nc⟩:=x
 generalize hcl:Chg.enc _=cl at *
 have hc2:cl.toArray[2]? =some (.string name):=by rw [←hcl];rfl
 have hc4:cl.toArray[4]? =some (.bool gn):=by rw [←hcl];rfl
 have hc22:cl.toArray[22]? =some (.string nr.name):=by rw [←hcl];rfl
 have hc23:cl.toArray[23]? =some (.int .i64 nr.top):=by rw [←hcl];rfl
 have hc24:cl.toArray[24]? =some (.int .i64 nr.height):=by rw [←hcl];rfl
 have hc25:cl.toArray[25]? =some (.int .i64 nr.left):=by rw [←hcl];rfl
 have hc26:cl.toArray[26]? =some (.int .i64 nr.width):=by rw [←hcl];rfl
 have hc27:cl.toArray[27]? =some (.int .u8 nr.align):=by rw [←hcl];rfl
 have hc28:cl.toArray[28]? =some (.bool nr.bottom):=by rw [←hcl];rfl
 have f2:=aa w cl.toArray 54 2 _ hc2
 have f4:=aa w cl.toArray 54 4 _ hc4
 have f22:=aa w cl.toArray 54 22 _ hc22
 have f23:=aa w cl.toArray 54 23 _ hc23
 have f24:=aa w cl.toArray 54 24 _ hc24
 have f25:=aa w cl.toArray 54 25 _ hc25
 have f26:=aa w cl.toArray 54 26 _ hc26
 have f27:=aa w cl.toArray 54 27 _ hc27
 have f28:=aa w cl.toArray 54 28 _ hc28
 clear hcl hc2 hc4 hc22 hc23 hc24 hc25 hc26 hc27 hc28
 have hb0:fJ (w.heap.size+1) (w.alloc (.cells cl.toArray 54)) (w.alloc (.cells cl.toArray 54)):=fK _ _
 have hs0:(w.alloc (.cells cl.toArray 54)).heap.size=w.heap.size+1:=fL _ _
 have HB:=h_ (fun(w1:fF) (h:fJ (w.heap.size+1) (w.alloc (.cells cl.toArray 54)) w1)=>aq h)
 generalize hW0:w.alloc (.cells cl.toArray 54)=W0 at *
 have HW0:=h_ hW0
 have HSZ:=h_ hs0
 have HT0:=h_ (fun(w2 w3:fF) (h:fJ (w.heap.size+1) W0 w2) (h3:fJ w2.heap.size w2 w3)=>(h.trans (h3.mono (by have:=h.size;rw [HSZ.out] at this;exact this)):fJ (w.heap.size+1) W0 w3))
 clear hW0 hs0
 go_enter Tryz.func115,Tryz.ntmps115
 go_upto_region 1 with fail
 rw [HW0.out]
 have hba:∀ o,fJ (w.heap.size+1) W0 (W0.alloc o):=fun o=>(fK _ _).alloc (by rw [HSZ.out];exact fQ _) o
 go_upto_region 5 with fail
 have hb5:=hba (.cells #[fS name,.int .i64 nr.top,.int .i64 nr.height,.int .i64 nr.left,.int .i64 nr.width,.int .u8 nr.align,.bool nr.bottom] 44)
 have hk5:=fG W0 (.cells #[fS name,.int .i64 nr.top,.int .i64 nr.height,.int .i64 nr.left,.int .i64 nr.width,.int .u8 nr.align,.bool nr.bottom] 44)
 have hs5:(W0.alloc (.cells #[fS name,.int .i64 nr.top,.int .i64 nr.height,.int .i64 nr.left,.int .i64 nr.width,.int .u8 nr.align,.bool nr.bottom] 44)).heap.size=W0.heap.size+1:=fL _ _
 generalize W0.alloc (.cells #[fS name,.int .i64 nr.top,.int .i64 nr.height,.int .i64 nr.left,.int .i64 nr.width,.int .u8 nr.align,.bool nr.bottom] 44)=w5 at *
 have HS5:=h_ hs5
 have bx:∀ (w':fF),fJ w5.heap.size w5 w'→∀ (j:Nat),w'.cell? ⟨W0.heap.size,j,none⟩=_:=fun w' h j=>fH _ _ j _ 44 (0,0) ((h.block _ (by rw [HS5.out];exact fN _)).trans hk5)
 have HC5:=h_ (fun(w':fF) (h:fJ w5.heap.size w5 w')=>HT0.out _ _ hb5 h)
 have kf:=fun(w':fF) (h:fJ w5.heap.size w5 w')=>f2 w' (HC5.out _ h)
 have HLE:=h_ (show w.heap.size≤w5.heap.size from by rw [HS5.out,HSZ.out];omega)
 have HBW:=h_ (fun(w':fF) (h:fJ w5.heap.size w5 w')=>HB.out w' (HC5.out w' h))
 have HFI:=h_ (fun(v:fI) (w':fF) (hb:fJ w5.heap.size w5 w') (h:w'.ownsRow w5.heap.size 44 7 v Z.length (Z.flatMap Reg.enc))=>HQ.out v w5 w' h (HBW.out _ hb) HLE.out)
 have HZ0:=h_ hZ
 have HY:=h_ (show(#[fS name,.int .i64 nr.top,.int .i64 nr.height,.int .i64 nr.left,.int .i64 nr.width,.int .u8 nr.align,.bool nr.bottom]:Array fI).toList=Reg.enc (Chg.c ⟨sec,id,name,ad,gn,oh,nh,rg,nr,oe,ne,oc,nc⟩).bJ from rfl)
 obtain⟨Y,hYY⟩:∃ Y,Y=(Chg.c ⟨sec,id,name,ad,gn,oh,nh,rg,nr,oe,ne,oc,nc⟩).bJ:=⟨_,rfl⟩
 rw [←hYY] at HY
 have H0:=h_ (show ziV 44 7 Reg.enc (ei name) (df name) Y xs Z w5 0 gn (.slice none 0 0) w5 from⟨[],fM _ _ _ _,fP _,by rw [hYY];exact HZ0.out,fK _ _⟩)
 clear hs5 hb5 hk5 hZ hba f2 f4 f22 f23 f24 f25 f26 f27 f28 hb0 HB HQ HZ0 hYY HC5 HT0
 go_wp2_with fail
 go_loopw [5,6,19] (fun v d i wr=>∃ (k:Nat) (b:Bool),k≤xs.length∧d=.bool b∧i=.int .i64 k∧ziV 44 7 Reg.enc (ei name) (df name) Y xs Z w5 k b v wr) (fun _ _ i _=>xs.length-(intOf i).toNat)
 case atStart=>exact⟨0,gn,by omega,rfl,rfl,H0.out⟩
 case round =>
  obtain⟨k,b,hk,rfl,rfl,zs,hown,hlen,hz,hb⟩:=hrel
  clear H0
  obtain⟨va,vc,rfl⟩:=aS hown
  by_cases hlt:k<xs.length
  · obtain⟨b0,off,e,rfl,hbl,hxk,hc,_⟩:=(HX.out _ (HBW.out _ hb)).at_ hlt
    obtain⟨nm,top,height,left,width,align,bottom⟩:=e
    have d0:=hc 0 _ rfl;have d1:=hc 1 _ rfl;have d2:=hc 2 _ rfl;have d3:=hc 3 _ rfl;have d4:=hc 4 _ rfl;have d5:=hc 5 _ rfl;have d6:=hc 6 _ rfl
    simp only [fO] at d0
    have hsr:=hb.size
    have HOW:=h_ (fun o=>hown.alloc o)
    have hbE:∀ o,fJ w5.heap.size w5 (wr.alloc o):=fun o=>hb.alloc hsr o
    have hle2:(if b=true then 1 else 0)≤1:=by split<;>omega
    cases b
    · cases hlo:(ei name) ⟨nm,top,height,left,width,align,bottom⟩
      · cases hat:(df name) ⟨nm,top,height,left,width,align,bottom⟩
        · skip
          have q1:fE nm.toList name.toList=false:=hlo
          have q2:(nm.toList==name.toList)=false:=hat
          have HZ:=h_ (show zs++[Y]++[⟨nm,top,height,left,width,align,bottom⟩]++setL (ei name) (df name) Y true (xs.drop (k+1))=Z from by have t:=dy hxk hz;rw [hat] at t;rw [hlo] at t;simpa using t)
          clear hz hxk hc hlo hat
          go_wp2_with (at_builtin;refine ak _ _ rfl (.tmp 32) (.tmp 34) 23 rfl w5.heap.size 44 i0 _ 7 56 fV JI.out J0.out J1.out J2.out rfl (by decide) _ _ _ rfl (HOW.out _) _ rfl ((fL _ _).symm) rfl ?h1Y ?h63Y ?hbY ?hbaseY ?_)
          case h1Y=>simp [fR]
          case h63Y=>unfold maxLen;omega
          case hbY=>omega
          case hbaseY=>first|omega|(simp;omega)
          intro v2 w2 hown2 hgrow2 _
          obtain⟨ho2,hb2⟩:=bZ hown (hbE _) HY.out hown2 hgrow2
          have ce2:∀ (j:Nat),w2.cell? ⟨wr.heap.size,j,none⟩=_:=fun j=>fH _ _ j _ 44 (0,0) ((hgrow2.block wr.heap.size (by simp;omega) (fun e=>absurd (hown.lt wr.heap.size e.symm).2 (by omega))).trans (ar (fG wr (.cells #[fS nm,.int .i64 top,.int .i64 height,.int .i64 left,.int .i64 width,.int .u8 align,.bool bottom] 44))))
          have hlen2:(zs++[Y]).length≤k+1:=by rw [e_];simp only [fb,fe];simp at hlen;omega
          obtain⟨va2,vc2,rfl⟩:=aS ho2
          have HO2:=h_ ho2
          clear hown2 hgrow2 HOW
          have hs2:=hb2.size
          go_wp2_with (at_builtin;refine ak _ _ rfl (.tmp 41) (.tmp 43) 23 rfl w5.heap.size 44 i0 _ 7 56 fV JI.out J0.out J1.out J2.out rfl (by decide) _ _ _ rfl (HO2.out) _ rfl (rfl) rfl ?h1E ?h63E ?hbE ?hbaseE ?_)
          case h1E=>simp [fR]
          case h63E=>unfold maxLen;omega
          case hbE=>omega
          case hbaseE=>omega
          intro v3 w3 hown3 hgrow3 _
          obtain⟨ho3,hb3⟩:=bZ HO2.out hb2 (x:=(⟨nm,top,height,left,width,align,bottom⟩:Reg)) (cs:=#[fS nm,.int .i64 top,.int .i64 height,.int .i64 left,.int .i64 width,.int .u8 align,.bool bottom]) (w2:=w3) (v':=v3) rfl (by simpa using hown3) (by simpa using hgrow3)
          have hlen3:(zs++[Y]++[(⟨nm,top,height,left,width,align,bottom⟩:Reg)]).length≤k+1+1:=by rw [e_];simp only [fb,fe];omega
          clear hown3 hgrow3
          go_wp2_with fail
          go_roundw
          case rel=>exact⟨k+1,true,by omega,rfl,by go_num,_,ho3,by simpa using hlen3,HZ.out,hb3⟩
          case measure=>simp [intOf];omega
        · skip
          have q1:fE nm.toList name.toList=false:=hlo
          have q2:(nm.toList==name.toList)=true:=hat
          have HZ:=h_ (show zs++[Y]++setL (ei name) (df name) Y true (xs.drop (k+1))=Z from by have t:=dy hxk hz;rw [hat] at t;rw [hlo] at t;simpa using t)
          clear hz hxk hc hlo hat
          go_wp2_with (at_builtin;refine ak _ _ rfl (.tmp 32) (.tmp 34) 23 rfl w5.heap.size 44 i0 _ 7 56 fV JI.out J0.out J1.out J2.out rfl (by decide) _ _ _ rfl (HOW.out _) _ rfl ((fL _ _).symm) rfl ?h1Y ?h63Y ?hbY ?hbaseY ?_)
          case h1Y=>simp [fR]
          case h63Y=>unfold maxLen;omega
          case hbY=>omega
          case hbaseY=>first|omega|(simp;omega)
          intro v2 w2 hown2 hgrow2 _
          obtain⟨ho2,hb2⟩:=bZ hown (hbE _) HY.out hown2 hgrow2
          have ce2:∀ (j:Nat),w2.cell? ⟨wr.heap.size,j,none⟩=_:=fun j=>fH _ _ j _ 44 (0,0) ((hgrow2.block wr.heap.size (by simp;omega) (fun e=>absurd (hown.lt wr.heap.size e.symm).2 (by omega))).trans (ar (fG wr (.cells #[fS nm,.int .i64 top,.int .i64 height,.int .i64 left,.int .i64 width,.int .u8 align,.bool bottom] 44))))
          have hlen2:(zs++[Y]).length≤k+1:=by rw [e_];simp only [fb,fe];simp at hlen;omega
          obtain⟨va2,vc2,rfl⟩:=aS ho2
          have HO2:=h_ ho2
          clear hown2 hgrow2 HOW
          have hs2:=hb2.size
          go_wp2_with fail
          go_roundw
          case rel=>exact⟨k+1,true,by omega,rfl,by go_num,_,ho2,by simp only [if_true];omega,HZ.out,hb2⟩
          case measure=>simp [intOf];omega
      · have hat:=zhR name ⟨nm,top,height,left,width,align,bottom⟩ hlo
        have q1:fE nm.toList name.toList=true:=hlo
        have q2:(nm.toList==name.toList)=false:=hat
        have HZ:=h_ (show zs++[⟨nm,top,height,left,width,align,bottom⟩]++setL (ei name) (df name) Y false (xs.drop (k+1))=Z from by have t:=dy hxk hz;rw [hat] at t;rw [hlo] at t;simpa using t)
        clear hz hxk hc hlo hat
        go_wp2_with (at_builtin;refine ak _ _ rfl (.tmp 41) (.tmp 43) 23 rfl w5.heap.size 44 i0 _ 7 56 fV JI.out J0.out J1.out J2.out rfl (by decide) _ _ _ rfl (HOW.out _) _ rfl ((fL _ _).symm) rfl ?h1E ?h63E ?hbE ?hbaseE ?_)
        case h1E=>simp [fR]
        case h63E=>unfold maxLen;omega
        case hbE=>omega
        case hbaseE=>first|omega|(simp;omega)
        intro v2 w2 hown2 hgrow2 _
        obtain⟨ho2,hb2⟩:=bZ hown (hbE _) (x:=(⟨nm,top,height,left,width,align,bottom⟩:Reg)) (cs:=#[fS nm,.int .i64 top,.int .i64 height,.int .i64 left,.int .i64 width,.int .u8 align,.bool bottom]) rfl hown2 hgrow2
        have hlen2:(zs++[(⟨nm,top,height,left,width,align,bottom⟩:Reg)]).length≤k+1+(if false=true then 1 else 0):=by rw [e_];simp only [fb,fe];omega
        clear hown2 hgrow2 HOW
        go_wp2_with fail
        go_roundw
        case rel=>exact⟨k+1,false,by omega,rfl,by go_num,_,ho2,hlen2,HZ.out,hb2⟩
        case measure=>simp [intOf];omega
    · cases hat:(df name) ⟨nm,top,height,left,width,align,bottom⟩
      · skip
        have q2:(nm.toList==name.toList)=false:=hat
        have HZ:=h_ (show zs++[⟨nm,top,height,left,width,align,bottom⟩]++setL (ei name) (df name) Y true (xs.drop (k+1))=Z from by have t:=dy hxk hz;rw [hat] at t;simpa using t)
        clear hz hxk hc hat
        go_wp2_with (at_builtin;refine ak _ _ rfl (.tmp 41) (.tmp 43) 23 rfl w5.heap.size 44 i0 _ 7 56 fV JI.out J0.out J1.out J2.out rfl (by decide) _ _ _ rfl (HOW.out _) _ rfl ((fL _ _).symm) rfl ?h1E ?h63E ?hbE ?hbaseE ?_)
        case h1E=>simp [fR]
        case h63E=>unfold maxLen;omega
        case hbE=>omega
        case hbaseE=>first|omega|(simp;omega)
        intro v2 w2 hown2 hgrow2 _
        obtain⟨ho2,hb2⟩:=bZ hown (hbE _) (x:=(⟨nm,top,height,left,width,align,bottom⟩:Reg)) (cs:=#[fS nm,.int .i64 top,.int .i64 height,.int .i64 left,.int .i64 width,.int .u8 align,.bool bottom]) rfl hown2 hgrow2
        have hlen2:(zs++[(⟨nm,top,height,left,width,align,bottom⟩:Reg)]).length≤k+1+(if true=true then 1 else 0):=by rw [e_];simp only [fb,fe];omega
        clear hown2 hgrow2 HOW
        go_wp2_with fail
        go_roundw
        case rel=>exact⟨k+1,true,by omega,rfl,by go_num,_,ho2,hlen2,HZ.out,hb2⟩
        case measure=>simp [intOf];omega
      · skip
        have q2:(nm.toList==name.toList)=true:=hat
        have HZ:=h_ (show zs++setL (ei name) (df name) Y true (xs.drop (k+1))=Z from by have t:=dy hxk hz;rw [hat] at t;simpa using t)
        clear hz hxk hc hat
        go_wp2_with fail
        go_roundw
        case rel=>exact⟨k+1,true,by omega,rfl,by go_num,_,HOW.out _,by omega,HZ.out,hbE _⟩
        case measure=>simp [intOf];omega
  · obtain rfl:k=xs.length:=by omega
    rw [ft,setL] at hz
    have hle2:(if b=true then 1 else 0)≤1:=by split<;>omega
    cases b
    · have HZ:=h_ (show zs++[Y]=Z from by simpa using hz)
      have HOW:=h_ hown
      have hsr:=hb.size
      clear hz
      go_wp2_with (at_builtin;refine ak _ _ rfl (.tmp 48) (.tmp 50) 23 rfl w5.heap.size 44 i0 _ 7 56 fV JI.out J0.out J1.out J2.out rfl (by decide) _ _ _ rfl (HOW.out) _ rfl (rfl) rfl ?h1Z ?h63Z ?hbZ ?hbaseZ ?_)
      case h1Z=>simp [fR]
      case h63Z=>unfold maxLen;omega
      case hbZ=>omega
      case hbaseZ=>omega
      intro v2 w2 hown2 hgrow2 _
      obtain⟨ho2,hb2⟩:=bZ hown hb HY.out hown2 hgrow2
      rw [HZ.out] at ho2
      have HE:=h_ (HFI.out _ _ hb2 ho2)
      obtain⟨va2,vc2,rfl⟩:=aS ho2
      clear hown2 hgrow2 ho2
      go_wp2_with fail
      exact HE.out
    · have hZ:zs=Z:=by simpa using hz
      subst hZ
      have HE:=h_ (HFI.out _ _ hb hown)
      clear hz hown
      go_wp2_with fail
      exact HE.out
theorem zgY (a:Option Addr)(cap:Nat)(xs:List Cm)(x:Chg)(w:fF)(hx:ab 8 Cm.enc Flat w a xs)(hl:xs.length≤4000000) :
 Calls Tryz.prog 117 #[.slice a xs.length cap,.agg x.enc.toArray] w (bR 8 Cm.enc (setL (cmLo x.id) (cmAt x.id) x.c.dP x.gone xs) w):=by
 have HQ:=h_ (fun(v:fI) (w5 w':fF) (h1:w'.ownsRow w5.heap.size 52 8 v (setL (cmLo x.id) (cmAt x.id) x.c.dP x.gone xs).length ((setL (cmLo x.id) (cmAt x.id) x.c.dP x.gone xs).flatMap Cm.enc)) h2 h3=>zd0 (T:=52) (K:=8) (enc:=Cm.enc) (fun _=>rfl) h1 h2 h3 (w:=w))
 generalize hZ:setL (cmLo x.id) (cmAt x.id) x.c.dP x.gone xs=Z at *
 generalize bR 8 Cm.enc Z w=Q at *
 have HX:=h_ (fun(w1:fF) (h:fJ w.heap.size w w1)=>ab.keeps Flat.keeps _ _ _ _ h hx)
 obtain⟨i0,hi,hz0,hz1,hz2⟩:=info_parts Tryz.info52
 have JI:=h_ hi;have J0:=h_ hz0;have J1:=h_ hz1;have J2:=h_ hz2
 clear hi hz0 hz1 hz2 hx
 obtain⟨sec,id,name,ad,gn,oh,nh,rg,nr,oe,ne,oc,nc⟩:=x
 generalize hcl:Chg.enc _=cl at *
 have hc1:cl.toArray[1]? =some (.int .i64 id):=by rw [←hcl];rfl
 have hc4:cl.toArray[4]? =some (.bool gn):=by rw [←hcl];rfl
 have hc51:cl.toArray[51]? =some (.int .i64 nc.id):=by rw [←hcl];rfl
 have hc52:cl.toArray[52]? =some (.int .i64 nc.ev):=by rw [←hcl];rfl
 have hc53:cl.toArray[53]? =some (.int .i64 nc.frm):=by rw [←hcl];rfl
 have hc54:cl.toArray[54]? =some (.int .i64 nc.til):=by rw [←hcl];rfl
 have hc55:cl.toArray[55]? =some (.string nc.author):=by rw [←hcl];rfl
 have hc56:cl.toArray[56]? =some (.string nc.text):=by rw [←hcl];rfl
 have hc57:cl.toArray[57]? =some (.bool nc.done):=by rw [←hcl];rfl
 have hc58:cl.toArray[58]? =some (.bool nc.lost):=by rw [←hcl];rfl
 have f1:=aa w cl.toArray 54 1 _ hc1
 have f4:=aa w cl.toArray 54 4 _ hc4
 have f51:=aa w cl.toArray 54 51 _ hc51
 have f52:=aa w cl.toArray 54 52 _ hc52
 have f53:=aa w cl.toArray 54 53 _ hc53
 have f54:=aa w cl.toArray 54 54 _ hc54
 have f55:=aa w cl.toArray 54 55 _ hc55
 have f56:=aa w cl.toArray 54 56 _ hc56
 have f57:=aa w cl.toArray 54 57 _ hc57
 have f58:=aa w cl.toArray 54 58 _ hc58
 clear hcl hc1 hc4 hc51 hc52 hc53 hc54 hc55 hc56 hc57 hc58
 have hb0:fJ (w.heap.size+1) (w.alloc (.cells cl.toArray 54)) (w.alloc (.cells cl.toArray 54)):=fK _ _
 have hs0:(w.alloc (.cells cl.toArray 54)).heap.size=w.heap.size+1:=fL _ _
 have HB:=h_ (fun(w1:fF) (h:fJ (w.heap.size+1) (w.alloc (.cells cl.toArray 54)) w1)=>aq h)
 generalize hW0:w.alloc (.cells cl.toArray 54)=W0 at *
 have HW0:=h_ hW0
 have HSZ:=h_ hs0
 have HT0:=h_ (fun(w2 w3:fF) (h:fJ (w.heap.size+1) W0 w2) (h3:fJ w2.heap.size w2 w3)=>(h.trans (h3.mono (by have:=h.size;rw [HSZ.out] at this;exact this)):fJ (w.heap.size+1) W0 w3))
 clear hW0 hs0
 go_enter Tryz.func117,Tryz.ntmps117
 go_upto_region 1 with fail
 rw [HW0.out]
 have hba:∀ o,fJ (w.heap.size+1) W0 (W0.alloc o):=fun o=>(fK _ _).alloc (by rw [HSZ.out];exact fQ _) o
 go_upto_region 5 with fail
 have hb5:=hba (.cells #[fT .i64 id,.int .i64 nc.ev,.int .i64 nc.frm,.int .i64 nc.til,.string nc.author,.string nc.text,.bool nc.done,.bool nc.lost] 52)
 have hk5:=fG W0 (.cells #[fT .i64 id,.int .i64 nc.ev,.int .i64 nc.frm,.int .i64 nc.til,.string nc.author,.string nc.text,.bool nc.done,.bool nc.lost] 52)
 have hs5:(W0.alloc (.cells #[fT .i64 id,.int .i64 nc.ev,.int .i64 nc.frm,.int .i64 nc.til,.string nc.author,.string nc.text,.bool nc.done,.bool nc.lost] 52)).heap.size=W0.heap.size+1:=fL _ _
 generalize W0.alloc (.cells #[fT .i64 id,.int .i64 nc.ev,.int .i64 nc.frm,.int .i64 nc.til,.string nc.author,.string nc.text,.bool nc.done,.bool nc.lost] 52)=w5 at *
 have HS5:=h_ hs5
 have bx:∀ (w':fF),fJ w5.heap.size w5 w'→∀ (j:Nat),w'.cell? ⟨W0.heap.size,j,none⟩=_:=fun w' h j=>fH _ _ j _ 52 (0,0) ((h.block _ (by rw [HS5.out];exact fN _)).trans hk5)
 have HC5:=h_ (fun(w':fF) (h:fJ w5.heap.size w5 w')=>HT0.out _ _ hb5 h)
 have kf:=fun(w':fF) (h:fJ w5.heap.size w5 w')=>f1 w' (HC5.out _ h)
 have HLE:=h_ (show w.heap.size≤w5.heap.size from by rw [HS5.out,HSZ.out];omega)
 have HBW:=h_ (fun(w':fF) (h:fJ w5.heap.size w5 w')=>HB.out w' (HC5.out w' h))
 have HFI:=h_ (fun(v:fI) (w':fF) (hb:fJ w5.heap.size w5 w') (h:w'.ownsRow w5.heap.size 52 8 v Z.length (Z.flatMap Cm.enc))=>HQ.out v w5 w' h (HBW.out _ hb) HLE.out)
 have HZ0:=h_ hZ
 have HY:=h_ (show(#[fT .i64 id,.int .i64 nc.ev,.int .i64 nc.frm,.int .i64 nc.til,.string nc.author,.string nc.text,.bool nc.done,.bool nc.lost]:Array fI).toList=Cm.enc (Chg.c ⟨sec,id,name,ad,gn,oh,nh,rg,nr,oe,ne,oc,nc⟩).dP from rfl)
 obtain⟨Y,hYY⟩:∃ Y,Y=(Chg.c ⟨sec,id,name,ad,gn,oh,nh,rg,nr,oe,ne,oc,nc⟩).dP:=⟨_,rfl⟩
 rw [←hYY] at HY
 have H0:=h_ (show ziV 52 8 Cm.enc (cmLo id) (cmAt id) Y xs Z w5 0 gn (.slice none 0 0) w5 from⟨[],fM _ _ _ _,fP _,by rw [hYY];exact HZ0.out,fK _ _⟩)
 clear hs5 hb5 hk5 hZ hba f1 f4 f51 f52 f53 f54 f55 f56 f57 f58 hb0 HB HQ HZ0 hYY HC5 HT0
 go_wp2_with fail
 go_loopw [5,6,19] (fun v d i wr=>∃ (k:Nat) (b:Bool),k≤xs.length∧d=.bool b∧i=.int .i64 k∧ziV 52 8 Cm.enc (cmLo id) (cmAt id) Y xs Z w5 k b v wr) (fun _ _ i _=>xs.length-(intOf i).toNat)
 case atStart=>exact⟨0,gn,by omega,rfl,rfl,H0.out⟩
 case round =>
  obtain⟨k,b,hk,rfl,rfl,zs,hown,hlen,hz,hb⟩:=hrel
  clear H0
  obtain⟨va,vc,rfl⟩:=aS hown
  by_cases hlt:k<xs.length
  · obtain⟨b0,off,e,rfl,hbl,hxk,hc,_⟩:=(HX.out _ (HBW.out _ hb)).at_ hlt
    obtain⟨eid,eev,efrm,etil,eau,etx,edn,elo⟩:=e
    have d0:=hc 0 _ rfl;have d1:=hc 1 _ rfl;have d2:=hc 2 _ rfl;have d3:=hc 3 _ rfl;have d4:=hc 4 _ rfl;have d5:=hc 5 _ rfl;have d6:=hc 6 _ rfl;have d7:=hc 7 _ rfl
    simp only [fO] at d0
    have hsr:=hb.size
    have HOW:=h_ (fun o=>hown.alloc o)
    have hbE:∀ o,fJ w5.heap.size w5 (wr.alloc o):=fun o=>hb.alloc hsr o
    have hle2:(if b=true then 1 else 0)≤1:=by split<;>omega
    cases b
    · cases hlo:(cmLo id) ⟨eid,eev,efrm,etil,eau,etx,edn,elo⟩
      · cases hat:(cmAt id) ⟨eid,eev,efrm,etil,eau,etx,edn,elo⟩
        · skip
          have q1:¬ eid<id:=by simpa [cmLo] using hlo
          have q1':id≤eid:=by omega
          have q1'':decide (id≤eid)=true:=by simpa using q1'
          have q2:(eid==id)=false:=hat
          have q2':(eid != id)=true:=by rw [bne,q2];rfl
          have HZ:=h_ (show zs++[Y]++[⟨eid,eev,efrm,etil,eau,etx,edn,elo⟩]++setL (cmLo id) (cmAt id) Y true (xs.drop (k+1))=Z from by have t:=dy hxk hz;rw [hat] at t;rw [hlo] at t;simpa using t)
          clear hz hxk hc hlo hat
          go_wp2_with (at_builtin;refine ak _ _ rfl (.tmp 32) (.tmp 34) 25 rfl w5.heap.size 52 i0 _ 8 72 fU JI.out J0.out J1.out J2.out rfl (by decide) _ _ _ rfl (HOW.out _) _ rfl ((fL _ _).symm) rfl ?h1Y ?h63Y ?hbY ?hbaseY ?_)
          case h1Y=>simp [fR]
          case h63Y=>unfold maxLen;omega
          case hbY=>omega
          case hbaseY=>first|omega|(simp;omega)
          intro v2 w2 hown2 hgrow2 _
          obtain⟨ho2,hb2⟩:=bZ hown (hbE _) HY.out hown2 hgrow2
          have ce2:∀ (j:Nat),w2.cell? ⟨wr.heap.size,j,none⟩=_:=fun j=>fH _ _ j _ 52 (0,0) ((hgrow2.block wr.heap.size (by simp;omega) (fun e=>absurd (hown.lt wr.heap.size e.symm).2 (by omega))).trans (ar (fG wr (.cells #[fT .i64 eid,.int .i64 eev,.int .i64 efrm,.int .i64 etil,.string eau,.string etx,.bool edn,.bool elo] 52))))
          have hlen2:(zs++[Y]).length≤k+1:=by rw [e_];simp only [fb,fe];simp at hlen;omega
          obtain⟨va2,vc2,rfl⟩:=aS ho2
          have HO2:=h_ ho2
          clear hown2 hgrow2 HOW
          have hs2:=hb2.size
          go_wp2_with (at_builtin;refine ak _ _ rfl (.tmp 41) (.tmp 43) 25 rfl w5.heap.size 52 i0 _ 8 72 fU JI.out J0.out J1.out J2.out rfl (by decide) _ _ _ rfl (HO2.out) _ rfl (rfl) rfl ?h1E ?h63E ?hbE ?hbaseE ?_)
          case h1E=>simp [fR]
          case h63E=>unfold maxLen;omega
          case hbE=>omega
          case hbaseE=>omega
          intro v3 w3 hown3 hgrow3 _
          obtain⟨ho3,hb3⟩:=bZ HO2.out hb2 (x:=(⟨eid,eev,efrm,etil,eau,etx,edn,elo⟩:Cm)) (cs:=#[fT .i64 eid,.int .i64 eev,.int .i64 efrm,.int .i64 etil,.string eau,.string etx,.bool edn,.bool elo]) (w2:=w3) (v':=v3) rfl (by simpa using hown3) (by simpa using hgrow3)
          have hlen3:(zs++[Y]++[(⟨eid,eev,efrm,etil,eau,etx,edn,elo⟩:Cm)]).length≤k+1+1:=by rw [e_];simp only [fb,fe];omega
          clear hown3 hgrow3
          go_wp2_with fail
          go_roundw
          case rel=>exact⟨k+1,true,by omega,rfl,by go_num,_,ho3,by simpa using hlen3,HZ.out,hb3⟩
          case measure=>simp [intOf];omega
        · skip
          have q1:¬ eid<id:=by simpa [cmLo] using hlo
          have q1':id≤eid:=by omega
          have q1'':decide (id≤eid)=true:=by simpa using q1'
          have q2:(eid==id)=true:=hat
          have q2':(eid != id)=false:=by rw [bne,q2];rfl
          have HZ:=h_ (show zs++[Y]++setL (cmLo id) (cmAt id) Y true (xs.drop (k+1))=Z from by have t:=dy hxk hz;rw [hat] at t;rw [hlo] at t;simpa using t)
          clear hz hxk hc hlo hat
          go_wp2_with (at_builtin;refine ak _ _ rfl (.tmp 32) (.tmp 34) 25 rfl w5.heap.size 52 i0 _ 8 72 fU JI.out J0.out J1.out J2.out rfl (by decide) _ _ _ rfl (HOW.out _) _ rfl ((fL _ _).symm) rfl ?h1Y ?h63Y ?hbY ?hbaseY ?_)
          case h1Y=>simp [fR]
          case h63Y=>unfold maxLen;omega
          case hbY=>omega
          case hbaseY=>first|omega|(simp;omega)
          intro v2 w2 hown2 hgrow2 _
          obtain⟨ho2,hb2⟩:=bZ hown (hbE _) HY.out hown2 hgrow2
          have ce2:∀ (j:Nat),w2.cell? ⟨wr.heap.size,j,none⟩=_:=fun j=>fH _ _ j _ 52 (0,0) ((hgrow2.block wr.heap.size (by simp;omega) (fun e=>absurd (hown.lt wr.heap.size e.symm).2 (by omega))).trans (ar (fG wr (.cells #[fT .i64 eid,.int .i64 eev,.int .i64 efrm,.int .i64 etil,.string eau,.string etx,.bool edn,.bool elo] 52))))
          have hlen2:(zs++[Y]).length≤k+1:=by rw [e_];simp only [fb,fe];simp at hlen;omega
          obtain⟨va2,vc2,rfl⟩:=aS ho2
          have HO2:=h_ ho2
          clear hown2 hgrow2 HOW
          have hs2:=hb2.size
          go_wp2_with fail
          go_roundw
          case rel=>exact⟨k+1,true,by omega,rfl,by go_num,_,ho2,by simp only [if_true];omega,HZ.out,hb2⟩
          case measure=>simp [intOf];omega
      · have hat:=zkB id ⟨eid,eev,efrm,etil,eau,etx,edn,elo⟩ hlo
        have q1:eid<id:=by simpa [cmLo] using hlo
        have q1':¬ id≤eid:=by omega
        have q1'':decide (id≤eid)=false:=by simpa using q1'
        have q2:(eid==id)=false:=hat
        have q2':(eid != id)=true:=by rw [bne,q2];rfl
        have HZ:=h_ (show zs++[⟨eid,eev,efrm,etil,eau,etx,edn,elo⟩]++setL (cmLo id) (cmAt id) Y false (xs.drop (k+1))=Z from by have t:=dy hxk hz;rw [hat] at t;rw [hlo] at t;simpa using t)
        clear hz hxk hc hlo hat
        go_wp2_with (at_builtin;refine ak _ _ rfl (.tmp 41) (.tmp 43) 25 rfl w5.heap.size 52 i0 _ 8 72 fU JI.out J0.out J1.out J2.out rfl (by decide) _ _ _ rfl (HOW.out _) _ rfl ((fL _ _).symm) rfl ?h1E ?h63E ?hbE ?hbaseE ?_)
        case h1E=>simp [fR]
        case h63E=>unfold maxLen;omega
        case hbE=>omega
        case hbaseE=>first|omega|(simp;omega)
        intro v2 w2 hown2 hgrow2 _
        obtain⟨ho2,hb2⟩:=bZ hown (hbE _) (x:=(⟨eid,eev,efrm,etil,eau,etx,edn,elo⟩:Cm)) (cs:=#[fT .i64 eid,.int .i64 eev,.int .i64 efrm,.int .i64 etil,.string eau,.string etx,.bool edn,.bool elo]) rfl hown2 hgrow2
        have hlen2:(zs++[(⟨eid,eev,efrm,etil,eau,etx,edn,elo⟩:Cm)]).length≤k+1+(if false=true then 1 else 0):=by rw [e_];simp only [fb,fe];omega
        clear hown2 hgrow2 HOW
        go_wp2_with fail
        go_roundw
        case rel=>exact⟨k+1,false,by omega,rfl,by go_num,_,ho2,hlen2,HZ.out,hb2⟩
        case measure=>simp [intOf];omega
    · cases hat:(cmAt id) ⟨eid,eev,efrm,etil,eau,etx,edn,elo⟩
      · skip
        have q2:(eid==id)=false:=hat
        have q2':(eid != id)=true:=by rw [bne,q2];rfl
        have HZ:=h_ (show zs++[⟨eid,eev,efrm,etil,eau,etx,edn,elo⟩]++setL (cmLo id) (cmAt id) Y true (xs.drop (k+1))=Z from by have t:=dy hxk hz;rw [hat] at t;simpa using t)
        clear hz hxk hc hat
        go_wp2_with (at_builtin;refine ak _ _ rfl (.tmp 41) (.tmp 43) 25 rfl w5.heap.size 52 i0 _ 8 72 fU JI.out J0.out J1.out J2.out rfl (by decide) _ _ _ rfl (HOW.out _) _ rfl ((fL _ _).symm) rfl ?h1E ?h63E ?hbE ?hbaseE ?_)
        case h1E=>simp [fR]
        case h63E=>unfold maxLen;omega
        case hbE=>omega
        case hbaseE=>first|omega|(simp;omega)
        intro v2 w2 hown2 hgrow2 _
        obtain⟨ho2,hb2⟩:=bZ hown (hbE _) (x:=(⟨eid,eev,efrm,etil,eau,etx,edn,elo⟩:Cm)) (cs:=#[fT .i64 eid,.int .i64 eev,.int .i64 efrm,.int .i64 etil,.string eau,.string etx,.bool edn,.bool elo]) rfl hown2 hgrow2
        have hlen2:(zs++[(⟨eid,eev,efrm,etil,eau,etx,edn,elo⟩:Cm)]).length≤k+1+(if true=true then 1 else 0):=by rw [e_];simp only [fb,fe];omega
        clear hown2 hgrow2 HOW
        go_wp2_with fail
        go_roundw
        case rel=>exact⟨k+1,true,by omega,rfl,by go_num,_,ho2,hlen2,HZ.out,hb2⟩
        case measure=>simp [intOf];omega
      · skip
        have q2:(eid==id)=true:=hat
        have q2':(eid != id)=false:=by rw [bne,q2];rfl
        have HZ:=h_ (show zs++setL (cmLo id) (cmAt id) Y true (xs.drop (k+1))=Z from by have t:=dy hxk hz;rw [hat] at t;simpa using t)
        clear hz hxk hc hat
        go_wp2_with fail
        go_roundw
        case rel=>exact⟨k+1,true,by omega,rfl,by go_num,_,HOW.out _,by omega,HZ.out,hbE _⟩
        case measure=>simp [intOf];omega
  · obtain rfl:k=xs.length:=by omega
    rw [ft,setL] at hz
    have hle2:(if b=true then 1 else 0)≤1:=by split<;>omega
    cases b
    · have HZ:=h_ (show zs++[Y]=Z from by simpa using hz)
      have HOW:=h_ hown
      have hsr:=hb.size
      clear hz
      go_wp2_with (at_builtin;refine ak _ _ rfl (.tmp 48) (.tmp 50) 25 rfl w5.heap.size 52 i0 _ 8 72 fU JI.out J0.out J1.out J2.out rfl (by decide) _ _ _ rfl (HOW.out) _ rfl (rfl) rfl ?h1Z ?h63Z ?hbZ ?hbaseZ ?_)
      case h1Z=>simp [fR]
      case h63Z=>unfold maxLen;omega
      case hbZ=>omega
      case hbaseZ=>omega
      intro v2 w2 hown2 hgrow2 _
      obtain⟨ho2,hb2⟩:=bZ hown hb HY.out hown2 hgrow2
      rw [HZ.out] at ho2
      have HE:=h_ (HFI.out _ _ hb2 ho2)
      obtain⟨va2,vc2,rfl⟩:=aS ho2
      clear hown2 hgrow2 ho2
      go_wp2_with fail
      exact HE.out
    · have hZ:zs=Z:=by simpa using hz
      subst hZ
      have HE:=h_ (HFI.out _ _ hb hown)
      clear hz hown
      go_wp2_with fail
      exact HE.out
end Go.Proofs.YtnlnmbcaongehaaGreatDoor
