/- The contract of diff.apply at any change of a document in order, and of diff.Patch at any changes. -/
import Derived.Test.YtnlnmbcaongehaaGreatDoorA08
set_option linter.unusedVariables false
set_option linter.unusedSimpArgs false
set_option maxRecDepth 100000
set_option maxHeartbeats 12800000
open Go.Lib renaming hid→h_
open List renaming length_map→e_,mem_map→fb,append_assoc→fe,map_take→ff,map_drop→fg,map_map→fh
open Option.some renaming inj→fi
namespace Go.Proofs.YtnlnmbcaongehaaGreatDoor
open Go.RowKit
theorem zhm {α β:Type} (f:α→β)(xs:List α)(k:Nat)(y:α):(bo xs k y).map f=bo (xs.map f) k (f y):=by simp [bo,ff,fg]
theorem zjD {α β:Type} (f:α→β)(xs:List α)(k:Nat):(br xs k).map f=br (xs.map f) k:=by simp [br,ff,fg]
theorem zfq {α:Type} (xs:List α)(k:Nat)(y:α):(bo xs k y).Perm (xs++[y]):=by
 have h1:(bo xs k y).Perm (xs.take k++(xs.drop k++[y])):=by
  unfold bo
  rw [fe]
  exact List.Perm.append_left _ List.perm_append_comm
 rwa [←fe,List.take_append_drop] at h1
theorem zlt {evs:List Ev} {x:Chg} {y:Ev} (hi:(evs.map Ev.c).Pairwise fun x y=>x.id≠y.id)(hag:x.added=true→x.gone=false)(h0:cB evs x=0)(hy:y.c=x.c.newEv) :
 ((zeu evs x y).map Ev.c).Perm ((evs.map Ev.c).filter (fun z=>!(z.id==x.id))++(if x.gone=true then none else some x.c.newEv).toList):=by
 have hz:=h0
 unfold cB at hz
 obtain⟨z1,z2⟩:=zaM hz
 have key:∀ zs:List Ev,(x.added=true→zs=evs)→(x.added=false→zs=br evs (zbv evs x))→zs.map Ev.c=(evs.map Ev.c).filter fun z=>!(z.id==x.id):=by
  intro zs hA hB
  cases ha:x.added
  · rw [hB ha,zjD]
    have hs:=z2 ha
    unfold zbv
    cases hf:first (fun z:Ev=>z.id==x.id) evs with
    | none=>rw [hf] at hs;cases hs
    | some q =>
      obtain⟨m,k⟩:=q
      obtain⟨_,hk,hp⟩:=cq _ _ 0 m k hf
      have hid:m.c.id=x.id:=by
       have h1:m.id=x.id:=by simpa using hp
       exact h1
      have hk':(evs.map Ev.c)[k]? =some m.c:=by rw [List.getElem?_map,show evs[k]? =some m from by simpa using hk];rfl
      have:=zkn hi k m.c hk'
      rw [hid] at this
      rw [this]
      rfl
  · rw [hA ha]
    have hn:=z1 ha
    rw [dJ] at hn
    have hn':=zh2 hn
    rw [List.find?_eq_none] at hn'
    refine(List.filter_eq_self.2 fun c hc=>?_).symm
    obtain⟨z,hz,rfl⟩:=fb.1 hc
    have:=hn' z hz
    simpa [Ev.c] using this
 unfold zeu aJ
 cases hg:x.gone
 · simp only [Bool.false_eq_true,if_false]
   rw [zhm,hy]
   refine(zfq _ _ _).trans ?_
   rw [key _ (fun ha=>by rw [if_pos ha]) (fun ha=>by rw [if_neg (by rw [ha];decide)])]
   exact List.Perm.refl _
 · simp only [if_true]
   rw [key _ (fun ha=>by rw [if_pos ha]) (fun ha=>by rw [if_neg (by rw [ha];decide)])]
   simp
theorem zal {c:ChgC} (h:cu c=0):1≤c.sec∧c.sec≤4∧(c.added=true→c.gone=false)∧(c.sec=1→c.added=false∧c.gone=false):=by
 unfold cu at h
 split at h
 · cases h
 · rename_i h1
   split at h
   · cases h
   · rename_i h2
     refine⟨by omega,by omega,fun ha=>?_,fun hs=>?_⟩
     · cases hg:c.gone
       · rfl
       · rw [ha,hg] at h2
         exact absurd rfl h2
     · cases ha:c.added<;>cases hg:c.gone<;>rw [ha,hg,hs] at h2<;>first|exact⟨rfl,rfl⟩|exact absurd rfl h2
def StC (d:Doc)(x:Chg)(err:Int)(d':Doc):Prop:=err=(aV d.c x.c).1∧d'.c=(aV d.c x.c).2
theorem zkQ {d:Doc} {x:Chg} {g:Nat} {w:World} {e:Ending} {w':World} (hd:zds d.c)(hb:cu x.c=0)(hsec:x.sec=3)(h:zb7 d g x w e w'):zb4 (StC d x) d g w e w':=by
 have hag:=(zal hb).2.2.1
 have hs1:¬ x.c.sec=1:=by show ¬ x.sec=1;omega
 have hs2:¬ x.c.sec=2:=by show ¬ x.sec=2;omega
 unfold zb7 at h
 split at h
 · rename_i h0
   have ha:aV d.c x.c=(0,⟨d.hd,d.rG,zfg (d.evs.map Ev.c) x.id (if x.gone=true then none else some x.c.newEv),d.cms⟩):=by
    unfold aV
    rw [if_neg (by simpa using hb),if_neg hs1,if_neg hs2,if_pos (show x.c.sec=3 from hsec),if_pos (show b8 d.c.evs x.c=0 from(ziv _ _).symm.trans h0)]
    rfl
   obtain⟨rfl,d',y,h1,h2,h3,h4,h5,h6,h7,h8,h9,h10⟩:=h
   refine⟨0,d',rfl,⟨h1,h8,fun b hu=>(h9 b hu).1⟩,fun b hu=>(h9 b hu).2,h10,?_⟩
   unfold StC
   rw [ha]
   refine⟨rfl,?_⟩
   have hu:=zbU (h6.trans (zlt hd.ids hag h0 h2)) (by
    rw [List.pairwise_map]
    refine h7.imp fun {a b} h=>?_
    rw [zaL] at h
    simp only [decide_eq_false_iff_not] at h
    show decide (a.inn<b.inn∨(a.inn=b.inn∧a.id≤b.id))=true
    rw [decide_eq_true_eq]
    omega) (zca hd.ids x.id _ (fun y hy=>by
     split at hy
     · cases hy
     · obtain rfl:=fi hy
       rfl))
   show Doc.c d'=_
   unfold Doc.c zfg
   rw [h3,h4,h5,hu]
 · rename_i h0
   have ha:aV d.c x.c=(cB d.evs x,d.c):=by
    unfold aV
    rw [if_neg (by simpa using hb),if_neg hs1,if_neg hs2,if_pos (show x.c.sec=3 from hsec),if_neg (show ¬ b8 d.c.evs x.c=0 from fun h=>h0 ((ziv _ _).trans h))]
    rw [ziv]
    rfl
   refine h.step fun d' hd'=>?_
   unfold StC
   rw [ha]
   exact⟨rfl,hd'⟩
theorem zkS {d:DocC} {c:ChgC} (h:zds d):zds (aV d c).2:=by
 unfold aV
 split
 · exact h
 · split
   · split
     · exact⟨h.rG,h.cms,h.ids,h.ord⟩
     · exact h
   · split
     · split
       · refine⟨?_,h.cms,h.ids,h.ord⟩
         have hv:∀ y,(if c.gone=true then none else some c.bJ)=some y→y.name=c.name:=by
          intro y hy
          split at hy
          · cases hy
          · obtain rfl:=fi hy
            rfl
         refine zcQ (zhQ c.name) h.rG _ (fun y hy a ha=>?_) (fun y hy b hb he=>?_)
         · rw [hv y hy]
           exact(zhF _ _).1 ha
         · rw [hv y hy]
           refine zfz (fun h=>?_) (fun h=>?_)
           · rw [ei,(zhF _ _).2 h] at hb
             cases hb
           · rw [df,h] at he
             simp at he
       · exact h
     · split
       · split
         · have hv:∀ y,(if c.gone=true then none else some c.newEv)=some y→y.id=c.id:=by
            intro y hy
            split at hy
            · cases hy
            · obtain rfl:=fi hy
              rfl
           have:=zkq (zca h.ids c.id _ hv)
           exact⟨h.rG,h.cms,this.2,this.1⟩
         · exact h
       · split
         · refine⟨h.rG,?_,h.ids,h.ord⟩
           have hv:∀ y,(if c.gone=true then none else some c.dP)=some y→y.id=c.id:=by
            intro y hy
            split at hy
            · cases hy
            · obtain rfl:=fi hy
              rfl
           refine zcQ (zkA c.id) h.cms _ (fun y hy a ha=>?_) (fun y hy b hb he=>?_)
           · rw [hv y hy]
             simpa [cmLo] using ha
           · rw [hv y hy]
             simp only [cmLo,cmAt,decide_eq_false_iff_not,beq_eq_false_iff_ne] at hb he
             omega
         · exact h
def EvC.fits (x:EvC):Prop:=i64 x.id∧i64 x.inn∧i64 x.out∧x.region.size≤4000000∧0≤x.kind∧x.kind≤255∧x.speaker.size≤4000000∧(∀ r∈x.rows,(∀ y∈r,y.fits)∧r.length≤4000000∧bV r≤4000000)∧x.rows.length≤4000000
theorem Ev.fits_c (x:Ev):x.c.fits↔x.fits:=by
 unfold EvC.fits Ev.fits
 simp only [Ev.c,e_,fb,forall_exists_index,and_imp,forall_apply_eq_imp_iff₂]
 rfl
def Hd.fits (h:Hd):Prop:=h.title.size≤4000000∧h.lA.size≤4000000∧0≤h.rate∧h.rate≤255∧i64 h.last
def DocC.fits (n:Nat)(d:DocC):Prop:=d.hd.fits∧(∀ r∈d.rG,r.fits)∧d.rG.length≤n∧(∀ x∈d.evs,x.fits)∧d.evs.length≤n∧(∀ c∈d.cms,c.fits)∧d.cms.length≤n
theorem DocC.fits.doc {d:Doc} {n:Nat} (h:d.c.fits n)(hn:n≤4000000):d.fits:=by
 obtain⟨⟨h1,h2,h3,h4,h5⟩,h6,h7,h8,h9,h10,h11⟩:=h
 have h9':d.evs.length≤n:=by
  have:d.c.evs.length=d.evs.length:=e_ ..
  omega
 exact⟨h1,h2,h3,h4,h5,h6,Nat.le_trans h7 hn,fun x hx=>(Ev.fits_c x).1 (h8 x.c (fb.2 ⟨x,hx,rfl⟩)),by omega,h10,Nat.le_trans h11 hn⟩
theorem Doc.fits.c {d:Doc} {n:Nat} (h:d.fits)(h1:d.rG.length≤n)(h2:d.evs.length≤n)(h3:d.cms.length≤n):d.c.fits n:=by
 obtain⟨q1,q2,q3,q4,q5,q6,q7,q8,q9,q10,q11⟩:=h
 refine⟨⟨q1,q2,q3,q4,q5⟩,q6,h1,fun x hx=>?_,by show(d.evs.map Ev.c).length≤n;rw [e_];exact h2,q10,h3⟩
 obtain⟨y,hy,rfl⟩:=fb.1 hx
 exact(Ev.fits_c y).2 (q8 y hy)
theorem DocC.fits.mono {d:DocC} {n m:Nat} (h:d.fits n)(hn:n≤m):d.fits m:=by
 obtain⟨h1,h2,h3,h4,h5,h6,h7⟩:=h
 exact⟨h1,h2,by omega,h4,by omega,h6,by omega⟩
def ChgC.full (c:ChgC):Prop:=0≤c.sec∧i64 c.id∧c.name.size≤4000000∧c.nh.fits∧c.nr.fits∧c.oe.fits∧c.ne.fits∧c.nc.fits
theorem zh3 {c:ChgC} (h:c.full):c.bJ.fits:=by
 obtain⟨_,_,h1,_,⟨_,h2⟩,_⟩:=h
 exact⟨h1,h2⟩
theorem zjg {c:ChgC} (h:c.full):c.newEv.fits:=by
 obtain⟨_,h1,_,_,_,_,⟨_,h2⟩,_⟩:=h
 exact⟨h1,h2⟩
theorem zjh {c:ChgC} (h:c.full):c.dP.fits:=by
 obtain⟨_,h1,_,_,_,_,_,⟨_,h2⟩⟩:=h
 exact⟨h1,h2⟩
theorem zjX (evs:List EvC)(id:Int)(v:Option EvC):(zfg evs id v).length≤evs.length+1:=by
 unfold zfg zc3
 rw [List.length_mergeSort,List.length_append]
 have:=List.length_filter_le (fun x:EvC=>!(x.id==id)) evs
 cases v<;>simp<;>omega
theorem zi5 {evs:List EvC} {id:Int} {v:Option EvC} {x:EvC} (h:x∈zfg evs id v):x∈evs∨v=some x:=by
 have h1:=(zai _).subset h
 rcases List.mem_append.1 h1 with h1|h1
 · exact .inl (List.mem_filter.1 h1).1
 · exact .inr (by simpa using h1)
theorem zia {α:Type} {b:Bool} {y x:α} (h:(if b=true then none else some y)=some x):x=y:=by
 split at h
 · cases h
 · exact(fi h).symm
theorem ziu {d:DocC} {c:ChgC} {n:Nat} (h:d.fits n)(hc:c.full):(aV d c).2.fits (n+1):=by
 have h0:=h.mono (Nat.le_succ n)
 obtain⟨h1,h2,h3,h4,h5,h6,h7⟩:=h
 unfold aV
 split
 · exact h0
 · split
   · split
     · exact⟨hc.2.2.2.1,h2,by simp only;omega,h4,by simp only;omega,h6,by simp only;omega⟩
     · exact h0
   · split
     · split
       · refine⟨h1,fun x hx=>?_,?_,h4,by simp only;omega,h6,by simp only;omega⟩
         · rcases zgI hx with hx|hx
           · exact h2 x hx
           · rw [zia hx]
             exact zh3 hc
         · have:=ziD (ei c.name) (df c.name) (if c.gone=true then none else some c.bJ) d.rG
           simp only
           omega
       · exact h0
     · split
       · split
         · refine⟨h1,h2,by simp only;omega,fun x hx=>?_,?_,h6,by simp only;omega⟩
           · rcases zi5 hx with hx|hx
             · exact h4 x hx
             · rw [zia hx]
               exact zjg hc
           · have:=zjX d.evs c.id (if c.gone=true then none else some c.newEv)
             simp only
             omega
         · exact h0
       · split
         · refine⟨h1,h2,by simp only;omega,h4,by simp only;omega,fun x hx=>?_,?_⟩
           · rcases zgI hx with hx|hx
             · exact h6 x hx
             · rw [zia hx]
               exact zjh hc
           · have:=ziD (cmLo c.id) (cmAt c.id) (if c.gone=true then none else some c.dP) d.cms
             simp only
             omega
         · exact h0
theorem zit (d:Doc)(g:Nat)(x:Chg)(n:Nat)(w:World)(hok:zds d.c)(hf:d.c.fits n)(hn:n+1≤4000000)(hc:x.c.full)(hd:eB d g w)(hl:x.lies w) :
 Calls Tryz.prog 55 #[.pointer (some ⟨g,0,none⟩),.agg x.enc.toArray] w (zb4 (StC d x) d g w):=by
 have hfd:=hf.doc (by omega)
 by_cases hb:cu x.c=0
 · obtain⟨b1,b2,b3,b4⟩:=zal hb
   have hsec:x.sec=1∨x.sec=2∨x.sec=3∨x.sec=4:=by
    have h1:1≤x.sec:=b1
    have h2:x.sec≤4:=b2
    omega
   rcases hsec with hs|hs|hs|hs
   · obtain⟨ha,hg⟩:=b4 hs
     refine(zgv d g x w hs ha hg hd).mono fun e w' p=>p.step fun d' hd'=>?_
     unfold StC aV
     rw [if_neg (by simpa using hb),if_pos (show x.c.sec=1 from hs),hd']
     unfold zbu zbs
     show _=(if hdEq d.hd x.oh=true then _ else _:Int × DocC).1∧_=(if hdEq d.hd x.oh=true then _ else _:Int × DocC).2
     split
     · exact⟨rfl,rfl⟩
     · exact⟨rfl,rfl⟩
   · have:=zjL hok hb hs
     refine(zbe d g x w hs b3 hd hfd.2.2.2.2.2.2.1).mono fun e w' p=>p.step fun d' hd'=>?_
     unfold StC
     rw [←this]
     exact⟨rfl,hd'⟩
   · refine(zb3 d g x w hs b3 hd hl hc.2.1 hfd.2.2.2.2.2.2.2.1 ((Ev.fits_c x.oe).1 hc.2.2.2.2.2.1) ((Ev.fits_c x.ne).1 hc.2.2.2.2.2.2.1) ?_).mono fun e w' p=>zkQ hok hb hs p
     have h1:=hf.2.2.2.2.1
     have h2:d.c.evs.length=d.evs.length:=e_ ..
     omega
   · have:=zkR hok hb hs
     refine(zgw d g x w hs b3 hd hfd.2.2.2.2.2.2.2.2.2.2).mono fun e w' p=>p.step fun d' hd'=>?_
     unfold StC
     rw [←this]
     exact⟨rfl,hd'⟩
 · refine(ze8 d g x w hc.1 hb hd).mono fun e w' p=>p.step fun d' hd'=>?_
   unfold StC
   rw [zfB hb]
   exact⟨rfl,hd'⟩
def zar:DocC→List ChgC→Int × DocC
 | d,[]=>(0,d)
 | d,c::l=>if (aV d c).1=0 then zar (aV d c).2 l else ((aV d c).1,d)
def EvC.rep (x:EvC):Ev:=⟨x.id,x.inn,x.out,x.region,x.kind,x.speaker,none,0,x.rows.map fun r=>⟨none,0,r⟩⟩
def DocC.rep (d:DocC):Doc:=⟨d.hd.title,d.hd.lA,d.hd.rate,d.hd.drop,d.hd.last,none,0,d.rG,none,0,d.evs.map EvC.rep,none,0,d.cms⟩
theorem EvC.rep_c (x:EvC):x.rep.c=x:=by
 obtain⟨id,inn,out,region,kind,speaker,rows⟩:=x
 simp [EvC.rep,Ev.c,fh,Function.comp_def]
theorem DocC.rep_c (d:DocC):d.rep.c=d:=by
 obtain⟨⟨title,lA,rate,drop,last⟩,rG,evs,cms⟩:=d
 have:(evs.map EvC.rep).map Ev.c=evs:=by
  rw [fh]
  exact(List.map_congr_left fun x _=>EvC.rep_c x).trans (List.map_id' evs)
 simp only [DocC.rep,Doc.c,Doc.hd,this]
def cErr (d:DocC):Int:=az d.rep
theorem dZ (d:Doc):az d=cErr d.c:=zim (DocC.rep_c d.c).symm
def zmC:DocC:=⟨aP,[],[],[]⟩
def bC (d:DocC)(l:List ChgC):Int:=if cErr d=0 then (if (zar d l).1=0 then cErr (zar d l).2 else (zar d l).1) else cErr d
def zdz (d:DocC)(l:List ChgC):DocC:=if bC d l=0 then (zar d l).2 else zmC
def cY (d:DocC)(l:List ChgC)(n:Nat)(w:World)(e:Ending)(w':World):Prop :=
 ∃ d':Doc,e=.returned (.tuple #[.agg d'.enc.toArray,.int .i64 (bC d l)])∧d'.c=zdz d l∧d'.lies w'∧d'.c.fits n∧Below w.heap.size w w'
def zDoc:Doc:=⟨⟨#[]⟩,⟨#[]⟩,0,false,0,none,0,[],none,0,[],none,0,[]⟩
theorem zjM (w:World):zDoc.lies w:=⟨.inl rfl,.inl rfl,.inl rfl⟩
theorem zjN (n:Nat):zDoc.c.fits n:=⟨⟨by decide,by decide,by decide,by decide,⟨by decide,by decide⟩⟩,by simp [zDoc,Doc.c],by simp [zDoc,Doc.c],by simp [zDoc,Doc.c],by simp [zDoc,Doc.c],by simp [zDoc,Doc.c],by simp [zDoc,Doc.c]⟩
theorem zgb {d:DocC} {l:List ChgC} {n:Nat} {w w':World} {err:Int} (he:bC d l=err)(h0:err≠0)(hb:Below w.heap.size w w'):cY d l n w (.returned (.tuple #[.agg af,.int .i64 err])) w':=by
 subst he
 refine⟨zDoc,rfl,?_,zjM w',zjN n,hb⟩
 unfold zdz
 rw [if_neg h0]
 rfl
end Go.Proofs.YtnlnmbcaongehaaGreatDoor
