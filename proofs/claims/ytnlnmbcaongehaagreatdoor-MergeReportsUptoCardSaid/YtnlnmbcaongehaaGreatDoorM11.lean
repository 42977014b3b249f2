/- The contract of diff.apply at any change of a document in order, and of diff.Patch at any changes. The contract of the reference's Sort: copies of events, in order. (printed by gen_refsort.py) slices.Equal at regions and comments, slices.EqualFunc at events, document.Same of documents with equal contents. (printed by gen_docsame.py) The contract of the reference's Patch, over what one change does to a document. The contracts of diff.Patch and of the reference's Patch at any document and any changes: one and the same. (printed by gen_patchall.py) The contract of diff.Fields: the names of the fields that differ, over diff.fields. merge.value at strings, flags and kinds: the merged value of a field, and whether there is a clash. (printed by gen_mergeval.py) What a merge of two sides does to the contents of documents, in plain words. Worlds that keep all blocks but a few. -/
import Derived.Test.YtnlnmbcaongehaaGreatDoorM10
set_option linter.unusedVariables false
set_option linter.unusedSimpArgs false
set_option maxRecDepth 100000
set_option maxHeartbeats 12800000
open Go.Lib renaming hid→h_
open Option.some renaming inj→fm
open List renaming drop_length→fp,drop_eq_nil_of_le→ft,length_map→fu,mem_map→fw,mem_of_getElem?→fB,length_append→fC,not_mem_nil→fD,filter_cons→fE,mem_cons→fF,map_map→fG
open Nat renaming le_refl→fH,le_trans→fI,add_zero→fJ,lt_of_lt_of_le→fK
open Go renaming World→fL,Value→fM,Calls→fN
open Go.Lib renaming allEq→fO,compact→fP
open Go.RowKit renaming Below→fQ
open Go.RowKit.Below renaming refl→fR
open Array renaming getElem?_eq_some_iff→fS
namespace Go.Proofs.YtnlnmbcaongehaaGreatDoor
open Go.RowKit
theorem zi6 {d:DocC} {c:ChgC} (h:zjT d):zjT (za9 d c).2:=by
 unfold za9
 split
 · exact h
 · split
   · split
     · exact⟨h.rG,h.cms,h.ids,h.ord⟩
     · exact h
   · split
     · split
       · refine⟨?_,h.cms,h.ids,h.ord⟩
         have hv:∀ y,(if c.gone=true then none else some c.zfd)=some y→y.name=c.name:=by
          intro y hy
          split at hy
          · cases hy
          · obtain rfl:=fm hy
            rfl
         refine zbI (zkb c.name) h.rG _ (fun y hy a ha=>?_) (fun y hy b hb he=>?_)
         · rw [hv y hy]
           exact(zhT _ _).1 ha
         · rw [hv y hy]
           refine zhV (fun h=>?_) (fun h=>?_)
           · rw [zfR,(zhT _ _).2 h] at hb
             cases hb
           · rw [zaK,h] at he
             simp at he
       · exact h
     · split
       · split
         · have hv:∀ y,(if c.gone=true then none else some c.newEv)=some y→y.id=c.id:=by
            intro y hy
            split at hy
            · cases hy
            · obtain rfl:=fm hy
              rfl
           have:=ziR (zg6 h.ids c.id _ hv)
           exact⟨h.rG,h.cms,this.2,this.1⟩
         · exact h
       · split
         · refine⟨h.rG,?_,h.ids,h.ord⟩
           have hv:∀ y,(if c.gone=true then none else some c.zir)=some y→y.id=c.id:=by
            intro y hy
            split at hy
            · cases hy
            · obtain rfl:=fm hy
              rfl
           refine zbI (zkR c.id) h.cms _ (fun y hy a ha=>?_) (fun y hy b hb he=>?_)
           · rw [hv y hy]
             simpa [cmLo] using ha
           · rw [hv y hy]
             simp only [cmLo,cmAt,decide_eq_false_iff_not,beq_eq_false_iff_ne] at hb he
             omega
         · exact h
def EvC.fits (x:EvC):Prop:=i64 x.id∧i64 x.inn∧i64 x.out∧x.region.size≤4000000∧0≤x.kind∧x.kind≤255∧x.speaker.size≤4000000∧(∀ r∈x.rows,(∀ y∈r,y.fits)∧r.length≤4000000∧bQ r≤4000000)∧x.rows.length≤4000000
theorem Ev.fits_c (x:Ev):x.c.fits↔x.fits:=by
 unfold EvC.fits Ev.fits
 simp only [Ev.c,fu,fw,forall_exists_index,and_imp,forall_apply_eq_imp_iff₂]
 rfl
def Hd.fits (h:Hd):Prop:=h.title.size≤4000000∧h.lang.size≤4000000∧0≤h.rate∧h.rate≤255∧i64 h.last
def DocC.fits (n:Nat)(d:DocC):Prop:=d.hd.fits∧(∀ r∈d.rG,r.fits)∧d.rG.length≤n∧(∀ x∈d.evs,x.fits)∧d.evs.length≤n∧(∀ c∈d.cms,c.fits)∧d.cms.length≤n
theorem DocC.fits.doc {d:Doc} {n:Nat} (h:d.c.fits n)(hn:n≤4000000):d.fits:=by
 obtain⟨⟨h1,h2,h3,h4,h5⟩,h6,h7,h8,h9,h10,h11⟩:=h
 have h9':d.evs.length≤n:=by
  have:d.c.evs.length=d.evs.length:=fu ..
  omega
 exact⟨h1,h2,h3,h4,h5,h6,fI h7 hn,fun x hx=>(Ev.fits_c x).1 (h8 x.c (fw.2 ⟨x,hx,rfl⟩)),by omega,h10,fI h11 hn⟩
theorem Doc.fits.c {d:Doc} {n:Nat} (h:d.fits)(h1:d.rG.length≤n)(h2:d.evs.length≤n)(h3:d.cms.length≤n):d.c.fits n:=by
 obtain⟨q1,q2,q3,q4,q5,q6,q7,q8,q9,q10,q11⟩:=h
 refine⟨⟨q1,q2,q3,q4,q5⟩,q6,h1,fun x hx=>?_,by show(d.evs.map Ev.c).length≤n;rw [fu];exact h2,q10,h3⟩
 obtain⟨y,hy,rfl⟩:=fw.1 hx
 exact(Ev.fits_c y).2 (q8 y hy)
theorem DocC.fits.mono {d:DocC} {n m:Nat} (h:d.fits n)(hn:n≤m):d.fits m:=by
 obtain⟨h1,h2,h3,h4,h5,h6,h7⟩:=h
 exact⟨h1,h2,by omega,h4,by omega,h6,by omega⟩
def ChgC.full (c:ChgC):Prop:=0≤c.sec∧i64 c.id∧c.name.size≤4000000∧c.nh.fits∧c.nr.fits∧c.oe.fits∧c.ne.fits∧c.nc.fits
theorem zfV {c:ChgC} (h:c.full):c.zfd.fits:=by
 obtain⟨_,_,h1,_,⟨_,h2⟩,_⟩:=h
 exact⟨h1,h2⟩
theorem zhr {c:ChgC} (h:c.full):c.newEv.fits:=by
 obtain⟨_,h1,_,_,_,_,⟨_,h2⟩,_⟩:=h
 exact⟨h1,h2⟩
theorem zhs {c:ChgC} (h:c.full):c.zir.fits:=by
 obtain⟨_,h1,_,_,_,_,_,⟨_,h2⟩⟩:=h
 exact⟨h1,h2⟩
theorem zh6 (evs:List EvC)(id:Int)(v:Option EvC):(zgu evs id v).length≤evs.length+1:=by
 unfold zgu dD
 rw [List.length_mergeSort,fC]
 have:=List.length_filter_le (fun x:EvC=>!(x.id==id)) evs
 cases v<;>simp<;>omega
theorem zg3 {evs:List EvC} {id:Int} {v:Option EvC} {x:EvC} (h:x∈zgu evs id v):x∈evs∨v=some x:=by
 have h1:=(dq _).subset h
 rcases List.mem_append.1 h1 with h1|h1
 · exact .inl (List.mem_filter.1 h1).1
 · exact .inr (by simpa using h1)
theorem zf4 {α:Type} {b:Bool} {y x:α} (h:(if b=true then none else some y)=some x):x=y:=by
 split at h
 · cases h
 · exact(fm h).symm
theorem zgi {d:DocC} {c:ChgC} {n:Nat} (h:d.fits n)(hc:c.full):(za9 d c).2.fits (n+1):=by
 have h0:=h.mono (Nat.le_succ n)
 obtain⟨h1,h2,h3,h4,h5,h6,h7⟩:=h
 unfold za9
 split
 · exact h0
 · split
   · split
     · exact⟨hc.2.2.2.1,h2,by simp only;omega,h4,by simp only;omega,h6,by simp only;omega⟩
     · exact h0
   · split
     · split
       · refine⟨h1,fun x hx=>?_,?_,h4,by simp only;omega,h6,by simp only;omega⟩
         · rcases zeY hx with hx|hx
           · exact h2 x hx
           · rw [zf4 hx]
             exact zfV hc
         · have:=zgv (zfR c.name) (zaK c.name) (if c.gone=true then none else some c.zfd) d.rG
           simp only
           omega
       · exact h0
     · split
       · split
         · refine⟨h1,h2,by simp only;omega,fun x hx=>?_,?_,h6,by simp only;omega⟩
           · rcases zg3 hx with hx|hx
             · exact h4 x hx
             · rw [zf4 hx]
               exact zhr hc
           · have:=zh6 d.evs c.id (if c.gone=true then none else some c.newEv)
             simp only
             omega
         · exact h0
       · split
         · refine⟨h1,h2,by simp only;omega,h4,by simp only;omega,fun x hx=>?_,?_⟩
           · rcases zeY hx with hx|hx
             · exact h6 x hx
             · rw [zf4 hx]
               exact zhs hc
           · have:=zgv (cmLo c.id) (cmAt c.id) (if c.gone=true then none else some c.zir) d.cms
             simp only
             omega
         · exact h0
def zcv:DocC→List ChgC→Int × DocC
 | d,[]=>(0,d)
 | d,c::l=>if (za9 d c).1=0 then zcv (za9 d c).2 l else ((za9 d c).1,d)
def EvC.rep (x:EvC):Ev:=⟨x.id,x.inn,x.out,x.region,x.kind,x.speaker,none,0,x.rows.map fun r=>⟨none,0,r⟩⟩
def DocC.rep (d:DocC):Doc:=⟨d.hd.title,d.hd.lang,d.hd.rate,d.hd.drop,d.hd.last,none,0,d.rG,none,0,d.evs.map EvC.rep,none,0,d.cms⟩
theorem EvC.rep_c (x:EvC):x.rep.c=x:=by
 obtain⟨id,inn,out,region,kind,speaker,rows⟩:=x
 simp [EvC.rep,Ev.c,fG,Function.comp_def]
theorem DocC.rep_c (d:DocC):d.rep.c=d:=by
 obtain⟨⟨title,lang,rate,drop,last⟩,rG,evs,cms⟩:=d
 have:(evs.map EvC.rep).map Ev.c=evs:=by
  rw [fG]
  exact(List.map_congr_left fun x _=>EvC.rep_c x).trans (List.map_id' evs)
 simp only [DocC.rep,Doc.c,Doc.hd,this]
def cErr (d:DocC):Int:=aG d.rep
theorem bw (d:Doc):aG d=cErr d.c:=zge (DocC.rep_c d.c).symm
def zj2:DocC:=⟨zaF,[],[],[]⟩
def zDoc:Doc:=⟨⟨#[]⟩,⟨#[]⟩,0,false,0,none,0,[],none,0,[],none,0,[]⟩
theorem zeS (w:fL):zDoc.lies w:=⟨.inl rfl,.inl rfl,.inl rfl⟩
theorem zeT (n:Nat):zDoc.c.fits n:=⟨⟨by decide,by decide,by decide,by decide,⟨by decide,by decide⟩⟩,by simp [zDoc,Doc.c],by simp [zDoc,Doc.c],by simp [zDoc,Doc.c],by simp [zDoc,Doc.c],by simp [zDoc,Doc.c],by simp [zDoc,Doc.c]⟩
theorem one7 (a b c:Int)(s:ByteArray)(k:Int)(p:ByteArray)(ad:Option Addr)(n m:Nat):∀ u∈[fM.int .i64 a,.int .i64 b,.int .i64 c,.string s,.int .u8 k,.string p,.slice ad n m],u.oneCell'=true:=by
 intro u hu
 simp only [fF,fD,or_false] at hu
 rcases hu with rfl|rfl|rfl|rfl|rfl|rfl|rfl<;>rfl
end Go.Proofs.YtnlnmbcaongehaaGreatDoor
namespace Go.Proofs.YtnlnmbcaongehaaGreatDoor
open Go.RowKit
attribute [local go_sem ↓] Go.wp_at_zero Go.wp_at_succ
theorem allEq_len {α:Type} (eq:α→α→Bool):∀ xs ys:List α,xs.length≠ys.length→fO eq xs ys=false
 | [],[],h=>absurd rfl h
 | [],_::_,_=>rfl
 | _::_,[],_=>rfl
 | x::xs,y::ys,h=>by
   have:=allEq_len eq xs ys (by simpa using h)
   simp only [fO,this,Bool.and_false]
theorem zdo (a b:Option Addr)(c c':Nat)(xs ys:List Reg)(w:fL)(hx:af 7 Reg.enc Flat w a xs)(hy:af 7 Reg.enc Flat w b ys)(hl:xs.length≤4000000)(hl':ys.length≤4000000) :
 fN Tryz.prog 59 #[.slice a xs.length c,.slice b ys.length c'] w fun e w'=>e=.returned (.bool (fO d_ xs ys))∧fQ w.heap.size w w':=by
 generalize hR:fO d_ xs ys=R
 by_cases hle:xs.length=ys.length
 · have HX:=h_ (fun(w1:fL) (h:fQ w.heap.size w w1)=>af.keeps Flat.keeps _ _ _ _ h hx)
   have HY:=h_ (fun(w1:fL) (h:fQ w.heap.size w w1)=>af.keeps Flat.keeps _ _ _ _ h hy)
   have H0:=h_ (show fO d_ (xs.drop 0) (ys.drop 0)=R from hR)
   rw [←hle]
   have HLE:=h_ hle
   clear hle hx hy hl' hR
   go_enter Tryz.func59,Tryz.ntmps59
   go_wp2_with fail
   go_loopw [13] (fun i wr=>∃ k:Nat,k≤xs.length∧i=.int .i64 k∧fO d_ (xs.drop k) (ys.drop k)=R∧fQ w.heap.size w wr) (fun i _=>xs.length-(intOf i).toNat)
   case atStart=>exact⟨0,by omega,rfl,H0.out,fR _ _⟩
   case round =>
    clear H0
    obtain⟨k,hk,rfl,hp,hb⟩:=hrel
    by_cases hlt:k<xs.length
    · obtain⟨b0,off,x,rfl,hbl,hxk,hcx,_⟩:=(HX.out _ hb).at_ hlt
      obtain⟨b0',off',y,rfl,hbl',hyk,hcy,_⟩:=(HY.out _ hb).at_ (show k<ys.length from by have:=HLE.out;omega)
      rw [aZ xs k x hxk,aZ ys k y hyk,fO] at hp
      have r1:=fun wx=>zh9 x y wx
      have d0:=hcx 0 _ rfl;have d1:=hcx 1 _ rfl;have d2:=hcx 2 _ rfl;have d3:=hcx 3 _ rfl;have d4:=hcx 4 _ rfl;have d5:=hcx 5 _ rfl;have d6:=hcx 6 _ rfl;have e0:=hcy 0 _ rfl;have e1:=hcy 1 _ rfl;have e2:=hcy 2 _ rfl;have e3:=hcy 3 _ rfl;have e4:=hcy 4 _ rfl;have e5:=hcy 5 _ rfl;have e6:=hcy 6 _ rfl
      generalize hQ:d_ x y=EQ at hp r1
      obtain⟨xnm,xtop,xheight,xleft,xwidth,xalign,xbottom⟩:=x
      obtain⟨ynm,ytop,yheight,yleft,ywidth,yalign,ybottom⟩:=y
      simp only [Reg.enc,fJ] at r1 d0 e0 d1 e1 d2 e2 d3 e3 d4 e4 d5 e5 d6 e6
      have HBN:=h_ (fun n=>below_drewN hb n)
      clear hcx hcy hxk hyk hQ
      cases EQ with
      | true =>
        have HP:=h_ (by simpa using hp)
        clear hp
        go_wp2_with fail
        go_quiet (fail)
        go_wp2_with fail
        go_roundw
        case rel=>exact⟨k+1,by omega,by go_num,HP.out,HBN.out _⟩
        all_goals first|(simp [intOf];done)|(simp [intOf];omega)
      | false =>
        have HP:=h_ (show R=false from by rw [←hp];rfl)
        clear hp
        go_wp2_with fail
        go_quiet (fail)
        go_wp2_with fail
        go_ret
        exact⟨by rw [HP.out];rfl,HBN.out _⟩
    · obtain rfl:k=xs.length:=by omega
      have HP:=h_ (show R=true from by
       rw [←hp,fp,ft (by have:=HLE.out;omega)]
       rfl)
      clear hp
      go_wp2_with fail
      go_ret
      exact⟨by rw [HP.out];rfl,hb⟩
 · have HP:=h_ (show R=false from by rw [←hR];exact allEq_len _ _ _ hle)
   have hne:(((xs.length:Nat):Int) != ((ys.length:Nat):Int))=true:=by
    simp only [bne_iff_ne,ne_eq]
    omega
   clear hx hy hR hle
   go_enter Tryz.func59,Tryz.ntmps59
   go_wp2_with fail
   go_ret
   exact⟨by rw [HP.out];rfl,fR _ _⟩
theorem zeC (a b:Option Addr)(c c':Nat)(xs ys:List Cm)(w:fL)(hx:af 8 Cm.enc Flat w a xs)(hy:af 8 Cm.enc Flat w b ys)(hl:xs.length≤4000000)(hl':ys.length≤4000000) :
 fN Tryz.prog 61 #[.slice a xs.length c,.slice b ys.length c'] w fun e w'=>e=.returned (.bool (fO cmEq xs ys))∧fQ w.heap.size w w':=by
 generalize hR:fO cmEq xs ys=R
 by_cases hle:xs.length=ys.length
 · have HX:=h_ (fun(w1:fL) (h:fQ w.heap.size w w1)=>af.keeps Flat.keeps _ _ _ _ h hx)
   have HY:=h_ (fun(w1:fL) (h:fQ w.heap.size w w1)=>af.keeps Flat.keeps _ _ _ _ h hy)
   have H0:=h_ (show fO cmEq (xs.drop 0) (ys.drop 0)=R from hR)
   rw [←hle]
   have HLE:=h_ hle
   clear hle hx hy hl' hR
   go_enter Tryz.func61,Tryz.ntmps61
   go_wp2_with fail
   go_loopw [13] (fun i wr=>∃ k:Nat,k≤xs.length∧i=.int .i64 k∧fO cmEq (xs.drop k) (ys.drop k)=R∧fQ w.heap.size w wr) (fun i _=>xs.length-(intOf i).toNat)
   case atStart=>exact⟨0,by omega,rfl,H0.out,fR _ _⟩
   case round =>
    clear H0
    obtain⟨k,hk,rfl,hp,hb⟩:=hrel
    by_cases hlt:k<xs.length
    · obtain⟨b0,off,x,rfl,hbl,hxk,hcx,_⟩:=(HX.out _ hb).at_ hlt
      obtain⟨b0',off',y,rfl,hbl',hyk,hcy,_⟩:=(HY.out _ hb).at_ (show k<ys.length from by have:=HLE.out;omega)
      rw [aZ xs k x hxk,aZ ys k y hyk,fO] at hp
      have r1:=fun wx=>zb8 x y wx
      have d0:=hcx 0 _ rfl;have d1:=hcx 1 _ rfl;have d2:=hcx 2 _ rfl;have d3:=hcx 3 _ rfl;have d4:=hcx 4 _ rfl;have d5:=hcx 5 _ rfl;have d6:=hcx 6 _ rfl;have d7:=hcx 7 _ rfl;have e0:=hcy 0 _ rfl;have e1:=hcy 1 _ rfl;have e2:=hcy 2 _ rfl;have e3:=hcy 3 _ rfl;have e4:=hcy 4 _ rfl;have e5:=hcy 5 _ rfl;have e6:=hcy 6 _ rfl;have e7:=hcy 7 _ rfl
      generalize hQ:cmEq x y=EQ at hp r1
      obtain⟨xid,xev,xfrm,xtil,xau,xtx,xdn,xlo⟩:=x
      obtain⟨yid,yev,yfrm,ytil,yau,ytx,ydn,ylo⟩:=y
      simp only [Cm.enc,fJ] at r1 d0 e0 d1 e1 d2 e2 d3 e3 d4 e4 d5 e5 d6 e6 d7 e7
      have HBN:=h_ (fun n=>below_drewN hb n)
      clear hcx hcy hxk hyk hQ
      cases EQ with
      | true =>
        have HP:=h_ (by simpa using hp)
        clear hp
        go_wp2_with fail
        go_quiet (fail)
        go_wp2_with fail
        go_roundw
        case rel=>exact⟨k+1,by omega,by go_num,HP.out,HBN.out _⟩
        all_goals first|(simp [intOf];done)|(simp [intOf];omega)
      | false =>
        have HP:=h_ (show R=false from by rw [←hp];rfl)
        clear hp
        go_wp2_with fail
        go_quiet (fail)
        go_wp2_with fail
        go_ret
        exact⟨by rw [HP.out];rfl,HBN.out _⟩
    · obtain rfl:k=xs.length:=by omega
      have HP:=h_ (show R=true from by
       rw [←hp,fp,ft (by have:=HLE.out;omega)]
       rfl)
      clear hp
      go_wp2_with fail
      go_ret
      exact⟨by rw [HP.out];rfl,hb⟩
 · have HP:=h_ (show R=false from by rw [←hR];exact allEq_len _ _ _ hle)
   have hne:(((xs.length:Nat):Int) != ((ys.length:Nat):Int))=true:=by
    simp only [bne_iff_ne,ne_eq]
    omega
   clear hx hy hR hle
   go_enter Tryz.func61,Tryz.ntmps61
   go_wp2_with fail
   go_ret
   exact⟨by rw [HP.out];rfl,fR _ _⟩
theorem zeB (a b:Option Addr)(c c':Nat)(xs ys:List Ev)(w:fL)(hx:zai w a xs)(hy:zai w b ys)(hf:∀ x∈xs,x.rows.length≤4000000∧∀ r∈x.rows,r.runs.length≤4000000)(hf':∀ x∈ys,x.rows.length≤4000000∧∀ r∈x.rows,r.runs.length≤4000000)(hl:xs.length≤4000000)(hl':ys.length≤4000000) :
 fN Tryz.prog 60 #[.slice a xs.length c,.slice b ys.length c',.func (.func 28) #[] #[]] w fun e w'=>e=.returned (.bool (fO evEq xs ys))∧fQ w.heap.size w w':=by
 generalize hR:fO evEq xs ys=R
 by_cases hle:xs.length=ys.length
 · have HX:=h_ (fun(w1:fL) (h:fQ w.heap.size w w1)=>hx.later h)
   have HY:=h_ (fun(w1:fL) (h:fQ w.heap.size w w1)=>hy.later h)
   have H0:=h_ (show fO evEq (xs.drop 0) (ys.drop 0)=R from hR)
   have HF:=h_ hf
   have HG:=h_ hf'
   rw [←hle]
   have HLE:=h_ hle
   clear hle hx hy hl' hR hf hf'
   go_enter Tryz.func60,Tryz.ntmps60
   go_wp2_with fail
   go_loopw [17] (fun i wr=>∃ k:Nat,k≤xs.length∧i=.int .i64 k∧fO evEq (xs.drop k) (ys.drop k)=R∧fQ w.heap.size w wr) (fun i _=>xs.length-(intOf i).toNat)
   case atStart=>exact⟨0,by omega,rfl,H0.out,fR _ _⟩
   case round =>
    clear H0
    obtain⟨k,hk,rfl,hp,hb⟩:=hrel
    by_cases hlt:k<xs.length
    · obtain⟨b0,off,x,rfl,hbl,hxk,hcx,hxl⟩:=(HX.out _ hb).at_ hlt
      obtain⟨b0',off',y,rfl,hbl',hyk,hcy,hyl⟩:=(HY.out _ hb).at_ (show k<ys.length from by have:=HLE.out;omega)
      rw [aZ xs k x hxk,aZ ys k y hyk,fO] at hp
      have hfx:=HF.out x (fB hxk)
      have hfy:=HG.out y (fB hyk)
      have HES:=h_ (fun(w1:fL) (h:fQ wr.heap.size wr w1)=>dE x y w1 (Ev.keeps _ _ _ h hxl) (Ev.keeps _ _ _ h hyl) hfx.2 hfy.2 hfx.1)
      have hcell:∀ (w1:fL),fQ wr.heap.size wr w1→∀ (q:Nat) (u:fM),y.enc[q]? =some u→w1.cell? ⟨b0',off'+k*7+q,none⟩=some u:=fun w1 h q u e=>(h.cell (p:=⟨b0',off'+k*7+q,none⟩) hbl').trans (hcy q u e)
      have d0:=hcx 0 _ rfl;have d1:=hcx 1 _ rfl;have d2:=hcx 2 _ rfl;have d3:=hcx 3 _ rfl;have d4:=hcx 4 _ rfl;have d5:=hcx 5 _ rfl;have d6:=hcx 6 _ rfl
      have HA1:=h_ (fun(o:Obj)=>((fR wr.heap.size wr).alloc (fH _) o))
      have HA2:=h_ (fun(o o':Obj)=>(((fR wr.heap.size wr).alloc (fH _) o).alloc (by simp) o':fQ wr.heap.size wr ((wr.alloc o).alloc o')))
      have e0:=fun(o:Obj)=>hcell _ (HA1.out o) 0 _ rfl
      have e1:=fun(o:Obj)=>hcell _ (HA1.out o) 1 _ rfl
      have e2:=fun(o:Obj)=>hcell _ (HA1.out o) 2 _ rfl
      have e3:=fun(o:Obj)=>hcell _ (HA1.out o) 3 _ rfl
      have e4:=fun(o:Obj)=>hcell _ (HA1.out o) 4 _ rfl
      have e5:=fun(o:Obj)=>hcell _ (HA1.out o) 5 _ rfl
      have e6:=fun(o:Obj)=>hcell _ (HA1.out o) 6 _ rfl
      generalize hQ:evEq x y=EQ at hp HES
      obtain⟨xid,xin,xout,xreg,xkind,xsp,xa,xc,xrows⟩:=x
      obtain⟨yid,yin,yout,yreg,ykind,ysp,ya,yc,yrows⟩:=y
      simp only [Ev.enc,fJ] at HES d0 e0
      have HBR:=h_ hb
      clear hcx hcy hxk hyk hQ hcell hfx hfy hxl hyl
      go_wp2_with fail
      refine(HES.out _ (HA2.out _ _)).mono ?_
      rintro e w5 ⟨rfl,hb5⟩
      have HB5:=h_ (HBR.out.trans (((HA2.out _ _).trans (hb5.mono (HA2.out _ _).size)).mono HBR.out.size))
      clear hb5 HES
      cases EQ with
      | true =>
        have HP:=h_ (by simpa using hp)
        clear hp
        go_wp2_with fail
        go_roundw
        case rel=>exact⟨k+1,by omega,by go_num,HP.out,HB5.out⟩
        all_goals first|(simp [intOf];done)|(simp [intOf];omega)
      | false =>
        have HP:=h_ (show R=false from by rw [←hp];rfl)
        clear hp
        go_wp2_with fail
        go_ret
        exact⟨by rw [HP.out];rfl,HB5.out⟩
    · obtain rfl:k=xs.length:=by omega
      have HP:=h_ (show R=true from by
       rw [←hp,fp,ft (by have:=HLE.out;omega)]
       rfl)
      clear hp
      go_wp2_with fail
      go_ret
      exact⟨by rw [HP.out];rfl,hb⟩
 · have HP:=h_ (show R=false from by rw [←hR];exact allEq_len _ _ _ hle)
   have hne:(((xs.length:Nat):Int) != ((ys.length:Nat):Int))=true:=by
    simp only [bne_iff_ne,ne_eq]
    omega
   clear hx hy hR hle hf hf'
   go_enter Tryz.func60,Tryz.ntmps60
   go_wp2_with fail
   go_ret
   exact⟨by rw [HP.out];rfl,fR _ _⟩
end Go.Proofs.YtnlnmbcaongehaaGreatDoor
namespace Go.Proofs.YtnlnmbcaongehaaGreatDoor
open Go.RowKit
def zbc (St:Nat→Doc→Prop)(w:fL)(gB:Nat)(k:Nat)(wr:fL):Prop :=
 ∃ d':Doc,zdI d' gB wr∧St k d'∧(∀ b,d'.uses b→w.heap.size+2≤b)∧wr.heap[w.heap.size+1]? =some (.cells dx 27 (0,0))∧fQ w.heap.size w wr
theorem zbc.start {St:Nat→Doc→Prop} {w w2:fL} {d2:Doc} (hz:w2.heap[w.heap.size+1]? =some (.cells dx 27 (0,0)))(hl:d2.lies w2)(hu:∀ b,d2.uses b→w.heap.size+2≤b)(hb:fQ w.heap.size w w2)(h0:St 0 d2) :
 zbc St w w2.heap.size 0 (w2.alloc (.cells d2.enc.toArray 27)):=by
 have hba:fQ w2.heap.size w2 (w2.alloc (.cells d2.enc.toArray 27)):=(fR _ _).alloc (fH _) _
 exact⟨d2,⟨heap_alloc_last w2 _,Doc.later hl hba,fun b h=>by have:=Doc.uses_lt hl h;omega⟩,h0,hu,zjP hz,hb.trans (hba.mono hb.size)⟩
theorem zbc.step {St:Nat→Doc→Prop} {w wr w1 w5:fL} {gB:Nat} {d' d2:Doc} {k:Nat} (h1:zdI d' gB wr)(hg:w.heap.size+2≤gB)(h3:∀ b,d'.uses b→w.heap.size+2≤b)(h4:wr.heap[w.heap.size+1]? =some (.cells dx 27 (0,0)))(h5:fQ w.heap.size w wr)(hb:fQ wr.heap.size wr w1)
 (q1:d2.lies w5) (q2:∀ b,d2.uses b→d'.uses b∨w1.heap.size≤b) (q3:fQ w1.heap.size w1 w5) (q4:St k d2):zbc St w gB k (w5.setRow gB d2.enc.toArray)∧(w5.setRow gB d2.enc.toArray).heap[w.heap.size+1]? =some (.cells dx 27 (0,0))∧fQ w.heap.size w (w5.setRow gB d2.enc.toArray):=by
 have hgl:=(fS.1 h1.cells).1
 have hlt:w.heap.size+1<wr.heap.size:=(fS.1 h4).1
 have hs:=hb.size
 have hb5:=hb.trans (q3.mono hs)
 have hk5:=(hb5.block gB hgl).trans h1.cells
 have hz5:(w5.setRow gB d2.enc.toArray).heap[w.heap.size+1]? =some (.cells dx 27 (0,0)):=by
  rw [setRow_other _ _ _ _ (by omega),hb5.block _ hlt]
  exact h4
 have hbw:fQ w.heap.size w (w5.setRow gB d2.enc.toArray):=below_setRow (h5.trans (hb5.mono h5.size)) (by omega) _
 have hne:∀ b,d2.uses b→b≠gB:=fun b hu=>by
  rcases q2 b hu with h|h
  · exact h1.apart b h
  · omega
 refine⟨⟨d2,⟨setRow_heap w5 _ _ _ 27 (0,0) hk5,Doc.frame q1 (by simp) (fun b h=>setRow_other w5 _ b _ (hne b h)),hne⟩,q4,fun b hu=>?_,hz5,hbw⟩,hz5,hbw⟩
 rcases q2 b hu with h|h
 · exact h3 b h
 · have:=h5.size
   omega
def PSt (d:DocC)(l:List ChgC)(n k:Nat)(d':Doc):Prop:=k≤l.length∧zjT d'.c∧d'.c.fits (n+k)∧zcv d l=zcv d'.c (l.drop k)
theorem PSt.step {d:DocC} {l:List ChgC} {n k:Nat} {d' d2:Doc} {c:ChgC} {err:Int} (h:PSt d l n k d')(hc:l[k]? =some c)(hf:c.full)(he:err=(za9 d'.c c).1)(h2:d2.c=(za9 d'.c c).2):(err=0→PSt d l n (k+1) d2)∧(err≠0→(zcv d l).1=err):=by
 obtain⟨h1,h3,h4,h5⟩:=h
 have hk:k<l.length:=(List.getElem?_eq_some_iff.1 hc).1
 rw [aZ l k c hc,zcv] at h5
 refine⟨fun h0=>⟨by omega,by rw [h2];exact zi6 h3,by rw [h2];exact zgi h4 hf,?_⟩,fun h0=>?_⟩
 · rw [if_pos (he.symm.trans h0)] at h5
   rw [h5,h2]
 · rw [if_neg (fun e=>h0 (he.trans e))] at h5
   rw [h5,←he]
theorem PSt.fin {d:DocC} {l:List ChgC} {n:Nat} {d':Doc} (h:PSt d l n l.length d'):zcv d l=(0,d'.c):=by
 obtain⟨_,_,_,h5⟩:=h
 rw [fp,zcv] at h5
 exact h5
def strV (s:ByteArray):List fM:=[.string s]
def b9 (fs:List Fld)(w:fL)(k:Nat)(v:fM)(wr:fL):Prop:=wr.ownsRow w.heap.size 9 1 v (zav (fs.take k)).length ((zav (fs.take k)).flatMap strV)∧fQ w.heap.size w wr
theorem zbJ (fs:List Fld)(k:Nat)(f:Fld)(h:fs[k]? =some f):zav (fs.take (k+1))=zav (fs.take k)++(if f.differs=true then [f.name] else []):=by
 unfold zav
 rw [List.take_add_one,h]
 simp only [Option.toList_some,List.filter_append,List.map_append]
 congr 1
 by_cases hd:f.differs=true
 · simp [fE,hd]
 · simp [fE,hd]
theorem b9.start (fs:List Fld) {w wr:fL} (hb:fQ w.heap.size w wr):b9 fs w 0 (.slice none 0 0) wr:=by
 unfold b9
 rw [List.take_zero]
 exact⟨fL.ownsRow_nil _ _ _ _,hb⟩
theorem b9.skip {fs:List Fld} {w wr w1:fL} {k:Nat} {f:Fld} {v:fM} (hf:fs[k]? =some f)(hd:f.differs=false)(h:b9 fs w k v wr)(hb:fQ wr.heap.size wr w1):b9 fs w (k+1) v w1:=by
 obtain⟨h1,h2⟩:=h
 unfold b9
 rw [zbJ fs k f hf,if_neg (by rw [hd];decide),List.append_nil]
 exact⟨aq h1 hb,h2.trans (hb.mono h2.size)⟩
theorem b9.push {fs:List Fld} {w wr w1 w2:fL} {k:Nat} {f:Fld} {v v':fM} (hf:fs[k]? =some f)(hd:f.differs=true)(h:b9 fs w k v wr)(hb:fQ wr.heap.size wr w1)
 (hown:w2.ownsRow w.heap.size 9 1 v' ((zav (fs.take k)).length+1) ((zav (fs.take k)).flatMap strV++[.string f.name])) (hg:(w1.alloc (.cells #[.string f.name] 9)).grownBy w2 v.ownBlock):b9 fs w (k+1) v' w2:=by
 obtain⟨h1,h2⟩:=h
 have hb1:=h2.trans (hb.mono h2.size)
 unfold b9
 rw [zbJ fs k f hf,if_pos hd]
 refine⟨?_,(hb1.alloc hb1.size _).grown hg (by have:=hb1.size;simp;omega) (fun j hj=>(h1.lt j hj).1)⟩
 rw [fC,List.flatMap_append]
 simpa [strV] using hown
def ai {α:Type} (eq:α→α→Bool)(x y z:α):α × Bool:=if eq y z=true then (y,false) else if eq x z=true then (y,false) else if eq x y=true then (z,false) else (x,true)
def b_ (a b:ByteArray):Bool:=a.toList==b.toList
def eB (a b:Bool):Bool:=a==b
def dU (a b:Int):Bool:=a==b
theorem zdm (a b:ByteArray)(w:fL):fN Tryz.prog 129 #[.string a,.string b] w fun e w'=>e=.returned (.bool (b_ a b))∧fQ w.heap.size w w':=by
 unfold b_
 go_enter Tryz.func129,Tryz.ntmps129
 go_wp2_with fail
 go_ret
 exact⟨rfl,fR _ _⟩
theorem bm (x y z:ByteArray)(w:fL):fN Tryz.prog 128 #[.string x,.string y,.string z,.func (.func 129) #[] #[]] w fun e w'=>e=.returned (.tuple #[.string (ai b_ x y z).1,.bool (ai b_ x y z).2])∧fQ w.heap.size w w':=by
 have HE:=h_ (fun(a b:ByteArray) (w1:fL)=>zdm a b w1)
 have HT:=h_ (fun(w1 w2:fL) (h:fQ w.heap.size w w1) (h2:fQ w1.heap.size w1 w2)=>h.trans (h2.mono h.size))
 generalize hQ:(fun(e:Ending) (w':fL)=>e=.returned (.tuple #[.string (ai b_ x y z).1,.bool (ai b_ x y z).2])∧fQ w.heap.size w w')=Q
 have HQ:=h_ (fun(p:ByteArray × Bool) (hp:ai b_ x y z=p) w' (hb:fQ w.heap.size w w')=>show Q (.returned (.tuple #[.string p.1,.bool p.2])) w' from hQ▸⟨by rw [hp],hb⟩)
 clear hQ
 have hb0:fQ w.heap.size w w:=fR _ _
 go_enter Tryz.func128,Tryz.ntmps128
 go_wp2_with fail
 refine(HE.out y z _).mono ?_
 rintro e w1 ⟨rfl,hb1⟩
 have hc1:=HT.out _ _ hb0 hb1
 clear hb1 hb0
 generalize h1:b_ y z=E1
 cases E1 with
 | true =>
   go_wp2_with fail
   exact HQ.out (y,false) (by simp [ai,h1]) _ hc1
 | false =>
   go_wp2_with fail
   refine(HE.out x z _).mono ?_
   rintro e w2 ⟨rfl,hb2⟩
   have hc2:=HT.out _ _ hc1 hb2
   clear hb2 hc1
   generalize h2:b_ x z=E2
   cases E2 with
   | true =>
     go_wp2_with fail
     exact HQ.out (y,false) (by simp [ai,h1,h2]) _ hc2
   | false =>
     go_wp2_with fail
     refine(HE.out x y _).mono ?_
     rintro e w3 ⟨rfl,hb3⟩
     have hc3:=HT.out _ _ hc2 hb3
     clear hb3 hc2
     generalize h3:b_ x y=E3
     cases E3 with
     | true =>
       go_wp2_with fail
       exact HQ.out (z,false) (by simp [ai,h1,h2,h3]) _ hc3
     | false =>
       go_wp2_with fail
       exact HQ.out (x,true) (by simp [ai,h1,h2,h3]) _ hc3
theorem zcT (a b:Bool)(w:fL):fN Tryz.prog 146 #[.bool a,.bool b] w fun e w'=>e=.returned (.bool (eB a b))∧fQ w.heap.size w w':=by
 unfold eB
 go_enter Tryz.func146,Tryz.ntmps146
 go_wp2_with fail
 go_ret
 exact⟨rfl,fR _ _⟩
theorem zcl (x y z:Bool)(w:fL):fN Tryz.prog 145 #[.bool x,.bool y,.bool z,.func (.func 146) #[] #[]] w fun e w'=>e=.returned (.tuple #[.bool (ai eB x y z).1,.bool (ai eB x y z).2])∧fQ w.heap.size w w':=by
 have HE:=h_ (fun(a b:Bool) (w1:fL)=>zcT a b w1)
 have HT:=h_ (fun(w1 w2:fL) (h:fQ w.heap.size w w1) (h2:fQ w1.heap.size w1 w2)=>h.trans (h2.mono h.size))
 generalize hQ:(fun(e:Ending) (w':fL)=>e=.returned (.tuple #[.bool (ai eB x y z).1,.bool (ai eB x y z).2])∧fQ w.heap.size w w')=Q
 have HQ:=h_ (fun(p:Bool × Bool) (hp:ai eB x y z=p) w' (hb:fQ w.heap.size w w')=>show Q (.returned (.tuple #[.bool p.1,.bool p.2])) w' from hQ▸⟨by rw [hp],hb⟩)
 clear hQ
 have hb0:fQ w.heap.size w w:=fR _ _
 go_enter Tryz.func145,Tryz.ntmps145
 go_wp2_with fail
 refine(HE.out y z _).mono ?_
 rintro e w1 ⟨rfl,hb1⟩
 have hc1:=HT.out _ _ hb0 hb1
 clear hb1 hb0
 generalize h1:eB y z=E1
 cases E1 with
 | true =>
   go_wp2_with fail
   exact HQ.out (y,false) (by simp [ai,h1]) _ hc1
 | false =>
   go_wp2_with fail
   refine(HE.out x z _).mono ?_
   rintro e w2 ⟨rfl,hb2⟩
   have hc2:=HT.out _ _ hc1 hb2
   clear hb2 hc1
   generalize h2:eB x z=E2
   cases E2 with
   | true =>
     go_wp2_with fail
     exact HQ.out (y,false) (by simp [ai,h1,h2]) _ hc2
   | false =>
     go_wp2_with fail
     refine(HE.out x y _).mono ?_
     rintro e w3 ⟨rfl,hb3⟩
     have hc3:=HT.out _ _ hc2 hb3
     clear hb3 hc2
     generalize h3:eB x y=E3
     cases E3 with
     | true =>
       go_wp2_with fail
       exact HQ.out (z,false) (by simp [ai,h1,h2,h3]) _ hc3
     | false =>
       go_wp2_with fail
       exact HQ.out (x,true) (by simp [ai,h1,h2,h3]) _ hc3
theorem zcS (a b:Int)(w:fL):fN Tryz.prog 199 #[.int .u8 a,.int .u8 b] w fun e w'=>e=.returned (.bool (dU a b))∧fQ w.heap.size w w':=by
 unfold dU
 go_enter Tryz.func199,Tryz.ntmps199
 go_wp2_with fail
 go_ret
 exact⟨rfl,fR _ _⟩
theorem zck (x y z:Int)(w:fL):fN Tryz.prog 198 #[.int .u8 x,.int .u8 y,.int .u8 z,.func (.func 199) #[] #[]] w fun e w'=>e=.returned (.tuple #[.int .u8 (ai dU x y z).1,.bool (ai dU x y z).2])∧fQ w.heap.size w w':=by
 have HE:=h_ (fun(a b:Int) (w1:fL)=>zcS a b w1)
 have HT:=h_ (fun(w1 w2:fL) (h:fQ w.heap.size w w1) (h2:fQ w1.heap.size w1 w2)=>h.trans (h2.mono h.size))
 generalize hQ:(fun(e:Ending) (w':fL)=>e=.returned (.tuple #[.int .u8 (ai dU x y z).1,.bool (ai dU x y z).2])∧fQ w.heap.size w w')=Q
 have HQ:=h_ (fun(p:Int × Bool) (hp:ai dU x y z=p) w' (hb:fQ w.heap.size w w')=>show Q (.returned (.tuple #[.int .u8 p.1,.bool p.2])) w' from hQ▸⟨by rw [hp],hb⟩)
 clear hQ
 have hb0:fQ w.heap.size w w:=fR _ _
 go_enter Tryz.func198,Tryz.ntmps198
 go_wp2_with fail
 refine(HE.out y z _).mono ?_
 rintro e w1 ⟨rfl,hb1⟩
 have hc1:=HT.out _ _ hb0 hb1
 clear hb1 hb0
 generalize h1:dU y z=E1
 cases E1 with
 | true =>
   go_wp2_with fail
   exact HQ.out (y,false) (by simp [ai,h1]) _ hc1
 | false =>
   go_wp2_with fail
   refine(HE.out x z _).mono ?_
   rintro e w2 ⟨rfl,hb2⟩
   have hc2:=HT.out _ _ hc1 hb2
   clear hb2 hc1
   generalize h2:dU x z=E2
   cases E2 with
   | true =>
     go_wp2_with fail
     exact HQ.out (y,false) (by simp [ai,h1,h2]) _ hc2
   | false =>
     go_wp2_with fail
     refine(HE.out x y _).mono ?_
     rintro e w3 ⟨rfl,hb3⟩
     have hc3:=HT.out _ _ hc2 hb3
     clear hb3 hc2
     generalize h3:dU x y=E3
     cases E3 with
     | true =>
       go_wp2_with fail
       exact HQ.out (z,false) (by simp [ai,h1,h2,h3]) _ hc3
     | false =>
       go_wp2_with fail
       exact HQ.out (x,true) (by simp [ai,h1,h2,h3]) _ hc3
structure Cl where
 sec:Int
 id:Int
 name:ByteArray
 field:ByteArray
def Cl.enc (c:Cl):List fM:=[.int .u8 c.sec,.int .i64 c.id,.string c.name,.string c.field]
def eX:ByteArray:=⟨#[84,73,84,76,69]⟩
def zfw:ByteArray:=⟨#[76,65,78,71]⟩
def ziM:ByteArray:=⟨#[82,65,84,69]⟩
def az:ByteArray:=⟨#[82,69,71,73,79,78]⟩
def cW:ByteArray:=⟨#[71,79,78,69]⟩
def dV:ByteArray:=⟨#[83,80,65,78]⟩
def zb5:ByteArray:=⟨#[75,73,78,68]⟩
def cV:ByteArray:=⟨#[83,80,69,65,75,69,82]⟩
def zhH:ByteArray:=⟨#[82,79,87,83]⟩
def aT:ByteArray:=⟨#[65,78,67,72,79,82]⟩
def bZ:ByteArray:=⟨#[65,85,84,72,79,82]⟩
def zdl:ByteArray:=⟨#[84,69,88,84]⟩
def zhI:ByteArray:=⟨#[68,79,78,69]⟩
def ak:ByteArray:=⟨#[]⟩
def b8 (l:List EvC)(z:Int):Option EvC:=l.find? (evAt z)
def aN (l:List Cm)(z:Int):Option Cm:=l.find? (cmAt z)
def aQ (l:List Reg)(n:ByteArray):Option Reg:=l.find? (zaK n)
def zfl (f g:DocC)(z:Int):Bool:=((b8 g.evs z).isSome&&!(b8 f.evs z).isSome)||((aN g.cms z).isSome&&!(aN f.cms z).isSome)
def zaz (base a:DocC)(x:EvC):Bool:=!(b8 base.evs x.id).isSome&&zfl base a x.id&&!(match b8 a.evs x.id with|none=>false|some y=>zcP x y)
def zaA (base a:DocC)(x:Cm):Bool:=!(aN base.cms x.id).isSome&&zfl base a x.id&&!(match aN a.cms x.id with|none=>false|some y=>cmEq x y)
def zdf (base a b:DocC):List Int:=fP (bo ((b.evs.filter (zaz base a)).map EvC.id++(b.cms.filter (zaA base a)).map Cm.id))
def zfQ (ids:List Int)(last:Int):Nat→Int→Option Int
 | 0=>fun _=>none
 | k+1=>fun z=>if ids[k]? =some z then some (last+k+1) else zfQ ids last k z
def cO (a b:DocC):Int:=max a.hd.last b.hd.last
def zkh (base a b:DocC)(z:Int):Int:=(zfQ (zdf base a b) (cO a b) (zdf base a b).length z).getD z
def zih (r:Int→Int)(b:DocC):DocC:=⟨b.hd,b.rG,b.evs.map fun x=>{ x with id:=r x.id },b.cms.map fun x=>{ x with id:=r x.id,ev:=r x.ev }⟩
def zfg (base a b:DocC):Int:=cO a b+(zdf base a b).length
def bV (x y:Int × Bool):Bool:=x.1==y.1&&x.2==y.2
def clIf (b:Bool)(c:Cl):List Cl:=if b=true then [c] else []
def zay (x y z:Hd):ByteArray × Bool:=ai b_ x.title y.title z.title
def zcw (x y z:Hd):ByteArray × Bool:=ai b_ x.lang y.lang z.lang
def zaP (x y z:Hd):(Int × Bool) × Bool:=ai bV (x.rate,x.drop) (y.rate,y.drop) (z.rate,z.drop)
def mgHd (x y z:Hd)(last:Int):Hd:=⟨(zay x y z).1,(zcw x y z).1,(zaP x y z).1.1,(zaP x y z).1.2,last⟩
def zcy (x y z:Hd):List Cl:=clIf (zay x y z).2 ⟨1,0,ak,eX⟩++clIf (zcw x y z).2 ⟨1,0,ak,zfw⟩++clIf (zaP x y z).2 ⟨1,0,ak,ziM⟩
def ziz:Option Reg→Option Reg→Bool
 | none,none=>true
 | some x,some y=>d_ x y
 | _,_=>false
def zbo (x y z:List Reg)(n:ByteArray):Option Reg × Bool:=ai ziz (aQ x n) (aQ y n) (aQ z n)
def aR (x y z:List Reg):List ByteArray:=cF [] (x++y++z)
def bY (x y z:List Reg)(ns:List ByteArray):List Reg:=ns.flatMap fun n=>(zbo x y z n).1.toList
def bD (x y z:List Reg)(ns:List ByteArray):List Cl:=ns.flatMap fun n=>clIf (zbo x y z n).2 ⟨2,0,n,az⟩
def bR (x y:Int × Int):Bool:=x.1==y.1&&x.2==y.2
def zbl (x y:List (List Run)):Bool:=fO (fO eL) x y
def fIf (b:Bool)(f:ByteArray):List ByteArray:=if b=true then [f] else []
def zaO (x y z:EvC):(Int × Int) × Bool:=ai bR (x.inn,x.out) (y.inn,y.out) (z.inn,z.out)
def ed (x y z:EvC):ByteArray × Bool:=ai b_ x.region y.region z.region
def zcx (x y z:EvC):Int × Bool:=ai dU x.kind y.kind z.kind
def dj (x y z:EvC):ByteArray × Bool:=ai b_ x.speaker y.speaker z.speaker
def zgE (x y z:EvC):List (List Run) × Bool:=ai zbl x.rows y.rows z.rows
def eV (x y z:EvC):EvC:=⟨x.id,(zaO x y z).1.1,(zaO x y z).1.2,(ed x y z).1,(zcx x y z).1,(dj x y z).1,(zgE x y z).1⟩
def bf (x y z:EvC):List ByteArray:=fIf (zaO x y z).2 dV++fIf (ed x y z).2 az++fIf (zcx x y z).2 zb5++fIf (dj x y z).2 cV++fIf (zgE x y z).2 zhH
def zag:Option EvC→Option EvC→Option EvC→Option (EvC × List ByteArray)
 | none,some y,_=>some (y,[])
 | none,none,z=>some (z.getD dI,[])
 | some x,some y,some z=>some (eV x y z,bf x y z)
 | some x,some y,none=>if zcP x y=true then none else some (y,[cW])
 | some x,none,some z=>if zcP x z=true then none else some (z,[cW])
 | some _,none,none=>none
def zgK (rG:List Reg)(x:EvC):Int:=zbv x.rep rG
def dv (rG:List Reg)(p:EvC × List ByteArray):EvC × List ByteArray :=
 if zgK rG p.1=0 then p else ({ p.1 with region:=ak },if p.2.any (fun f=>f.toList==az.toList)=true then p.2 else p.2++[az])
def mgEv (rG:List Reg)(a b c:List EvC)(id:Int):Option (EvC × List ByteArray):=(zag (b8 a id) (b8 b id) (b8 c id)).map (dv rG)
def bE (a b c:List EvC):List Int:=fP (bo (a.map EvC.id++b.map EvC.id++c.map EvC.id))
def eH (rG:List Reg)(a b c:List EvC)(ids:List Int):List EvC:=ids.flatMap fun id=>((mgEv rG a b c id).map (·.1)).toList
def cg (rG:List Reg)(a b c:List EvC)(ids:List Int):List Cl:=ids.flatMap fun id=>(((mgEv rG a b c id).map (·.2)).getD []).map fun f=>⟨3,id,ak,f⟩
def zbm:List Run→List UInt8
 | []=>[]
 | x::l=>x.text.data.toList++zbm l
def bp:List (List Run)→List UInt8
 | []=>[]
 | [r]=>zbm r
 | r::l=>zbm r++10::bp l
def dC (x:Option EvC):ByteArray:=⟨(bp ((x.map EvC.rows).getD [])).toArray⟩
def alike:List Nat→List Nat→Nat
 | x::l,y::m=>if x=y then alike l m+1 else 0
 | _,_=>0
def dB (n m p s:Int)(frm til:Int):Int × Int :=
 (if n-s≤frm then frm+(m-n) else if p≤frm then m-s else frm,if til≤p then til else if n-s<til then til+(m-n) else p)
def eW (c:Cm)(a b:List Nat):Cm :=
 let p:=alike a b
 let s:=alike (a.drop p).reverse (b.drop p).reverse
 let q:=dB a.length b.length p s c.frm c.til
 if q.2≤q.1 then { c with frm:=0,til:=0,lost:=true } else { c with frm:=q.1,til:=q.2 }
def dT (fr txs:List EvC)(c:Cm):Cm :=
 if c.lost=true then c else match b8 txs c.ev with
  | none=>{ c with frm:=0,til:=0,lost:=true }
  | some x=>eW c (runes (dC (b8 fr c.ev))) (runes (dC (some x)))
def zgj (x y:Cm):Bool:=x.ev==y.ev&&x.frm==y.frm&&x.til==y.til&&x.lost==y.lost
def zfk (x y z:Cm):Cm × Bool:=ai zgj x y z
def zcb (x y z:Cm):ByteArray × Bool:=ai b_ x.author y.author z.author
def zgD (x y z:Cm):ByteArray × Bool:=ai b_ x.text y.text z.text
def zgF (x y z:Cm):Bool × Bool:=ai eB x.done y.done z.done
def zaQ (x y z:Cm):Cm:=⟨x.id,(zfk x y z).1.ev,(zfk x y z).1.frm,(zfk x y z).1.til,(zcb x y z).1,(zgD x y z).1,(zgF x y z).1,(zfk x y z).1.lost⟩
def dm (x y z:Cm):List ByteArray:=fIf (zfk x y z).2 aT++fIf (zcb x y z).2 bZ++fIf (zgD x y z).2 zdl++fIf (zgF x y z).2 zhI
def eI (ox oy oz:Option Cm):Option Cm→Option Cm→Option Cm→Option (Cm × List ByteArray)
 | none,some y,some z=>if zgj y z=true then some (y,[]) else some ({ y with frm:=0,til:=0,lost:=true },[aT])
 | none,some y,none=>some (y,[])
 | none,none,z=>some (z.getD bG,[])
 | some x,some y,some z=>some (zaQ x y z,dm x y z)
 | some x,some y,none=>if cmEq (oy.getD bG) (ox.getD bG)=true then none else some (y,[cW])
 | some x,none,some z=>if cmEq (oz.getD bG) (ox.getD bG)=true then none else some (z,[cW])
 | some _,none,none=>none
def mgCm (txs:List EvC)(a b c:DocC)(id:Int):Option (Cm × List ByteArray) :=
 eI (aN a.cms id) (aN b.cms id) (aN c.cms id) ((aN a.cms id).map (dT a.evs txs)) ((aN b.cms id).map (dT b.evs txs)) ((aN c.cms id).map (dT c.evs txs))
def ck (a b c:List Cm):List Int:=fP (bo (a.map Cm.id++b.map Cm.id++c.map Cm.id))
def eU (txs:List EvC)(a b c:DocC)(ids:List Int):List Cm:=ids.flatMap fun id=>((mgCm txs a b c id).map (·.1)).toList
def dz (txs:List EvC)(a b c:DocC)(ids:List Int):List Cl:=ids.flatMap fun id=>(((mgCm txs a b c id).map (·.2)).getD []).map fun f=>⟨4,id,ak,f⟩
def aO (base a b:DocC):Int:=if cErr base≠0 then cErr base else if cErr a≠0 then cErr a else if cErr b≠0 then cErr b else if a.hd.last<base.hd.last∨b.hd.last<base.hd.last then 8 else 0
def zht (base a b:DocC)(last:Int):DocC × List Cl :=
 let rG:=bY base.rG a.rG b.rG (aR base.rG a.rG b.rG)
 let eids:=bE base.evs a.evs b.evs
 let evs:=dD (eH rG base.evs a.evs b.evs eids)
 let cids:=ck base.cms a.cms b.cms
 (⟨mgHd base.hd a.hd b.hd last,rG,evs,eU evs base a b cids⟩,
  zcy base.hd a.hd b.hd++bD base.rG a.rG b.rG (aR base.rG a.rG b.rG)++cg rG base.evs a.evs b.evs eids++dz evs base a b cids)
def zf1 (base a b:DocC):DocC × List Cl:=zht base a (zih (zkh base a b) b) (zfg base a b)
def zah (base a b:DocC):Int :=
 if aO base a b≠0 then aO base a b else if 1099511627776<zfg base a b then 9 else cErr (zf1 base a b).1
def zcA (base a b:DocC):DocC:=if zah base a b=0 then (zf1 base a b).1 else zj2
def mgCl (base a b:DocC):List Cl:=if zah base a b=0 then (zf1 base a b).2 else []
structure Kept (S:Nat→Prop)(w w':fL):Prop where
 os:w'.os=w.os
 tape:w'.tape=w.tape
 output:w'.output=w.output
 size:w.heap.size≤w'.heap.size
 block:∀ k,k<w.heap.size→¬ S k→w'.heap[k]? =w.heap[k]?
theorem Kept.refl (S:Nat→Prop)(w:fL):Kept S w w:=⟨rfl,rfl,rfl,fH _,fun _ _ _=>rfl⟩
theorem Kept.trans {S S':Nat→Prop} {a b c:fL} (h:Kept S a b)(k:Kept S' b c)(hs:∀ i,i<a.heap.size→S' i→S i):Kept S a c :=
 ⟨k.os.trans h.os,k.tape.trans h.tape,k.output.trans h.output,fI h.size k.size,fun i hi hn=>(k.block i (fK hi h.size) (fun e=>hn (hs i hi e))).trans (h.block i hi hn)⟩
theorem Kept.of_below {S:Nat→Prop} {w w':fL} (h:fQ w.heap.size w w'):Kept S w w':=⟨h.os,h.tape,h.output,h.size,fun k hk _=>h.block k hk⟩
theorem Kept.andBelow {S:Nat→Prop} {a w w':fL} (h:Kept S a w)(k:fQ w.heap.size w w'):Kept S a w':=h.trans (Kept.of_below (S:=fun _=>False) k) fun _ _ h=>h.elim
theorem Kept.andGrown {S:Nat→Prop} {a w w':fL} {row:Option Nat} (h:Kept S a w)(hg:w.grownBy w' row)(hr:∀ k,row=some k→k<a.heap.size→S k):Kept S a w' :=
 ⟨hg.os.trans h.os,hg.tape.trans h.tape,hg.output.trans h.output,fI h.size hg.size,fun k hk hn=>(hg.block k (fK hk h.size) (fun e=>hn (hr k e.symm hk))).trans (h.block k hk hn)⟩
theorem Kept.alloc {S:Nat→Prop} {a w:fL} (h:Kept S a w)(o:Obj):Kept S a (w.alloc o):=h.andBelow ((fR _ _).alloc (fH _) o)
theorem Kept.drew {S:Nat→Prop} {a w:fL} (h:Kept S a w):Kept S a w.drew:=⟨h.os,h.tape,h.output,h.size,h.block⟩
theorem Kept.setCell {S:Nat→Prop} {a w:fL} (h:Kept S a w) {p:Addr} (hp:a.heap.size≤p.block∨S p.block)(u:fM):Kept S a (w.setCell p u) :=
 ⟨h.os,h.tape,h.output,by simpa using h.size,fun k hk hn=>by
  rw [fQ.heap_setCell _ _ _ _ (fun e=>by
   rcases hp with hp|hp
   · omega
   · exact hn (e▸hp))]
  exact h.block k hk hn⟩
theorem Kept.below {S:Nat→Prop} {w w':fL} {B:Nat} (h:Kept S w w')(hB:B≤w.heap.size)(hs:∀ k,k<B→¬ S k):fQ B w w':=⟨h.os,h.tape,h.output,h.size,fun k hk=>h.block k (by omega) (hs k hk)⟩
theorem Kept.cell {S:Nat→Prop} {w w':fL} (h:Kept S w w') {b o:Nat} (hb:b<w.heap.size)(hs:¬ S b):w'.cell? ⟨b,o,none⟩=w.cell? ⟨b,o,none⟩:=fL.cell?_of_block (w:=w) (h.block b hb hs)
theorem Kept.mono {S S':Nat→Prop} {w w':fL} (h:Kept S w w')(hs:∀ i,i<w.heap.size→S i→S' i):Kept S' w w':=⟨h.os,h.tape,h.output,h.size,fun k hk hn=>h.block k hk (fun e=>hn (hs k hk e))⟩
def mOwn (g:Nat)(kv:fM)(b:Nat):Prop:=b=g∨kv.ownBlock=some b
theorem ah {B e k n:Nat} {v:fM} {xs:List fM} {w w':fL} (h:w.ownsRow B e k v n xs)(hb:∀ b,v.ownBlock=some b→w'.heap[b]? =w.heap[b]?):w'.ownsRow B e k v n xs:=by
 refine⟨h.1,?_⟩
 rcases h.2 with h0|⟨g,cap,cur,h1,h2,h3,h4⟩
 · exact .inl h0
 · exact .inr ⟨g,cap,cur,h1,h2,by rw [hb g (by rw [h1];rfl)];exact h3,h4⟩
theorem Cl.one:∀ (x:Cl)(v:fM),v∈x.enc→v.oneCell'=true:=by
 intro x v hv
 simp only [Cl.enc,fF,fD,or_false] at hv
 rcases hv with rfl|rfl|rfl|rfl<;>rfl
end Go.Proofs.YtnlnmbcaongehaaGreatDoor
