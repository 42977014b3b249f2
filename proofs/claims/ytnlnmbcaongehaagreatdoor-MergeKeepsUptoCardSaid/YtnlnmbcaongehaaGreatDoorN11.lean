/- The plain law of MergeKeeps: what one side alone has changed is in the merged document as on that side. event.Plain: the text of an event; document.runes: the characters of a text. -/
import Derived.Test.YtnlnmbcaongehaaGreatDoorN10
set_option linter.unusedVariables false
set_option linter.unusedSimpArgs false
set_option maxRecDepth 100000
set_option maxHeartbeats 12800000
open Go.Lib renaming hid→h_
open List renaming getElem?_eq_some_iff→Su,getElem?_eq_getElem→Sv,any_append→Sw,mem_map→Sx,mem_iff_getElem?→Sy,mem_of_getElem?→Sz,length_cons→SA,mem_filter→SB,mem_append→SC,length_map→SD,find?_cons→SE,mem_cons→SF,map_cons→SG
open Go.Proofs.Tryz renaming prog→SH,underlying2→SI,results202→SJ
open Go renaming World→SK,Value→SL,cell_of_row→SM,heap_setCell_same→SN,heap_alloc_last→SO,TypeId→SQ,below_drewN→SR
open Go.Lib renaming join→SS
open Go.Value renaming int→SU,string→SV
open Go.RowKit renaming Below→SW
open Go.RowKit.Below renaming refl→SX,heap_setCell→SY,setCell→SZ,heap_alloc→S5
open Nat renaming le_refl→S6,le_trans→S7,lt_of_lt_of_le→S8
open Go.World renaming frozen?→S9,cell?→S_,ownsRow_nil→Ta,iterPos→Tb
open Int renaming not_le→Tc
namespace Go.Proofs.YtnlnmbcaongehaaGreatDoor
open Go.RowKit
def aO (l:List Cl)(id:Int):Bool:=l.any fun c=>c.sec==3&&c.id==id
theorem pP (ids:List Int)(L:Int):∀ (k:Nat)(z v:Int),mC ids L k z=some v→z∈ids∧L<v
 | 0,z,v,h=>by simp [mC] at h
 | k+1,z,v,h=>by
   unfold mC at h
   split at h
   · rename_i hz
     cases h
     exact⟨Sz hz,by omega⟩
   · exact pP ids L k z v h
theorem Ls {base a b:DocC} {z:Int} (h:z ∉ k_ base a b):iD base a b z=z:=by
 unfold iD
 cases hq:mC (k_ base a b) (iE a b) (k_ base a b).length z with
 | none=>rfl
 | some v=>exact absurd (pP _ _ _ _ _ hq).1 h
theorem Lu {base a b:DocC} (z:Int):iD base a b z=z∨iE a b<iD base a b z:=by
 unfold iD
 cases hq:mC (k_ base a b) (iE a b) (k_ base a b).length z with
 | none=>exact .inl rfl
 | some v=>exact .inr (pP _ _ _ _ _ hq).2
theorem IE {base a b:DocC} {id:Int} (h:id ∉ k_ base a b)(hl:id≤iE a b):aj (eP (iD base a b) b).eV id=aj b.eV id:=by
 have key:∀ l:List EvC,aj (l.map fun x=>{ x with id:=iD base a b x.id }) id=aj l id:=fun l=>by
  unfold aj
  induction l with
  | nil=>rfl
  | cons x l ih =>
    rw [SG,SE,SE]
    by_cases hx:x.id=id
    · have hr:iD base a b x.id=x.id:=Ls (by rw [hx];exact h)
      have e:({ x with id:=iD base a b x.id }:EvC)=x:=by rw [hr]
      rw [e]
      have:evAt id x=true:=by simp [evAt,hx]
      rw [this]
    · have h1:evAt id x=false:=by simp [evAt,hx]
      have h2:evAt id ({ x with id:=iD base a b x.id }:EvC)=false:=by
       have hn:¬ iD base a b x.id=id:=by
        rcases Lu (base:=base) (a:=a) (b:=b) x.id with e|e
        · rw [e];exact hx
        · omega
       simp [evAt,hn]
      rw [h1,h2]
      exact ih
 exact key b.eV
theorem Pv (rG:List Reg)(p:EvC × List ByteArray):(fZ rG p).1.id=p.1.id:=by
 unfold fZ
 split<;>rfl
theorem Pz {x y z:Option EvC} {id:Int} (hx:∀ e,x=some e→e.id=id)(hy:∀ e,y=some e→e.id=id)(hz:∀ e,z=some e→e.id=id)(hne:¬ (x=none∧y=none∧z=none)) {p:EvC × List ByteArray} (h:fK x y z=some p):p.1.id=id:=by
 cases x with
 | none =>
   cases y with
   | none =>
     cases z with
     | none=>exact absurd ⟨rfl,rfl,rfl⟩ hne
     | some z=>rw [fK] at h;cases h;exact hz z rfl
   | some y=>rw [fK] at h;cases h;exact hy y rfl
 | some x =>
   cases y with
   | none =>
     cases z with
     | none=>rw [fK] at h;cases h
     | some z =>
       rw [fK] at h
       split at h
       · cases h
       · cases h;exact hz z rfl
   | some y =>
     cases z with
     | none =>
       rw [fK] at h
       split at h
       · cases h
       · cases h;exact hy y rfl
     | some z=>rw [fK] at h;cases h;exact hx x rfl
theorem kP {l:List EvC} {k:Int} (h:∃ e∈l,e.id=k):(aj l k).isSome=true:=by
 obtain⟨e,he,hk⟩:=h
 exact List.find?_isSome.2 ⟨e,he,by simp [evAt,hk]⟩
theorem Px {rG:List Reg} {xs ys zs:List EvC} {id:Int} (hid:id∈aY xs ys zs) {p:EvC × List ByteArray} (h:mgEv rG xs ys zs id=some p):p.1.id=id:=by
 obtain⟨q,hq,rfl⟩:=Option.map_eq_some_iff.1 h
 rw [Pv]
 refine Pz (fun e he=>(bw he).2) (fun e he=>(bw he).2) (fun e he=>(bw he).2) (fun⟨n1,n2,n3⟩=>?_) hq
 rcases((jf xs ys zs).2 id).1 hid with h|h|h
 · have:=kP h;rw [n1] at this;cases this
 · have:=kP h;rw [n2] at this;cases this
 · have:=kP h;rw [n3] at this;cases this
theorem Js {rG:List Reg} {xs ys zs:List EvC} {id:Int} (hid:id∈aY xs ys zs)(hd:(fM (jl rG xs ys zs (aY xs ys zs))).Pairwise fun x y=>x.id≠y.id) :
 aj (fM (jl rG xs ys zs (aY xs ys zs))) id=(mgEv rG xs ys zs id).map (·.1):=by
 have hmem:∀ x,x∈fM (jl rG xs ys zs (aY xs ys zs))↔∃ k∈aY xs ys zs,(mgEv rG xs ys zs k).map (·.1)=some x:=fun x=>by
  rw [(iK _).mem_iff]
  exact Gv
 cases hm:mgEv rG xs ys zs id with
 | none =>
   cases hf:aj (fM (jl rG xs ys zs (aY xs ys zs))) id with
   | none=>rfl
   | some x =>
     obtain⟨hx,hxi⟩:=bw hf
     obtain⟨k,hk,hkx⟩:=(hmem x).1 hx
     obtain⟨p,hp,rfl⟩:=Option.map_eq_some_iff.1 hkx
     have:=Px hk hp
     have hki:k=id:=this.symm.trans hxi
     rw [←hki,hp] at hm
     cases hm
 | some p =>
   have hpi:=Px hid hm
   have hin:p.1∈fM (jl rG xs ys zs (aY xs ys zs)):=(hmem _).2 ⟨id,hid,by rw [hm];rfl⟩
   cases hf:aj (fM (jl rG xs ys zs (aY xs ys zs))) id with
   | none =>
     have:=kP (k:=id) ⟨p.1,hin,hpi⟩
     rw [hf] at this
     cases this
   | some x =>
     obtain⟨hx,hxi⟩:=bw hf
     rw [BK hd hx hin (hxi.trans hpi.symm)]
     rfl
theorem Gw {rG:List Reg} {xs ys zs:List EvC} {id:Int} (hid:id∈aY xs ys zs)(hc:aO (fJ rG xs ys zs (aY xs ys zs)) id=false):mgEv rG xs ys zs id=fK (aj xs id) (aj ys id) (aj zs id):=by
 unfold mgEv
 cases hq:fK (aj xs id) (aj ys id) (aj zs id) with
 | none=>rfl
 | some q =>
   show some (fZ rG q)=some q
   unfold fZ
   split
   · rfl
   · rename_i hn
     exfalso
     have hm:mgEv rG xs ys zs id=some (fZ rG q):=by unfold mgEv;rw [hq];rfl
     have hne:(fZ rG q).2≠[]:=by
      unfold fZ
      rw [if_neg hn]
      dsimp only
      split
      · rename_i h
        intro e
        rw [e] at h
        simp at h
      · simp
     obtain⟨f,l,hf⟩:=List.exists_cons_of_ne_nil hne
     have:aO (fJ rG xs ys zs (aY xs ys zs)) id=true:=by
      unfold aO
      rw [List.any_eq_true]
      refine⟨⟨3,id,aG,f⟩,?_,by simp⟩
      unfold fJ
      refine List.mem_flatMap.2 ⟨id,hid,?_⟩
      rw [hm]
      show _∈(fZ rG q).2.map _
      rw [hf]
      simp
     rw [this] at hc
     cases hc
theorem Cb {t:DocC} (h:cErr t=0):∀ e∈t.eV,e.id≤t.hd.last:=by
 intro e he
 have hp:=kp (d:=t.rep) h
 obtain⟨j,hj⟩:=Sy.1 he
 have:=hp.2.2.2.1 j e.rep (by simp [DocC.rep,hj])
 exact(oK this).2.1
theorem qQ (last:Int)(f:Int→Option Nat)(eV:List Ev):∀ (xs:List Cm)(p:Option Cm),eU last f eV p xs=0→∀ c∈xs,(f c.id).isSome=false
 | [],_,_=>fun c hc=>by simp at hc
 | x::l,p,h=>by
   rw [eU] at h
   split at h
   · rename_i hne;rw [h] at hne;cases hne
   · rename_i hne
     have h0:jg last f eV p x=0:=by simpa using hne
     intro c hc
     rcases SF.1 hc with rfl|hc
     · unfold jg at h0
       split at h0
       · cases h0
       · split at h0
         · cases h0
         · split at h0
           · cases h0
           · rename_i hs
             simpa using hs
     · exact qQ last f eV l _ h c hc
theorem vd (eV:List Ev):∀ (k j:Nat)(x:Ev),j<k→eV[j]? =some x→(bE eV k x.id).isSome=true
 | 0,j,x,h,_=>by omega
 | k+1,j,x,h,hx=>by
   simp only [bE]
   by_cases hj:j=k
   · subst hj
     rw [hx]
     simp
   · have ih:=vd eV k j x (by omega) hx
     split
     · exact ih
     · split
       · rfl
       · exact ih
theorem EB {t:DocC} (h:cErr t=0) {c:Cm} (hc:c∈t.cM) {e:EvC} (he:e∈t.eV):c.id≠e.id:=by
 have hp:=(kp (d:=t.rep) h).2.2.2.2
 unfold kr at hp
 split at hp
 · cases hp
 · have h1:=qQ _ _ _ _ _ hp c hc
   intro hid
   obtain⟨j,hj⟩:=Sy.1 he
   have hj':t.rep.eV[j]? =some e.rep:=by simp [DocC.rep,hj]
   have h2:=vd t.rep.eV t.rep.eV.length j e.rep (Su.1 hj').1 hj'
   have h3:e.rep.id=e.id:=rfl
   rw [h3,←hid,h1] at h2
   cases h2
theorem LA {base a b:DocC} (hb:cErr b=0) {x:EvC} (hx:x∈b.eV)(hbase:(aj base.eV x.id).isSome=true):x.id ∉ k_ base a b:=by
 intro h
 unfold k_ at h
 rw [(i_ _).2] at h
 rcases SC.1 h with h|h
 · obtain⟨e,he,hid⟩:=Sx.1 h
   obtain⟨_,hp⟩:=SB.1 he
   unfold lK at hp
   rw [hid,hbase] at hp
   simp at hp
 · obtain⟨c,hc,hid⟩:=Sx.1 h
   exact EB hb (SB.1 hc).1 hx hid
theorem tV {x y z:DocC} (h:a_ x y z≠0):fL x y z=a_ x y z:=by
 unfold fL
 rw [if_pos h]
theorem Ez {l1 l2 l3 l4:List Cl} {id:Int} (h:aO (l1++l2++l3++l4) id=false):aO l3 id=false:=by
 unfold aO at *
 rw [Sw,Sw,Sw] at h
 simp only [Bool.or_eq_false_iff] at h
 exact h.1.2
theorem lM {base a b:DocC} (he:fL base a b=0):cErr base=0∧cErr a=0∧cErr b=0∧cErr (jm base a b)=0∧jm base a b=(oH base a b).1∧mgCl base a b=(oH base a b).2:=by
 have h0:a_ base a b=0:=by
  by_cases h:a_ base a b=0
  · exact h
  · rw [tV h] at he;exact absurd he h
 obtain⟨h1,h2,h3,_⟩:=gW h0
 have hd:jm base a b=(oH base a b).1:=by unfold jm;rw [if_pos he]
 refine⟨h1,h2,h3,?_,hd,by unfold mgCl;rw [if_pos he]⟩
 rw [hd]
 unfold fL at he
 rw [if_neg (by rw [h0];simp)] at he
 split at he
 · cases he
 · exact he
theorem pV {base a b:DocC} (he:fL base a b=0) {id:Int} (hid:id∈aY base.eV a.eV (eP (iD base a b) b).eV)(hc:aO (mgCl base a b) id=false) :
 aj (jm base a b).eV id=(fK (aj base.eV id) (aj a.eV id) (aj (eP (iD base a b) b).eV id)).map (·.1):=by
 obtain⟨_,_,_,h4,h5,h6⟩:=lM he
 have hok:=G0 h4
 have hi:=hok.ids
 rw [h5] at hi ⊢
 rw [h6] at hc
 have hc':=Ez hc
 have e1:(oH base a b).1.eV=fM (jl (fW base.rG a.rG (eP (iD base a b) b).rG (bG base.rG a.rG (eP (iD base a b) b).rG)) base.eV a.eV (eP (iD base a b) b).eV (aY base.eV a.eV (eP (iD base a b) b).eV)):=rfl
 rw [e1] at hi ⊢
 rw [Js hid hi,Gw hid hc']
theorem BG {base a b:DocC} (he:fL base a b=0) {id:Int} {y:EvC} (hx:aj base.eV id=none)(hy:aj a.eV id=some y)(hc:aO (mgCl base a b) id=false):aj (jm base a b).eV id=some y:=by
 have hid:id∈aY base.eV a.eV (eP (iD base a b) b).eV:=((jf _ _ _).2 id).2 (.inr (.inl ⟨y,(bw hy).1,(bw hy).2⟩))
 rw [pV he hid hc,hx,hy]
 rfl
theorem yW {base a b:DocC} (he:fL base a b=0) {id:Int} {x:EvC} (hx:aj base.eV id=some x)(hz:aj b.eV id=some x):aj (eP (iD base a b) b).eV id=some x:=by
 obtain⟨_,_,h3,_⟩:=lM he
 obtain⟨q1,q2⟩:=bw hz
 have h1:id ∉ k_ base a b:=by
  rw [←q2]
  exact LA h3 q1 (by rw [q2,hx];rfl)
 have h2:id≤iE a b:=by
  have:=Cb h3 x q1
  unfold iE
  omega
 rw [IE h1 h2,hz]
theorem D9 {base a b:DocC} (he:fL base a b=0) {id:Int} {x:EvC} (hx:aj base.eV id=some x)(hy:aj a.eV id=none)(hz:aj b.eV id=some x)(hc:aO (mgCl base a b) id=false):aj (jm base a b).eV id=none:=by
 have hid:id∈aY base.eV a.eV (eP (iD base a b) b).eV:=((jf _ _ _).2 id).2 (.inl ⟨x,(bw hx).1,(bw hx).2⟩)
 rw [pV he hid hc,hx,hy,yW he hx hz,C_ (t:=none) (.inl ⟨rfl,.inl rfl⟩) (fun _ _ _ h=>by cases h) (fun h=>by cases h.1)]
 rfl
theorem pb {base a b:DocC} (he:fL base a b=0) {id:Int} {x y:EvC} (hx:aj base.eV id=some x)(hy:aj a.eV id=some y)(hz:aj b.eV id=some x)(hc:aO (mgCl base a b) id=false):aj (jm base a b).eV id=some y:=by
 have hid:id∈aY base.eV a.eV (eP (iD base a b) b).eV:=((jf _ _ _).2 id).2 (.inl ⟨x,(bw hx).1,(bw hx).2⟩)
 rw [pV he hid hc,hx,hy,yW he hx hz,C_ (t:=some y) (.inl ⟨rfl,.inl rfl⟩) (fun p q h1 h2=>by cases h1;cases h2;exact(bw hx).2.trans (bw hy).2.symm) (fun h=>by cases h.1)]
 rfl
theorem Tryz.info21m:(SH.info? 21).map (fun i=>(i.zero,i.size,i.bytes))=some (some (.int .i32 0),1,4):=by kernel_rfl
theorem kf {w:SK} {base e size n:Nat} {v:SL} {xs:List SL} (h:w.ownsRow base e size v n xs):∃ a c,v=.slice a n c:=by
 rcases h.2 with⟨rfl,h0⟩|⟨g',cap,cur,rfl,_⟩
 · exact⟨none,0,by rw [h0]⟩
 · exact⟨_,cap,rfl⟩
theorem gU:∀ l:List Run,pO l=mi l
 | []=>rfl
 | x::l=>by rw [pO,mi,gU l]
theorem yo:∀ rows:List (List Run),SS ((rows.map plain).map (·.data.toList)) [10]=fp rows
 | []=>rfl
 | [r]=>by
   rw [fp,gU]
   simp [SS,plain]
 | r::q::l=>by
   have ih:=yo (q::l)
   rw [fp,←ih,gU]
   · simp only [SG,Lib.join_cons,plain]
     simp [Lib.joinTail]
   · simp
theorem mL {n:Nat}:∀ rows:List (List Run),(∀ r∈rows,fE r≤n)→(fp rows).length≤rows.length*(n+1)
 | [],_=>by simp [fp]
 | [r],h=>by
   have:=h r (by simp)
   rw [fp,gU,lv]
   simp
   omega
 | r::q::l,h=>by
   have ih:=mL (q::l) (fun x hx=>h x (by simp [hx]))
   have:=h r (by simp)
   have e:(fp (r::q::l)).length=(pO r).length+((fp (q::l)).length+1):=by
    rw [fp]
    · simp
    · simp
   rw [e,gU,lv]
   rw [SA,Nat.add_mul]
   omega
theorem I5 (B:Nat)(v:SL)(ws:List ByteArray)(sep:ByteArray)(w:SK)(h:w.ownsRow B 9 1 v ws.length (ws.map SV))(hl:ws.length≤4000000)(hj:(SS (ws.map (·.data.toList)) sep.data.toList).length≤140737488355328) :
 Calls SH 68 #[v,.string sep] w fun e w'=>e=.returned (.string ⟨(SS (ws.map (·.data.toList)) sep.data.toList).toArray⟩)∧SW w.heap.size w w':=by
 rcases Nat.eq_zero_or_pos ws.length with h0|h0
 · obtain rfl:=List.eq_nil_of_length_eq_zero h0
   obtain⟨a,c,rfl⟩:=kf h
   refine(Tryz.strings_Join_none a c sep w).mono fun e w' p=>?_
   obtain⟨rfl,rfl⟩:=p
   exact⟨rfl,SX _ _⟩
 · rcases h.2 with⟨_,hn⟩|⟨g,cap,cur,rfl,hB,hc,hnc,r⟩
   · omega
   · refine Tryz.strings_Join g 0 cap ws sep w (fun j x hx=>?_) (h.lt g rfl).2 (by omega) hnc hj
     rw [Nat.zero_add,h.cellAt j (by have:=(Su.1 hx).1;omega)]
     simp [hx]
theorem pj (x:Ev)(w:SK)(hx:x.lies w)(hf:x.fits):Calls SH 203 #[.agg x.enc.toArray] w fun e w'=>e=.returned (.string (kV (some x.c)))∧SW w.heap.size w w':=by
 generalize hQ:(fun(e:Ending) (w':SK)=>e=.returned (.string (kV (some x.c)))∧SW w.heap.size w w')=Q
 have hrf:=hf.2.2.2.2.2.2.2.1
 have hl:=hf.2.2.2.2.2.2.2.2
 have HRW:=h_ (fun(w1:SK) (hb:SW w.heap.size w w1)=>ft.later hx hb)
 have HT:=yo (x.rows.map Row.runs)
 rw [show(x.rows.map Row.runs).map plain=x.rows.map fun r=>plain r.runs from by rw [List.map_map];rfl] at HT
 have NZ:=h_ (show(SS ((x.rows.map fun r=>plain r.runs).map (·.data.toList)) [10]).length≤140737488355328 from by
  have h1:=mL (n:=4000000) (x.rows.map Row.runs) (fun r hr=>by
   obtain⟨q,hq,rfl⟩:=Sx.1 hr
   exact(hrf q hq).2.2)
  rw [←HT,SD] at h1
  have h2:=Nat.mul_le_mul_right 4000001 hl
  exact S7 h1 (S7 h2 (by decide)))
 have HQ:=h_ (fun(w':SK) (hb:SW w.heap.size w w')=>(show Q (.returned (.string ⟨(SS ((x.rows.map fun r=>plain r.runs).map (·.data.toList)) (⟨#[10]⟩:ByteArray).data.toList).toArray⟩)) w' from hQ▸⟨by
  show _=Ending.returned (.string ⟨(fp (x.rows.map Row.runs)).toArray⟩)
  rw [←HT],hb⟩))
 have tK:=h_ hrf
 clear hQ hrf HT hx hf
 obtain⟨id,inn,out,reg,kind,sp,xa,xc,xr⟩:=x
 simp only at HRW NZ HQ tK hl
 obtain⟨j0,hj,hy0,hy1,hy2⟩:=info_parts Tryz.info9
 have JI:=h_ hj;have J0:=h_ hy0;have J1:=h_ hy1;have J2:=h_ hy2
 have HST:=h_ (fun(W w1 w2:SK) (k:Nat) (v v':SL) (r:Row) (cs:Array SL) (hr:xr[k]? =some r)=>dZ.step (K:=9) (enc:=SV) (key:=fun r:Row=>plain r.runs) (zs:=xr) (W:=W) (w1:=w1) (w2:=w2) (k:=k) (v:=v) (v':=v') (x:=r) (cs:=cs) hr)
 have kC:Hid (∀ (W wr:SK) (k:Nat) (v:SL),dZ 9 SV (fun r:Row=>plain r.runs) xr W k v wr→wr.ownsRow W.heap.size 9 1 v k (((xr.take k).map fun r:Row=>plain r.runs).map SV)∧SW W.heap.size W wr):=h_ (fun _ _ _ _ h=>h)
 have Dv:Hid (∀ W:SK,dZ 9 SV (fun r:Row=>plain r.runs) xr W 0 (.slice none 0 0) W):=h_ (fun W=>⟨Ta _ _ _ _,SX _ _⟩)
 have aA:=h_ (fun(W wr:SK) (v:SL) (h:dZ 9 SV (fun r:Row=>plain r.runs) xr W xr.length v wr)=>I5 W.heap.size v (xr.map fun r=>plain r.runs) ⟨#[10]⟩ wr h.all (by rw [SD];exact hl) NZ.out)
 generalize dZ 9 SV (fun r:Row=>plain r.runs) xr=R at *
 obtain⟨cells,hcells⟩:∃ cells:Nat→List SL,cells=fun k=>(((xr.take k).map fun r:Row=>plain r.runs).map SV):=⟨_,rfl⟩
 simp only [show ∀ k,(((xr.take k).map fun r:Row=>plain r.runs).map SV)=cells k from fun k=>by rw [hcells]] at kC HST
 generalize (⟨(SS ((xr.map fun r=>plain r.runs).map (·.data.toList)) (⟨#[10]⟩:ByteArray).data.toList).toArray⟩:ByteArray)=S at *
 clear hj hy0 hy1 hy2 hcells NZ
 simp only [Ev.enc]
 have hk1:=SO w (.cells (Ev.enc ⟨id,inn,out,reg,kind,sp,xa,xc,xr⟩).toArray 50)
 have HB1:=h_ (show SW w.heap.size w (w.alloc (.cells (Ev.enc ⟨id,inn,out,reg,kind,sp,xa,xc,xr⟩).toArray 50)) from(SX _ _).alloc (S6 _) _)
 simp only [Ev.enc] at hk1 HB1
 go_enter Tryz.func203,Tryz.ntmps203
 go_wp2_with fail
 generalize hW:w.alloc (.cells #[.int .i64 id,.int .i64 inn,.int .i64 out,.string reg,.int .u8 kind,.string sp,.slice xa xr.length xc] 50)=W at *
 have hs1:=HB1.out.size
 clear hW hk1
 go_loopw [3,9] (fun v i wr=>∃ k:Nat,k≤xr.length∧i=.int .i64 k∧R W k v wr) (fun _ i _=>xr.length-(intOf i).toNat)
 case atStart=>exact⟨0,by omega,rfl,Dv.out _⟩
 case round =>
  obtain⟨k,hk,rfl,hrel⟩:=hrel
  have kj:=kC.out _ _ _ _ hrel
  have HRK:=h_ (HB1.out.trans (kj.2.mono hs1))
  by_cases hlt:k<xr.length
  · obtain⟨b,off,r,rfl,hbl,hrx,hc,hrl⟩:=(HRW.out _ HRK.out).at_ hlt
    have hbs:=kj.2.size
    have mG:=h_ (fun o=>sk r (wr.alloc o) (Row.keeps _ _ _ ((SX _ _).alloc (S6 _) o) hrl) (tK.out r (Sz hrx)))
    have mg:=h_ (fun(o:Obj) (w2:SK) (h1:SW (wr.alloc o).heap.size (wr.alloc o) w2)=>(show SW wr.heap.size wr w2 from((SX _ _).alloc (S6 _) _).trans (h1.mono (by simp))))
    have HO:=h_ (fun(w2:SK) (hb:SW wr.heap.size wr w2)=>aH kj.1 hb)
    have J6:=h_ (fun(w2:SK) (hb:SW wr.heap.size wr w2)=>(show SW W.heap.size W w2 from kj.2.trans (hb.mono kj.2.size)))
    have HS2:=h_ (fun(w2 w3:SK) (v':SL) (cs:Array SL)=>HST.out W w2 w3 k u3 v' r cs hrx)
    have d0:=hc 0 _ rfl
    obtain⟨ra,rc,rr⟩:=r
    simp only [Row.enc,Nat.add_zero,Nat.mul_one] at mG d0 HS2
    clear hc hrx hrel kj hrl
    generalize plain rr=S1 at *
    go_wp2_with fail
    refine(mG.out _).mono ?_
    rintro e w2 ⟨rfl,hb2⟩
    have hb3:=mg.out _ _ hb2
    have hs2:=hb3.size
    have kH:=h_ (HO.out _ hb3)
    have HB3:=h_ (J6.out _ hb3)
    clear hb2 hb3 HO mG mg d0
    go_wp2_with (at_builtin;refine aV _ _ rfl (.tmp 13) (.tmp 16) 55 rfl W.heap.size 9 j0 _ 1 16 Tryz.underlying55 JI.out J0.out J1.out J2.out rfl (by decide) _ _ _ rfl kH.out _ rfl rfl rfl ?h1 ?h63 ?hb ?hbase ?_)
    case h1=>first|rfl|(intro u hu;simp at hu;subst hu;rfl)
    case h63=>unfold maxLen;omega
    case hb=>omega
    case hbase=>omega
    intro v' w3 hown' hgrow
    have RR:=h_ (HS2.out w2 w3 v' _ HB3.out kH.out rfl hown' hgrow)
    clear hown' hgrow
    go_wp2_with fail
    go_roundw
    case rel=>exact⟨k+1,by omega,by go_num,RR.out⟩
    case measure=>simp [intOf];omega
  · obtain rfl:k=xr.length:=by omega
    have fD:=h_ (aA.out _ _ _ hrel)
    have vH:=h_ (fun(w':SK) (h:SW wr.heap.size wr w')=>HRK.out.trans (h.mono HRK.out.size))
    clear hrel kj
    go_wp2_with fail
    refine fD.out.mono ?_
    rintro e w2 ⟨rfl,hb2⟩
    have HB2:=h_ (vH.out _ hb2)
    clear hb2
    go_wp2_with fail
    exact HQ.out _ HB2.out
def zR (s:ByteArray)(w:SK)(v:SL)(wr:SK):Prop :=
 ∃ (pos b:Nat) (xs:List Nat),xs++iy s b pos=runes s∧s.size≤pos+b∧xs.length≤pos∧xs.length≤s.size∧wr.ownsRow (w.heap.size+1) 21 1 v xs.length (xs.map fun n:Nat=>SU .i32 (n:Int))∧wr.heap[w.heap.size]? =some (.stringIter s pos)∧SW w.heap.size w wr
def pD (s:ByteArray)(w:SK)(e:Ending)(w':SK):Prop:=∃ v,e=.returned v∧w'.ownsRow w.heap.size 21 1 v (runes s).length ((runes s).map fun n:Nat=>SU .i32 (n:Int))∧SW w.heap.size w w'
theorem G3 {w:SK} {B e k n:Nat} {v:SL} {xs:List SL} (h:w.ownsRow (B+1) e k v n xs):w.ownsRow B e k v n xs :=
 ⟨h.1,h.2.imp id fun⟨g,cap,cur,q1,q2,q3⟩=>⟨g,cap,cur,q1,by omega,q3⟩⟩
theorem om (s:ByteArray)(w:SK)(hs:s.size≤20000000000000):Calls SH 257 #[.string s] w (pD s w):=by
 obtain⟨i0,hi,hz0,hz1,hz2⟩:=info_parts Tryz.info21m
 have HI:=h_ hi;have J0:=h_ hz0;have J1:=h_ hz1;have J2:=h_ hz2
 clear hi hz0 hz1 hz2
 have HQ:=h_ (fun(v:SL) (xs:List Nat) (w':SK) (he:xs=runes s) (ho:w'.ownsRow (w.heap.size+1) 21 1 v xs.length (xs.map fun n:Nat=>SU .i32 (n:Int))) (hb:SW w.heap.size w w')=>(show pD s w (.returned v) w' from⟨v,rfl,by subst he;exact G3 ho,hb⟩))
 generalize pD s w=Q at *
 go_enter Tryz.func257,Tryz.ntmps257
 go_wp2_with fail
 go_loopw [3] (fun v wr=>zR s w v wr) (fun _ wr=>s.size-wr.iterPos w.heap.size)
 case atStart=>exact⟨0,s.size,[],rfl,by omega,by simp,by simp,Ta _ _ _ _,SK.iter_heap w s 0,(SX _ _).alloc (S6 _) _⟩
 case round =>
  obtain⟨pos,b,xs,hp,hb,hkp,hks,hown,hit,hbe⟩:=hrel
  have hpos:=h_ (show wr.iterPos w.heap.size=pos by simp [Tb,hit])
  by_cases hlt:pos<s.size
  · obtain⟨c,rfl,hn⟩:=oC s b pos hlt hb
    have hwd:=rW s pos hlt
    have hle:=decode_le s pos
    have hnx:∀ ty,(Instr.next (.pointer (some ⟨w.heap.size,0,none⟩)) true ty).run SH wr=_:=fun ty=>Lib.run_next_any_at wr w.heap.size s pos ty hit hlt
    rw [hn] at hp
    have HP:=h_ hp
    generalize (Utf8.decode s pos).1=x at *
    generalize (Utf8.decode s pos).2=d at *
    have hgl:w.heap.size<wr.heap.size:=(Array.getElem?_eq_some_iff.1 hit).1
    have hown2:=ownsRow_iterAt hown (show w.heap.size<w.heap.size+1 by omega) s (pos+d)
    have HI2:=h_ (Lib.iterAt_heap wr w.heap.size s pos (pos+d) hit)
    have hsz:(wr.iterAt w.heap.size s (pos+d)).heap.size=wr.heap.size:=Lib.iterAt_size _ _ _ _
    have Ah:=h_ (Lib.below_iterAt hbe (S6 _) s (pos+d))
    have iY:=h_ (fun j hj=>(hown.lt j hj).1)
    clear hown hn hit hbe hp
    go_wp2_with (at_builtin;refine aV _ _ rfl (.tmp 11) (.tmp 13) 312 rfl (w.heap.size+1) 21 i0 _ 1 4 Tryz.underlying312 HI.out J0.out J1.out J2.out rfl (by decide) _ _ _ rfl hown2 _ rfl (by simp [hsz]) rfl ?h1 ?h63 ?hb ?hbase ?_)
    case h1=>first|rfl|(intro u hu;simp at hu;subst hu;rfl)
    case h63=>unfold maxLen;omega
    case hb=>omega
    case hbase=>omega
    intro v' w2 hown' hgrow
    have hI3:w2.heap[w.heap.size]? =some (.stringIter s (pos+d)):=by
     rw [hgrow.block w.heap.size (by simp;omega) (fun h=>by have:=iY.out w.heap.size h.symm;omega),S5 _ _ _ (by omega)]
     exact HI2.out
    have R:zR s w v' w2:=⟨pos+d,c,xs++[x],by rw [List.append_assoc];exact HP.out,by omega,by simp;omega,by simp;omega,by simpa using hown',hI3,(Ah.out.alloc (by omega) _).grown hgrow (by simp;omega) (fun j hj=>by have:=iY.out j hj;omega)⟩
    have OK:w2.iterPos w.heap.size=pos+d:=by simp [Tb,hI3]
    clear hown' hgrow hown2
    go_wp2_with fail
    go_roundw
    case rel=>exact R
    case measure=>rw [OK,hpos.out];omega
  · have hnx:∀ ty,(Instr.next (.pointer (some ⟨w.heap.size,0,none⟩)) true ty).run SH wr=_:=fun ty=>Lib.run_next_end_at wr w.heap.size s pos ty hit hlt
    rw [pL s b pos hlt,List.append_nil] at hp
    have HF:=h_ (HQ.out u3 xs wr hp hown hbe)
    clear hown hit hbe hp
    go_wp2_with fail
    exact HF.out
theorem nM:∀ a b:List Nat,alike a b≤a.length∧alike a b≤b.length
 | [],_=>by simp [alike]
 | x::l,[]=>by simp [alike]
 | x::l,y::m=>by
   have ih:=nM l m
   simp only [alike,SA]
   split<;>omega
theorem Dk:∀ (a b:List Nat)(i:Nat),i<alike a b→a[i]? =b[i]?
 | [],_,i,h=>by simp [alike] at h
 | x::l,[],i,h=>by simp [alike] at h
 | x::l,y::m,i,h=>by
   simp only [alike] at h
   split at h
   · rename_i hxy
     subst hxy
     cases i with
     | zero=>rfl
     | succ j=>simpa using Dk l m j (by omega)
   · omega
theorem Dj:∀ (a b:List Nat),alike a b<a.length→alike a b<b.length→a[alike a b]?≠b[alike a b]?
 | [],_,h,_=>by simp at h
 | x::l,[],_,h=>by simp at h
 | x::l,y::m,h1,h2=>by
   simp only [alike] at h1 h2 ⊢
   split
   · rename_i hxy
     rw [if_pos hxy] at h1 h2
     simpa using Dj l m (by simpa using h1) (by simpa using h2)
   · rename_i hxy
     simpa using hxy
theorem vD {a b:List Nat} {p x y:Nat} (h:p≤alike a b)(hx:a[p]? =some x)(hy:b[p]? =some y):(x=y→p+1≤alike a b)∧(x≠y→p=alike a b):=by
 refine⟨fun e=>?_,fun e=>?_⟩
 · refine Decidable.byContradiction fun hn=>?_
   obtain rfl:p=alike a b:=by omega
   refine Dj a b (Su.1 hx).1 (Su.1 hy).1 ?_
   rw [hx,hy,e]
 · refine Decidable.byContradiction fun hn=>e ?_
   have:=Dk a b p (by omega)
   rw [hx,hy] at this
   exact Option.some.inj this
theorem zQ {a b:List Nat} {p:Nat} (h:p≤alike a b)(hp:a.length≤p∨b.length≤p):p=alike a b:=by
 have:=nM a b
 omega
def kA (a b:List Nat)(p:Nat):Nat:=alike (a.drop p).reverse (b.drop p).reverse
theorem Kj {a:List Nat} {p s x:Nat} (hs:s<a.length-p)(hx:a[a.length-1-s]? =some x):(a.drop p).reverse[s]? =some x:=by
 rw [List.getElem?_reverse (by simpa using hs),List.getElem?_drop,List.length_drop]
 rw [←hx]
 congr 1
 omega
theorem Ch {a b:List Nat} {p s x y:Nat} (h:s≤kA a b p)(h1:s<a.length-p)(h2:s<b.length-p)(hx:a[a.length-1-s]? =some x)(hy:b[b.length-1-s]? =some y):(x=y→s+1≤kA a b p)∧(x≠y→s=kA a b p) :=
 vD h (Kj h1 hx) (Kj h2 hy)
theorem EG {a b:List Nat} {p s:Nat} (h:s≤kA a b p)(hp:a.length-p≤s∨b.length-p≤s):s=kA a b p :=
 zQ h (by simpa using hp)
theorem tm (a b:List Nat)(p:Nat):kA a b p≤a.length-p∧kA a b p≤b.length-p:=by
 have:=nM (a.drop p).reverse (b.drop p).reverse
 simpa [kA] using this
theorem sd (w:SK)(xs ys:Array SL)(T T':SQ)(wx:SK)(h:SW (w.heap.size+2) ((w.alloc (.cells xs T)).alloc (.cells ys T')) wx) :
 wx.heap[w.heap.size]? =some (.cells xs T (0,0))∧wx.heap[w.heap.size+1]? =some (.cells ys T' (0,0)):=by
 refine⟨?_,?_⟩
 · rw [h.block _ (by omega),S5 _ _ _ (by simp)]
   exact SO w _
 · rw [h.block _ (by omega)]
   have:=SO (w.alloc (.cells xs T)) (.cells ys T')
   rwa [SK.size_alloc] at this
theorem yk {w:SK} {B:Nat} {v:SL} {xs:List Nat} (h:w.ownsRow B 21 1 v xs.length (xs.map fun n:Nat=>SU .i32 (n:Int))):∃ g c z,v=.slice z xs.length c∧(0<xs.length→z=some ⟨g,0,none⟩)∧(0<xs.length→xs.length≤c)∧∀ (j x:Nat),xs[j]? =some x→w.cell? ⟨g,j,none⟩=some (.int .i32 (x:Int)):=by
 rcases h.2 with⟨rfl,h0⟩|⟨g,cap,cur,rfl,hB,hc,hnc,r⟩
 · refine⟨0,0,none,by rw [h0],fun hp=>by omega,fun hp=>by omega,fun j x hx=>?_⟩
   have:=(Su.1 hx).1
   omega
 · refine⟨g,cap,_,rfl,fun _=>rfl,fun _=>hnc,fun j x hx=>?_⟩
   rw [h.cellAt j (by have:=(Su.1 hx).1;omega)]
   simp [hx]
theorem Lm (w:SK)(o o':Obj):SW w.heap.size w ((w.alloc o).alloc o'):=((SX _ _).alloc (S6 _) _).alloc (by simp) _
theorem pX (c:Cm)(a b:List Nat):mY c a b=(let q:=kQ a.length b.length (alike a b) (kA a b (alike a b)) c.frm c.til;if q.2≤q.1 then { c with frm:=0,til:=0,lost:=true } else { c with frm:=q.1,til:=q.2 }):=rfl
theorem zw (c:Cm)(s1 s2:ByteArray)(w:SK)(hlo:c.lost=false)(hfr:-1000000000000000000≤c.frm∧c.frm≤1000000000000000000)(hti:-1000000000000000000≤c.til∧c.til≤1000000000000000000)(h1:s1.size≤20000000000000)(h2:s2.size≤20000000000000) :
 Calls SH 202 #[.agg c.enc.toArray,.string s1,.string s2] w fun e w'=>e=.returned (.agg (mY c (runes s1) (runes s2)).enc.toArray)∧SW w.heap.size w w':=by
 have HR1:=h_ (fun w1=>om s1 w1 h1)
 have HR2:=h_ (fun w1=>om s2 w1 h2)
 have hl1:(runes s1).length≤20000000000000:=S7 (lr s1 s1.size 0) h1
 have hl2:(runes s2).length≤20000000000000:=S7 (lr s2 s2.size 0) h2
 unfold pD at HR1 HR2
 generalize runes s1=a at *
 generalize runes s2=b at *
 obtain⟨id,ev,frm,til,au,tx,dn,lo⟩:=c
 simp only at hlo hfr hti
 subst hlo
 generalize hQ:(fun(e:Ending) (w':SK)=>e=.returned (.agg (mY ⟨id,ev,frm,til,au,tx,dn,false⟩ a b).enc.toArray)∧SW w.heap.size w w')=Q
 have HQ:=h_ (fun(f t:Int) (hf:kQ a.length b.length (alike a b) (kA a b (alike a b)) frm til=(f,t)) (w':SK) (hb:SW w.heap.size w w')=>(show(t≤f→Q (.returned (.agg #[SU .i64 id,.int .i64 ev,.int .i64 0,.int .i64 0,.string au,.string tx,.bool dn,.bool true])) w')∧(¬ t≤f→Q (.returned (.agg #[SU .i64 id,.int .i64 ev,.int .i64 f,.int .i64 t,.string au,.string tx,.bool dn,.bool false])) w') from by
  subst hQ
  constructor
  · intro h
    refine⟨?_,hb⟩
    rw [pX]
    simp only [hf]
    rw [if_pos h]
    rfl
  · intro h
    refine⟨?_,hb⟩
    rw [pX]
    simp only [hf]
    rw [if_neg h]
    rfl))
 clear hQ
 have HX:=h_ (fun wx (h:SW (w.heap.size+2) ((w.alloc (.cells #[SU .i64 id,.int .i64 ev,.int .i64 frm,.int .i64 til,.string au,.string tx,.bool dn,.bool false] 52)).alloc (.cells #[SU .i64 0,.int .i64 0,.int .i64 0,.int .i64 0,.string ⟨#[]⟩,.string ⟨#[]⟩,.bool false,.bool false] 52)) wx)=>sd w #[SU .i64 id,.int .i64 ev,.int .i64 frm,.int .i64 til,.string au,.string tx,.bool dn,.bool false] #[SU .i64 0,.int .i64 0,.int .i64 0,.int .i64 0,.string ⟨#[]⟩,.string ⟨#[]⟩,.bool false,.bool false] 52 52 wx h)
 have HB:=h_ (fun wx (h:SW (w.heap.size+2) ((w.alloc (.cells #[SU .i64 id,.int .i64 ev,.int .i64 frm,.int .i64 til,.string au,.string tx,.bool dn,.bool false] 52)).alloc (.cells #[SU .i64 0,.int .i64 0,.int .i64 0,.int .i64 0,.string ⟨#[]⟩,.string ⟨#[]⟩,.bool false,.bool false] 52)) wx)=>(show SW w.heap.size w wx from(Lm w _ _).trans (h.mono (by omega))))
 have hsz:((w.alloc (.cells #[SU .i64 id,.int .i64 ev,.int .i64 frm,.int .i64 til,.string au,.string tx,.bool dn,.bool false] 52)).alloc (.cells #[SU .i64 0,.int .i64 0,.int .i64 0,.int .i64 0,.string ⟨#[]⟩,.string ⟨#[]⟩,.bool false,.bool false] 52)).heap.size=w.heap.size+2:=by simp
 generalize hW0:((w.alloc (.cells #[SU .i64 id,.int .i64 ev,.int .i64 frm,.int .i64 til,.string au,.string tx,.bool dn,.bool false] 52)).alloc (.cells #[SU .i64 0,.int .i64 0,.int .i64 0,.int .i64 0,.string ⟨#[]⟩,.string ⟨#[]⟩,.bool false,.bool false] 52))=W0 at *
 have HW0:=h_ hW0
 have bu:=h_ hsz
 have hb0:SW (w.heap.size+2) W0 W0:=SX _ _
 have HT:=h_ (fun(w2 w3:SK) (h:SW (w.heap.size+2) W0 w2) (h3:SW w2.heap.size w2 w3)=>(h.trans (h3.mono (by have:=h.size;rw [bu.out] at this;exact this)):SW (w.heap.size+2) W0 w3))
 clear hW0 hsz
 have fx:∀ wx,SW (w.heap.size+2) W0 wx→∀ j,wx.cell? ⟨w.heap.size,j,none⟩=_:=fun wx h j=>SM _ _ j _ 52 (0,0) (HX.out wx h).1
 have gx0:=fx W0 hb0
 simp only [Cm.enc]
 go_enter Tryz.func202,Tryz.ntmps202
 go_wp2_with fail
 rw [HW0.out]
 clear gx0
 have gx0:=fx W0 hb0
 go_wp2_with fail
 refine(HR1.out _).mono ?_
 rintro e w1 ⟨v1,rfl,ho1,hb1⟩
 have hc1:=HT.out _ _ hb0 hb1
 clear hb1 gx0 hb0
 go_wp2_with fail
 refine(HR2.out _).mono ?_
 rintro e w2 ⟨v2,rfl,ho2,hb2⟩
 have hc2:=HT.out _ _ hc1 hb2
 obtain⟨ga,ca,za,hva,hza,My,hra⟩:=yk (aH ho1 hb2)
 obtain⟨gb,cb,zb,hvb,hzb,hcb,hrb⟩:=yk ho2
 have M0:=h_ hza
 have MZ:=h_ hzb
 subst hva
 subst hvb
 have EK:=h_ hra
 have vH:=h_ hrb
 have DA:=h_ My
 have tu:=h_ hcb
 have hx2:=HX.out _ hc2
 have HB2:=h_ (HB.out _ hc2)
 have Cp:=h_ hx2
 have fg:∀ j,w2.cell? ⟨w.heap.size,j,none⟩=_:=fun j=>SM _ _ j _ 52 (0,0) hx2.1
 have zg:∀ j,w2.frozen? ⟨w.heap.size,j,none⟩=false:=fun j=>by simp [S9,hx2.1]
 have fr:∀ j,w2.cell? ⟨w.heap.size+1,j,none⟩=_:=fun j=>SM _ _ j _ 52 (0,0) hx2.2
 have zr:∀ j,w2.frozen? ⟨w.heap.size+1,j,none⟩=false:=fun j=>by simp [S9,hx2.2]
 clear hra hrb My hcb hza hzb ho1 ho2 hb2 hc1 hc2 fx HT HX HB hx2 HR1 HR2 bu HW0
 go_upto_block 0 with fail
 go_cut [11] (fun s11 wx=>s11=.int .i64 (alike a b:Nat)∧wx.heap=w2.heap∧SW w.heap.size w wx)
 case first =>
  go_wp2_with fail
  go_loopw [11] (fun i wr=>∃ p:Nat,p≤alike a b∧i=.int .i64 p∧wr.heap=w2.heap∧SW w.heap.size w wr) (fun i _=>a.length-(intOf i).toNat)
  case atStart=>exact⟨0,by omega,rfl,rfl,HB2.out⟩
  case round =>
   obtain⟨p,hp,rfl,hh,hbr⟩:=hrel
   have HH:=h_ hh
   have kI:=h_ (fun n=>SR hbr n)
   have hcl:∀ g j,wr.cell? ⟨g,j,none⟩=w2.cell? ⟨g,j,none⟩:=fun g j=>by simp [S_,hh]
   have hle:=nM a b
   clear hh hbr
   by_cases hlt:p<a.length∧p<b.length
   · obtain⟨x,hx⟩:∃ x,a[p]? =some x:=⟨_,Sv hlt.1⟩
     obtain⟨y,hy⟩:∃ y,b[p]? =some y:=⟨_,Sv hlt.2⟩
     have HM:=h_ (vD hp hx hy)
     have ra:=(hcl _ _).trans (EK.out p x hx)
     have rb:=(hcl _ _).trans (vH.out p y hy)
     have hza:=M0.out (by omega)
     have hzb:=MZ.out (by omega)
     have My:=DA.out (by omega)
     have hcb:=tu.out (by omega)
     subst hza
     subst hzb
     have hm1:decide ((p:Int)<min (a.length:Int) (b.length:Int))=true:=by simp;omega
     clear hx hy EK vH M0 MZ DA tu HQ HB2 Cp hcl fg zg fr zr
     by_cases hxy:x=y
     · have HP:=h_ (HM.out.1 hxy)
       subst hxy
       clear HM
       go_wp2_with fail
       go_quiet (fail)
       go_wp2_with fail
       go_roundw
       case rel=>exact⟨p+1,HP.out,by go_num,HH.out,kI.out _⟩
       case measure=>simp [intOf];omega
     · have HP:=h_ (HM.out.2 hxy)
       have hne:¬ ((x:Int)=(y:Int)):=by omega
       clear HM
       go_wp2_with fail
       go_quiet (fail)
       go_wp2_with fail
       go_meet
       exact⟨by rw [←HP.out],HH.out,kI.out _⟩
   · have HP:=h_ (zQ hp (by omega))
     have hm1:decide ((p:Int)<min (a.length:Int) (b.length:Int))=false:=by simp;omega
     clear EK vH M0 MZ DA tu HQ HB2 Cp hcl fg zg fr zr
     go_wp2_with fail
     go_quiet (fail)
     go_wp2_with fail
     go_meet
     exact⟨by rw [←HP.out],HH.out,kI.out _⟩
 case rest =>
  obtain⟨rfl,hh,hbr⟩:=hcut
  have HP:=nM a b
  have Ik:=h_ hbr
  have HXD:=h_ (show wc.heap[w.heap.size]? =_∧wc.heap[w.heap.size+1]? =_ from by rw [hh];exact Cp.out)
  have ud:∀ g j,wc.cell? ⟨g,j,none⟩=w2.cell? ⟨g,j,none⟩:=fun g j=>by simp [S_,hh]
  have BP:∀ g j,wc.frozen? ⟨g,j,none⟩=w2.frozen? ⟨g,j,none⟩:=fun g j=>by simp [S9,hh]
  have gg:∀ j,wc.cell? ⟨w.heap.size,j,none⟩=_:=fun j=>(ud _ _).trans (fg j)
  have gz:∀ j,wc.frozen? ⟨w.heap.size,j,none⟩=false:=fun j=>(BP _ _).trans (zg j)
  have gr:∀ j,wc.cell? ⟨w.heap.size+1,j,none⟩=_:=fun j=>(ud _ _).trans (fr j)
  have gy:∀ j,wc.frozen? ⟨w.heap.size+1,j,none⟩=false:=fun j=>(BP _ _).trans (zr j)
  have JQ:=h_ (fun j x h=>(ud _ _).trans (EK.out j x h))
  have JP:=h_ (fun j x h=>(ud _ _).trans (vH.out j x h))
  clear fg zg fr zr EK vH ud BP hh hbr HB2 Cp
  obtain⟨wd,hwd⟩:∃ x,x=wc:=⟨_,rfl⟩
  subst hwd
  generalize hPP:alike a b=P at *
  go_upto_block 2 with fail
  go_cut [12] (fun s12 wx=>s12=.int .i64 (kA a b P:Nat)∧wx.heap=wd.heap∧SW w.heap.size w wx)
  case first =>
   go_wp2_with fail
   go_loopw [12] (fun i wr=>∃ s:Nat,s≤kA a b P∧i=.int .i64 s∧wr.heap=wd.heap∧SW w.heap.size w wr) (fun i _=>a.length-(intOf i).toNat)
   case atStart=>exact⟨0,by omega,rfl,rfl,Ik.out⟩
   case round =>
    obtain⟨s,hp,rfl,hh,hbr⟩:=hrel
    have HH:=h_ hh
    have kI:=h_ (fun n=>SR hbr n)
    have hcl:∀ g j,wr.cell? ⟨g,j,none⟩=wd.cell? ⟨g,j,none⟩:=fun g j=>by simp [S_,hh]
    have hle:=tm a b P
    clear hh hbr
    by_cases hlt:s<a.length-P∧s<b.length-P
    · obtain⟨x,hx⟩:∃ x,a[a.length-1-s]? =some x:=⟨_,Sv (by omega)⟩
      obtain⟨y,hy⟩:∃ y,b[b.length-1-s]? =some y:=⟨_,Sv (by omega)⟩
      have HM:=h_ (Ch hp hlt.1 hlt.2 hx hy)
      have ra:=(hcl _ _).trans (JQ.out _ x hx)
      have rb:=(hcl _ _).trans (JP.out _ y hy)
      have hza:=M0.out (by omega)
      have hzb:=MZ.out (by omega)
      have My:=DA.out (by omega)
      have hcb:=tu.out (by omega)
      subst hza
      subst hzb
      have hm1:decide ((s:Int)<min (a.length:Int) (b.length:Int)-(P:Int))=true:=by simp;omega
      obtain⟨i1,hi1⟩:∃ i:Nat,i=a.length-1-s:=⟨_,rfl⟩
      obtain⟨i2,hi2⟩:∃ i:Nat,i=b.length-1-s:=⟨_,rfl⟩
      have ha1:(a.length:Int)-1-(s:Int)=(i1:Int):=by omega
      have ha2:(b.length:Int)-1-(s:Int)=(i2:Int):=by omega
      have hb1:i1<a.length:=by omega
      have hb2:i2<b.length:=by omega
      rw [←hi1] at ra
      rw [←hi2] at rb
      clear hx hy JQ JP M0 MZ DA tu HQ Ik hcl gg gz gr gy hi1 hi2
      by_cases hxy:x=y
      · have Ct:=h_ (HM.out.1 hxy)
        subst hxy
        clear HM
        go_wp2_with fail
        go_quiet (fail)
        go_wp2_with fail
        go_roundw
        case rel=>exact⟨s+1,Ct.out,by go_num,HH.out,kI.out _⟩
        case measure=>simp [intOf];omega
      · have Ct:=h_ (HM.out.2 hxy)
        have hne:¬ ((x:Int)=(y:Int)):=by omega
        clear HM
        go_wp2_with fail
        go_quiet (fail)
        go_wp2_with fail
        go_meet
        exact⟨by rw [←Ct.out],HH.out,kI.out _⟩
    · have Ct:=h_ (EG hp (by omega))
      have hm1:decide ((s:Int)<min (a.length:Int) (b.length:Int)-(P:Int))=false:=by simp;omega
      clear JQ JP M0 MZ DA tu HQ Ik hcl gg gz gr gy
      go_wp2_with fail
      go_quiet (fail)
      go_wp2_with fail
      go_meet
      exact⟨by rw [←Ct.out],HH.out,kI.out _⟩
  case rest =>
   obtain⟨rfl,hh,hbr⟩:=hcut
   have HZ2:=tm a b P
   have Ah:=h_ hbr
   have uO:=h_ (show wc.heap[w.heap.size]? =_∧wc.heap[w.heap.size+1]? =_ from by rw [hh];exact HXD.out)
   have ud:∀ g j,wc.cell? ⟨g,j,none⟩=wd.cell? ⟨g,j,none⟩:=fun g j=>by simp [S_,hh]
   have BP:∀ g j,wc.frozen? ⟨g,j,none⟩=wd.frozen? ⟨g,j,none⟩:=fun g j=>by simp [S9,hh]
   have eg:∀ j,wc.cell? ⟨w.heap.size,j,none⟩=_:=fun j=>(ud _ _).trans (gg j)
   have ez:∀ j,wc.frozen? ⟨w.heap.size,j,none⟩=false:=fun j=>(BP _ _).trans (gz j)
   have er:∀ j,wc.cell? ⟨w.heap.size+1,j,none⟩=_:=fun j=>(ud _ _).trans (gr j)
   have ey:∀ j,wc.frozen? ⟨w.heap.size+1,j,none⟩=false:=fun j=>(BP _ _).trans (gy j)
   clear gg gz gr gy JQ JP ud BP hh hbr Ik M0 MZ DA tu HXD
   generalize hSS:kA a b P=S at *
   generalize a.length=n at *
   generalize b.length=m at *
   have h64:(n:Int)≤20000000000000∧(m:Int)≤20000000000000∧(S:Int)≤n∧(S:Int)≤m∧(P:Int)≤n:=by omega
   obtain⟨f1,hf1⟩:∃ f1,f1=(if (n:Int)-S≤frm then frm+((m:Int)-n) else if (P:Int)≤frm then (m:Int)-S else frm):=⟨_,rfl⟩
   obtain⟨t1,ht1⟩:∃ t1,t1=(if til≤(P:Int) then til else if (n:Int)-S<til then til+((m:Int)-n) else (P:Int)):=⟨_,rfl⟩
   have HF:=h_ (HQ.out f1 t1 (by unfold kQ;rw [←hf1,←ht1]))
   have fD:=h_ hf1
   have HT1:=h_ ht1
   clear hf1 ht1 HQ
   go_upto_block 4 with fail
   go_cut [] (fun wx=>wx.heap[w.heap.size]? =some (.cells #[SU .i64 id,.int .i64 ev,.int .i64 f1,.int .i64 til,.string au,.string tx,.bool dn,.bool false] 52 (0,0))∧wx.heap[w.heap.size+1]? =some (.cells #[SU .i64 0,.int .i64 0,.int .i64 0,.int .i64 0,.string ⟨#[]⟩,.string ⟨#[]⟩,.bool false,.bool false] 52 (0,0))∧SW w.heap.size w wx)
   case first =>
    rcases(by omega:(n:Int)-S≤frm∨frm<(n:Int)-S) with hA|hA
    · have hv:=fD.out
      rw [if_pos hA] at hv
      have HV:=h_ hv
      clear hv
      go_wp2_with fail
      go_meet
      refine⟨by rw [HV.out];exact SN _ _ _ _ _ _ uO.out.1,(SY _ _ _ _ (by simp only;omega)).trans uO.out.2,SZ Ah.out (by simp only;omega) _⟩
    · rcases(by omega:(P:Int)≤frm∨frm<(P:Int)) with hB|hB
      · have hv:=fD.out
        rw [if_neg (Tc.2 hA),if_pos hB] at hv
        have HV:=h_ hv
        clear hv
        go_wp2_with fail
        go_meet
        refine⟨by rw [HV.out];exact SN _ _ _ _ _ _ uO.out.1,(SY _ _ _ _ (by simp only;omega)).trans uO.out.2,SZ Ah.out (by simp only;omega) _⟩
      · have hv:=fD.out
        rw [if_neg (Tc.2 hA),if_neg (Tc.2 hB)] at hv
        have HV:=h_ hv
        clear hv
        go_wp2_with fail
        go_meet
        exact⟨by rw [HV.out];exact uO.out.1,uO.out.2,Ah.out⟩
   case rest =>
    clear eg ez er ey uO Ah
    obtain⟨r1,r2,hbr⟩:=hcut
    have eg:∀ j,wc.cell? ⟨w.heap.size,j,none⟩=_:=fun j=>SM _ _ j _ 52 (0,0) r1
    have ez:∀ j,wc.frozen? ⟨w.heap.size,j,none⟩=false:=fun j=>by simp [S9,r1]
    have er:∀ j,wc.cell? ⟨w.heap.size+1,j,none⟩=_:=fun j=>SM _ _ j _ 52 (0,0) r2
    have ey:∀ j,wc.frozen? ⟨w.heap.size+1,j,none⟩=false:=fun j=>by simp [S9,r2]
    have uO:=h_ (And.intro r1 r2)
    have Ah:=h_ hbr
    clear r1 r2 hbr
    go_upto_block 5 with fail
    go_cut [] (fun wx=>wx.heap[w.heap.size]? =some (.cells #[SU .i64 id,.int .i64 ev,.int .i64 f1,.int .i64 t1,.string au,.string tx,.bool dn,.bool false] 52 (0,0))∧wx.heap[w.heap.size+1]? =some (.cells #[SU .i64 0,.int .i64 0,.int .i64 0,.int .i64 0,.string ⟨#[]⟩,.string ⟨#[]⟩,.bool false,.bool false] 52 (0,0))∧SW w.heap.size w wx)
    case first =>
     rcases(by omega:til≤(P:Int)∨(P:Int)<til) with hT|hT
     · have hv:=HT1.out
       rw [if_pos hT] at hv
       have HV:=h_ hv
       clear hv
       go_wp2_with fail
       go_meet
       exact⟨by rw [HV.out];exact uO.out.1,uO.out.2,Ah.out⟩
     · rcases(by omega:(n:Int)-S<til∨til≤(n:Int)-S) with hU|hU
       · have hv:=HT1.out
         rw [if_neg (Tc.2 hT),if_pos hU] at hv
         have HV:=h_ hv
         clear hv
         go_wp2_with fail
         go_meet
         refine⟨by rw [HV.out];exact SN _ _ _ _ _ _ uO.out.1,(SY _ _ _ _ (by simp only;omega)).trans uO.out.2,SZ Ah.out (by simp only;omega) _⟩
       · have hv:=HT1.out
         rw [if_neg (Tc.2 hT),if_neg (Int.not_lt.2 hU)] at hv
         have HV:=h_ hv
         clear hv
         go_wp2_with fail
         go_meet
         refine⟨by rw [HV.out];exact SN _ _ _ _ _ _ uO.out.1,(SY _ _ _ _ (by simp only;omega)).trans uO.out.2,SZ Ah.out (by simp only;omega) _⟩
    case rest =>
     clear eg ez er ey uO Ah
     obtain⟨r1,r2,hbr⟩:=hcut
     have eg:∀ j,wc.cell? ⟨w.heap.size,j,none⟩=_:=fun j=>SM _ _ j _ 52 (0,0) r1
     have ez:∀ j,wc.frozen? ⟨w.heap.size,j,none⟩=false:=fun j=>by simp [S9,r1]
     have er:∀ j,wc.cell? ⟨w.heap.size+1,j,none⟩=_:=fun j=>SM _ _ j _ 52 (0,0) r2
     have ey:∀ j,wc.frozen? ⟨w.heap.size+1,j,none⟩=false:=fun j=>by simp [S9,r2]
     have uO:=h_ (And.intro r1 r2)
     have Ah:=h_ hbr
     clear r1 r2 hbr
     rcases(by omega:t1≤f1∨f1<t1) with hle|hle
     · go_wp2_with fail
       refine bodyPost_ret (v:=.agg #[SU .i64 id,.int .i64 ev,.int .i64 0,.int .i64 0,.string au,.string tx,.bool dn,.bool true]) (by simp [results,SJ,go_sem,er]) rfl ?_
       refine(HF.out _ ?_).1 hle
       repeat refine SZ ?_ (by simp only;omega) _
       exact Ah.out
     · go_wp2_with fail
       refine bodyPost_ret (v:=.agg #[SU .i64 id,.int .i64 ev,.int .i64 f1,.int .i64 t1,.string au,.string tx,.bool dn,.bool false]) (by simp [results,SJ,go_sem,er]) rfl ?_
       refine(HF.out _ ?_).2 (by first|exact hle|exact Tc.2 hle)
       repeat refine SZ ?_ (by simp only;omega) _
       exact Ah.out
end Go.Proofs.YtnlnmbcaongehaaGreatDoor
namespace Go.Proofs.YtnlnmbcaongehaaGreatDoor
open Go.RowKit Go.Maps
def BQ (v:SL):Option (DataW SL × List MemPlace):=some (.held v,[])
def Holds (D:DataW SL)(f:Int→Option SL):Prop:=∀ k,Maps.has D (.int .i64 k)=(f k).isSome∧∀ zd,D.atKey (.int .i64 k) zd=((f k).map DataW.held).getD zd
def VMap (w:SK)(b n:Nat)(f:Int→Option SL):Prop:=∃ D:DataW SL,w.ownsMap SH 2 BQ b n D∧Holds D f
theorem VMap.made (w:SK):VMap (w.alloc (.map #[] 0)) w.heap.size 0 (fun _=>none) :=
 ⟨_,SK.ownsMap_made _ _ _ _,fun z=>⟨rfl,fun _=>rfl⟩⟩
theorem VMap.lt {w:SK} {b n:Nat} {f:Int→Option SL} (h:VMap w b n f):b<w.heap.size:=by
 obtain⟨D,h,_⟩:=h;exact h.lt
theorem VMap.kept {w w':SK} {b n:Nat} {f:Int→Option SL} (h:VMap w b n f)(hb:w'.heap[b]? =w.heap[b]?):VMap w' b n f:=by
 obtain⟨D,⟨es,clock,h1,r⟩,hD⟩:=h
 exact⟨D,⟨es,clock,hb.trans h1,r⟩,hD⟩
theorem VMap.below {w w':SK} {b n B:Nat} {f:Int→Option SL} (h:VMap w b n f)(hb:SW B w w')(hB:b<B):VMap w' b n f:=h.kept (hb.block b hB)
theorem VMap.mono {w:SK} {b n m:Nat} {f:Int→Option SL} (h:VMap w b n f)(hn:n≤m):VMap w b m f:=by
 obtain⟨D,h,hD⟩:=h
 exact⟨D,h.mono hn,hD⟩
theorem VMap.look {w:SK} {b n:Nat} {f:Int→Option SL} (h:VMap w b n f) {t e:SQ} (ht:SH.underlying t=some (.map 2 e)) {zero:SL} (hz:(zeroValue e).run SH w=.ok zero w) {z:Int} (hk:i64 z) :
 (Instr.lookup t (.map (some b)) (.int .i64 z) true).run SH w=.ok (.tuple #[(f z).getD zero,.bool (f z).isSome]) w:=by
 obtain⟨D,h,r⟩:=h
 obtain⟨v,ps,hrun,hv⟩:=h.look_ok sF ht hz (zd:=.held zero) (zp:=[]) rfl (key2 hk)
 rw [(r z).2] at hv
 rw [hrun,(r z).1]
 have:v=(f z).getD zero:=by
  unfold BQ at hv
  cases hf:f z with
  | none=>rw [hf] at hv;simp at hv;exact hv.1
  | some u=>rw [hf] at hv;simp at hv;exact hv.1
 rw [this]
theorem VMap.look1 {w:SK} {b n:Nat} {f:Int→Option SL} (h:VMap w b n f) {t e:SQ} (ht:SH.underlying t=some (.map 2 e)) {zero:SL} (hz:(zeroValue e).run SH w=.ok zero w) {z:Int} (hk:i64 z) :
 (Instr.lookup t (.map (some b)) (.int .i64 z) false).run SH w=.ok ((f z).getD zero) w:=by
 obtain⟨D,h,r⟩:=h
 obtain⟨v,ps,hrun,hv⟩:=h.lookup sF ht hz (zd:=.held zero) (zp:=[]) rfl (key2 hk)
 rw [(r z).2] at hv
 rw [hrun]
 have:v=(f z).getD zero:=by
  unfold BQ at hv
  cases hf:f z with
  | none=>rw [hf] at hv;simp at hv;exact hv.1
  | some u=>rw [hf] at hv;simp at hv;exact hv.1
 rw [this]
theorem VMap.put {w:SK} {b n:Nat} {f:Int→Option SL} (h:VMap w b n f) {t e:SQ} (ht:SH.underlying t=some (.map 2 e)) {z:Int} (hk:i64 z)(hn:n<maxLen)(v:SL) :
 ∃ w',(Instr.mapUpdate t (.map (some b)) (.int .i64 z) v).run SH w=.ok () w'∧VMap w' b (n+1) (fun y=>if y=z then some v else f y)∧w.grownBy w' (some b):=by
 obtain⟨D,h,r⟩:=h
 obtain⟨w',h1,h2,h3⟩:=h.update sF ht hn (key2 hk) (d:=.held v) (ps:=[]) rfl
 refine⟨w',h1,⟨_,h2,fun y=>?_⟩,h3⟩
 by_cases hy:y=z
 · subst hy
   simp only [if_true]
   exact⟨has_put_same h.isMap (isKey _) _,fun zd=>atKey_put_same h.isMap (isKey _) _ _⟩
 · simp only [if_neg hy]
   have hne:Lit.int .i64 y≠Lit.int .i64 z:=by simpa using hy
   exact⟨by rw [has_put_other hne];exact(r y).1,fun zd=>by rw [atKey_put_other hne];exact(r y).2 zd⟩
theorem iQ (w:SK) {ops:Array Oper} {rest:List Oper} {o:Oper} {a:Act} {Q:Exit→Act→SK→Prop}
 (hg:o.guard=none) (m x v:Operand) (t e:SQ) (hop:o.op=Op.mapUpdate t m x v) (ht:SH.underlying t=some (.map 2 e)) (b n:Nat) (f:Int→Option SL)
 (hm:a.eval m=.map (some b)) (h:VMap w b n f) (hn:n<maxLen) (z:Int) (hx:a.eval x=.int .i64 z) (hz:i64 z) (u:SL) (hv:a.eval v=u)
 (hK:∀ w',VMap w' b (n+1) (fun y=>if y=z then some u else f y)→w.grownBy w' (some b)→wpList SH ops Q rest (a.put o.dst undef) w'):wpList SH ops Q (o::rest) a w:=by
 obtain⟨w',hrun,h1,h2⟩:=h.put ht hz hn u
 refine wpList_plain hg fun K' hK'=>?_
 unfold Oper.wp
 simp [execOp,hop,hm,hx,hv,hrun,Result.andThen]
 exact hK' _ _ (hK _ h1 h2)
def VRange (w:SK)(b r n:Nat)(f:Int→Option SL)(left:Int→Bool)(cnt:Nat):Prop :=
 ∃ (D:DataW SL) (L:Lit→Bool),w.ranges SH 2 BQ b r n D L cnt∧Holds D f∧∀ k,L (.int .i64 k)=left k
theorem VRange.lt {w:SK} {b r n cnt:Nat} {f:Int→Option SL} {left:Int→Bool} (h:VRange w b r n f left cnt):r<w.heap.size∧b<w.heap.size∧r≠b:=by
 obtain⟨D,L,h,_⟩:=h
 exact⟨h.lt,h.owns.lt,h.ne⟩
theorem VRange.map {w:SK} {b r n cnt:Nat} {f:Int→Option SL} {left:Int→Bool} (h:VRange w b r n f left cnt):VMap w b n f:=by
 obtain⟨D,L,h,hD,_⟩:=h
 exact⟨D,h.owns,hD⟩
theorem VRange.kept {w w':SK} {b r n cnt:Nat} {f:Int→Option SL} {left:Int→Bool} (h:VRange w b r n f left cnt)(hb:w'.heap[b]? =w.heap[b]?)(hr:w'.heap[r]? =w.heap[r]?):VRange w' b r n f left cnt:=by
 obtain⟨D,L,⟨es,clock,since,seen,c0,h1,F,hs,hD,h2,rest⟩,r1,r2⟩:=h
 exact⟨D,L,⟨es,clock,since,seen,c0,hb.trans h1,F,hs,hD,hr.trans h2,rest⟩,r1,r2⟩
theorem VRange.left_eq {w:SK} {b r n cnt:Nat} {f:Int→Option SL} {left:Int→Bool} (h:VRange w b r n f left cnt):w.rangeLeft b r=cnt:=by
 obtain⟨D,L,h,_⟩:=h
 exact h.left_eq
theorem fO (w:SK) {ops:Array Oper} {rest:List Oper} {o:Oper} {a:Act} {Q:Exit→Act→SK→Prop}
 (hg:o.guard=none) (m:Operand) (t e:SQ) (hop:o.op=Op.range t m) (ht:SH.underlying t=some (.map 2 e)) (b n:Nat) (f:Int→Option SL)
 (hm:a.eval m=.map (some b)) (h:VMap w b n f)
 (hK:∀ w' cnt,VRange w' b w.heap.size n f (fun k=>(f k).isSome) cnt→cnt≤n→w.grownBy w' none→w'.heap.size=w.heap.size+1→wpList SH ops Q rest (a.put o.dst (.pointer (some ⟨w.heap.size,0,none⟩))) w') :
 wpList SH ops Q (o::rest) a w:=by
 obtain⟨D,h,hD⟩:=h
 exact wpList_range_own w hg m t hop 2 e sF ht BQ b n D hm h fun w' h1 h2 h3=>hK w' _ ⟨D,_,h1,hD,fun k=>(hD k).1⟩ h.size_le h2 h3
theorem gQ (w:SK) {ops:Array Oper} {rest:List Oper} {o:Oper} {a:Act} {Q:Exit→Act→SK→Prop}
 (hg:o.guard=none) (it:Operand) (hop:o.op=Op.next it false) (b r n:Nat) (f:Int→Option SL) (left:Int→Bool) (cnt:Nat)
 (hit:a.eval it=.pointer (some ⟨r,0,none⟩)) (h:VRange w b r n f left cnt)
 (hDone:cnt=0→(∀ k,left k=false)→wpList SH ops Q rest (a.put o.dst (.tuple #[.bool false])) w)
 (hMore:∀ (k:Int) (v:SL) (w':SK) (cnt':Nat),i64 k→left k=true→f k=some v→VRange w' b r n f (fun z=>left z&&!(z==k)) cnt'→cnt'<cnt →
  w.grownBy w' (some r)→w'.heap.size=w.heap.size→(Instr.entry (.pointer (some ⟨r,0,none⟩))).run SH w'=.ok (.tuple #[.int .i64 k,v]) w'→wpList SH ops Q rest (a.put o.dst (.tuple #[.bool true,.int .i64 k,v])) w') :
 wpList SH ops Q (o::rest) a w:=by
 obtain⟨D,L,hr,hD,hL⟩:=h
 refine wpList_next_ranges w hg it hop 2 sF BQ (SU .i64) (fun v:SL=>v) (fun key kl hkey=>by obtain⟨x,rfl,_⟩:=Maps.keyOf_int_inv SI hkey;exact⟨x,rfl⟩) (fun v _ _=>⟨v,rfl⟩) b r n D L cnt hit hr
  (fun h0 hl=>hDone h0 fun k=>by rw [←hL];exact hl _) fun x c kl y w' cnt' hkey hlk hv hat hrg hlt hgr hsz hen=>?_
 obtain⟨x',ex,rfl,hwx⟩:=Maps.keyOf_int_inv SI hkey
 cases ex
 have hy:y.1=.held c:=by
  unfold BQ at hv
  have:=Option.some.inj hv
  rw [←this]
 have hfk:f x=some c:=by
  have h1:=(hD x).2 (.held undef)
  have h2:=(hD x).2 (DataW.nil)
  rw [hat,hy] at h1 h2
  cases hf:f x with
  | none=>rw [hf] at h2;simp at h2
  | some u=>rw [hf] at h2;simp at h2;rw [h2]
 refine hMore x c w' cnt' ?_ (by rw [←hL];exact hlk) hfk ⟨D,_,hrg,hD,fun k=>?_⟩ hlt hgr hsz hen
 · exact show _∧_ from(by simpa [Lit.wf,IntKind.min,IntKind.max,IntKind.signed,IntKind.bits] using hwx)
 · rw [hL]
   have:(Lit.int .i64 k).sameKey (Lit.int .i64 x)=(k==x):=by
    by_cases hkx:k=x
    · subst hkx
      rw [WideAt.sameKey_self (isKey _)]
      simp
    · cases hs:(Lit.int .i64 k).sameKey (Lit.int .i64 x)
      · simp [hkx]
      · have:=WideAt.sameKey_eq hs
        simp at this
        exact absurd this hkx
   rw [this]
structure Keys (f:Int→Option SL)(left:Int→Bool)(K0 ks:List Int):Prop where
 mem:∀ z,z∈ks↔z∈K0∨((f z).isSome=true∧left z=false)
theorem Keys.start (f:Int→Option SL)(K0:List Int):Keys f (fun k=>(f k).isSome) K0 K0:=⟨fun z=>by
 constructor
 · exact .inl
 · rintro (h|⟨h1,h2⟩)
   · exact h
   · rw [h1] at h2;cases h2⟩
theorem Keys.step {f:Int→Option SL} {left:Int→Bool} {K0 ks:List Int} (h:Keys f left K0 ks) {k:Int} {v:SL} (hk:left k=true)(hf:f k=some v):Keys f (fun z=>left z&&!(z==k)) K0 (ks++[k]):=⟨fun z=>by
 rw [SC,h.mem z,List.mem_singleton]
 by_cases hz:z=k
 · subst hz
   simp [hf]
 · simp [hz]⟩
theorem Keys.fin {f:Int→Option SL} {left:Int→Bool} {K0 ks:List Int} (h:Keys f left K0 ks)(hl:∀ k,left k=false)(z:Int):z∈ks↔z∈K0∨(f z).isSome=true:=by
 rw [h.mem z,hl z]
 simp
end Go.Proofs.YtnlnmbcaongehaaGreatDoor
namespace Go.Proofs.YtnlnmbcaongehaaGreatDoor
open Go.RowKit
structure Kept (S:Nat→Prop)(w w':SK):Prop where
 os:w'.os=w.os
 tape:w'.tape=w.tape
 output:w'.output=w.output
 size:w.heap.size≤w'.heap.size
 block:∀ k,k<w.heap.size→¬ S k→w'.heap[k]? =w.heap[k]?
theorem Kept.refl (S:Nat→Prop)(w:SK):Kept S w w:=⟨rfl,rfl,rfl,S6 _,fun _ _ _=>rfl⟩
theorem Kept.trans {S S':Nat→Prop} {a b c:SK} (h:Kept S a b)(k:Kept S' b c)(hs:∀ i,i<a.heap.size→S' i→S i):Kept S a c :=
 ⟨k.os.trans h.os,k.tape.trans h.tape,k.output.trans h.output,S7 h.size k.size,fun i hi hn=>(k.block i (S8 hi h.size) (fun e=>hn (hs i hi e))).trans (h.block i hi hn)⟩
theorem Kept.of_below {S:Nat→Prop} {w w':SK} (h:SW w.heap.size w w'):Kept S w w':=⟨h.os,h.tape,h.output,h.size,fun k hk _=>h.block k hk⟩
theorem Kept.andBelow {S:Nat→Prop} {a w w':SK} (h:Kept S a w)(k:SW w.heap.size w w'):Kept S a w':=h.trans (Kept.of_below (S:=fun _=>False) k) fun _ _ h=>h.elim
theorem Kept.andGrown {S:Nat→Prop} {a w w':SK} {row:Option Nat} (h:Kept S a w)(hg:w.grownBy w' row)(hr:∀ k,row=some k→k<a.heap.size→S k):Kept S a w' :=
 ⟨hg.os.trans h.os,hg.tape.trans h.tape,hg.output.trans h.output,S7 h.size hg.size,fun k hk hn=>(hg.block k (S8 hk h.size) (fun e=>hn (hr k e.symm hk))).trans (h.block k hk hn)⟩
theorem Kept.alloc {S:Nat→Prop} {a w:SK} (h:Kept S a w)(o:Obj):Kept S a (w.alloc o):=h.andBelow ((SX _ _).alloc (S6 _) o)
theorem Kept.drew {S:Nat→Prop} {a w:SK} (h:Kept S a w):Kept S a w.drew:=⟨h.os,h.tape,h.output,h.size,h.block⟩
theorem Kept.setCell {S:Nat→Prop} {a w:SK} (h:Kept S a w) {p:Addr} (hp:a.heap.size≤p.block∨S p.block)(u:SL):Kept S a (w.setCell p u) :=
 ⟨h.os,h.tape,h.output,by simpa using h.size,fun k hk hn=>by
  rw [SY _ _ _ _ (fun e=>by
   rcases hp with hp|hp
   · omega
   · exact hn (e▸hp))]
  exact h.block k hk hn⟩
theorem Kept.below {S:Nat→Prop} {w w':SK} {B:Nat} (h:Kept S w w')(hB:B≤w.heap.size)(hs:∀ k,k<B→¬ S k):SW B w w':=⟨h.os,h.tape,h.output,h.size,fun k hk=>h.block k (by omega) (hs k hk)⟩
theorem Kept.cell {S:Nat→Prop} {w w':SK} (h:Kept S w w') {b o:Nat} (hb:b<w.heap.size)(hs:¬ S b):w'.cell? ⟨b,o,none⟩=w.cell? ⟨b,o,none⟩:=SK.cell?_of_block (w:=w) (h.block b hb hs)
theorem Kept.mono {S S':Nat→Prop} {w w':SK} (h:Kept S w w')(hs:∀ i,i<w.heap.size→S i→S' i):Kept S' w w':=⟨h.os,h.tape,h.output,h.size,fun k hk hn=>h.block k hk (fun e=>hn (hs k hk e))⟩
def mOwn (g:Nat)(kv:SL)(b:Nat):Prop:=b=g∨kv.ownBlock=some b
theorem ah {B e k n:Nat} {v:SL} {xs:List SL} {w w':SK} (h:w.ownsRow B e k v n xs)(hb:∀ b,v.ownBlock=some b→w'.heap[b]? =w.heap[b]?):w'.ownsRow B e k v n xs:=by
 refine⟨h.1,?_⟩
 rcases h.2 with h0|⟨g,cap,cur,h1,h2,h3,h4⟩
 · exact .inl h0
 · exact .inr ⟨g,cap,cur,h1,h2,by rw [hb g (by rw [h1];rfl)];exact h3,h4⟩
theorem Cl.one:∀ (x:Cl)(v:SL),v∈x.enc→v.oneCell'=true:=by
 intro x v hv
 simp only [Cl.enc,SF,List.not_mem_nil,or_false] at hv
 rcases hv with rfl|rfl|rfl|rfl<;>rfl
end Go.Proofs.YtnlnmbcaongehaaGreatDoor
