/- Documents in order, as a merge wants them: their comments' places and where their events lie. What a merge gives fits: the header, the regions, the comments. -/
import Derived.Test.YtnlnmbcaongehaaGreatDoorM20
set_option linter.unusedVariables false
set_option linter.unusedSimpArgs false
set_option maxRecDepth 100000
set_option maxHeartbeats 12800000
open Go.Lib renaming hid→h_
open List renaming length_cons→fm,mem_of_find?_eq_some→fp,length_append→ft,flatMap_cons→fu,mem_flatMap→fw
open Option.some renaming inj→fB
namespace Go.Proofs.YtnlnmbcaongehaaGreatDoor
open Go.RowKit
theorem zfm:∀ (l:List Int)(acc:Int),0≤acc→(∀ z∈l,z≤4000000)→zcG l acc≤acc+4000000*l.length
 | [],acc,h,_=>by simp [zcG]
 | n::l,acc,h,hz=>by
   unfold zcG
   split
   · simp only [fm];omega
   · have:=zfm l (acc+n) (by omega) fun z hq=>hz z (List.mem_cons_of_mem _ hq)
     have h2:=hz n List.mem_cons_self
     simp only [fm]
     omega
theorem zjH {x:Ev} (h:x.fits):eY x.rows≤100000000000000:=by
 have h1:=zcF x.rows h.2.2.2.2.2.2.2.1
 have h2:=zfm (bh x.rows) (max ((x.rows.length:Int)-1) 0) (by omega) h1
 have h3:(bh x.rows).length=x.rows.length:=by simp [bh]
 have h4:x.rows.length≤4000000:=h.2.2.2.2.2.2.2.2
 unfold eY
 rw [h3] at h2
 omega
theorem zeD {d:Doc} (h0:aG d=0)(hf:d.fits):∀ c∈d.cms,c.tame:=by
 intro c hc
 refine⟨hf.2.2.2.2.2.2.2.2.2.1 c hc,fun hl=>?_⟩
 have hp:=(za2 h0).2.2.2.2
 unfold dW at hp
 split at hp
 · cases hp
 · have:=zbU _ _ _ _ _ hp c hc
   unfold aW at this
   split at this
   · cases this
   · rw [hl,if_neg (by decide)] at this
     split at this
     · cases this
     · rename_i i hi
       split at this
       · cases this
       · rename_i hn
         have hb:eY ((d.evs[i]?.map Ev.rows).getD [])≤100000000000000:=by
          cases hq:d.evs[i]? with
          | none=>exact(by decide:eY []≤100000000000000)
          | some x=>exact zjH (hf.2.2.2.2.2.2.2.1 x (List.mem_of_getElem? hq))
         omega
theorem zbp {d:Doc} {w:World} {g:Nat} (h:d.lies w)(hf:d.fits)(hu:∀ b,d.uses b→b<g):zbe d.evs g w:=by
 intro e he
 refine⟨?_,hf.2.2.2.2.2.2.2.1 e he,fun b hb=>hu b (.inr (.inl ?_))⟩
 · obtain⟨i,hi⟩:=List.mem_iff_getElem?.1 he
   obtain⟨_,_,x,_,_,hx,_,hl⟩:=h.2.1.at_ (List.getElem?_eq_some_iff.1 hi).1
   rw [hi] at hx
   cases hx
   exact hl
 · exact .inr ⟨e,he,hb⟩
theorem ziv {x y z:Hd} {la:Int} (hx:x.fits)(hy:y.fits)(hz:z.fits)(hl:i64 la):(mgHd x y z la).fits:=by
 have h1:=cN b_ x.title y.title z.title (fun p=>p.size≤4000000) hx.1 hy.1 hz.1
 have h2:=cN b_ x.lang y.lang z.lang (fun p=>p.size≤4000000) hx.2.1 hy.2.1 hz.2.1
 have h3:=cN bV (x.rate,x.drop) (y.rate,y.drop) (z.rate,z.drop) (fun p=>0≤p.1∧p.1≤255) ⟨hx.2.2.1,hx.2.2.2.1⟩ ⟨hy.2.2.1,hy.2.2.2.1⟩ ⟨hz.2.2.1,hz.2.2.2.1⟩
 exact⟨h1,h2,h3.1,h3.2,hl⟩
theorem eP {l:List Reg} (h:∀ r∈l,r.fits)(n:ByteArray):∀ r,aQ l n=some r→r.fits:=fun r hr=>h r (fp hr)
theorem zfY {x y z:List Reg} (hx:∀ r∈x,r.fits)(hy:∀ r∈y,r.fits)(hz:∀ r∈z,r.fits)(ns:List ByteArray):∀ r∈bY x y z ns,r.fits:=by
 intro r hr
 unfold bY at hr
 obtain⟨n,_,h⟩:=fw.1 hr
 have:=cN ziz (aQ x n) (aQ y n) (aQ z n) (fun o=>∀ q,o=some q→q.fits) (eP hx n) (eP hy n) (eP hz n)
 have h2:(zbo x y z n).1=some r:=by simpa using h
 exact this r h2
theorem zbn (x y z:List Reg):∀ ns:List ByteArray,(bY x y z ns).length≤ns.length∧(bD x y z ns).length≤ns.length
 | []=>⟨Nat.le_refl _,Nat.le_refl _⟩
 | n::ns=>by
   have ih:=zbn x y z ns
   have h1:((zbo x y z n).1.toList).length≤1:=by cases (zbo x y z n).1<;>simp
   have h2:(clIf (zbo x y z n).2 ⟨2,0,n,az⟩).length≤1:=by unfold clIf;split<;>simp
   unfold bY bD at *
   rw [fu,fu,ft,ft,fm]
   omega
theorem zhv {ox oy oz x y z:Option Cm} (hx:∀ c,x=some c→c.fits)(hy:∀ c,y=some c→c.fits)(hz:∀ c,z=some c→c.fits) {p:Cm × List ByteArray} (h:eI ox oy oz x y z=some p):p.1.fits:=by
 cases x with
 | none =>
   cases y with
   | none =>
     rw [eI] at h
     obtain rfl:=fB h
     cases z with
     | none=>exact⟨bI,bI,bI,bI,by decide,by decide⟩
     | some z=>exact hz z rfl
   | some y =>
     cases z with
     | none =>
       rw [eI] at h
       obtain rfl:=fB h
       exact hy y rfl
     | some z =>
       rw [eI] at h
       split at h
       · obtain rfl:=fB h
         exact hy y rfl
       · obtain rfl:=fB h
         obtain⟨c1,c2,c3,c4,c5,c6⟩:=hy y rfl
         exact⟨c1,c2,bI,bI,c5,c6⟩
 | some x =>
   cases y with
   | none =>
     cases z with
     | none=>rw [eI] at h;cases h
     | some z =>
       rw [eI] at h
       split at h
       · cases h
       · obtain rfl:=fB h
         exact hz z rfl
   | some y =>
     cases z with
     | none =>
       rw [eI] at h
       split at h
       · cases h
       · obtain rfl:=fB h
         exact hy y rfl
     | some z =>
       rw [eI] at h
       obtain rfl:=fB h
       exact zes (hx x rfl) (hy y rfl) (hz z rfl)
theorem eS {txs:List EvC} {a:DocC} (ha:∀ e∈a.evs,e.fits)(ht:∀ e∈txs,e.fits)(hc:∀ c∈a.cms,c.tame)(z:Int):∀ c,(aN a.cms z).map (dT a.evs txs)=some c→c.fits:=by
 intro c h
 obtain⟨q,hq,rfl⟩:=Option.map_eq_some_iff.1 h
 exact zfZ ha ht (hc q (fp hq))
theorem zhu {txs:List EvC} {a b c:DocC} (ht:∀ e∈txs,e.fits)(ha:(∀ e∈a.evs,e.fits)∧∀ q∈a.cms,q.tame)(hb:(∀ e∈b.evs,e.fits)∧∀ q∈b.cms,q.tame)(hc:(∀ e∈c.evs,e.fits)∧∀ q∈c.cms,q.tame)(ids:List Int):∀ q∈eU txs a b c ids,q.fits:=by
 intro q hq
 unfold eU at hq
 obtain⟨id,_,h⟩:=fw.1 hq
 cases hm:mgCm txs a b c id with
 | none=>rw [hm] at h;simp at h
 | some p =>
   rw [hm] at h
   obtain rfl:q=p.1:=by simpa using h
   exact zhv (eS ha.1 ht ha.2 id) (eS hb.1 ht hb.2 id) (eS hc.1 ht hc.2 id) hm
theorem zaa {xs:List Ev} (h:∀ e∈xs,e.fits):∀ e∈xs.map Ev.c,e.fits:=by
 intro e he
 obtain⟨x,hx,rfl⟩:=List.mem_map.1 he
 exact(Ev.fits_c _).2 (h x hx)
theorem zb2 {rG:List Reg} {xs ys zs:List EvC} {evs:List Ev} (h:evs.map Ev.c=dD (eH rG xs ys zs (bE xs ys zs))):evs.length≤xs.length+ys.length+zs.length:=by
 have h1:evs.length=(eH rG xs ys zs (bE xs ys zs)).length:=by
  rw [←List.length_map (f:=Ev.c),h,(dq _).length_eq]
 have h2:=(eT rG xs ys zs (bE xs ys zs)).1
 have h3:=zcN xs ys zs
 omega
end Go.Proofs.YtnlnmbcaongehaaGreatDoor
