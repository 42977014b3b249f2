/- The contract of document.Clone: the copy's lists lie apart from one another. slices.Delete (all other blocks are kept) at regions, events and comments: one element of an own row is taken out. -/
import Derived.Test.YtjebaagkomejaaaGreatDoorK12
set_option linter.unusedVariables false
set_option linter.unusedSimpArgs false
set_option maxRecDepth 100000
set_option maxHeartbeats 12800000
open Go.Lib renaming hid→h_
open Go renaming World→Sj,step_append_room→Sk,info_parts→Sl
open Go.Value renaming ownBlock→Sm,slice→Sn
open Option.some renaming inj→Sp,injEq→Sq
open List renaming getElem?_eq_getElem→Sr,getElem?_eq_some_iff→Ss,getElem_of_mem→St,length_drop→Su,getElem?_append_right→Sv,take_append_drop→Sw,flatMap_append→Sx,length_take→Sy
open Go.Value.slice renaming injEq→Sz
open Nat renaming min_eq_left→SA,mul_le_mul_right→SB,le_refl→SC,add_mul→SD
open Go.Lib renaming below_setCells→SF,isSome_setCells→SG
open Go.World renaming frozen?_setCells→SH,cell?_setCells_out→SI
open Go.World.ownsRow renaming drew→SJ
open Go.Departure renaming mixedOrders→SK
open Go.Act renaming eval→SL,put→SM
namespace Go.Proofs.YtjebaagkomejaaaGreatDoor
open Go.RowKit
attribute [local go_sem ↓] Go.wp_at_zero Go.wp_at_succ
def Doc.apart (d:Doc):Prop:=∃ t:Nat→Nat,(∀ b,bp d.ra d.rG b→t b=1)∧(∀ b,bp d.ea d.eV b→t b=2)∧(∀ x∈d.eV,∀ b,x.uses b→t b=3)∧∀ b,bp d.ca d.cM b→t b=4
def De (c:DocC)(w:Sj)(e:Ending)(w':Sj):Prop:=∃ d:Doc,e=.returned (.agg d.enc.toArray)∧d.c=c∧d.lies w'∧(∀ b,d.uses b→w.heap.size≤b)∧Below w.heap.size w w'∧d.apart∧w'.ownsRow w.heap.size 72 7 (.slice d.ea d.eV.length d.ec) d.eV.length (d.eV.flatMap Ev.enc)∧w'.ownsRow w.heap.size 102 8 (.slice d.ca d.cM.length d.cc) d.cM.length (d.cM.flatMap Cm.enc)
def Dd (c:DocC)(w:Sj)(e:Ending)(w':Sj):Prop:=∃ d:Doc,e=.returned (.agg d.enc.toArray)∧d.c=c∧d.lies w'∧(∀ b,d.uses b→w.heap.size≤b)∧Below w.heap.size w w'∧d.apart∧w'.ownsRow w.heap.size 72 7 (.slice d.ea d.eV.length d.ec) d.eV.length (d.eV.flatMap Ev.enc)∧w'.ownsRow w.heap.size 102 8 (.slice d.ca d.cM.length d.cc) d.cM.length (d.cM.flatMap Cm.enc)∧(∀ b,(Sn d.ea d.eV.length d.ec).ownBlock=some b→¬ bp d.ra d.rG b∧¬ bp d.ca d.cM b)∧∀ b,(Sn d.ca d.cM.length d.cc).ownBlock=some b→¬ bp d.ra d.rG b∧¬ gi d.ea d.eV b
def Dc (c:DocC)(w:Sj)(e:Ending)(w':Sj):Prop:=∃ d:Doc,e=.returned (.agg d.enc.toArray)∧d.c=c∧d.lies w'∧(∀ b,d.uses b→w.heap.size≤b)∧Below w.heap.size w w'∧d.apart∧w'.ownsRow w.heap.size 72 7 (.slice d.ea d.eV.length d.ec) d.eV.length (d.eV.flatMap Ev.enc)∧w'.ownsRow w.heap.size 102 8 (.slice d.ca d.cM.length d.cc) d.cM.length (d.cM.flatMap Cm.enc)∧(∀ b,(Sn d.ea d.eV.length d.ec).ownBlock=some b→¬ bp d.ra d.rG b∧¬ bp d.ca d.cM b)∧(∀ b,(Sn d.ca d.cM.length d.cc).ownBlock=some b→¬ bp d.ra d.rG b∧¬ gi d.ea d.eV b)∧w'.ownsRow w.heap.size 37 7 (.slice d.ra d.rG.length d.rc) d.rG.length (d.rG.flatMap Reg.enc)∧∀ b,(Sn d.ra d.rG.length d.rc).ownBlock=some b→¬ gi d.ea d.eV b∧¬ bp d.ca d.cM b
def kB (c:DocC)(w:Sj)(e:Ending)(w':Sj):Prop:=∃ d:Doc,e=.returned (.agg d.enc.toArray)∧d.c=c∧d.lies w'∧(∀ b,d.uses b→w.heap.size≤b)∧Below w.heap.size w w'∧d.apart∧w'.ownsRow w.heap.size 72 7 (.slice d.ea d.eV.length d.ec) d.eV.length (d.eV.flatMap Ev.enc)∧w'.ownsRow w.heap.size 102 8 (.slice d.ca d.cM.length d.cc) d.cM.length (d.cM.flatMap Cm.enc)∧(∀ b,(Sn d.ea d.eV.length d.ec).ownBlock=some b→¬ bp d.ra d.rG b∧¬ bp d.ca d.cM b)∧(∀ b,(Sn d.ca d.cM.length d.cc).ownBlock=some b→¬ bp d.ra d.rG b∧¬ gi d.ea d.eV b)∧w'.ownsRow w.heap.size 37 7 (.slice d.ra d.rG.length d.rc) d.rG.length (d.rG.flatMap Reg.enc)∧(∀ b,(Sn d.ra d.rG.length d.rc).ownBlock=some b→¬ gi d.ea d.eV b∧¬ bp d.ca d.cM b)∧∀ x∈d.eV,∀ r∈x.rows,∀ b,r.uses b→fk w' b
theorem dG {w:Sj} {B B' e k n:Nat} {v:Value} {xs:List Value} (h:w.ownsRow B e k v n xs)(hB:B'≤B):w.ownsRow B' e k v n xs:=⟨h.1,h.2.imp id fun⟨g,cap,cur,q1,q2,q3⟩=>⟨g,cap,cur,q1,by omega,q3⟩⟩
open Classical in
theorem wL {d:Doc} {n g:Nat} (h1:∀ b,bp d.ra d.rG b→b<n)(h2:∀ b,bp d.ea d.eV b→b=g)(hg:n≤g)(h3:∀ x∈d.eV,∀ b,x.uses b→n≤b∧b≠g)(h4:∀ b,bp d.ca d.cM b→b<n∧¬ bp d.ra d.rG b):d.apart:=by
 refine⟨fun b=>if b=g then 2 else if n≤b then 3 else if bp d.ra d.rG b then 1 else 4,fun b hb=>?_,fun b hb=>?_,fun x hx b hb=>?_,fun b hb=>?_⟩
 · have:=h1 b hb
   show(if b=g then 2 else if n≤b then 3 else if bp d.ra d.rG b then 1 else 4)=1
   rw [if_neg (by omega),if_neg (by omega),if_pos hb]
 · show(if b=g then 2 else if n≤b then 3 else if bp d.ra d.rG b then 1 else 4)=2
   rw [if_pos (h2 b hb)]
 · obtain⟨q1,q2⟩:=h3 x hx b hb
   show(if b=g then 2 else if n≤b then 3 else if bp d.ra d.rG b then 1 else 4)=3
   rw [if_neg q2,if_pos q1]
 · obtain⟨q1,q2⟩:=h4 b hb
   show(if b=g then 2 else if n≤b then 3 else if bp d.ra d.rG b then 1 else 4)=4
   rw [if_neg (by omega),if_neg (by omega),if_neg q2]
theorem vV {α β:Type} {a1 a3:Option Addr} {xs:List α} {ys:List β} (hne:∀ x y,a1=some x→a3=some y→x.block≠y.block) {b:Nat} (h:bp a3 ys b):¬ bp a1 xs b:=by
 rintro ⟨_,ad,h2,e⟩
 obtain⟨_,ad',h2',e'⟩:=h
 exact hne ad ad' h2 h2' (e.trans e'.symm)
theorem yI {d:Doc} {w wc w5 wr w':Sj} {a1 a3:Option Addr} {c1 c3 g cap:Nat} (hS1:ah 7 Reg.enc Flat wc a1 d.rG)(nX:ah 8 Cm.enc Flat wc a3 d.cM)(hf1:∀ ad,a1=some ad→w.heap.size+2≤ad.block)(hf3:∀ ad,a3=some ad→w.heap.size+2≤ad.block)(hne:∀ x y,a1=some x→a3=some y→x.block≠y.block)(hws:w.heap.size+2≤wc.heap.size)(hor:wc.ownsRow (w.heap.size+2) 37 7 (.slice a1 d.rG.length c1) d.rG.length (d.rG.flatMap Reg.enc))(hoc:wc.ownsRow (w.heap.size+2) 102 8 (.slice a3 d.cM.length c3) d.cM.length (d.cM.flatMap Cm.enc))
 (h45:wc.heap.size≤w5.heap.size∧∀ b,b<wc.heap.size→b≠w.heap.size→w5.heap[b]? =wc.heap[b]?) (hg:wc.heap.size≤g) (hR:pL wc.heap.size d.eV g cap d.eV.length w5 wr) (hw':wr.heap.size≤w'.heap.size∧∀ b,b≠w.heap.size+1→w'.heap[b]? =wr.heap[b]?) (hb:Below w.heap.size w w') :
 kB d.c w (.returned (.agg #[.string d.title,.string d.lA,.int .u8 d.rate,.bool d.drop,.int .i64 d.last,.slice a1 d.rG.length c1,.slice (some ⟨g,0,none⟩) d.eV.length cap,.slice a3 d.cM.length c3])) w':=by
 obtain⟨zs,z1,z2,z3,z4,z5,z6⟩:=hR
 have hgl:=z3.lt g rfl
 have hF:∀ b,b<wc.heap.size→w.heap.size+2≤b→w'.heap[b]? =wc.heap[b]?:=fun b h1 h2=>by
  rw [hw'.2 b (by omega),z6 b (by omega) (by omega),h45.2 b h1 (by omega)]
 refine⟨⟨d.title,d.lA,d.rate,d.drop,d.last,a1,c1,d.rG,some ⟨g,0,none⟩,cap,zs,a3,c3,d.cM⟩,by simp only [Doc.enc,z1],by simp only [Doc.c,Doc.hd,z2],⟨ah.frame hS1 (by omega) (fun b hu=>?_) (fun _ _ _=>trivial),?_,ah.frame nX (by omega) (fun b hu=>?_) (fun _ _ _=>trivial)⟩,fun b hu=>?_,hb,wL (n:=wc.heap.size) (g:=g) (fun b hu=>aP hS1 hu) (fun b hu=>by obtain⟨_,ad,e,rfl⟩:=hu;obtain rfl:=Sp e;rfl) hg (fun z hz b hu=>?_) (fun b hu=>⟨aP nX hu,vV hne hu⟩),?_,dG (aB hoc fun b q=>hF b (hoc.lt b q).2 (hoc.lt b q).1) (by omega),?_,?_,dG (aB hor fun b q=>hF b (hor.lt b q).2 (hor.lt b q).1) (by omega),?_,?_⟩
 · have h1:=aP hS1 hu
   obtain⟨_,ad,h2,rfl⟩:=hu
   exact hF _ h1 (hf1 ad h2)
 · rw [←z1] at z3
   obtain⟨a',c',he,hS⟩:=aA (k:=7) (enc:=Ev.enc) (Ok:=Ev.lies) (fun _=>rfl) z3 (fun z hz=>by
    obtain⟨j,hj,rfl⟩:=St hz
    exact(z4 j _ (Sr hj)).1)
   simp only [Sz] at he
   obtain⟨rfl,_,rfl⟩:=he
   refine dy.frame hS hw'.1 fun b hu=>hw'.2 b ?_
   rcases hu with⟨_,ad,e,rfl⟩|⟨z,hz,hu⟩
   · obtain rfl:=Sp e
     simp only
     omega
   · obtain⟨j,hj,rfl⟩:=St hz
     have:=((z4 j _ (Sr hj)).2.1 b hu).2 (by rw [←z1];exact hj)
     omega
 · have h1:=aP nX hu
   obtain⟨_,ad,h2,rfl⟩:=hu
   exact hF _ h1 (hf3 ad h2)
 · rcases hu with⟨_,ad,h2,rfl⟩|(⟨_,ad,e,rfl⟩|⟨z,hz,hu⟩)|⟨_,ad,h2,rfl⟩
   · have:=hf1 ad h2
     omega
   · obtain rfl:=Sp e
     simp only
     omega
   · obtain⟨j,hj,rfl⟩:=St hz
     have:=((z4 j _ (Sr hj)).2.1 b hu).2 (by rw [←z1];exact hj)
     omega
   · have:=hf3 ad h2
     omega
 · obtain⟨j,hj,rfl⟩:=St hz
   have q:=(z4 j _ (Sr hj)).2.1 b hu
   exact⟨q.2 (by rw [←z1];exact hj),q.1⟩
 · show w'.ownsRow w.heap.size 72 7 (.slice (some ⟨g,0,none⟩) zs.length cap) zs.length (zs.flatMap Ev.enc)
   rw [z1]
   exact dG (aB z3 fun b q=>hw'.2 b (by have:=(z3.lt b q).1;omega)) (by omega)
 · intro b q
   obtain rfl:g=b:=by simpa [Sm] using q
   exact⟨fun u=>by have:=aP hS1 u;omega,fun u=>by have:=aP nX u;omega⟩
 · intro b q
   have hq:∃ y,a3=some y∧y.block=b:=by
    cases a3 with
    | none=>simp [Sm] at q
    | some y=>exact⟨y,rfl,by simpa [Sm] using q⟩
   obtain⟨y,hy,hyb⟩:=hq
   have hlt:=(hoc.lt b q).2
   refine⟨fun u=>?_,fun u=>?_⟩
   · obtain⟨_,x,hx,hxb⟩:=u
     exact hne x y hx hy (hxb.trans hyb.symm)
   · rcases u with⟨_,ad,e,hb'⟩|⟨z,hz,hu⟩
     · obtain rfl:=Sp e
       simp only at hb'
       omega
     · obtain⟨j,hj,rfl⟩:=St hz
       have:=((z4 j _ (Sr hj)).2.1 b hu).2 (by rw [←z1];exact hj)
       omega
 · intro b q
   have hq:∃ y,a1=some y∧y.block=b:=by
    cases a1 with
    | none=>simp [Sm] at q
    | some y=>exact⟨y,rfl,by simpa [Sm] using q⟩
   obtain⟨y,hy,hyb⟩:=hq
   have hlt:=(hor.lt b q).2
   refine⟨fun u=>?_,fun u=>?_⟩
   · rcases u with⟨_,ad,e,hb'⟩|⟨z,hz,hu⟩
     · obtain rfl:=Sp e
       simp only at hb'
       omega
     · obtain⟨j,hj,rfl⟩:=St hz
       have:=((z4 j _ (Sr hj)).2.1 b hu).2 (by rw [←z1];exact hj)
       omega
   · obtain⟨_,x,hx,hxb⟩:=u
     exact hne y x hy hx (hyb.trans hxb.symm)
 · intro z hz r hr b hu
   obtain⟨j,hj,rfl⟩:=St hz
   have q:=z4 j _ (Sr hj)
   have hjl:j<d.eV.length:=by rw [←z1];exact hj
   have:=(q.2.1 b (.inr ⟨r,hr,hu⟩)).2 hjl
   exact(q.2.2 hjl r hr b hu).kept (hw'.2 b (by omega))
theorem vA {d:Doc} {w wc w':Sj} {a1 a2 a3:Option Addr} {c1 c2 c3:Nat} (hS1:ah 7 Reg.enc Flat wc a1 d.rG)(nX:ah 8 Cm.enc Flat wc a3 d.cM)(hf1:∀ ad,a1=some ad→w.heap.size+2≤ad.block)(hf3:∀ ad,a3=some ad→w.heap.size+2≤ad.block)(hne:∀ x y,a1=some x→a3=some y→x.block≠y.block)(hor:wc.ownsRow (w.heap.size+2) 37 7 (.slice a1 d.rG.length c1) d.rG.length (d.rG.flatMap Reg.enc))(hoc:wc.ownsRow (w.heap.size+2) 102 8 (.slice a3 d.cM.length c3) d.cM.length (d.cM.flatMap Cm.enc)) {w5:Sj} (hws:w.heap.size+2≤wc.heap.size)(hoe:w5.ownsRow wc.heap.size 72 7 (.slice a2 0 c2) 0 [])(yV:∀ b,wc.heap.size≤b→b<w5.heap.size→w'.heap[b]? =w5.heap[b]?)
 (h0:d.eV=[]) (hw':wc.heap.size≤w'.heap.size∧∀ b,b<wc.heap.size→w.heap.size+2≤b→w'.heap[b]? =wc.heap[b]?) (hb:Below w.heap.size w w') :
 kB d.c w (.returned (.agg #[.string d.title,.string d.lA,.int .u8 d.rate,.bool d.drop,.int .i64 d.last,.slice a1 d.rG.length c1,.slice a2 0 c2,.slice a3 d.cM.length c3])) w':=by
 refine⟨⟨d.title,d.lA,d.rate,d.drop,d.last,a1,c1,d.rG,a2,c2,[],a3,c3,d.cM⟩,rfl,by simp only [Doc.c,Doc.hd,h0],⟨ah.frame hS1 hw'.1 (fun b hu=>?_) (fun _ _ _=>trivial),.inl rfl,ah.frame nX hw'.1 (fun b hu=>?_) (fun _ _ _=>trivial)⟩,fun b hu=>?_,hb,wL (n:=wc.heap.size) (g:=wc.heap.size) (fun b hu=>aP hS1 hu) (fun b hu=>absurd rfl hu.1) (SC _) (fun z hz=>by cases hz) (fun b hu=>⟨aP nX hu,vV hne hu⟩),dG (aB hoe fun b q=>yV b (hoe.lt b q).1 (hoe.lt b q).2) (by omega),dG (aB hoc fun b q=>hw'.2 b (hoc.lt b q).2 (hoc.lt b q).1) (by omega),?_,?_,dG (aB hor fun b q=>hw'.2 b (hor.lt b q).2 (hor.lt b q).1) (by omega),?_,fun x hx=>by cases hx⟩
 · have h1:=aP hS1 hu
   obtain⟨_,ad,h2,rfl⟩:=hu
   exact hw'.2 _ h1 (hf1 ad h2)
 · have h1:=aP nX hu
   obtain⟨_,ad,h2,rfl⟩:=hu
   exact hw'.2 _ h1 (hf3 ad h2)
 · rcases hu with⟨_,ad,h2,rfl⟩|(⟨h,_⟩|⟨z,hz,hu⟩)|⟨_,ad,h2,rfl⟩
   · have:=hf1 ad h2
     omega
   · exact absurd rfl h
   · simp at hz
   · have:=hf3 ad h2
     omega
 · intro b q
   have h1:=(hoe.lt b q).1
   exact⟨fun u=>by have:=aP hS1 u;omega,fun u=>by have:=aP nX u;omega⟩
 · intro b q
   have hq:∃ y,a3=some y∧y.block=b:=by
    cases a3 with
    | none=>simp [Sm] at q
    | some y=>exact⟨y,rfl,by simpa [Sm] using q⟩
   obtain⟨y,hy,hyb⟩:=hq
   have hlt:=(hoc.lt b q).2
   refine⟨fun u=>?_,fun u=>?_⟩
   · obtain⟨_,x,hx,hxb⟩:=u
     exact hne x y hx hy (hxb.trans hyb.symm)
   · rcases u with⟨h,_⟩|⟨z,hz,_⟩
     · exact h rfl
     · cases hz
 · intro b q
   have hq:∃ y,a1=some y∧y.block=b:=by
    cases a1 with
    | none=>simp [Sm] at q
    | some y=>exact⟨y,rfl,by simpa [Sm] using q⟩
   obtain⟨y,hy,hyb⟩:=hq
   have hlt:=(hor.lt b q).2
   refine⟨fun u=>?_,fun u=>?_⟩
   · rcases u with⟨h,_⟩|⟨z,hz,_⟩
     · exact h rfl
     · cases hz
   · obtain⟨_,x,hx,hxb⟩:=u
     exact hne y x hy hx (hyb.trans hxb.symm)
end Go.Proofs.YtjebaagkomejaaaGreatDoor
namespace Go.Proofs.YtjebaagkomejaaaGreatDoor
open Go.RowKit
theorem il (g:Nat):∀ (vs:List Value)(o:Nat) {a w:Sj},Kept (fun b=>b=g) a w→Kept (fun b=>b=g) a (w.setCells g o vs)
 | [],_,_,_,h=>h
 | v::vs,o,a,w,h=>il g vs (o+1) (h.setCell (.inr rfl) v)
theorem iV {α:Type} {T K:Nat} {enc:α→List Value} (hke:∀ x,(enc x).length=K) {w:Sj} {g cap k:Nat} {base:Nat} {xs:List α} (h:w.ownsRow base T K (.slice (some ⟨g,0,none⟩) xs.length cap) xs.length (xs.flatMap enc))(hk:k<xs.length)(zs:List Value)(hz:zs.length=K) :
 ah K enc Flat ((w.setCells g (k*K) ((xs.drop (k+1)).flatMap enc)).setCells g ((xs.length-1)*K) zs) (some ⟨g,0,none⟩) (bI xs k)∧Below base w ((w.setCells g (k*K) ((xs.drop (k+1)).flatMap enc)).setCells g ((xs.length-1)*K) zs)∧Kept (fun b=>b=g) w ((w.setCells g (k*K) ((xs.drop (k+1)).flatMap enc)).setCells g ((xs.length-1)*K) zs):=by
 have hg:=h.lt g rfl
 refine⟨.inr ⟨g,0,rfl,?_,fun i x hx=>⟨fun j v hv=>?_,trivial⟩⟩,SF g hg.1 _ _ (SF g hg.1 _ _ (Below.refl _ _)),il g _ _ (il g _ _ (Kept.refl _ _))⟩
 · have h1:=(SF g (SC g) zs ((xs.length-1)*K) (SF g (SC g) ((xs.drop (k+1)).flatMap enc) (k*K) (Below.refl g w))).size
   omega
 · have hj:j<K:=by rw [←hke x];exact(Ss.1 hv).1
   have hi:i<xs.length-1:=by rw [←jj xs k hk];exact(Ss.1 hx).1
   have hmul:∀ a b:Nat,a+1≤b→a*K+K≤b*K:=fun a b h=>by rw [←Nat.succ_mul];exact SB K h
   have hm1:=hmul i (xs.length-1) (by omega)
   rw [SI g zs _ _ _ (fun _ _=>.inl (by simp only;omega))]
   rcases yB xs k i x hx hk with⟨hik,hxi⟩|⟨hik,hxi⟩
   · have hm2:=hmul i k (by omega)
     rw [SI g _ _ _ _ (fun _ _=>.inl (by simp only;omega))]
     have:=BY hke h hxi j v hv
     rw [show 0+i*K+j=i*K+j by omega]
     exact this
   · have hlen:=bz enc K hke (xs.drop (k+1))
     rw [Su] at hlen
     have e:=cK enc K hke (xs.drop (k+1)) (i-k) x j v (by rw [List.getElem?_drop,←hxi];congr 1;omega) hv
     have hlt:=(Ss.1 e).1
     have htot:k*K+(xs.drop (k+1)).length*K≤xs.length*K:=by rw [←SD];exact SB K (by rw [Su];omega)
     rw [Su] at htot
     have hin:=Sj.cell?_setCells_in g ((xs.drop (k+1)).flatMap enc) (k*K) w (fun t ht=>by
      rw [h.cellAt (k*K+t) (by omega),Sr (by rw [h.1];omega)];rfl) ((i-k)*K+j) hlt
     have N5:i*K=k*K+(i-k)*K:=by rw [←SD];congr 1;omega
     rw [show 0+i*K+j=k*K+((i-k)*K+j) by omega,hin,←e,Sr]
theorem tn (base g cap k:Nat)(xs:List Reg)(w:Sj)(h:w.ownsRow base 37 7 (.slice (some ⟨g,0,none⟩) xs.length cap) xs.length (xs.flatMap Reg.enc))(hk:k<xs.length)(hl:xs.length≤4000000) :
 Calls Tryz.prog 100 #[.slice (some ⟨g,0,none⟩) xs.length cap,.int .i64 k,.int .i64 ((k:Int)+1)] w fun e w'=>e=.returned (.slice (some ⟨g,0,none⟩) (xs.length-1) cap)∧ah 7 Reg.enc Flat w' (some ⟨g,0,none⟩) (bI xs k)∧Below base w w'∧Kept (fun b=>b=g) w w':=by
 have hcap:xs.length≤cap∧cap≤maxLen:=by
  rcases h.2 with⟨h',_⟩|⟨g',cap',cur,h',_,hg,h1,h2,h3,_⟩
  · simp at h'
  · simp only [Sz,Sq,Addr.mk.injEq,and_true,true_and] at h'
    obtain⟨rfl,rfl⟩:=h'
    exact⟨h1,h2⟩
 have hm:cap≤9223372036854775807:=by have:=hcap.2;simp only [maxLen] at this;omega
 have hc1:=hcap.1
 obtain⟨j0,hj,hy0,hy1,hy2⟩:=Sl Tryz.info37
 have hlen:=bz Reg.enc 7 (fun _=>rfl) (xs.drop (k+1))
 rw [Su] at hlen
 have hcell:∀ t,t<xs.length*7→(w.cell? ⟨g,t,none⟩).isSome=true:=fun t ht=>by
  rw [h.cellAt t ht,Sr (by rw [h.1];omega)];rfl
 have hsrc:∀ t u,((xs.drop (k+1)).flatMap Reg.enc)[t]? =some u→w.cell? ⟨g,(k+1)*7+t,none⟩=some u:=fun t u hu=>by
  have ht:=(Ss.1 hu).1
  rw [h.cellAt ((k+1)*7+t) (by omega)]
  have e:xs.flatMap Reg.enc=(xs.take (k+1)).flatMap Reg.enc++(xs.drop (k+1)).flatMap Reg.enc:=by rw [←Sx,Sw]
  have l1:=bz Reg.enc 7 (fun _=>rfl) (xs.take (k+1))
  rw [Sy,SA (by omega)] at l1
  rw [e,Sv (by omega),←hu]
  congr 1
  omega
 obtain⟨A,hA,hsA⟩:∃ A:Addr,(if cap=k+1 then some (⟨g,0,none⟩:Addr) else some ⟨g,(k+1)*7,none⟩)=some A∧Hid (∀ t u,((xs.drop (k+1)).flatMap Reg.enc)[t]? =some u→w.drew.cell? (A.add t)=some u):=by
  by_cases hq:cap=k+1
  · refine⟨⟨g,0,none⟩,by simp [hq],fun t u hu=>?_⟩
    have:=(Ss.1 hu).1
    omega
  · refine⟨⟨g,(k+1)*7,none⟩,by simp [hq],fun t u hu=>?_⟩
    rw [Addr.add_lit]
    exact hsrc t u hu
 have s1:=h_ (show((xs.drop (k+1)).flatMap Reg.enc).length=(xs.length-(k+1))*7 from hlen)
 have s2:=h_ (ei Reg.one (xs.drop (k+1)))
 have s3:=h_ (show ∀ t,t<((xs.drop (k+1)).flatMap Reg.enc).length→(w.drew.cell? ⟨g,0+k*7+t,none⟩).isSome=true∧w.drew.frozen? ⟨g,0+k*7+t,none⟩=false from fun t ht=>⟨hcell _ (by omega),h.frozenAt _⟩)
 obtain⟨W1,hW1⟩:∃ W1,W1=w.drew.setCells g (0+k*7) ((xs.drop (k+1)).flatMap Reg.enc):=⟨_,rfl⟩
 have hcl:∀ ty,(Builtin.clear_ #[23] ty #[.slice (some ⟨g,(xs.length-1)*7,none⟩) 1 (cap-(xs.length-1))]).run Tryz.prog W1=.ok (.tuple #[]) (W1.setCells g ((xs.length-1)*7) [.string ⟨#[]⟩,.int .i64 0,.int .i64 0,.int .i64 0,.int .i64 0,.int .u8 0,.bool false]):=fun ty=>r_ W1 g _ _ ty (fun j hj=>by
  rw [hW1]
  refine SG g _ _ _ _ ?_
  exact hcell _ (by omega)) (fun j hj=>by rw [hW1,SH];exact h.frozenAt _)
 have hdone:=iV (enc:=Reg.enc) (fun _=>rfl) (w:=w.drew) (k:=k) (SJ h) hk [.string ⟨#[]⟩,.int .i64 0,.int .i64 0,.int .i64 0,.int .i64 0,.int .u8 0,.bool false] rfl
 rw [show k*7=0+k*7 by omega,←hW1] at hdone
 have HD:=h_ hdone
 have HW:=h_ hW1
 have JI:=h_ hj;have J1:=h_ hy1
 have HB0:=h_ ((Below.refl base w).drew)
 have IM:=h_ ((Kept.refl (fun b=>b=g) w).drew)
 clear hdone hW1 hj hy0 hy1 hy2 hlen hcell hsrc h hcap
 generalize (xs.drop (k+1)).flatMap Reg.enc=news at *
 generalize bI xs k=ds at *
 have mixed:Tryz.prog.follows SK=true:=by kernel_rfl
 obtain⟨m,hm1⟩:∃ m,xs.length=k+1+m:=⟨xs.length-(k+1),by omega⟩
 generalize xs.length=n at *
 have e1:n-(k+1)=m:=by omega
 have e2:n-1=k+m:=by omega
 have e3:n-(k+m)=1:=by omega
 rw [e1] at s1
 rw [e2] at hcl HD ⊢
 have hk0:(0:Int)≤(k:Int)+1:=by omega
 have hk1:(k:Int)+1≤(n:Int):=by omega
 have G4:k+m≤n:=by omega
 have G5:(k:Int)+(m:Int)≤(n:Int):=by omega
 have G7:(0:Int)≤(k:Int)+(m:Int):=by omega
 have hnc:n≤cap:=hc1
 have Dx:=h_ hm1
 clear hm1
 have hic:k≤cap:=by omega
 have hjc:k+1≤cap:=by omega
 have KD:k+m≤cap:=by omega
 have G6:¬ cap=k+m:=by omega
 have hcm:cap≤maxLen:=by unfold maxLen;omega
 go_enter Tryz.func100,Tryz.ntmps100
 go_wp2_with fail
 go_region_law_o (refine Sk rfl (.tmp 22) (.tmp 25) 23 rfl 37 j0 7 Tryz.underlying23 JI.out J1.out g 0 k cap (by simp [SL,SM]) A m (cap-(k+1)) news (by simp [SL,SM]) s1.out hsA.out s2.out (by omega) s3.out ?_;rw [←HW.out])
 go_wp2_with fail
 go_ret
 exact⟨rfl,HD.out.1,HB0.out.trans HD.out.2.1,IM.out.trans HD.out.2.2 fun _ _ e=>e⟩
theorem vt (base g cap k:Nat)(xs:List Ev)(w:Sj)(h:w.ownsRow base 72 7 (.slice (some ⟨g,0,none⟩) xs.length cap) xs.length (xs.flatMap Ev.enc))(hk:k<xs.length)(hl:xs.length≤4000000) :
 Calls Tryz.prog 86 #[.slice (some ⟨g,0,none⟩) xs.length cap,.int .i64 k,.int .i64 ((k:Int)+1)] w fun e w'=>e=.returned (.slice (some ⟨g,0,none⟩) (xs.length-1) cap)∧ah 7 Ev.enc Flat w' (some ⟨g,0,none⟩) (bI xs k)∧Below base w w'∧Kept (fun b=>b=g) w w':=by
 have hcap:xs.length≤cap∧cap≤maxLen:=by
  rcases h.2 with⟨h',_⟩|⟨g',cap',cur,h',_,hg,h1,h2,h3,_⟩
  · simp at h'
  · simp only [Sz,Sq,Addr.mk.injEq,and_true,true_and] at h'
    obtain⟨rfl,rfl⟩:=h'
    exact⟨h1,h2⟩
 have hm:cap≤9223372036854775807:=by have:=hcap.2;simp only [maxLen] at this;omega
 have hc1:=hcap.1
 obtain⟨j0,hj,hy0,hy1,hy2⟩:=Sl Tryz.info72
 have hlen:=bz Ev.enc 7 (fun _=>rfl) (xs.drop (k+1))
 rw [Su] at hlen
 have hcell:∀ t,t<xs.length*7→(w.cell? ⟨g,t,none⟩).isSome=true:=fun t ht=>by
  rw [h.cellAt t ht,Sr (by rw [h.1];omega)];rfl
 have hsrc:∀ t u,((xs.drop (k+1)).flatMap Ev.enc)[t]? =some u→w.cell? ⟨g,(k+1)*7+t,none⟩=some u:=fun t u hu=>by
  have ht:=(Ss.1 hu).1
  rw [h.cellAt ((k+1)*7+t) (by omega)]
  have e:xs.flatMap Ev.enc=(xs.take (k+1)).flatMap Ev.enc++(xs.drop (k+1)).flatMap Ev.enc:=by rw [←Sx,Sw]
  have l1:=bz Ev.enc 7 (fun _=>rfl) (xs.take (k+1))
  rw [Sy,SA (by omega)] at l1
  rw [e,Sv (by omega),←hu]
  congr 1
  omega
 obtain⟨A,hA,hsA⟩:∃ A:Addr,(if cap=k+1 then some (⟨g,0,none⟩:Addr) else some ⟨g,(k+1)*7,none⟩)=some A∧Hid (∀ t u,((xs.drop (k+1)).flatMap Ev.enc)[t]? =some u→w.drew.cell? (A.add t)=some u):=by
  by_cases hq:cap=k+1
  · refine⟨⟨g,0,none⟩,by simp [hq],fun t u hu=>?_⟩
    have:=(Ss.1 hu).1
    omega
  · refine⟨⟨g,(k+1)*7,none⟩,by simp [hq],fun t u hu=>?_⟩
    rw [Addr.add_lit]
    exact hsrc t u hu
 have s1:=h_ (show((xs.drop (k+1)).flatMap Ev.enc).length=(xs.length-(k+1))*7 from hlen)
 have s2:=h_ (ei Ev.one (xs.drop (k+1)))
 have s3:=h_ (show ∀ t,t<((xs.drop (k+1)).flatMap Ev.enc).length→(w.drew.cell? ⟨g,0+k*7+t,none⟩).isSome=true∧w.drew.frozen? ⟨g,0+k*7+t,none⟩=false from fun t ht=>⟨hcell _ (by omega),h.frozenAt _⟩)
 obtain⟨W1,hW1⟩:∃ W1,W1=w.drew.setCells g (0+k*7) ((xs.drop (k+1)).flatMap Ev.enc):=⟨_,rfl⟩
 have hcl:∀ ty,(Builtin.clear_ #[24] ty #[.slice (some ⟨g,(xs.length-1)*7,none⟩) 1 (cap-(xs.length-1))]).run Tryz.prog W1=.ok (.tuple #[]) (W1.setCells g ((xs.length-1)*7) [.int .i64 0,.int .i64 0,.int .i64 0,.string ⟨#[]⟩,.int .u8 0,.string ⟨#[]⟩,.slice none 0 0]):=fun ty=>uA W1 g _ _ ty (fun j hj=>by
  rw [hW1]
  refine SG g _ _ _ _ ?_
  exact hcell _ (by omega)) (fun j hj=>by rw [hW1,SH];exact h.frozenAt _)
 have hdone:=iV (enc:=Ev.enc) (fun _=>rfl) (w:=w.drew) (k:=k) (SJ h) hk [.int .i64 0,.int .i64 0,.int .i64 0,.string ⟨#[]⟩,.int .u8 0,.string ⟨#[]⟩,.slice none 0 0] rfl
 rw [show k*7=0+k*7 by omega,←hW1] at hdone
 have HD:=h_ hdone
 have HW:=h_ hW1
 have JI:=h_ hj;have J1:=h_ hy1
 have HB0:=h_ ((Below.refl base w).drew)
 have IM:=h_ ((Kept.refl (fun b=>b=g) w).drew)
 clear hdone hW1 hj hy0 hy1 hy2 hlen hcell hsrc h hcap
 generalize (xs.drop (k+1)).flatMap Ev.enc=news at *
 generalize bI xs k=ds at *
 have mixed:Tryz.prog.follows SK=true:=by kernel_rfl
 obtain⟨m,hm1⟩:∃ m,xs.length=k+1+m:=⟨xs.length-(k+1),by omega⟩
 generalize xs.length=n at *
 have e1:n-(k+1)=m:=by omega
 have e2:n-1=k+m:=by omega
 have e3:n-(k+m)=1:=by omega
 rw [e1] at s1
 rw [e2] at hcl HD ⊢
 have hk0:(0:Int)≤(k:Int)+1:=by omega
 have hk1:(k:Int)+1≤(n:Int):=by omega
 have G4:k+m≤n:=by omega
 have G5:(k:Int)+(m:Int)≤(n:Int):=by omega
 have G7:(0:Int)≤(k:Int)+(m:Int):=by omega
 have hnc:n≤cap:=hc1
 have Dx:=h_ hm1
 clear hm1
 have hic:k≤cap:=by omega
 have hjc:k+1≤cap:=by omega
 have KD:k+m≤cap:=by omega
 have G6:¬ cap=k+m:=by omega
 have hcm:cap≤maxLen:=by unfold maxLen;omega
 go_enter Tryz.func86,Tryz.ntmps86
 go_wp2_with fail
 go_region_law_o (refine Sk rfl (.tmp 22) (.tmp 25) 24 rfl 72 j0 7 Tryz.underlying24 JI.out J1.out g 0 k cap (by simp [SL,SM]) A m (cap-(k+1)) news (by simp [SL,SM]) s1.out hsA.out s2.out (by omega) s3.out ?_;rw [←HW.out])
 go_wp2_with fail
 go_ret
 exact⟨rfl,HD.out.1,HB0.out.trans HD.out.2.1,IM.out.trans HD.out.2.2 fun _ _ e=>e⟩
theorem vu (base g cap k:Nat)(xs:List Cm)(w:Sj)(h:w.ownsRow base 102 8 (.slice (some ⟨g,0,none⟩) xs.length cap) xs.length (xs.flatMap Cm.enc))(hk:k<xs.length)(hl:xs.length≤4000000) :
 Calls Tryz.prog 95 #[.slice (some ⟨g,0,none⟩) xs.length cap,.int .i64 k,.int .i64 ((k:Int)+1)] w fun e w'=>e=.returned (.slice (some ⟨g,0,none⟩) (xs.length-1) cap)∧ah 8 Cm.enc Flat w' (some ⟨g,0,none⟩) (bI xs k)∧Below base w w'∧Kept (fun b=>b=g) w w':=by
 have hcap:xs.length≤cap∧cap≤maxLen:=by
  rcases h.2 with⟨h',_⟩|⟨g',cap',cur,h',_,hg,h1,h2,h3,_⟩
  · simp at h'
  · simp only [Sz,Sq,Addr.mk.injEq,and_true,true_and] at h'
    obtain⟨rfl,rfl⟩:=h'
    exact⟨h1,h2⟩
 have hm:cap≤9223372036854775807:=by have:=hcap.2;simp only [maxLen] at this;omega
 have hc1:=hcap.1
 obtain⟨j0,hj,hy0,hy1,hy2⟩:=Sl Tryz.info102
 have hlen:=bz Cm.enc 8 (fun _=>rfl) (xs.drop (k+1))
 rw [Su] at hlen
 have hcell:∀ t,t<xs.length*8→(w.cell? ⟨g,t,none⟩).isSome=true:=fun t ht=>by
  rw [h.cellAt t ht,Sr (by rw [h.1];omega)];rfl
 have hsrc:∀ t u,((xs.drop (k+1)).flatMap Cm.enc)[t]? =some u→w.cell? ⟨g,(k+1)*8+t,none⟩=some u:=fun t u hu=>by
  have ht:=(Ss.1 hu).1
  rw [h.cellAt ((k+1)*8+t) (by omega)]
  have e:xs.flatMap Cm.enc=(xs.take (k+1)).flatMap Cm.enc++(xs.drop (k+1)).flatMap Cm.enc:=by rw [←Sx,Sw]
  have l1:=bz Cm.enc 8 (fun _=>rfl) (xs.take (k+1))
  rw [Sy,SA (by omega)] at l1
  rw [e,Sv (by omega),←hu]
  congr 1
  omega
 obtain⟨A,hA,hsA⟩:∃ A:Addr,(if cap=k+1 then some (⟨g,0,none⟩:Addr) else some ⟨g,(k+1)*8,none⟩)=some A∧Hid (∀ t u,((xs.drop (k+1)).flatMap Cm.enc)[t]? =some u→w.drew.cell? (A.add t)=some u):=by
  by_cases hq:cap=k+1
  · refine⟨⟨g,0,none⟩,by simp [hq],fun t u hu=>?_⟩
    have:=(Ss.1 hu).1
    omega
  · refine⟨⟨g,(k+1)*8,none⟩,by simp [hq],fun t u hu=>?_⟩
    rw [Addr.add_lit]
    exact hsrc t u hu
 have s1:=h_ (show((xs.drop (k+1)).flatMap Cm.enc).length=(xs.length-(k+1))*8 from hlen)
 have s2:=h_ (ei Cm.one (xs.drop (k+1)))
 have s3:=h_ (show ∀ t,t<((xs.drop (k+1)).flatMap Cm.enc).length→(w.drew.cell? ⟨g,0+k*8+t,none⟩).isSome=true∧w.drew.frozen? ⟨g,0+k*8+t,none⟩=false from fun t ht=>⟨hcell _ (by omega),h.frozenAt _⟩)
 obtain⟨W1,hW1⟩:∃ W1,W1=w.drew.setCells g (0+k*8) ((xs.drop (k+1)).flatMap Cm.enc):=⟨_,rfl⟩
 have hcl:∀ ty,(Builtin.clear_ #[25] ty #[.slice (some ⟨g,(xs.length-1)*8,none⟩) 1 (cap-(xs.length-1))]).run Tryz.prog W1=.ok (.tuple #[]) (W1.setCells g ((xs.length-1)*8) [.int .i64 0,.int .i64 0,.int .i64 0,.int .i64 0,.string ⟨#[]⟩,.string ⟨#[]⟩,.bool false,.bool false]):=fun ty=>uB W1 g _ _ ty (fun j hj=>by
  rw [hW1]
  refine SG g _ _ _ _ ?_
  exact hcell _ (by omega)) (fun j hj=>by rw [hW1,SH];exact h.frozenAt _)
 have hdone:=iV (enc:=Cm.enc) (fun _=>rfl) (w:=w.drew) (k:=k) (SJ h) hk [.int .i64 0,.int .i64 0,.int .i64 0,.int .i64 0,.string ⟨#[]⟩,.string ⟨#[]⟩,.bool false,.bool false] rfl
 rw [show k*8=0+k*8 by omega,←hW1] at hdone
 have HD:=h_ hdone
 have HW:=h_ hW1
 have JI:=h_ hj;have J1:=h_ hy1
 have HB0:=h_ ((Below.refl base w).drew)
 have IM:=h_ ((Kept.refl (fun b=>b=g) w).drew)
 clear hdone hW1 hj hy0 hy1 hy2 hlen hcell hsrc h hcap
 generalize (xs.drop (k+1)).flatMap Cm.enc=news at *
 generalize bI xs k=ds at *
 have mixed:Tryz.prog.follows SK=true:=by kernel_rfl
 obtain⟨m,hm1⟩:∃ m,xs.length=k+1+m:=⟨xs.length-(k+1),by omega⟩
 generalize xs.length=n at *
 have e1:n-(k+1)=m:=by omega
 have e2:n-1=k+m:=by omega
 have e3:n-(k+m)=1:=by omega
 rw [e1] at s1
 rw [e2] at hcl HD ⊢
 have hk0:(0:Int)≤(k:Int)+1:=by omega
 have hk1:(k:Int)+1≤(n:Int):=by omega
 have G4:k+m≤n:=by omega
 have G5:(k:Int)+(m:Int)≤(n:Int):=by omega
 have G7:(0:Int)≤(k:Int)+(m:Int):=by omega
 have hnc:n≤cap:=hc1
 have Dx:=h_ hm1
 clear hm1
 have hic:k≤cap:=by omega
 have hjc:k+1≤cap:=by omega
 have KD:k+m≤cap:=by omega
 have G6:¬ cap=k+m:=by omega
 have hcm:cap≤maxLen:=by unfold maxLen;omega
 go_enter Tryz.func95,Tryz.ntmps95
 go_wp2_with fail
 go_region_law_o (refine Sk rfl (.tmp 22) (.tmp 25) 25 rfl 102 j0 8 Tryz.underlying25 JI.out J1.out g 0 k cap (by simp [SL,SM]) A m (cap-(k+1)) news (by simp [SL,SM]) s1.out hsA.out s2.out (by omega) s3.out ?_;rw [←HW.out])
 go_wp2_with fail
 go_ret
 exact⟨rfl,HD.out.1,HB0.out.trans HD.out.2.1,IM.out.trans HD.out.2.2 fun _ _ e=>e⟩
end Go.Proofs.YtjebaagkomejaaaGreatDoor
