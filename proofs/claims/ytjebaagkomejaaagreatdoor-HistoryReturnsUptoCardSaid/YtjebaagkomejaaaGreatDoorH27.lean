/- history: the steps of a history's memory: a document more on a list, a list anew, another document. (by hand) edit: a document that a command leaves fits. (by hand) -/
import Derived.Test.YtjebaagkomejaaaGreatDoorH18
import Derived.Test.YtjebaagkomejaaaGreatDoorH20
import Derived.Test.YtjebaagkomejaaaGreatDoorH19
set_option linter.unusedVariables false
set_option linter.unusedSimpArgs false
set_option maxRecDepth 100000
set_option maxHeartbeats 12800000
open Go renaming World→Sh,Value→Si
open Go.Value renaming slice→Sj,ownBlock→Sk
open Nat renaming le_refl→Sl,le_trans→Sm
open List renaming length_append→Sn,mem_append→Sp,mem_cons→Sq,length_filter_le→Sr,mem_filter→Ss,mem_singleton→St,mem_map→Su,length_cons→Sv,mem_cons_of_mem→Sw,flatMap_append→Sx,flatMap_cons→Sy,flatMap_nil→Sz,length_nil→SA,length_map→SB,append_nil→SC
open Option.some renaming injEq→SD
open Decidable renaming not_not→SF
namespace Go.Proofs.YtjebaagkomejaaaGreatDoor
open Go.RowKit
def bD (N:Doc→Prop)(b:Nat)(h:Hs)(w:Sh)(h':Hs)(w':Sh):Prop:=HsAt b h' w'∧qM N b h h' w∧Kept (h.own b) w w'
theorem bD.post {N:Doc→Prop} {b:Nat} {h h':Hs} {w w':Sh} {c:HsC} (s:bD N b h w h' w')(hc:h'.c=c):dj N c b h w w':=⟨h',s.1,hc,s.2.1,s.2.2⟩
theorem bD.trans {N:Doc→Prop} {b:Nat} {h h1 h2:Hs} {w w1 w2:Sh} (s:bD N b h w h1 w1)(t:bD N b h1 w1 h2 w2):bD N b h w h2 w2:=by
 have hs:=s.2.2.size
 refine⟨t.1,⟨fun k hk=>?_,fun d hd=>(t.2.1.docs d hd).elim (s.2.1.docs d) .inr⟩,s.2.2.trans t.2.2 fun i hi ho=>(s.2.1.own i ho).elim id fun h=>by omega⟩
 rcases t.2.1.own k hk with h|h
 · exact s.2.1.own k h
 · exact .inr (by omega)
theorem bD.of_below {N:Doc→Prop} {b:Nat} {h:Hs} {w w':Sh} (H:HsAt b h w)(hb:Below w.heap.size w w'):bD N b h w h w':=⟨H.later hb,.same,Kept.of_below hb⟩
theorem eC.step {N:Doc→Prop} {b:Nat} {h h':Hs} {w w':Sh} {D:Doc} (hD:eC (h.own b) w D)(s:bD N b h w h' w'):eC (h'.own b) w' D :=
 hD.keep s.2.2 fun k hk ho=>(s.2.1.own k ho).elim id fun h=>by omega
theorem l9 {B e k n:Nat} {v:Si} {xs:List Si} {w:Sh} (h:w.ownsRow B e k v n xs):∃ a c,v=.slice a n c:=by
 rcases h.2 with⟨rfl,h0⟩|⟨g,cap,_,rfl,_⟩
 · exact⟨none,0,by rw [h0]⟩
 · exact⟨_,_,rfl⟩
theorem j4 {w:Sh} {b e k n:Nat} {v u:Si} {j:Nat} {xs:List Si} (h:w.ownsRow 0 e k v n xs)(hne:v.ownBlock≠some b):(w.setCell ⟨b,j,none⟩ u).ownsRow 0 e k v n xs :=
 aB h fun k e=>(bH (Kept.refl (fun k=>k=b) w) j u).block k (h.lt k e).2 fun e2=>hne (e2▸e)
section
variable {N:Doc→Prop} {b:Nat} {h:Hs} {v w2:Sh}
theorem vM {v':Si} {o:Obj} (H:HsAt b h v)(ho:w2.ownsRow 0 27 8 v' (h.undo.length+1) (h.undo.flatMap Doc.enc++h.doc.enc))(hg:(v.alloc o).grownBy w2 (Sj h.ua h.undo.length h.uc).ownBlock)(hat:v'.ownBlock=(Sj h.ua h.undo.length h.uc).ownBlock∨v'.ownBlock=some (v.heap.size+1)) :
 ∃ a c,v'=.slice a (h.undo.length+1) c∧w2.heap[b]? =some (.cells h.enc.toArray 82 (0,0))∧Kept (fun k=>(Sj h.ua h.undo.length h.uc).ownBlock=some k) v w2∧bD N b h v { h with ua:=a,uc:=c,undo:=h.undo++[h.doc] } (w2.setCell ⟨b,16,none⟩ (.slice a (h.undo.length+1) c)):=by
 obtain⟨a,c,rfl⟩:=l9 ho
 have hbl:=dW H.at_
 have hk0:Kept (fun k=>(Sj h.ua h.undo.length h.uc).ownBlock=some k) v w2:=(Kept.of_below ((Below.refl _ _).alloc (Sl _) o)).andGrown hg fun k hk _=>hk
 have hbu:(Sj h.ua h.undo.length h.uc).ownBlock≠some b:=fun e=>(H.ub b e).1 rfl
 have r2:=(hk0.block b hbl hbu).trans H.at_
 have r3:=Ab r2 a (h.undo++[h.doc]) c
 rw [Sn] at r3
 have hnew:∀ k,(Sj a (h.undo.length+1) c).ownBlock=some k→(Sj h.ua h.undo.length h.uc).ownBlock=some k∨v.heap.size≤k:=fun k e=>by
  rcases hat with q|q
  · exact .inl (q▸e)
  · rw [q] at e;simp only [SD] at e;exact .inr (by omega)
 have m_:(Sj a (h.undo.length+1) c).ownBlock≠some b:=fun e=>(hnew b e).elim hbu fun q=>by omega
 have hk:Kept (h.own b) v (w2.setCell ⟨b,16,none⟩ (.slice a (h.undo.length+1) c)):=(hk0.mono fun k _ e=>.inr (.inl e)).setCell (p:=⟨b,16,none⟩) (.inr (.inl rfl)) _
 have hown:∀ k,Hs.own { h with ua:=a,uc:=c,undo:=h.undo++[h.doc] } b k→h.own b k∨v.heap.size≤k:=fun k hk=>by
  rcases hk with q|q|q
  · exact .inl (.inl q)
  · rcases hnew k (by simpa [Hs.uv,Sn,Sk] using q) with q|q
    · exact .inl (.inr (.inl q))
    · exact .inr q
  · exact .inl (.inr (.inr q))
 have hrr:=H.redo
 have hdd:∀ d∈Hs.docs ({ h with ua:=a,uc:=c,undo:=h.undo++[h.doc] }:Hs),d∈h.docs:=fun d hd=>by
  simp only [Hs.docs,Sq,Sp] at hd ⊢
  rcases hd with q|q|(q|q|q)|q
  · exact .inl q
  · exact .inr (.inl q)
  · exact .inr (.inr (.inl q))
  · exact .inl q
  · cases q
  · exact .inr (.inr (.inr q))
 refine⟨a,c,rfl,r2,hk0,H.next hk r3 ?_ ?_ (fun k e=>?_) H.rb hown (fun d hd=>.inl (hdd d hd)),⟨hown,fun d hd=>.inl (hdd d hd)⟩,hk⟩
 · show Sh.ownsRow _ 0 27 8 (.slice a (h.undo++[h.doc]).length c) (h.undo++[h.doc]).length ((h.undo++[h.doc]).flatMap Doc.enc)
   rw [Sn,Sx]
   simp only [Sv,SA,Sy,Sz,SC]
   exact j4 ho m_
 · exact j4 (aB hrr fun k e=>hk0.block k (hrr.lt k e).2 fun e2=>(H.ub k e2).2 e) H.rb
 · have e':(Sj a (h.undo.length+1) c).ownBlock=some k:=by simpa [Hs.uv,Sn,Sk] using e
   refine⟨fun q=>m_ (q▸e'),fun q=>?_⟩
   rcases hnew k e' with q2|q2
   · exact(H.ub k q2).2 q
   · have:=(hrr.lt k q).2;omega
theorem Cg {v':Si} {o:Obj} (H:HsAt b h v)(ho:w2.ownsRow 0 27 8 v' (h.redo.length+1) (h.redo.flatMap Doc.enc++h.doc.enc))(hg:(v.alloc o).grownBy w2 (Sj h.ra h.redo.length h.rc).ownBlock)(hat:v'.ownBlock=(Sj h.ra h.redo.length h.rc).ownBlock∨v'.ownBlock=some (v.heap.size+1)) :
 ∃ a c,v'=.slice a (h.redo.length+1) c∧w2.heap[b]? =some (.cells h.enc.toArray 82 (0,0))∧Kept (fun k=>(Sj h.ra h.redo.length h.rc).ownBlock=some k) v w2∧bD N b h v { h with ra:=a,rc:=c,redo:=h.redo++[h.doc] } (w2.setCell ⟨b,17,none⟩ (.slice a (h.redo.length+1) c)):=by
 obtain⟨a,c,rfl⟩:=l9 ho
 have hbl:=dW H.at_
 have hk0:Kept (fun k=>(Sj h.ra h.redo.length h.rc).ownBlock=some k) v w2:=(Kept.of_below ((Below.refl _ _).alloc (Sl _) o)).andGrown hg fun k hk _=>hk
 have hbu:(Sj h.ra h.redo.length h.rc).ownBlock≠some b:=H.rb
 have r2:=(hk0.block b hbl hbu).trans H.at_
 have r3:=uC r2 a (h.redo++[h.doc]) c
 rw [Sn] at r3
 have hnew:∀ k,(Sj a (h.redo.length+1) c).ownBlock=some k→(Sj h.ra h.redo.length h.rc).ownBlock=some k∨v.heap.size≤k:=fun k e=>by
  rcases hat with q|q
  · exact .inl (q▸e)
  · rw [q] at e;simp only [SD] at e;exact .inr (by omega)
 have m_:(Sj a (h.redo.length+1) c).ownBlock≠some b:=fun e=>(hnew b e).elim hbu fun q=>by omega
 have hk:Kept (h.own b) v (w2.setCell ⟨b,17,none⟩ (.slice a (h.redo.length+1) c)):=(hk0.mono fun k _ e=>.inr (.inr e)).setCell (p:=⟨b,17,none⟩) (.inr (.inl rfl)) _
 have hown:∀ k,Hs.own { h with ra:=a,rc:=c,redo:=h.redo++[h.doc] } b k→h.own b k∨v.heap.size≤k:=fun k hk=>by
  rcases hk with q|q|q
  · exact .inl (.inl q)
  · exact .inl (.inr (.inl q))
  · rcases hnew k (by simpa [Hs.rv,Sn,Sk] using q) with q|q
    · exact .inl (.inr (.inr q))
    · exact .inr q
 have Ep:=H.undo
 have hdd:∀ d∈Hs.docs ({ h with ra:=a,rc:=c,redo:=h.redo++[h.doc] }:Hs),d∈h.docs:=fun d hd=>by
  simp only [Hs.docs,Sq,Sp] at hd ⊢
  rcases hd with q|q|q|(q|q|q)
  · exact .inl q
  · exact .inr (.inl q)
  · exact .inr (.inr (.inl q))
  · exact .inr (.inr (.inr q))
  · exact .inl q
  · cases q
 refine⟨a,c,rfl,r2,hk0,H.next hk r3 ?_ ?_ (fun k e=>?_) ?_ hown (fun d hd=>.inl (hdd d hd)),⟨hown,fun d hd=>.inl (hdd d hd)⟩,hk⟩
 · exact j4 (aB Ep fun k e=>hk0.block k (Ep.lt k e).2 fun e2=>(H.ub k e).2 e2) (fun e=>(H.ub b e).1 rfl)
 · show Sh.ownsRow _ 0 27 8 (.slice a (h.redo++[h.doc]).length c) (h.redo++[h.doc]).length ((h.redo++[h.doc]).flatMap Doc.enc)
   rw [Sn,Sx]
   simp only [Sv,SA,Sy,Sz,SC]
   exact j4 ho m_
 · refine⟨(H.ub k e).1,fun q=>?_⟩
   have e':(Sj a (h.redo.length+1) c).ownBlock=some k:=by simpa [Hs.rv,Sn,Sk] using q
   rcases hnew k e' with q2|q2
   · exact(H.ub k e).2 q2
   · have:=(Ep.lt k e).2;omega
 · intro e
   exact m_ (by simpa [Hs.rv,Sn,Sk] using e)
theorem Ac {v':Si} {ys:List Doc} (H:HsAt b h v)(ho:w2.ownsRow 0 27 8 v' ys.length (ys.flatMap Doc.enc))(hg:v.grownBy w2 none)(hat:v'.ownBlock=none∨v'.ownBlock=some v.heap.size)(hy:∀ d∈ys,d∈h.docs) :
 ∃ a c,v'=.slice a ys.length c∧w2.heap[b]? =some (.cells h.enc.toArray 82 (0,0))∧Below v.heap.size v w2∧bD N b h v { h with ua:=a,uc:=c,undo:=ys } (w2.setCell ⟨b,16,none⟩ (.slice a ys.length c)):=by
 obtain⟨a,c,rfl⟩:=l9 ho
 have hbl:=dW H.at_
 have hb0:Below v.heap.size v w2:=⟨hg.os,hg.tape,hg.output,hg.size,fun k hk=>hg.block k hk (by simp)⟩
 have r2:=(hb0.block b hbl).trans H.at_
 have r3:=Ab r2 a ys c
 have hnew:∀ k,(Sj a ys.length c).ownBlock=some k→v.heap.size≤k:=fun k e=>by
  rcases hat with q|q
  · rw [q] at e;cases e
  · rw [q] at e;simp only [SD] at e;omega
 have m_:(Sj a ys.length c).ownBlock≠some b:=fun e=>by have:=hnew b e;omega
 have hk:Kept (h.own b) v (w2.setCell ⟨b,16,none⟩ (.slice a ys.length c)):=(Kept.of_below hb0).setCell (p:=⟨b,16,none⟩) (.inr (.inl rfl)) _
 have hown:∀ k,Hs.own { h with ua:=a,uc:=c,undo:=ys } b k→h.own b k∨v.heap.size≤k:=fun k hk=>by
  rcases hk with q|q|q
  · exact .inl (.inl q)
  · exact .inr (hnew k q)
  · exact .inl (.inr (.inr q))
 have hrr:=H.redo
 have hdd:∀ d∈Hs.docs ({ h with ua:=a,uc:=c,undo:=ys }:Hs),d∈h.docs:=fun d hd=>by
  simp only [Hs.docs,Sq,Sp] at hd
  rcases hd with q|q|q|q
  · simp [Hs.docs,q]
  · simp [Hs.docs,q]
  · exact hy d q
  · simp [Hs.docs,q]
 refine⟨a,c,rfl,r2,hb0,H.next hk r3 (j4 ho m_) (j4 (aB hrr fun k e=>hb0.block k (hrr.lt k e).2) H.rb) (fun k e=>⟨fun q=>m_ (q▸e),fun q=>by have:=hnew k e;have:=(hrr.lt k q).2;omega⟩) H.rb hown (fun d hd=>.inl (hdd d hd)),⟨hown,fun d hd=>.inl (hdd d hd)⟩,hk⟩
theorem Ex {v':Si} {ys:List Doc} (H:HsAt b h v)(ho:w2.ownsRow 0 27 8 v' ys.length (ys.flatMap Doc.enc))(hg:v.grownBy w2 none)(hat:v'.ownBlock=none∨v'.ownBlock=some v.heap.size)(hy:∀ d∈ys,d∈h.docs) :
 ∃ a c,v'=.slice a ys.length c∧w2.heap[b]? =some (.cells h.enc.toArray 82 (0,0))∧Below v.heap.size v w2∧bD N b h v { h with ra:=a,rc:=c,redo:=ys } (w2.setCell ⟨b,17,none⟩ (.slice a ys.length c)):=by
 obtain⟨a,c,rfl⟩:=l9 ho
 have hbl:=dW H.at_
 have hb0:Below v.heap.size v w2:=⟨hg.os,hg.tape,hg.output,hg.size,fun k hk=>hg.block k hk (by simp)⟩
 have r2:=(hb0.block b hbl).trans H.at_
 have r3:=uC r2 a ys c
 have hnew:∀ k,(Sj a ys.length c).ownBlock=some k→v.heap.size≤k:=fun k e=>by
  rcases hat with q|q
  · rw [q] at e;cases e
  · rw [q] at e;simp only [SD] at e;omega
 have m_:(Sj a ys.length c).ownBlock≠some b:=fun e=>by have:=hnew b e;omega
 have hk:Kept (h.own b) v (w2.setCell ⟨b,17,none⟩ (.slice a ys.length c)):=(Kept.of_below hb0).setCell (p:=⟨b,17,none⟩) (.inr (.inl rfl)) _
 have hown:∀ k,Hs.own { h with ra:=a,rc:=c,redo:=ys } b k→h.own b k∨v.heap.size≤k:=fun k hk=>by
  rcases hk with q|q|q
  · exact .inl (.inl q)
  · exact .inl (.inr (.inl q))
  · exact .inr (hnew k q)
 have Ep:=H.undo
 have hdd:∀ d∈Hs.docs ({ h with ra:=a,rc:=c,redo:=ys }:Hs),d∈h.docs:=fun d hd=>by
  simp only [Hs.docs,Sq,Sp] at hd
  rcases hd with q|q|q|q
  · simp [Hs.docs,q]
  · simp [Hs.docs,q]
  · simp [Hs.docs,q]
  · exact hy d q
 refine⟨a,c,rfl,r2,hb0,H.next hk r3 (j4 (aB Ep fun k e=>hb0.block k (Ep.lt k e).2) (fun e=>(H.ub b e).1 rfl)) (j4 ho m_) (fun k e=>⟨(H.ub k e).1,fun q=>by have:=hnew k q;have:=(Ep.lt k e).2;omega⟩) m_ hown (fun d hd=>.inl (hdd d hd)),⟨hown,fun d hd=>.inl (hdd d hd)⟩,hk⟩
theorem vN {D:Doc} (H:HsAt b h v)(hD:D∈h.docs∨(eC (h.own b) v D∧N D)):bD N b h v { h with doc:=D } (v.setCells b 0 D.enc):=by
 have hk2:Kept (fun k=>k=b) v (v.setCells b 0 D.enc):=eL (S:=fun k=>k=b) rfl _ _ (Kept.refl _ _)
 have hk:Kept (h.own b) v (v.setCells b 0 D.enc):=hk2.mono fun k _ e=>.inl e
 refine⟨H.next hk (Ew H.at_ D) (aB H.undo fun k e=>hk2.block k (H.undo.lt k e).2 (H.ub k e).1) (aB H.redo fun k e=>hk2.block k (H.redo.lt k e).2 fun q=>H.rb (q▸e)) H.ub H.rb (fun k h=>.inl h) (fun d hd=>?_),⟨fun k h=>.inl h,fun d hd=>?_⟩,hk⟩
 · rcases Sq.1 hd with h1|h1
   · subst h1
     rcases hD with h2|h2
     · exact .inl h2
     · exact .inr (h2.1.keep hk fun _ _ h=>h)
   · exact .inl (Sw _ h1)
 · rcases Sq.1 hd with h1|h1
   · subst h1
     exact hD.imp id And.right
   · exact .inl (Sw _ h1)
theorem sq (H:HsAt b h v):bD N b h v { h with ra:=none,rc:=0,redo:=[] } (v.setCell ⟨b,17,none⟩ (.slice none 0 0)):=by
 have hk:Kept (h.own b) v (v.setCell ⟨b,17,none⟩ (.slice none 0 0)):=(Kept.refl _ _).setCell (p:=⟨b,17,none⟩) (.inr (.inl rfl)) _
 have hown:∀ k,Hs.own { h with ra:=none,rc:=0,redo:=[] } b k→h.own b k∨v.heap.size≤k:=fun k hk=>by
  rcases hk with q|q|q
  · exact .inl (.inl q)
  · exact .inl (.inr (.inl q))
  · cases q
 have hdd:∀ d∈Hs.docs ({ h with ra:=none,rc:=0,redo:=[] }:Hs),d∈h.docs:=fun d hd=>by
  simp only [Hs.docs,Sq,Sp] at hd
  rcases hd with q|q|q|q
  · simp [Hs.docs,q]
  · simp [Hs.docs,q]
  · simp [Hs.docs,q]
  · cases q
 refine⟨H.next hk (uC H.at_ none [] 0) (j4 H.undo (fun e=>(H.ub b e).1 rfl)) (Sh.ownsRow_nil _ _ _ _) (fun k e=>⟨(H.ub k e).1,by intro q;cases q⟩) (by intro q;cases q) hown (fun d hd=>.inl (hdd d hd)),⟨hown,fun d hd=>.inl (hdd d hd)⟩,hk⟩
end
end Go.Proofs.YtjebaagkomejaaaGreatDoor
namespace Go.Proofs.YtjebaagkomejaaaGreatDoor
open Go.RowKit
abbrev DocC.fit (d:DocC):Prop:=d.fits 4000000
def EdC.fits (x:EdC):Prop:=(i64 x.id∧i64 x.other∧i64 x.inn∧i64 x.out∧i64 x.frame∧i64 x.row∧i64 x.frm∧i64 x.til)∧(0≤x.kind∧x.kind≤255)∧(0≤x.color∧x.color≤255)∧x.name.size≤4000000∧x.text.size≤4000000∧x.reg.fits∧(∀ r∈x.rows,(∀ y∈r,y.fits)∧r.length≤4000000∧cC r≤4000000)∧x.rows.length≤4000000
theorem Ed.fits_c {x:Ed} (h:x.fits):x.c.fits:=by
 obtain⟨h0,h1,h2,h3,h4,h5,h6,h7,h8⟩:=h
 refine⟨h1,h2,h3,h4,h5,h6,fun r hr=>?_,by show(x.rows.map Row.runs).length≤_;rw [SB];exact h8⟩
 obtain⟨y,hy,rfl⟩:=Su.1 hr
 exact h7 y hy
theorem zV:i64 0:=⟨by decide,by decide⟩
theorem zq {d:DocC} (h:d.fit):d.rep.fits:=(show d.rep.c.fits 4000000 by rw [DocC.rep_c];exact h).doc (Sl _)
theorem AG {d:DocC} (h:d.rep.fits):d.fit:=by
 have:=Doc.fits.c (n:=4000000) h h.2.2.2.2.2.2.1 h.2.2.2.2.2.2.2.2.1 h.2.2.2.2.2.2.2.2.2.2
 rwa [DocC.rep_c] at this
theorem pS {d:DocC} {e:EvC} (hd:d.fit)(he:e.fits)(h0:(putC d e).1=0):(putC d e).2.fit :=
 AG (vD (d:=d.rep) (e:=e) (zq hd) he (by rw [DocC.rep_c,DocC.rep_c]) (by rw [DocC.rep_c];exact h0))
theorem mx {d:DocC} {k:Int} (hd:d.fit)(h0:(bx d k).1=0):(bx d k).2.fit :=
 AG (zp (d:=d.rep) (k:=k) (zq hd) (by rw [DocC.rep_c,DocC.rep_c]) (by rw [DocC.rep_c];exact h0))
theorem kT {l:List EvC} {x:EvC} (h:x∈de l):x∈l:=by
 unfold de at h
 exact(List.mergeSort_perm _ _).mem_iff.1 h
theorem kU (l:List EvC):(de l).length=l.length:=by unfold de;rw [List.length_mergeSort]
theorem mQ {d:DocC} {e:EvC} (hd:d.fit)(he:e.fits)(h0:(insertC d e).1=0):(insertC d e).2.fit:=by
 have hE:aQ d e=0:=by
  unfold insertC at h0
  split at h0
  · exact h0
  · rename_i h;exact SF.1 h
 have hlen:d.eV.length<400:=by
  unfold aQ at hE
  simp only at hE
  repeat' split at hE
  all_goals first
   | omega
   | contradiction
 have hlast:e.id=0→d.hd.last<1099511627776:=by
  intro hid
  unfold aQ at hE
  simp only [if_pos hid] at hE
  repeat' split at hE
  all_goals first
   | omega
   | contradiction
 obtain⟨⟨q1,q2,q3,q4,q5⟩,q6,q7,q8,q9,q10,q11⟩:=hd
 unfold insertC
 rw [if_neg (fun h=>h hE)]
 split
 · rename_i hid
   have hl:=hlast hid
   have hi:i64 (d.hd.last+1):=by unfold i64 at *;omega
   refine⟨⟨q1,q2,q3,q4,hi⟩,q6,q7,fun x hx=>?_,?_,q10,q11⟩
   · rcases Sp.1 (kT hx) with h|h
     · exact q8 x h
     · rw [St.1 h];exact⟨hi,he.2⟩
   · show(de _).length≤_
     rw [kU,Sn];simp;omega
 · refine⟨⟨q1,q2,q3,q4,q5⟩,q6,q7,fun x hx=>?_,?_,q10,q11⟩
   · rcases Sp.1 (kT hx) with h|h
     · exact q8 x h
     · rw [St.1 h];exact he
   · show(de _).length≤_
     rw [kU,Sn];simp;omega
theorem wG {d:DocC} {fr n:Int} (hd:d.fit)(h0:(d_ d fr n).1=0):(d_ d fr n).2.fit:=by
 obtain⟨⟨q1,q2,q3,q4,q5⟩,q6,q7,q8,q9,q10,q11⟩:=hd
 unfold d_ at h0 ⊢
 by_cases h1:cErr d≠0
 · rw [if_pos h1] at h0;exact absurd h0 h1
 · rw [if_neg h1] at h0 ⊢
   have hc:cErr d=0:=SF.1 h1
   by_cases h2:n < -5184000∨5184000<n
   · rw [if_pos h2] at h0;cases h0
   · rw [if_neg h2] at h0 ⊢
     by_cases h3:d.eV.all (eF fr n)=true
     · rw [if_pos h3]
       refine⟨⟨q1,q2,q3,q4,q5⟩,q6,q7,fun x hx=>?_,?_,q10,q11⟩
       · obtain⟨y,hy,rfl⟩:=Su.1 (kT hx)
         have hs:=AM hc hy
         have hf:=q8 y hy
         unfold pJ
         split
         · exact hf
         · refine⟨hf.1,?_,?_,hf.2.2.2⟩
           · show i64 (y.inn+n)
             unfold i64;omega
           · show i64 (y.out+n)
             unfold i64;omega
       · show(de _).length≤_
         rw [kU,SB];exact q9
     · rw [if_neg h3] at h0;cases h0
theorem dU {d:DocC} {id:Int} {f:EvC→Int × EvC} (hd:d.fit)(hf:∀ e,e.fits→(f e).1=0→(f e).2.fits)(h0:(aF d id f).1=0):(aF d id f).2.fit:=by
 unfold aF at h0 ⊢
 cases h:aU d.eV id with
 | none=>rw [h] at h0;cases h0
 | some e =>
   rw [h] at h0
   simp only at h0 ⊢
   by_cases h1:(f e).1≠0
   · rw [if_pos h1] at h0;exact absurd h0 h1
   · rw [if_neg h1] at h0 ⊢
     exact pS hd (hf e (hd.2.2.2.1 e (hZ h).1) (SF.1 h1)) h0
theorem rO {x:EdC} (hx:x.fits)(e:EvC)(he:e.fits):(restyle x e).2.fits:=by
 unfold restyle
 split
 · exact he
 · rename_i r hr
   split
   · exact he
   · obtain⟨p1,p2,p3,p4,p5,p6,p7,p8,p9⟩:=he
     refine⟨p1,p2,p3,p4,p5,p6,p7,fun q hq=>?_,?_⟩
     · rcases List.mem_or_eq_of_mem_set hq with h|h
       · exact p8 q h
       · subst h
         exact r_ (r:=⟨none,0,r⟩) (q:=⟨none,0,_⟩) x.frm x.til x.color x.it x.un hx.2.2.1 (p8 r (List.mem_of_getElem? hr)) rfl
     · show(e.rows.set _ _).length≤_
       rw [List.length_set];exact p9
theorem wF {d:DocC} {x:EdC} (hd:d.fit)(hx:x.fits)(h0:(eA d x).1=0):(eA d x).2.fit:=by
 unfold eA at h0 ⊢
 cases h:aU d.eV x.id with
 | none=>rw [h] at h0;cases h0
 | some e =>
   rw [h] at h0
   simp only at h0 ⊢
   have he:=hd.2.2.2.1 e (hZ h).1
   have hfr:i64 x.frame:=hx.1.2.2.2.2.1
   by_cases h1:1099511627776≤d.hd.last
   · rw [if_pos h1] at h0;cases h0
   · rw [if_neg h1] at h0 ⊢
     by_cases h2:bg e x.frame x.row (d.hd.last+1)≠0
     · rw [if_pos h2] at h0;exact absurd h0 h2
     · rw [if_neg h2] at h0 ⊢
       by_cases h3:(putC d (gh e x.frame x.row)).1≠0
       · rw [if_pos h3] at h0;exact absurd h0 h3
       · rw [if_neg h3] at h0 ⊢
         obtain⟨p1,p2,p3,p4,p5,p6,p7,p8,p9⟩:=he
         refine mQ (pS hd ⟨p1,p2,hfr,p4,p5,p6,p7,fun q hq=>p8 q (List.mem_of_mem_take hq),?_⟩ (SF.1 h3)) ⟨zV,hfr,p3,p4,p5,p6,p7,fun q hq=>p8 q (List.mem_of_mem_drop hq),?_⟩ h0
         · show(e.rows.take _).length≤_
           rw [List.length_take];omega
         · show(e.rows.drop _).length≤_
           rw [List.length_drop];omega
theorem xq {a b:EvC} (ha:a.fits)(hb:b.fits)(h:bS a b=0):(nZ a b).fits:=by
 have h1:a.rep.c=a:=EvC.rep_c a
 have h2:b.rep.c=b:=EvC.rep_c b
 have:=si (a:=a.rep) (b:=b.rep) (y:=(nZ a b).rep) ((Ev.fits_c _).1 (by rw [h1];exact ha)) ((Ev.fits_c _).1 (by rw [h2];exact hb)) (by rw [h1,h2];exact h) (by rw [h1,h2];exact EvC.rep_c _)
 have h3:=(Ev.fits_c _).2 this
 rwa [EvC.rep_c] at h3
theorem zR {d:DocC} {x:EdC} (hd:d.fit)(h0:(gZ d x).1=0):(gZ d x).2.fit:=by
 unfold gZ at h0 ⊢
 cases h:aU d.eV x.id with
 | none=>rw [h] at h0;cases h0
 | some a =>
   cases h':aU d.eV x.other with
   | none=>rw [h,h'] at h0;cases h0
   | some b =>
     rw [h,h'] at h0
     simp only at h0 ⊢
     have ha:=hd.2.2.2.1 a (hZ h).1
     have hb:=hd.2.2.2.1 b (hZ h').1
     by_cases h1:x.id=x.other
     · rw [if_pos h1] at h0;cases h0
     · rw [if_neg h1] at h0 ⊢
       by_cases h2:bS a b≠0
       · rw [if_pos h2] at h0;exact absurd h0 h2
       · rw [if_neg h2] at h0 ⊢
         by_cases h3:(bx d x.other).1≠0
         · rw [if_pos h3] at h0;exact absurd h0 h3
         · rw [if_neg h3] at h0 ⊢
           exact pS (mx hd (SF.1 h3)) (xq ha hb (SF.1 h2)) h0
theorem xZ {d:DocC} {id fr til:Int} {au tx:ByteArray} (hd:d.fit)(h1:i64 id)(h2:i64 fr)(h3:i64 til)(h4:au.size≤4000000)(h5:tx.size≤4000000)(h0:(fT d id fr til au tx).1=0):(fT d id fr til au tx).2.fit:=by
 have hE:bO d id fr til au tx=0:=by
  unfold fT at h0
  split at h0
  · exact h0
  · rename_i h;exact SF.1 h
 have hb:d.cM.length<64∧d.hd.last<1099511627776:=by
  unfold bO at hE
  repeat' split at hE
  all_goals first
   | omega
   | contradiction
 obtain⟨⟨q1,q2,q3,q4,q5⟩,q6,q7,q8,q9,q10,q11⟩:=hd
 have hi:i64 (d.hd.last+1):=by unfold i64 at *;omega
 unfold fT
 rw [if_neg (fun h=>h hE)]
 refine⟨⟨q1,q2,q3,q4,hi⟩,q6,q7,q8,q9,fun c hc=>?_,?_⟩
 · rcases Sp.1 hc with h|h
   · exact q10 c h
   · rw [St.1 h];exact⟨hi,h1,h2,h3,h4,h5⟩
 · show(d.cM++[_]).length≤_
   rw [Sn];simp;omega
theorem sX {d:DocC} {id:Int} (hd:d.fit)(h0:(b_ d id).1=0):(b_ d id).2.fit:=by
 obtain⟨q0,q6,q7,q8,q9,q10,q11⟩:=hd
 unfold b_ at h0 ⊢
 by_cases h1:cErr d≠0
 · rw [if_pos h1] at h0;exact absurd h0 h1
 · rw [if_neg h1] at h0 ⊢
   cases h:cR d.cM id with
   | none=>rw [h] at h0;cases h0
   | some c =>
     rw [h] at h0
     simp only at h0 ⊢
     split at h0
     · cases h0
     · rename_i hd'
       rw [if_neg hd']
       refine⟨q0,q6,q7,q8,q9,fun c hc=>?_,by simpa using q11⟩
       obtain⟨y,hy,rfl⟩:=Su.1 hc
       split
       · exact q10 y hy
       · exact q10 y hy
theorem qy {d:DocC} {id:Int} (hd:d.fit)(h0:(bY d id).1=0):(bY d id).2.fit:=by
 obtain⟨q0,q6,q7,q8,q9,q10,q11⟩:=hd
 unfold bY at h0 ⊢
 by_cases h1:cErr d≠0
 · rw [if_pos h1] at h0;exact absurd h0 h1
 · rw [if_neg h1] at h0 ⊢
   split at h0
   · cases h0
   · rename_i hd'
     rw [if_neg hd']
     exact⟨q0,q6,q7,q8,q9,fun c hc=>q10 c (Ss.1 hc).1,Sm (Sr _ _) q11⟩
theorem zu {d:DocC} {x:EdC} (hd:d.fit)(hx:x.fits)(h0:(fu d x).1=0):(fu d x).2.fit:=by
 obtain⟨q0,q6,q7,q8,q9,q10,q11⟩:=hd
 have hr:=hx.2.2.2.2.2.1
 unfold fu at h0 ⊢
 simp only at h0 ⊢
 generalize (if x.op=14 then x.name else x.reg.name)=nm at *
 by_cases h1:x.op=12
 · rw [if_pos h1] at h0 ⊢
   split at h0
   · cases h0
   · rename_i g1
     rw [if_neg g1]
     split at h0
     · cases h0
     · rename_i g2
       rw [if_neg g2]
       refine⟨q0,fun r h=>?_,?_,q8,q9,q10,q11⟩
       · rcases Sp.1 h with h|h
         · exact q6 r (Ss.1 h).1
         · rcases Sq.1 h with h|h
           · rw [h];exact hr
           · exact q6 r (Ss.1 h).1
       · show(_++_::_).length≤_
         have l1:=Sr (dO nm) d.rG
         have l2:=Sr (fun r=>!(dO nm r)) d.rG
         rw [Sn,Sv]
         omega
 · rw [if_neg h1] at h0 ⊢
   split at h0
   · cases h0
   · rename_i g1
     rw [if_neg g1]
     by_cases h2:x.op=13
     · rw [if_pos h2] at h0 ⊢
       cases hf:d.eV.find? (fun e=>bT (d.rG.map fun r=>if eH nm r=true then x.reg else r) e != 0) with
       | some e =>
         rw [hf] at h0
         simp only at h0
         have:=List.find?_some hf
         simp only [h0] at this
         cases this
       | none =>
         simp only
         refine⟨q0,fun r h=>?_,by simpa using q7,q8,q9,q10,q11⟩
         obtain⟨y,hy,rfl⟩:=Su.1 h
         split
         · exact hr
         · exact q6 y hy
     · rw [if_neg h2] at h0 ⊢
       split at h0
       · cases h0
       · rename_i g3
         rw [if_neg g3]
         exact⟨q0,fun r h=>q6 r (Ss.1 h).1,Sm (Sr _ _) q7,q8,q9,q10,q11⟩
theorem AR {d:DocC} {x:EdC} (hd:d.fit)(hx:x.fits)(h0:(bU d x).1=0):(bU d x).2.fit:=by
 obtain⟨⟨x1,x2,x3,x4,x5,x6,x7,x8⟩,xk,xc,xn,xt,xg,xr,xl⟩:=id hx
 unfold bU at h0 ⊢
 by_cases h1:cErr d≠0
 · rw [if_pos h1] at h0;exact absurd h0 h1
 · rw [if_neg h1] at h0 ⊢
   by_cases h2:gM x≠0
   · rw [if_pos h2] at h0;exact absurd h0 h2
   · rw [if_neg h2] at h0 ⊢
     split at h0
     · exact mQ hd ⟨zV,x3,x4,xn,xk.1,xk.2,xt,xr,xl⟩ h0
     · exact mx hd h0
     · exact dU hd (fun e he _=>⟨he.1,x3,x4,he.2.2.2⟩) h0
     · exact dU hd (fun e he _=>⟨he.1,he.2.1,he.2.2.1,he.2.2.2.1,he.2.2.2.2.1,he.2.2.2.2.2.1,he.2.2.2.2.2.2.1,xr,xl⟩) h0
     · exact dU hd (fun e he _=>⟨he.1,he.2.1,he.2.2.1,xn,he.2.2.2.2⟩) h0
     · exact dU hd (fun e he _=>⟨he.1,he.2.1,he.2.2.1,he.2.2.2.1,xk.1,xk.2,he.2.2.2.2.2.2⟩) h0
     · exact dU hd (fun e he _=>⟨he.1,he.2.1,he.2.2.1,he.2.2.2.1,he.2.2.2.2.1,he.2.2.2.2.2.1,xn,he.2.2.2.2.2.2.2⟩) h0
     · exact dU hd (fun e he _=>rO hx e he) h0
     · exact wF hd hx h0
     · exact zR hd h0
     · exact wG hd h0
     · exact⟨⟨xt,hd.1.2⟩,hd.2⟩
     · exact⟨⟨hd.1.1,xn,hd.1.2.2⟩,hd.2⟩
     · exact xZ hd x1 x7 x8 xn xt h0
     · exact sX hd h0
     · exact qy hd h0
     · exact zu hd hx h0
end Go.Proofs.YtjebaagkomejaaaGreatDoor
