/- The merger's block: the merged document so far and the clashes, and how it grows. slices.Contains at strings. What the merge of events gives, in plain words: IDs, sizes, and the order behind document.Sort. -/
import Derived.Test.YtnlnmbcaongehaaGreatDoorN13
import Derived.Test.YtnlnmbcaongehaaGreatDoorN12
set_option linter.unusedVariables false
set_option linter.unusedSimpArgs false
set_option maxRecDepth 100000
set_option maxHeartbeats 12800000
open Go.Lib renaming hid→h_
open Go renaming World→Su,Value→Sv
open Nat renaming le_trans→Sw,mul_le_mul_right→Sx,lt_irrefl→Sy,add_zero→Sz,le_refl→SA,add_mul→SB
open Go.RowKit renaming Below→SC
open Option.some renaming inj→SD,injEq→SE
open List renaming flatMap_cons→SF,length_mergeSort→SG,mem_singleton→SH,length_append→SI,mem_append→SJ,flatMap_append→SK,pairwise_cons→SL,take_add_one→SM,drop_length→SN,mem_map→SO
open Go.RowKit.Below renaming refl→SQ,setCell→SR
open Go.Proofs.Tryz renaming prog→SS,underlying85→SU,results134→SV
open Option renaming map_eq_some_iff→SW,mem_toList→SX,mem_def→SY
open Go.Value renaming int→SZ
open Go.Lib renaming compact→S5
namespace Go.Proofs.YtnlnmbcaongehaaGreatDoor
open Go.RowKit
structure Mg where
 hd:Hd
 rv:Sv
 rG:List Reg
 ev:Sv
 eV:List Ev
 cv:Sv
 cM:List Cm
 kv:Sv
 cls:List Cl
def Mg.arr (m:Mg):Array Sv:=#[.string m.hd.title,.string m.hd.lang,.int .u8 m.hd.rate,.bool m.hd.drop,.int .i64 m.hd.last,m.rv,m.ev,m.cv,m.kv]
def Mg.mine (g:Nat)(m:Mg)(b:Nat):Prop:=b=g∨m.rv.ownBlock=some b∨m.ev.ownBlock=some b∨m.cv.ownBlock=some b∨m.kv.ownBlock=some b
structure Mg.tags (g:Nat)(m:Mg)(t:Nat→Nat):Prop where
 g:t g=0
 r:∀ b,m.rv.ownBlock=some b→t b=1
 e:∀ b,m.ev.ownBlock=some b→t b=2
 c:∀ b,m.cv.ownBlock=some b→t b=3
 k:∀ b,m.kv.ownBlock=some b→t b=4
 u:∀ x∈m.eV,∀ b,x.uses b→t b=5
structure Mg.at_ (m:Mg)(B g:Nat)(w:Su):Prop where
 cells:w.heap[g]? =some (.cells m.arr 142 (0,0))
 rG:w.ownsRow B 44 7 m.rv m.rG.length (m.rG.flatMap Reg.enc)
 eV:w.ownsRow B 50 7 m.ev m.eV.length (m.eV.flatMap Ev.enc)
 each:∀ x∈m.eV,x.lies w
 cM:w.ownsRow B 52 8 m.cv m.cM.length (m.cM.flatMap Cm.enc)
 cls:w.ownsRow B 135 4 m.kv m.cls.length (m.cls.flatMap Cl.enc)
 lt:g<B
 low:∀ x∈m.eV,∀ b,x.uses b→g≤b
 sep:∃ t,m.tags g t
def Mg.step (g:Nat)(m m':Mg)(w w':Su):Prop:=Kept (m.mine g) w w'∧∀ b,m'.mine g b→m.mine g b∨w.heap.size≤b
theorem eQ {B B' e k n:Nat} {v:Sv} {xs:List Sv} {w:Su} (h:w.ownsRow B e k v n xs)(hB:B'≤B):w.ownsRow B' e k v n xs :=
 ⟨h.1,h.2.imp id fun⟨g,cap,cur,q1,q2,q3⟩=>⟨g,cap,cur,q1,Sw hB q2,q3⟩⟩
section
variable {m m' m2:Mg} {B g:Nat} {w w' w2:Su}
theorem Mg.step.refl (g:Nat)(m:Mg)(w:Su):Mg.step g m m w w:=⟨Kept.refl _ _,fun b h=>.inl h⟩
theorem Mg.step.trans (h:Mg.step g m m' w w')(h2:Mg.step g m' m2 w' w2):Mg.step g m m2 w w2 :=
 ⟨h.1.trans h2.1 fun i hi hs=>(h.2 i hs).resolve_right (by omega),fun b hb=>(h2.2 b hb).elim (fun q=>h.2 b q) fun q=>.inr (Sw h.1.size q)⟩
theorem Mg.step.of_below (hb:SC w.heap.size w w'):Mg.step g m m w w':=⟨Kept.of_below hb,fun b h=>.inl h⟩
theorem Mg.at_.glt (h:m.at_ B g w):g<w.heap.size:=(Array.getElem?_eq_some_iff.1 h.cells).1
theorem Mg.at_.kept (h:m.at_ B g w)(hs:w.heap.size≤w'.heap.size)(hb:∀ b,b<w.heap.size→(m.mine g b∨∃ x∈m.eV,x.uses b)→w'.heap[b]? =w.heap[b]?):m.at_ B g w' :=
 ⟨(hb g h.glt (.inl (.inl rfl))).trans h.cells,ah h.rG fun b q=>hb b (h.rG.lt b q).2 (.inl (.inr (.inl q))),ah h.eV fun b q=>hb b (h.eV.lt b q).2 (.inl (.inr (.inr (.inl q)))),
  fun x hx=>Ev.frame (h.each x hx) hs fun b q=>hb b (Ev.uses_lt (h.each x hx) q) (.inr ⟨x,hx,q⟩),ah h.cM fun b q=>hb b (h.cM.lt b q).2 (.inl (.inr (.inr (.inr (.inl q))))),
  ah h.cls fun b q=>hb b (h.cls.lt b q).2 (.inl (.inr (.inr (.inr (.inr q))))),h.lt,h.low,h.sep⟩
theorem Mg.at_.later (h:m.at_ B g w)(hb:SC w.heap.size w w'):m.at_ B g w':=h.kept hb.size fun b q _=>hb.block b q
theorem sN {v v':Sv} {n:Nat} {t:Nat→Nat} {k:Nat} (ht:∀ b,v.ownBlock=some b→t b=k)(hl:∀ b,v.ownBlock=some b→b<n)(hf:v'.ownBlock=v.ownBlock∨∃ b,v'.ownBlock=some b∧n≤b) :
 ∀ b,v'.ownBlock=some b→(if b<n then t b else k)=k:=by
 intro b hb
 rcases hf with hf|⟨q,hq,hn⟩
 · rw [hf] at hb
   rw [if_pos (hl b hb)]
   exact ht b hb
 · rw [hq] at hb
   obtain rfl:=SD hb
   rw [if_neg (by omega)]
theorem nA {v v':Sv} {n b:Nat} {S:Nat→Prop} (hS:v.ownBlock=some b→S b)(hf:v'.ownBlock=v.ownBlock∨∃ q,v'.ownBlock=some q∧n≤q)(hb:v'.ownBlock=some b):S b∨n≤b:=by
 rcases hf with hf|⟨q,hq,hn⟩
 · exact .inl (hS (hf▸hb))
 · rw [hq] at hb
   obtain rfl:=SD hb
   exact .inr hn
theorem eX {t:Nat→Nat} {n b k j:Nat} (h:t b=j)(hb:b<n):(if b<n then t b else k)=j:=by rw [if_pos hb];exact h
theorem Mg.at_.clash (h:m.at_ B g w) {cls:List Cl} (hp:jq 142 8 135 4 B g m.arr m.kv cls.length (cls.flatMap Cl.enc) w w'):∃ kv',({ m with kv:=kv',cls:=cls }:Mg).at_ B g w'∧Mg.step g m { m with kv:=kv',cls:=cls } w w':=by
 obtain⟨v',ha,hk,hf⟩:=hp
 obtain⟨t,ht⟩:=h.sep
 have hne:∀ b j,t b=j→j≠0→j≠4→¬ mOwn g m.kv b:=fun b j hj hz h4 hm=>by
  rcases hm with rfl|hm
  · exact hz (hj.symm.trans ht.g)
  · exact h4 (hj.symm.trans (ht.k b hm))
 refine⟨v',⟨ha.cells,ah h.rG fun b q=>hk.block b (h.rG.lt b q).2 (hne b 1 (ht.r b q) (by decide) (by decide)),ah h.eV fun b q=>hk.block b (h.eV.lt b q).2 (hne b 2 (ht.e b q) (by decide) (by decide)),
  fun x hx=>Ev.frame (h.each x hx) hk.size fun b q=>hk.block b (Ev.uses_lt (h.each x hx) q) (hne b 5 (ht.u x hx b q) (by decide) (by decide)),ah h.cM fun b q=>hk.block b (h.cM.lt b q).2 (hne b 3 (ht.c b q) (by decide) (by decide)),
  ha.own,h.lt,h.low,⟨fun b=>if b<w.heap.size then t b else 4,eX ht.g h.glt,fun b q=>eX (ht.r b q) (h.rG.lt b q).2,fun b q=>eX (ht.e b q) (h.eV.lt b q).2,fun b q=>eX (ht.c b q) (h.cM.lt b q).2,
   sN ht.k (fun b q=>(h.cls.lt b q).2) hf,fun x hx b q=>eX (ht.u x hx b q) (Ev.uses_lt (h.each x hx) q)⟩⟩,hk.mono fun i hi hm=>hm.elim .inl fun q=>.inr (.inr (.inr (.inr q))),?_⟩
 rintro b (q|q|q|q|q)
 · exact .inl (.inl q)
 · exact .inl (.inr (.inl q))
 · exact .inl (.inr (.inr (.inl q)))
 · exact .inl (.inr (.inr (.inr (.inl q))))
 · exact nA (S:=m.mine g) (fun q=>.inr (.inr (.inr (.inr q)))) hf q
theorem Mg.at_.reg (h:m.at_ B g w) {rG:List Reg} (hp:jq 142 5 44 7 B g m.arr m.rv rG.length (rG.flatMap Reg.enc) w w'):∃ rv',({ m with rv:=rv',rG:=rG }:Mg).at_ B g w'∧Mg.step g m { m with rv:=rv',rG:=rG } w w':=by
 obtain⟨v',ha,hk,hf⟩:=hp
 obtain⟨t,ht⟩:=h.sep
 have hne:∀ b j,t b=j→j≠0→j≠1→¬ mOwn g m.rv b:=fun b j hj hz h4 hm=>by
  rcases hm with rfl|hm
  · exact hz (hj.symm.trans ht.g)
  · exact h4 (hj.symm.trans (ht.r b hm))
 refine⟨v',⟨ha.cells,ha.own,ah h.eV fun b q=>hk.block b (h.eV.lt b q).2 (hne b 2 (ht.e b q) (by decide) (by decide)),
  fun x hx=>Ev.frame (h.each x hx) hk.size fun b q=>hk.block b (Ev.uses_lt (h.each x hx) q) (hne b 5 (ht.u x hx b q) (by decide) (by decide)),ah h.cM fun b q=>hk.block b (h.cM.lt b q).2 (hne b 3 (ht.c b q) (by decide) (by decide)),
  ah h.cls fun b q=>hk.block b (h.cls.lt b q).2 (hne b 4 (ht.k b q) (by decide) (by decide)),h.lt,h.low,⟨fun b=>if b<w.heap.size then t b else 1,eX ht.g h.glt,sN ht.r (fun b q=>(h.rG.lt b q).2) hf,fun b q=>eX (ht.e b q) (h.eV.lt b q).2,fun b q=>eX (ht.c b q) (h.cM.lt b q).2,
   fun b q=>eX (ht.k b q) (h.cls.lt b q).2,fun x hx b q=>eX (ht.u x hx b q) (Ev.uses_lt (h.each x hx) q)⟩⟩,hk.mono fun i hi hm=>hm.elim .inl fun q=>.inr (.inl q),?_⟩
 rintro b (q|q|q|q|q)
 · exact .inl (.inl q)
 · exact nA (S:=m.mine g) (fun q=>.inr (.inl q)) hf q
 · exact .inl (.inr (.inr (.inl q)))
 · exact .inl (.inr (.inr (.inr (.inl q))))
 · exact .inl (.inr (.inr (.inr (.inr q))))
theorem Mg.at_.cm (h:m.at_ B g w) {cM:List Cm} (hp:jq 142 7 52 8 B g m.arr m.cv cM.length (cM.flatMap Cm.enc) w w'):∃ cv',({ m with cv:=cv',cM:=cM }:Mg).at_ B g w'∧Mg.step g m { m with cv:=cv',cM:=cM } w w':=by
 obtain⟨v',ha,hk,hf⟩:=hp
 obtain⟨t,ht⟩:=h.sep
 have hne:∀ b j,t b=j→j≠0→j≠3→¬ mOwn g m.cv b:=fun b j hj hz h4 hm=>by
  rcases hm with rfl|hm
  · exact hz (hj.symm.trans ht.g)
  · exact h4 (hj.symm.trans (ht.c b hm))
 refine⟨v',⟨ha.cells,ah h.rG fun b q=>hk.block b (h.rG.lt b q).2 (hne b 1 (ht.r b q) (by decide) (by decide)),ah h.eV fun b q=>hk.block b (h.eV.lt b q).2 (hne b 2 (ht.e b q) (by decide) (by decide)),
  fun x hx=>Ev.frame (h.each x hx) hk.size fun b q=>hk.block b (Ev.uses_lt (h.each x hx) q) (hne b 5 (ht.u x hx b q) (by decide) (by decide)),ha.own,
  ah h.cls fun b q=>hk.block b (h.cls.lt b q).2 (hne b 4 (ht.k b q) (by decide) (by decide)),h.lt,h.low,⟨fun b=>if b<w.heap.size then t b else 3,eX ht.g h.glt,fun b q=>eX (ht.r b q) (h.rG.lt b q).2,fun b q=>eX (ht.e b q) (h.eV.lt b q).2,sN ht.c (fun b q=>(h.cM.lt b q).2) hf,
   fun b q=>eX (ht.k b q) (h.cls.lt b q).2,fun x hx b q=>eX (ht.u x hx b q) (Ev.uses_lt (h.each x hx) q)⟩⟩,hk.mono fun i hi hm=>hm.elim .inl fun q=>.inr (.inr (.inr (.inl q))),?_⟩
 rintro b (q|q|q|q|q)
 · exact .inl (.inl q)
 · exact .inl (.inr (.inl q))
 · exact .inl (.inr (.inr (.inl q)))
 · exact nA (S:=m.mine g) (fun q=>.inr (.inr (.inr (.inl q)))) hf q
 · exact .inl (.inr (.inr (.inr (.inr q))))
theorem Mg.at_.evt (h:m.at_ B g w) {y:Ev} {w0:Su} (h0:m.at_ B g w0)(h01:SC w0.heap.size w0 w)(hy:y.lies w)(hu:∀ b,y.uses b→w0.heap.size≤b)(hp:jq 142 6 50 7 B g m.arr m.ev (m.eV++[y]).length ((m.eV++[y]).flatMap Ev.enc) w w'):∃ ev',({ m with ev:=ev',eV:=m.eV++[y] }:Mg).at_ B g w'∧Mg.step g m { m with ev:=ev',eV:=m.eV++[y] } w w':=by
 obtain⟨v',ha,hk,hf⟩:=hp
 obtain⟨t,ht⟩:=h.sep
 have hne:∀ b j,t b=j→j≠0→j≠2→¬ mOwn g m.ev b:=fun b j hj hz h4 hm=>by
  rcases hm with rfl|hm
  · exact hz (hj.symm.trans ht.g)
  · exact h4 (hj.symm.trans (ht.e b hm))
 have hyk:∀ b,y.uses b→w'.heap[b]? =w.heap[b]?:=fun b q=>hk.block b (Ev.uses_lt hy q) fun hm=>by
  have:=hu b q
  rcases hm with rfl|hm
  · have:=h0.glt
    omega
  · have:=(h0.eV.lt b hm).2
    omega
 let T:Nat→Nat:=fun b=>if b<w0.heap.size then t b else if b<w.heap.size then 5 else 2
 have hT:∀ b j,t b=j→b<w0.heap.size→T b=j:=fun b j hj hb=>by simp only [T,if_pos hb];exact hj
 refine⟨v',⟨ha.cells,ah h.rG fun b q=>hk.block b (h.rG.lt b q).2 (hne b 1 (ht.r b q) (by decide) (by decide)),ha.own,fun x hx=>?_,ah h.cM fun b q=>hk.block b (h.cM.lt b q).2 (hne b 3 (ht.c b q) (by decide) (by decide)),
  ah h.cls fun b q=>hk.block b (h.cls.lt b q).2 (hne b 4 (ht.k b q) (by decide) (by decide)),h.lt,fun x hx b q=>(SJ.1 hx).elim (fun hx=>h.low x hx b q) (fun hx=>by obtain rfl:=SH.1 hx;have:=hu b q;have:=h0.glt;omega),⟨T,hT _ _ ht.g h0.glt,fun b q=>hT _ _ (ht.r b q) (h0.rG.lt b q).2,fun b q=>?_,fun b q=>hT _ _ (ht.c b q) (h0.cM.lt b q).2,fun b q=>hT _ _ (ht.k b q) (h0.cls.lt b q).2,fun x hx b q=>?_⟩⟩,hk.mono fun i hi hm=>hm.elim .inl fun q=>.inr (.inr (.inl q)),?_⟩
 · rcases SJ.1 hx with hx|hx
   · exact Ev.frame (h.each x hx) hk.size fun b q=>hk.block b (Ev.uses_lt (h.each x hx) q) (hne b 5 (ht.u x hx b q) (by decide) (by decide))
   · obtain rfl:=SH.1 hx
     exact Ev.frame hy hk.size hyk
 · have hs:=h01.size
   rcases hf with hf|⟨p,hp,hn⟩
   · exact hT _ _ (ht.e b (hf▸q)) (h0.eV.lt b (hf▸q)).2
   · have q':v'.ownBlock=some b:=q
     rw [hp] at q'
     obtain rfl:=SD q'
     show(if p<w0.heap.size then t p else if p<w.heap.size then 5 else 2)=2
     rw [if_neg (by omega),if_neg (by omega)]
 · rcases SJ.1 hx with hx|hx
   · exact hT _ _ (ht.u x hx b q) (Ev.uses_lt (h0.each x hx) q)
   · obtain rfl:=SH.1 hx
     have h1:=hu b q
     have h2:=Ev.uses_lt hy q
     show(if b<w0.heap.size then t b else if b<w.heap.size then 5 else 2)=5
     rw [if_neg (by omega),if_pos h2]
 · rintro b (q|q|q|q|q)
   · exact .inl (.inl q)
   · exact .inl (.inr (.inl q))
   · exact nA (S:=m.mine g) (fun q=>.inr (.inr (.inl q))) hf q
   · exact .inl (.inr (.inr (.inr (.inl q))))
   · exact .inl (.inr (.inr (.inr (.inr q))))
theorem Mg.at_.sorted (h:m.at_ B g w) {v:Sv} {ys:List Ev} {w0:Su} (h0:m.at_ B g w0)(h01:SC w0.heap.size w0 w)(hv:tv w0.heap.size w0 v ys w)(hB:B≤w0.heap.size) :
 ({ m with ev:=v,eV:=ys }:Mg).at_ B g (w.setCell ⟨g,6,none⟩ v)∧Mg.step g m { m with ev:=v,eV:=ys } w0 (w.setCell ⟨g,6,none⟩ v):=by
 obtain⟨t,ht⟩:=h.sep
 have hs:=h01.size
 have hgl:=h0.glt
 have hbk:∀ b,b≠g→(w.setCell ⟨g,6,none⟩ v).heap[b]? =w.heap[b]?:=fun b hb=>SC.heap_setCell _ _ _ _ hb
 have htg:∀ b j,t b=j→j≠0→b≠g:=fun b j hj h0 e=>h0 (by rw [←hj,e];exact ht.g)
 have hvl:∀ b,v.ownBlock=some b→w0.heap.size≤b∧b<w.heap.size:=fun b q=>hv.1.lt b q
 have hvo:∀ b,v.ownBlock=some b→b≠g:=fun b q e=>by
  have:=(hvl b q).1
  omega
 have hyu:∀ y∈ys,∀ b,y.uses b→v.ownBlock≠some b∧w0.heap.size≤b:=fun y hy=>(hv.2.1 y hy).2
 refine⟨⟨heap_setCell_same _ _ _ _ _ _ h.cells,ah h.rG fun b q=>hbk b (htg b 1 (ht.r b q) (by decide)),eQ (ah hv.1 fun b q=>hbk b (hvo b q)) hB,fun x hx=>?_,ah h.cM fun b q=>hbk b (htg b 3 (ht.c b q) (by decide)),
  ah h.cls fun b q=>hbk b (htg b 4 (ht.k b q) (by decide)),h.lt,fun x hx b q=>(by have:=(hyu x hx b q).2;omega),⟨fun b=>if b<w0.heap.size then t b else if v.ownBlock=some b then 2 else 5,eX ht.g hgl,fun b q=>eX (ht.r b q) (h0.rG.lt b q).2,fun b q=>?_,fun b q=>eX (ht.c b q) (h0.cM.lt b q).2,fun b q=>eX (ht.k b q) (h0.cls.lt b q).2,fun x hx b q=>?_⟩⟩,?_,?_⟩
 · exact Ev.frame (hv.2.1 x hx).1 (by simp) fun b q=>hbk b fun e=>by
    have:=(hyu x hx b q).2
    omega
 · have:=(hvl b q).1
   rw [if_neg (by omega),if_pos q]
 · obtain⟨h1,h2⟩:=hyu x hx b q
   rw [if_neg (by omega),if_neg h1]
 · exact(Kept.of_below (S:=m.mine g) h01).setCell (.inr (.inl rfl)) _
 · rintro b (q|q|q|q|q)
   · exact .inl (.inl q)
   · exact .inl (.inr (.inl q))
   · exact .inr (hvl b q).1
   · exact .inl (.inr (.inr (.inr (.inl q))))
   · exact .inl (.inr (.inr (.inr (.inr q))))
end
theorem Mg.at_.row5 {m:Mg} {B g:Nat} {w:Su} (h:m.at_ B g w):lk 142 5 44 7 B g m.arr m.rv m.rG.length (m.rG.flatMap Reg.enc) w:=⟨h.cells,rfl,h.rG,fun e=>by
 obtain⟨t,ht⟩:=h.sep
 have:=ht.r g e
 rw [ht.g] at this
 cases this⟩
theorem Mg.at_.row6 {m:Mg} {B g:Nat} {w:Su} (h:m.at_ B g w):lk 142 6 50 7 B g m.arr m.ev m.eV.length (m.eV.flatMap Ev.enc) w:=⟨h.cells,rfl,h.eV,fun e=>by
 obtain⟨t,ht⟩:=h.sep
 have:=ht.e g e
 rw [ht.g] at this
 cases this⟩
theorem Mg.at_.row7 {m:Mg} {B g:Nat} {w:Su} (h:m.at_ B g w):lk 142 7 52 8 B g m.arr m.cv m.cM.length (m.cM.flatMap Cm.enc) w:=⟨h.cells,rfl,h.cM,fun e=>by
 obtain⟨t,ht⟩:=h.sep
 have:=ht.c g e
 rw [ht.g] at this
 cases this⟩
theorem Mg.at_.row8 {m:Mg} {B g:Nat} {w:Su} (h:m.at_ B g w):ClAt B g m.arr m.kv m.cls w:=⟨h.cells,rfl,h.cls,fun e=>by
 obtain⟨t,ht⟩:=h.sep
 have:=ht.k g e
 rw [ht.g] at this
 cases this⟩
theorem Mg.at_.mine_ge {m:Mg} {B g b:Nat} {w:Su} (h:m.at_ B g w)(hb:m.mine g b):g≤b:=by
 have hl:=h.lt
 rcases hb with rfl|hb|hb|hb|hb
 · exact SA _
 · have:=(h.rG.lt b hb).1;omega
 · have:=(h.eV.lt b hb).1;omega
 · have:=(h.cM.lt b hb).1;omega
 · have:=(h.cls.lt b hb).1;omega
theorem Mg.at_.mine_lt {m:Mg} {B g b:Nat} {w:Su} (h:m.at_ B g w)(hb:m.mine g b):b<w.heap.size:=by
 rcases hb with rfl|hb|hb|hb|hb
 · exact h.glt
 · exact(h.rG.lt b hb).2
 · exact(h.eV.lt b hb).2
 · exact(h.cM.lt b hb).2
 · exact(h.cls.lt b hb).2
theorem Mg.step.low {m m':Mg} {B g:Nat} {w w':Su} (h:Mg.step g m m' w w')(hm:m.at_ B g w):SC g w w' :=
 h.1.below (Nat.le_of_lt hm.glt) fun k hk hs=>by have:=hm.mine_ge hs;omega
theorem wL {α:Type} {k g:Nat} {enc:α→List Sv} {w w':Su} {a:Option Addr} {xs:List α} (h:af k enc Flat w a xs)(hu:∀ b,d_ a xs b→b<g)(hb:SC g w w')(hs:w.heap.size≤w'.heap.size):af k enc Flat w' a xs :=
 af.frame h hs (fun b q=>hb.block b (hu b q)) fun _ _ _=>trivial
theorem wH (w:Su)(o:Obj):SC w.heap.size w (w.alloc o).drew:=((SQ _ _).alloc (SA _) _).drew
theorem wG (w:Su)(cs:List Sv)(T:TypeId)(j:Nat)(u:Sv)(h:cs[j]? =some u):(w.alloc (.cells cs.toArray T)).drew.cell? ((⟨w.heap.size,0,none⟩:Addr).add j)=some u :=
 nj w cs.toArray T j u (by simpa using h)
theorem Mg.at_.doc {m:Mg} {B g:Nat} {w:Su} (h:m.at_ B g w):∃ d:Doc,d.lies w∧d.hd=m.hd∧d.rG=m.rG∧d.eV=m.eV∧d.cM=m.cM∧m.arr=(d.enc++[m.kv]).toArray:=by
 obtain⟨a1,c1,e1,h1⟩:=ay (k:=7) (enc:=Reg.enc) (Ok:=Flat) (fun _=>rfl) h.rG (fun _ _=>trivial)
 obtain⟨a2,c2,e2,h2⟩:=ay (k:=7) (enc:=Ev.enc) (Ok:=Ev.lies) (fun _=>rfl) h.eV h.each
 obtain⟨a3,c3,e3,h3⟩:=ay (k:=8) (enc:=Cm.enc) (Ok:=Flat) (fun _=>rfl) h.cM (fun _ _=>trivial)
 refine⟨⟨m.hd.title,m.hd.lang,m.hd.rate,m.hd.drop,m.hd.last,a1,c1,m.rG,a2,c2,m.eV,a3,c3,m.cM⟩,⟨h1,h2,h3⟩,rfl,rfl,rfl,rfl,?_⟩
 simp only [Mg.arr,Doc.enc,e1,e2,e3]
 rfl
end Go.Proofs.YtnlnmbcaongehaaGreatDoor
namespace Go.Proofs.YtnlnmbcaongehaaGreatDoor
open Go.RowKit
def strW (x:ByteArray):List Sv:=[.string x]
theorem Is (fs:List ByteArray):fs.flatMap strW=fs.map Sv.string:=by
 induction fs with
 | nil=>rfl
 | cons x l ih=>rw [SF,ih];rfl
def mn (f:ByteArray)(fs:List ByteArray):Bool:=fs.any fun g=>f.toList==g.toList
def idxOf:Option (ByteArray × Nat)→Int
 | some (_,k)=>k
 | none=>-1
theorem F7 (f:ByteArray):∀ (fs:List ByteArray)(i:Nat),decide (0≤idxOf (aN (fun g:ByteArray=>f.toList==g.toList) fs i))=mn f fs
 | [],i=>by simp [aN,idxOf,mn]
 | y::l,i=>by
   have ih:=F7 f l (i+1)
   unfold aN mn
   rw [List.any_cons]
   cases hp:(f.toList==y.toList)
   · simp only [Bool.false_eq_true,if_false,Bool.false_or]
     exact ih
   · simp [idxOf]
theorem tY (a:Option Addr)(cap:Nat)(fs:List ByteArray)(f:ByteArray)(w:Su)(h:af 1 strW Flat w a fs)(hl:fs.length≤4000000) :
 Calls SS 201 #[.slice a fs.length cap,.string f] w fun e w'=>e=.returned (.int .i64 (idxOf (first (fun g:ByteArray=>f.toList==g.toList) fs)))∧SC w.heap.size w w':=by
 generalize hG:first (fun g:ByteArray=>f.toList==g.toList) fs=G
 have H0:=h_ (show aN (fun g:ByteArray=>f.toList==g.toList) (fs.drop 0) 0=G from hG)
 have tG:=h_ h
 generalize hQ:(fun(e:Ending) (w':Su)=>e=.returned (.int .i64 (idxOf G))∧SC w.heap.size w w')=Q
 have HQ:=h_ (fun(w':Su) (v:Int) (h:idxOf G=v) (hb:SC w.heap.size w w')=>(show Q (.returned (.int .i64 v)) w' from hQ▸⟨by rw [h],hb⟩))
 have tK:=h_ (fun(k:Nat) (x:ByteArray) (hx:fs[k]? =some x)=>kR (fun g:ByteArray=>f.toList==g.toList) fs k x hx)
 clear hQ hG h
 go_enter Tryz.func201,Tryz.ntmps201
 go_wp2_with fail
 go_loopw [8] (fun i wr=>∃ k:Nat,k≤fs.length∧i=.int .i64 k∧aN (fun g:ByteArray=>f.toList==g.toList) (fs.drop k) k=G∧wr=w) (fun i _=>fs.length-(intOf i).toNat)
 case atStart=>exact⟨0,by omega,rfl,H0.out,rfl⟩
 case round =>
  obtain⟨k,hk,rfl,hp,rfl⟩:=hrel
  by_cases hlt:k<fs.length
  · obtain⟨b,off,x,rfl,hbl,hxk,hc,_⟩:=tG.out.at_ hlt
    rw [tK.out k x hxk] at hp
    have d0:=hc 0 _ rfl
    simp only [Nat.mul_one,Sz] at d0
    clear hc hxk
    cases hkq:(f.toList==x.toList)
    · rw [if_neg (by rw [hkq];decide)] at hp
      have HP:=h_ hp
      clear hp H0
      go_wp2_with fail
      go_roundw
      case rel=>exact⟨k+1,by omega,by go_num,HP.out,trivial⟩
      case measure=>simp [intOf];omega
    · rw [if_pos hkq] at hp
      have HP:=h_ hp
      clear hp H0
      go_wp2_with fail
      exact HQ.out _ _ (by rw [←HP.out];rfl) (SQ _ _)
  · obtain rfl:k=fs.length:=by omega
    rw [SN,aN] at hp
    have HP:=h_ hp
    clear hp H0
    go_wp2_with fail
    exact HQ.out _ _ (by rw [←HP.out];rfl) (SQ _ _)
theorem uq (a:Option Addr)(cap:Nat)(fs:List ByteArray)(f:ByteArray)(w:Su)(h:af 1 strW Flat w a fs)(hl:fs.length≤4000000) :
 Calls SS 138 #[.slice a fs.length cap,.string f] w fun e w'=>e=.returned (.bool (mn f fs))∧SC w.heap.size w w':=by
 have HI:=h_ (tY a cap fs f w h hl)
 have hi:=F7 f fs 0
 unfold first at HI
 generalize idxOf (aN (fun g:ByteArray=>f.toList==g.toList) fs 0)=I at *
 generalize mn f fs=H at *
 subst hi
 clear h
 go_enter Tryz.func138,Tryz.ntmps138
 go_wp2_with fail
 refine HI.out.mono ?_
 rintro e w1 ⟨rfl,hb⟩
 go_wp2_with fail
 go_ret
 exact⟨rfl,hb⟩
theorem IT (rG:List Reg)(p:EvC × List ByteArray):(fZ rG p).1.id=p.1.id:=by
 unfold fZ
 split<;>rfl
theorem IV {x y z:Option EvC} {id:Int} (hx:∀ e,x=some e→e.id=id)(hy:∀ e,y=some e→e.id=id)(hz:∀ e,z=some e→e.id=id)(hne:¬ (x=none∧y=none∧z=none)) {p:EvC × List ByteArray} (h:fK x y z=some p):p.1.id=id:=by
 cases x with
 | none =>
   cases y with
   | none =>
     cases z with
     | none=>exact absurd ⟨rfl,rfl,rfl⟩ hne
     | some e =>
       simp only [fK,SE] at h
       rw [←h]
       exact hz e rfl
   | some e =>
     simp only [fK,SE] at h
     rw [←h]
     exact hy e rfl
 | some a =>
   cases y with
   | none =>
     cases z with
     | none=>simp [fK] at h
     | some e =>
       simp only [fK] at h
       split at h
       · cases h
       · rw [←SD h]
         exact hz e rfl
   | some e =>
     cases z with
     | none =>
       simp only [fK] at h
       split at h
       · cases h
       · rw [←SD h]
         exact hy e rfl
     | some f =>
       simp only [fK,SE] at h
       rw [←h]
       exact hx a rfl
theorem FO {rG:List Reg} {a b c:List EvC} {id:Int} (hid:id∈aY a b c) {p:EvC × List ByteArray} (h:mgEv rG a b c id=some p):p.1.id=id:=by
 obtain⟨q,hq,rfl⟩:=SW.1 h
 rw [IT]
 refine IV (fun e he=>(bw he).2) (fun e he=>(bw he).2) (fun e he=>(bw he).2) ?_ hq
 rintro ⟨h1,h2,h3⟩
 rcases((jf a b c).2 id).1 hid with h|h|h
 · exact lR h1 h
 · exact lR h2 h
 · exact lR h3 h
theorem GA {rG:List Reg} {a b c:List EvC}:∀ ids:List Int,ids.Pairwise (·<·)→(∀ id∈ids,id∈aY a b c)→(jl rG a b c ids).Pairwise fun x y=>x.id<y.id
 | [],_,_=>List.Pairwise.nil
 | id::l,h,hm=>by
   have ih:=GA (rG:=rG) l (SL.1 h).2 fun i hi=>hm i (by simp [hi])
   unfold jl at *
   rw [SF]
   refine List.pairwise_append.2 ⟨?_,ih,fun x hx y hy=>?_⟩
   · cases ((mgEv rG a b c id).map (·.1))<;>simp
   · rw [SX] at hx
     obtain⟨p,hp,rfl⟩:=SW.1 (SY.1 hx)
     obtain⟨j,hj,hy⟩:=List.mem_flatMap.1 hy
     rw [SX] at hy
     obtain⟨q,hq,rfl⟩:=SW.1 (SY.1 hy)
     rw [FO (hm id (by simp)) hp,FO (hm j (by simp [hj])) hq]
     exact(SL.1 h).1 j hj
theorem Fi {zs ys:List Ev} (hp:(ys.map Ev.c).Perm (zs.map Ev.c))(hs:ys.Pairwise fun x y=>ltOf rD y x=false)(hi:(zs.map Ev.c).Pairwise fun x y=>x.id<y.id):ys.map Ev.c=fM (zs.map Ev.c):=by
 refine pg hp ?_ (hi.imp fun h=>by omega)
 rw [List.pairwise_map]
 refine hs.imp fun {x y} h=>?_
 rw [nf] at h
 simp only [decide_eq_false_iff_not] at h
 simp only [evLe,decide_eq_true_eq]
 show x.inn<y.inn∨(x.inn=y.inn∧x.id≤y.id)
 omega
theorem jk {α:Type} (eq:α→α→Bool)(x y z:α)(P:α→Prop)(hx:P x)(hy:P y)(hz:P z):P (aF eq x y z).1:=by
 rcases CM eq x y z with h|h|h<;>rw [h]<;>assumption
theorem BD {x y z:EvC} (hx:x.fits)(hy:y.fits)(hz:z.fits):(lE x y z).fits:=by
 obtain⟨x1,x2,x3,x4,x5,x6,x7,x8,x9⟩:=hx
 obtain⟨y1,y2,y3,y4,y5,y6,y7,y8,y9⟩:=hy
 obtain⟨z1,z2,z3,z4,z5,z6,z7,z8,z9⟩:=hz
 have h1:=jk fu (x.inn,x.out) (y.inn,y.out) (z.inn,z.out) (fun p=>i64 p.1∧i64 p.2) ⟨x2,x3⟩ ⟨y2,y3⟩ ⟨z2,z3⟩
 have h2:=jk fH x.region y.region z.region (fun p=>p.size≤4000000) x4 y4 z4
 have h3:=jk jd x.kind y.kind z.kind (fun p=>0≤p∧p≤255) ⟨x5,x6⟩ ⟨y5,y6⟩ ⟨z5,z6⟩
 have h4:=jk fH x.speaker y.speaker z.speaker (fun p=>p.size≤4000000) x7 y7 z7
 have h5:=jk mM x.rows y.rows z.rows (fun p=>(∀ r∈p,(∀ y∈r,y.fits)∧r.length≤4000000∧fE r≤4000000)∧p.length≤4000000) ⟨x8,x9⟩ ⟨y8,y9⟩ ⟨z8,z9⟩
 exact⟨x1,h1.1,h1.2,h2,h3.1,h3.2,h4,h5.1,h5.2⟩
theorem lQ (b:Bool)(f:ByteArray):(fIf b f).length≤1:=by cases b<;>simp [fIf]
theorem D2 (x y z:EvC):(eL x y z).length≤5:=by
 unfold eL
 simp only [SI]
 have h1:=lQ (ot x y z).2 jI
 have h2:=lQ (kM x y z).2 bf
 have h3:=lQ (qA x y z).2 rC
 have h4:=lQ (jc x y z).2 jH
 have h5:=lQ (yJ x y z).2 Em
 omega
theorem vk (rG:List Reg)(a b c:List EvC)(ids:List Int)(k:Nat)(id:Int)(h:ids[k]? =some id):jl rG a b c (ids.take (k+1))=jl rG a b c (ids.take k)++((mgEv rG a b c id).map (·.1)).toList:=by
 unfold jl
 rw [SM,h,SK]
 simp
def lU (id:Int)(fs:List ByteArray):List Cl:=fs.map fun f=>⟨3,id,aG,f⟩
theorem su (rG:List Reg)(a b c:List EvC)(ids:List Int)(k:Nat)(id:Int)(h:ids[k]? =some id):fJ rG a b c (ids.take (k+1))=fJ rG a b c (ids.take k)++lU id (((mgEv rG a b c id).map (·.2)).getD []):=by
 unfold fJ lU
 rw [SM,h,SK]
 simp
theorem sW (a b c:List EvC):(aY a b c).length≤a.length+b.length+c.length:=by
 refine Sw (Lib.compact_length_le _) ?_
 unfold aR
 rw [SG]
 simp
 omega
theorem GG {a b c:List EvC} (ha:∀ e∈a,e.fits)(hb:∀ e∈b,e.fits)(hc:∀ e∈c,e.fits) {id:Int} (h:id∈aY a b c):i64 id:=by
 rcases((jf a b c).2 id).1 h with⟨e,he,rfl⟩|⟨e,he,rfl⟩|⟨e,he,rfl⟩
 · exact(ha e he).1
 · exact(hb e he).1
 · exact(hc e he).1
theorem yN {x y z:Option EvC} {p:EvC × List ByteArray} (h:fK x y z=some p):p.2.length≤5:=by
 cases x<;>cases y<;>cases z<;>simp only [fK,SE,reduceCtorEq] at h
 all_goals first
  | (rw [←h];exact D2 _ _ _)
  | (rw [←h];simp)
  | (split at h
     · cases h
     · rw [←SD h];simp)
theorem yM (rG:List Reg)(p:EvC × List ByteArray):(fZ rG p).2.length≤p.2.length+1:=by
 unfold fZ
 split
 · omega
 · simp only
   split
   · omega
   · simp
theorem IU {rG:List Reg} {a b c:List EvC} {id:Int} {p:EvC × List ByteArray} (h:mgEv rG a b c id=some p):p.2.length≤6:=by
 obtain⟨q,hq,rfl⟩:=SW.1 h
 have:=yN hq
 have:=yM rG q
 omega
theorem mT (rG:List Reg)(a b c:List EvC):∀ ids:List Int,(jl rG a b c ids).length≤ids.length∧(fJ rG a b c ids).length≤6*ids.length
 | []=>by simp [jl,fJ]
 | id::l=>by
   have ih:=mT rG a b c l
   have h1:((mgEv rG a b c id).map (·.1)).toList.length≤1:=by cases (mgEv rG a b c id)<;>simp
   have h2:((((mgEv rG a b c id).map (·.2)).getD []).map fun f=>(⟨3,id,aG,f⟩:Cl)).length≤6:=by
    cases hq:mgEv rG a b c id with
    | none=>simp
    | some p =>
      have:=IU hq
      simpa using this
   unfold jl fJ at *
   rw [SF,SF,SI,SI,List.length_cons]
   omega
theorem Ov {xs ys zs:List Ev} {l:List Int} (h1:l.Pairwise (·<·))(F:Nat→Int→Option Sv)(hF:F 0=bA xs∧F 1=bA ys∧F 2=bA zs)(h2:∀ z,z∈l↔∃ j,j<3∧(F j z).isSome=true):l=aY (xs.map Ev.c) (ys.map Ev.c) (zs.map Ev.c):=by
 obtain⟨q1,q2⟩:=jf (xs.map Ev.c) (ys.map Ev.c) (zs.map Ev.c)
 have key:∀ (ws:List Ev) (k:Int),(bA ws k).isSome=true↔∃ e∈ws.map Ev.c,e.id=k:=fun ws k=>by
  unfold bA
  rw [Option.isSome_map,List.find?_isSome]
  constructor
  · rintro ⟨e,he,hk⟩
    exact⟨e.c,SO.2 ⟨e,he,rfl⟩,by have q:e.id=k:=by simpa using hk
                                 exact q⟩
  · rintro ⟨c,hc,hk⟩
    obtain⟨e,he,rfl⟩:=SO.1 hc
    exact⟨e,he,by have q:e.id=k:=hk
                  simpa using q⟩
 refine tk (fun a b:Int=>a<b) (fun a h=>by omega) (fun a b h h'=>by omega) _ _ h1 q1 fun k=>?_
 rw [h2,q2,←key xs,←key ys,←key zs,←hF.1,←hF.2.1,←hF.2.2]
 constructor
 · rintro ⟨j,hj,h⟩
   rcases(show j=0∨j=1∨j=2 by omega) with rfl|rfl|rfl
   · exact .inl h
   · exact .inr (.inl h)
   · exact .inr (.inr h)
 · rintro (h|h|h)
   · exact⟨0,by omega,h⟩
   · exact⟨1,by omega,h⟩
   · exact⟨2,by omega,h⟩
def nv (F:Nat→Int→Option Sv)(w:Su)(e:Ending)(w':Su):Prop:=∃ (l:List Int) (v:Sv),e=.returned v∧l.Pairwise (·<·)∧(∀ z,z∈l↔∃ j,j<3∧(F j z).isSome=true)∧w'.ownsRow w.heap.size 2 1 v l.length (l.map (SZ .i64))∧SC w.heap.size w w'
def vG (F:Nat→Int→Option Sv)(n:Nat)(w:Su)(k:Nat)(v:Sv)(wr:Su):Prop:=∃ ks:List Int,wr.ownsRow w.heap.size 2 1 v ks.length (ks.map (SZ .i64))∧(∀ z,z∈ks↔∃ j,j<k∧(F j z).isSome=true)∧ks.length≤k*n∧SC w.heap.size w wr
theorem vG.start (F:Nat→Int→Option Sv)(n:Nat)(w:Su):vG F n w 0 (.slice none 0 0) w:=⟨[],Su.ownsRow_nil _ _ _ _,fun z=>by simp,by simp,SQ _ _⟩
theorem CY {w w1 w2:Su} {bk r0 n cnt B m:Nat} {f:Int→Option Sv} {left:Int→Bool} {v v':Sv} {ks:List Sv} {cs:Array Sv} (h:VRange w1 bk r0 n f left cnt)(ho:w1.ownsRow B 2 1 v m ks)(hb:bk<B)(hn:v.ownBlock≠some r0)(hg:(w1.alloc (.cells cs 2)).grownBy w2 v.ownBlock)(ha:v'.ownBlock=v.ownBlock∨v'.ownBlock=some (w1.heap.size+1))(hB:SC B w w1)(hs:B≤w1.heap.size:=by omega) :
 VRange w2 bk r0 n f left cnt∧SC B w w2∧v'.ownBlock≠some r0:=by
 have hlt:=h.lt
 have hk:∀ b,b<w1.heap.size→v.ownBlock≠some b→w2.heap[b]? =w1.heap[b]?:=fun b h1 h2=>by
  rw [hg.block b (by simp;omega) (fun e=>h2 e.symm),SC.heap_alloc _ _ _ h1]
 refine⟨h.kept (hk bk hlt.2.1 (fun e=>?_)) (hk r0 hlt.1 hn),(hB.alloc hs _).grown hg (by simp;omega) (fun j hj=>(ho.lt j hj).1),fun e=>?_⟩
 · have:=(ho.lt bk e).1
   omega
 · rcases ha with ha|ha
   · exact hn (ha.symm.trans e)
   · rw [ha] at e
     have:=SD e
     omega
theorem yZ (g:Nat)(B3:Nat→Nat)(n:Nat)(F:Nat→Int→Option Sv)(w:Su)(d0:w.cell? ⟨g,0,none⟩=some (.map (some (B3 0))))(d1:w.cell? ⟨g,1,none⟩=some (.map (some (B3 1))))(d2:w.cell? ⟨g,2,none⟩=some (.map (some (B3 2))))(hg:g<w.heap.size)
 (hM:∀ j,VMap w (B3 j) n (F j)) (hn:n≤1000000) :
 Calls SS 136 #[.slice (some ⟨g,0,none⟩) 3 3] w (nv F w):=by
 have aA:=h_ (fun(v:Sv) (ks:List Int) (wr:Su) (hb:SC w.heap.size w wr) (ho:wr.ownsRow w.heap.size 2 1 v ks.length (ks.map (SZ .i64))) (hl:ks.length≤3*n)=>gR w.heap.size v ks wr ho (by omega) hb.size)
 have rF:=h_ (fun(v:Sv) (ks:List Int) (wr:Su) (ho:wr.ownsRow w.heap.size 2 1 v (aR ks).length ((aR ks).map (SZ .i64))) (hl:ks.length≤3*n)=>fS w.heap.size v (aR ks) wr ho (by unfold aR;rw [SG];omega))
 have HQ:=h_ (fun(v:Sv) (ks:List Int) (w':Su) (h:∀ z,z∈ks↔∃ j,j<3∧(F j z).isSome=true) (hl:ks.length≤3*n) (ho:w'.ownsRow w.heap.size 2 1 v (S5 (aR ks)).length ((S5 (aR ks)).map (SZ .i64))) (hb:SC w.heap.size w w')=>(show nv F w (.returned v) w' from
  ⟨_,v,rfl,(i_ ks).1,fun z=>((i_ ks).2 z).trans (h z),ho,hb⟩))
 obtain⟨j0,hj,hy0,hy1,hy2⟩:=info_parts Tryz.info2
 have JI:=h_ hj;have J0:=h_ hy0;have J1:=h_ hy1;have J2:=h_ hy2
 have mw:=h_ (fun(k:Nat) (hk:k<3) (wr:Su) (hb:SC w.heap.size w wr)=>(show wr.cell? ⟨g,k,none⟩=some (.map (some (B3 k))) from by
  rw [hb.cell (p:=⟨g,k,none⟩) hg]
  rcases(show k=0∨k=1∨k=2 by omega) with rfl|rfl|rfl
  · exact d0
  · exact d1
  · exact d2))
 have tt:=h_ (fun(k:Nat) (wr:Su) (hb:SC w.heap.size w wr)=>(hM k).below hb (hM k).lt)
 have HBL:=h_ (fun(k:Nat)=>(hM k).lt)
 generalize nv F w=Q at *
 clear hj hy0 hy1 hy2 d0 d1 d2 hM
 go_enter Tryz.func136,Tryz.ntmps136
 go_wp2_with fail
 go_loopw [3,9] (fun v i wr=>∃ k:Nat,k≤3∧i=.int .i64 k∧vG F n w k v wr) (fun _ i _=>3-(intOf i).toNat)
 case atStart=>exact⟨0,by omega,rfl,vG.start F n w⟩
 case round =>
  obtain⟨k,hk,rfl,ks,ho,hmem,hlen,hb⟩:=hrel
  by_cases hlt:k<3
  · have hkz:decide ((k:Int)<3)=true:=by simp;omega
    have hc:=mw.out k hlt wr hb
    have HM:=h_ (tt.out k wr hb)
    have hbl:=HBL.out k
    have HW:=h_ hb
    have HO:=h_ ho
    have uR:=h_ hmem
    have hs:=hb.size
    have P_:=h_ (fun j (h:u3.ownBlock=some j)=>(ho.lt j h).2)
    clear ho hmem hb
    generalize B3 k=bk at *
    go_wp2_with (first|(at_range;refine fO _ rfl _ 145 50 rfl Tryz.underlying145 bk n (F k) rfl HM.out ?_;intro w0 cnt0 hr0 hcn hg0 hs0))
    go_frame
    have Cw:=h_ (HW.out.grown hg0 hs (fun k h=>by cases h))
    have Qb:=h_ (ah HO.out (fun b h=>hg0.block b (P_.out b h) (by simp)))
    have ll:=h_ hr0
    have xT:=h_ (fun(e:u3.ownBlock=some wr.heap.size)=>Sy _ (P_.out _ e))
    clear hr0 hg0
    generalize wr.heap.size=r0 at *
    clear hc
    go_loopw [3] (fun v wr=>∃ left cnt ks',VRange wr bk r0 n (F k) left cnt∧wr.ownsRow w.heap.size 2 1 v ks'.length (ks'.map (SZ .i64))∧Keys (F k) left ks ks'∧ks'.length+cnt≤(k+1)*n∧v.ownBlock≠some r0∧SC w.heap.size w wr) (fun _ wr=>wr.rangeLeft bk r0)
    case atStart=>exact⟨_,cnt0,ks,ll.out,Qb.out,Keys.start _ _,by rw [SB];omega,xT.out,Cw.out⟩
    case round =>
     obtain⟨left,cnt,ks',hR,hO,hK,hL,hN,hB⟩:=hrel
     have HR:=h_ hR
     have HK:=h_ hK
     have kH:=h_ hO
     have HB2:=h_ hB
     have HL2:=h_ hL
     have JT:=h_ hN
     have sK:=hB.size
     clear hR hK hO hB hL hN ll Qb xT Cw
     go_wp2_with (at_next;refine gQ _ rfl _ rfl bk r0 n (F k) left cnt rfl HR.out ?done ?more)
     case done =>
      intro hc0 hl0
      have HD:=h_ (HK.out.fin hl0)
      have HL3:=h_ HL2.out
      go_wp2_with fail
      go_roundw
      case rel=>exact⟨k+1,by omega,by go_num,ks',kH.out,fun z=>by
       rw [HD.out z,uR.out z]
       constructor
       · rintro (⟨j,hj,h⟩|h)
         · exact⟨j,by omega,h⟩
         · exact⟨k,by omega,h⟩
       · rintro ⟨j,hj,h⟩
         by_cases hjk:j=k
         · subst hjk;exact .inr h
         · exact .inl ⟨j,by omega,h⟩,by have:=HL3.out;omega,HB2.out⟩
      case measure=>simp [intOf];omega
     case more =>
      intro x v w1 cnt1 hx hlx hfx Gs hlt1 hg1 hs1 hen
      have HR1:=h_ Gs
      have HG1:=h_ hg1
      have KW:=h_ hfx
      have Cu:=h_ hlx
      have qW:=h_ (ah kH.out (fun b h=>hg1.block b (kH.out.lt b h).2 (by intro e;exact JT.out (h.trans e))))
      have HB3:=h_ (show SC w.heap.size w w1 from HB2.out.grown hg1 sK (fun j h=>by cases h;exact hs))
      have iY:=h_ hlt1
      have EN:=h_ HR.out.left_eq
      clear Gs hg1 hfx hlx hlt1
      have lF:=h_ hs1
      clear hs1
      have hsz1:w.heap.size≤w1.heap.size:=HB3.out.size
      have hks:ks'.length+cnt≤3*n:=Sw HL2.out (Sx n (by omega))
      go_wp2_with (at_builtin;refine aI _ _ rfl (.tmp 19) (.tmp 21) 85 rfl w.heap.size 2 j0 _ 1 8 SU JI.out J0.out J1.out J2.out rfl (by decide) _ _ _ rfl qW.out _ rfl rfl rfl ?h1 ?h63 ?hb ?hbase ?_)
      case h1=>first|rfl|(intro u hu;simp at hu;subst hu;rfl)
      case h63=>have:=iY.out;unfold maxLen;omega
      case hb=>have:=iY.out;omega
      case hbase=>exact hsz1
      intro v' w2 hown2 hgrow2 lg
      have Cp:=h_ hown2
      have HG2:=h_ hgrow2
      have HA2:=h_ lg
      clear hown2 hgrow2 lg
      have EL:=h_ (CY HR1.out qW.out hbl JT.out HG2.out HA2.out HB3.out)
      go_wp2_with fail
      go_roundw
      case rel=>exact⟨_,cnt1,ks'++[x],EL.out.1,by simpa using Cp.out,HK.out.step Cu.out KW.out,by have:=iY.out;have:=HL2.out;simp;omega,EL.out.2.2,EL.out.2.1⟩
      case measure=>rw [EL.out.1.left_eq,EN.out];exact iY.out
  · obtain rfl:k=3:=by omega
    have hlen3:ks.length≤3*n:=hlen
    obtain⟨av2,cv2,Gp⟩:∃ a c,u3=.slice a ks.length c:=by
     rcases ho.2 with⟨rfl,h0⟩|⟨g,cap,_,rfl,_⟩
     · exact⟨none,0,by rw [h0]⟩
     · exact⟨_,_,rfl⟩
    subst Gp
    have fD:=h_ (aA.out _ ks wr hb ho hlen3)
    have vH:=h_ hb
    have uR:=h_ hmem
    have HL:=h_ hlen3
    clear ho hmem hb hlen hlen3 aA
    go_wp2_with fail
    refine fD.out.mono ?_
    rintro e w2 ⟨rfl,ho2,hb2⟩
    have ji:=h_ (rF.out _ ks _ ho2 HL.out)
    have HB2:=h_ hb2
    clear ho2 hb2
    go_wp2_with fail
    refine ji.out.mono ?_
    rintro e w3 ⟨v3,rfl,ho3,hb3⟩
    have qk:=h_ (HQ.out _ ks _ uR.out HL.out ho3 ((vH.out.trans HB2.out).trans hb3))
    clear ho3 hb3
    go_wp2_with fail
    exact qk.out
theorem yY (g:Nat)(B3:Nat→Nat)(n:Nat)(F:Nat→Int→Option Sv)(w:Su)(d0:w.cell? ⟨g,0,none⟩=some (.map (some (B3 0))))(d1:w.cell? ⟨g,1,none⟩=some (.map (some (B3 1))))(d2:w.cell? ⟨g,2,none⟩=some (.map (some (B3 2))))(hg:g<w.heap.size)
 (hM:∀ j,VMap w (B3 j) n (F j)) (hn:n≤1000000) :
 Calls SS 140 #[.slice (some ⟨g,0,none⟩) 3 3] w (nv F w):=by
 have aA:=h_ (fun(v:Sv) (ks:List Int) (wr:Su) (hb:SC w.heap.size w wr) (ho:wr.ownsRow w.heap.size 2 1 v ks.length (ks.map (SZ .i64))) (hl:ks.length≤3*n)=>gR w.heap.size v ks wr ho (by omega) hb.size)
 have rF:=h_ (fun(v:Sv) (ks:List Int) (wr:Su) (ho:wr.ownsRow w.heap.size 2 1 v (aR ks).length ((aR ks).map (SZ .i64))) (hl:ks.length≤3*n)=>fS w.heap.size v (aR ks) wr ho (by unfold aR;rw [SG];omega))
 have HQ:=h_ (fun(v:Sv) (ks:List Int) (w':Su) (h:∀ z,z∈ks↔∃ j,j<3∧(F j z).isSome=true) (hl:ks.length≤3*n) (ho:w'.ownsRow w.heap.size 2 1 v (S5 (aR ks)).length ((S5 (aR ks)).map (SZ .i64))) (hb:SC w.heap.size w w')=>(show nv F w (.returned v) w' from
  ⟨_,v,rfl,(i_ ks).1,fun z=>((i_ ks).2 z).trans (h z),ho,hb⟩))
 obtain⟨j0,hj,hy0,hy1,hy2⟩:=info_parts Tryz.info2
 have JI:=h_ hj;have J0:=h_ hy0;have J1:=h_ hy1;have J2:=h_ hy2
 have mw:=h_ (fun(k:Nat) (hk:k<3) (wr:Su) (hb:SC w.heap.size w wr)=>(show wr.cell? ⟨g,k,none⟩=some (.map (some (B3 k))) from by
  rw [hb.cell (p:=⟨g,k,none⟩) hg]
  rcases(show k=0∨k=1∨k=2 by omega) with rfl|rfl|rfl
  · exact d0
  · exact d1
  · exact d2))
 have tt:=h_ (fun(k:Nat) (wr:Su) (hb:SC w.heap.size w wr)=>(hM k).below hb (hM k).lt)
 have HBL:=h_ (fun(k:Nat)=>(hM k).lt)
 generalize nv F w=Q at *
 clear hj hy0 hy1 hy2 d0 d1 d2 hM
 go_enter Tryz.func140,Tryz.ntmps140
 go_wp2_with fail
 go_loopw [3,9] (fun v i wr=>∃ k:Nat,k≤3∧i=.int .i64 k∧vG F n w k v wr) (fun _ i _=>3-(intOf i).toNat)
 case atStart=>exact⟨0,by omega,rfl,vG.start F n w⟩
 case round =>
  obtain⟨k,hk,rfl,ks,ho,hmem,hlen,hb⟩:=hrel
  by_cases hlt:k<3
  · have hkz:decide ((k:Int)<3)=true:=by simp;omega
    have hc:=mw.out k hlt wr hb
    have HM:=h_ (tt.out k wr hb)
    have hbl:=HBL.out k
    have HW:=h_ hb
    have HO:=h_ ho
    have uR:=h_ hmem
    have hs:=hb.size
    have P_:=h_ (fun j (h:u3.ownBlock=some j)=>(ho.lt j h).2)
    clear ho hmem hb
    generalize B3 k=bk at *
    go_wp2_with (first|(at_range;refine fO _ rfl _ 146 52 rfl Tryz.underlying146 bk n (F k) rfl HM.out ?_;intro w0 cnt0 hr0 hcn hg0 hs0))
    go_frame
    have Cw:=h_ (HW.out.grown hg0 hs (fun k h=>by cases h))
    have Qb:=h_ (ah HO.out (fun b h=>hg0.block b (P_.out b h) (by simp)))
    have ll:=h_ hr0
    have xT:=h_ (fun(e:u3.ownBlock=some wr.heap.size)=>Sy _ (P_.out _ e))
    clear hr0 hg0
    generalize wr.heap.size=r0 at *
    clear hc
    go_loopw [3] (fun v wr=>∃ left cnt ks',VRange wr bk r0 n (F k) left cnt∧wr.ownsRow w.heap.size 2 1 v ks'.length (ks'.map (SZ .i64))∧Keys (F k) left ks ks'∧ks'.length+cnt≤(k+1)*n∧v.ownBlock≠some r0∧SC w.heap.size w wr) (fun _ wr=>wr.rangeLeft bk r0)
    case atStart=>exact⟨_,cnt0,ks,ll.out,Qb.out,Keys.start _ _,by rw [SB];omega,xT.out,Cw.out⟩
    case round =>
     obtain⟨left,cnt,ks',hR,hO,hK,hL,hN,hB⟩:=hrel
     have HR:=h_ hR
     have HK:=h_ hK
     have kH:=h_ hO
     have HB2:=h_ hB
     have HL2:=h_ hL
     have JT:=h_ hN
     have sK:=hB.size
     clear hR hK hO hB hL hN ll Qb xT Cw
     go_wp2_with (at_next;refine gQ _ rfl _ rfl bk r0 n (F k) left cnt rfl HR.out ?done ?more)
     case done =>
      intro hc0 hl0
      have HD:=h_ (HK.out.fin hl0)
      have HL3:=h_ HL2.out
      go_wp2_with fail
      go_roundw
      case rel=>exact⟨k+1,by omega,by go_num,ks',kH.out,fun z=>by
       rw [HD.out z,uR.out z]
       constructor
       · rintro (⟨j,hj,h⟩|h)
         · exact⟨j,by omega,h⟩
         · exact⟨k,by omega,h⟩
       · rintro ⟨j,hj,h⟩
         by_cases hjk:j=k
         · subst hjk;exact .inr h
         · exact .inl ⟨j,by omega,h⟩,by have:=HL3.out;omega,HB2.out⟩
      case measure=>simp [intOf];omega
     case more =>
      intro x v w1 cnt1 hx hlx hfx Gs hlt1 hg1 hs1 hen
      have HR1:=h_ Gs
      have HG1:=h_ hg1
      have KW:=h_ hfx
      have Cu:=h_ hlx
      have qW:=h_ (ah kH.out (fun b h=>hg1.block b (kH.out.lt b h).2 (by intro e;exact JT.out (h.trans e))))
      have HB3:=h_ (show SC w.heap.size w w1 from HB2.out.grown hg1 sK (fun j h=>by cases h;exact hs))
      have iY:=h_ hlt1
      have EN:=h_ HR.out.left_eq
      clear Gs hg1 hfx hlx hlt1
      have lF:=h_ hs1
      clear hs1
      have hsz1:w.heap.size≤w1.heap.size:=HB3.out.size
      have hks:ks'.length+cnt≤3*n:=Sw HL2.out (Sx n (by omega))
      go_wp2_with (at_builtin;refine aI _ _ rfl (.tmp 19) (.tmp 21) 85 rfl w.heap.size 2 j0 _ 1 8 SU JI.out J0.out J1.out J2.out rfl (by decide) _ _ _ rfl qW.out _ rfl rfl rfl ?h1 ?h63 ?hb ?hbase ?_)
      case h1=>first|rfl|(intro u hu;simp at hu;subst hu;rfl)
      case h63=>have:=iY.out;unfold maxLen;omega
      case hb=>have:=iY.out;omega
      case hbase=>exact hsz1
      intro v' w2 hown2 hgrow2 lg
      have Cp:=h_ hown2
      have HG2:=h_ hgrow2
      have HA2:=h_ lg
      clear hown2 hgrow2 lg
      have EL:=h_ (CY HR1.out qW.out hbl JT.out HG2.out HA2.out HB3.out)
      go_wp2_with fail
      go_roundw
      case rel=>exact⟨_,cnt1,ks'++[x],EL.out.1,by simpa using Cp.out,HK.out.step Cu.out KW.out,by have:=iY.out;have:=HL2.out;simp;omega,EL.out.2.2,EL.out.2.1⟩
      case measure=>rw [EL.out.1.left_eq,EN.out];exact iY.out
  · obtain rfl:k=3:=by omega
    have hlen3:ks.length≤3*n:=hlen
    obtain⟨av2,cv2,Gp⟩:∃ a c,u3=.slice a ks.length c:=by
     rcases ho.2 with⟨rfl,h0⟩|⟨g,cap,_,rfl,_⟩
     · exact⟨none,0,by rw [h0]⟩
     · exact⟨_,_,rfl⟩
    subst Gp
    have fD:=h_ (aA.out _ ks wr hb ho hlen3)
    have vH:=h_ hb
    have uR:=h_ hmem
    have HL:=h_ hlen3
    clear ho hmem hb hlen hlen3 aA
    go_wp2_with fail
    refine fD.out.mono ?_
    rintro e w2 ⟨rfl,ho2,hb2⟩
    have ji:=h_ (rF.out _ ks _ ho2 HL.out)
    have HB2:=h_ hb2
    clear ho2 hb2
    go_wp2_with fail
    refine ji.out.mono ?_
    rintro e w3 ⟨v3,rfl,ho3,hb3⟩
    have qk:=h_ (HQ.out _ ks _ uR.out HL.out ho3 ((vH.out.trans HB2.out).trans hb3))
    clear ho3 hb3
    go_wp2_with fail
    exact qk.out
def oI:Option Reg→Reg × Bool
 | some r=>(r,true)
 | none=>(aD,false)
theorem IW (x y:Option Reg):FQ x y=may8 (oI x) (oI y):=by
 cases x<;>cases y<;>simp [oI,FQ,may8,vj]
theorem DN (xs:List Reg)(n:ByteArray)(k:Nat)(x:Reg)(h:xs[k]? =some x):bI (xs.drop k) n=if (x.name.toList==n.toList)=true then some x else bI (xs.drop (k+1)) n:=by
 rw [eT xs k x h]
 unfold bI
 rw [List.find?_cons]
 show(match oT n x with|true=>some x|false=>_)=_
 unfold oT
 cases (x.name.toList==n.toList)<;>rfl
theorem oE (a:Option Addr)(cap:Nat)(xs:List Reg)(nk:ByteArray)(w:Su)(h:Regs w a xs)(hl:xs.length≤8000000) :
 Calls SS 134 #[.slice a xs.length cap,.string nk] w fun e w'=>e=.returned (.agg (bj (oI (bI xs nk))))∧SC w.heap.size w w':=by
 generalize hG:bI xs nk=G
 have H0:=h_ (show bI (xs.drop 0) nk=G from hG)
 have tG:=h_ (fun(w':Su) (hb:SC w.heap.size w w')=>h.later hb)
 generalize hQ:(fun(e:Ending) (w':Su)=>e=.returned (.agg (bj (oI G)))∧SC w.heap.size w w')=Q
 have HQ:=h_ (fun(w':Su) (v:Array Sv) (h:bj (oI G)=v) (hb:SC w.heap.size w w')=>(show Q (.returned (.agg v)) w' from hQ▸⟨by rw [h],hb⟩))
 clear hQ
 have tK:=h_ (fun(k:Nat) (x:Reg) (hx:xs[k]? =some x)=>DN xs nk k x hx)
 obtain⟨zc,hzc⟩:∃ zc:Array Sv,zc=#[.string ⟨#[]⟩,.int .i64 0,.int .i64 0,.int .i64 0,.int .i64 0,.int .u8 0,.bool false,.bool false]:=⟨_,rfl⟩
 have HB0:=h_ (fun(w1:Su) (hb:SC (w.heap.size+1) (w.alloc (.cells zc 198)) w1)=>(show SC w.heap.size w w1 from aU hb))
 have HZ:=h_ (fun(w1:Su) (hb:SC (w.heap.size+1) (w.alloc (.cells zc 198)) w1)=>(show w1.heap[w.heap.size]? =some (.cells zc 198 (0,0)) by
  rw [hb.block _ (by omega)]
  exact heap_alloc_last w _))
 have sM:SC (w.heap.size+1) (w.alloc (.cells zc 198)) (w.alloc (.cells zc 198)):=SQ _ _
 have hsz:(w.alloc (.cells zc 198)).heap.size=w.heap.size+1:=Su.size_alloc _ _
 rw [hzc] at HB0 sM hsz HZ
 generalize hW0:w.alloc (.cells #[.string ⟨#[]⟩,.int .i64 0,.int .i64 0,.int .i64 0,.int .i64 0,.int .u8 0,.bool false,.bool false] 198)=W0 at *
 have HW0:=h_ hW0
 have bu:=h_ hsz
 clear hW0 hsz hG h hzc zc
 go_enter Tryz.func134,Tryz.ntmps134
 go_wp2_with fail
 rw [HW0.out]
 go_loopw [9] (fun i wr=>∃ k:Nat,k≤xs.length∧i=.int .i64 k∧bI (xs.drop k) nk=G∧SC (w.heap.size+1) W0 wr) (fun i _=>xs.length-(intOf i).toNat)
 case atStart=>exact⟨0,by omega,rfl,H0.out,sM⟩
 case round =>
  obtain⟨k,hk,rfl,hp,hb⟩:=hrel
  have hbs:w.heap.size+1≤wr.heap.size:=by have:=hb.size;rw [bu.out] at this;exact this
  by_cases hlt:k<xs.length
  · obtain⟨b,off,x,rfl,hbl,hxk,hc,_⟩:=(tG.out _ (HB0.out _ hb)).at_ hlt
    rw [tK.out k x hxk] at hp
    have mg:=h_ (fun(o:Obj)=>(show SC (w.heap.size+1) W0 (wr.alloc o) from hb.alloc hbs _))
    have hz2:=fun o=>HZ.out _ (mg.out o)
    have d0:=hc 0 _ rfl;have d1:=hc 1 _ rfl;have d2:=hc 2 _ rfl;have d3:=hc 3 _ rfl;have d4:=hc 4 _ rfl;have d5:=hc 5 _ rfl;have d6:=hc 6 _ rfl
    obtain⟨nm,top,aK,left,width,align,bottom⟩:=x
    simp only [Reg.enc,Sz] at d0 d1 d2 d3 d4 d5 d6 hp
    have c2:∀ o j,(wr.alloc o).cell? ⟨w.heap.size,j,none⟩=_:=fun o j=>cell_of_row _ _ j _ 198 (0,0) (hz2 o)
    have z2:∀ o j,(wr.alloc o).frozen? ⟨w.heap.size,j,none⟩=false:=fun o j=>by simp [Su.frozen?,hz2 o]
    have hne:w.heap.size≠wr.heap.size:=by omega
    clear hc hxk hz2
    cases hkq:(nm.toList==nk.toList)
    · rw [if_neg (by rw [hkq];decide)] at hp
      have HP:=h_ hp
      clear hp H0 c2 z2
      go_wp2_with fail
      go_roundw
      case rel=>exact⟨k+1,by omega,by go_num,HP.out,mg.out _⟩
      case measure=>simp [intOf];omega
    · rw [if_pos hkq] at hp
      have HP:=h_ hp
      clear hp H0
      go_wp2_with fail
      refine bodyPost_ret (v:=.agg #[.string nm,.int .i64 top,.int .i64 aK,.int .i64 left,.int .i64 width,.int .u8 align,.bool bottom,.bool true]) (by simp [results,SV,go_sem,c2]) rfl ?_
      refine HQ.out _ _ (by rw [←HP.out];rfl) ?_
      repeat refine SR ?_ (by simp only;omega) _
      exact HB0.out _ (mg.out _)
  · obtain rfl:k=xs.length:=by omega
    rw [SN] at hp
    have hp':none=G:=hp
    have HP:=h_ hp'
    have hz2:=HZ.out _ hb
    have HB1:=h_ hb
    have c2:∀ (j:Nat),wr.cell? ⟨w.heap.size,j,none⟩=_:=fun j=>cell_of_row _ _ j _ 198 (0,0) hz2
    have z2:∀ (j:Nat),wr.frozen? ⟨w.heap.size,j,none⟩=false:=fun j=>by simp [Su.frozen?,hz2]
    clear hp hp' hz2 H0 hb
    go_wp2_with fail
    refine bodyPost_ret (v:=.agg #[.string ⟨#[]⟩,.int .i64 0,.int .i64 0,.int .i64 0,.int .i64 0,.int .u8 0,.bool false,.bool false]) (by simp [results,SV,go_sem,c2]) rfl ?_
    refine HQ.out _ _ (by rw [←HP.out];rfl) ?_
    repeat refine SR ?_ (by simp only;omega) _
    exact HB0.out _ HB1.out
end Go.Proofs.YtnlnmbcaongehaaGreatDoor
