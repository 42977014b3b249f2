/- document.taken: does an event or a comment have an ID? document.Insert: a document with one event more. event.Join: two events joined. event.Split: an event split. -/
import Derived.Test.YtjebaagkomejaaaGreatDoorK13
import Derived.Test.YtjebaagkomejaaaGreatDoorK14
set_option linter.unusedVariables false
set_option linter.unusedSimpArgs false
set_option maxRecDepth 100000
set_option maxHeartbeats 12800000
open Go.Lib renaming hid→h_
open Go renaming heap_alloc_last→Sj,World→Sk,heap_alloc_old→Sl,setRow_heap→Sm,Value→Sn,cell_of_row→Sp
open Go.RowKit renaming Below→Sq
open Nat renaming zero_le→Sr,le_refl→Ss
open Go.World renaming size_alloc→St
open Go.Value renaming slice→Su,ownBlock→Sv
open List renaming getElem?_eq_getElem→Sw,getElem_of_mem→Sx,mem_append→Sy,length_map→Sz
open Option.some renaming inj→SA,injEq→SB
namespace Go.Proofs.YtjebaagkomejaaaGreatDoor
open Go.RowKit
theorem vx (x:Cm)(g:Nat)(id:Int)(w:Sk)(hg:w.cell? ⟨g,0,none⟩=some (.int .i64 id))(hl:g<w.heap.size) :
 Calls Tryz.prog 132 #[.agg x.enc.toArray,.pointer (some ⟨g,0,none⟩)] w fun e w'=>e=.returned (.bool (x.id==id))∧Sq w.heap.size w w':=by
 obtain⟨id',ev,frm,til,au,tx,dn,lo⟩:=x
 simp only [Cm.enc]
 have hg2:∀ o,(w.alloc o).cell? ⟨g,0,none⟩=some (.int .i64 id):=fun o=>(Sk.cell?_alloc_lt _ _ _ (by simpa using hl)).trans hg
 go_enter Tryz.func132,Tryz.ntmps132
 go_wp2_with fail
 go_ret
 exact⟨rfl,(Sq.refl _ _).alloc (Ss _) _⟩
theorem vH (a:Option Addr)(cap:Nat)(v:Sn)(w:Sk):Calls Tryz.prog 131 #[.slice a 0 cap,v] w fun e w'=>e=.returned (.bool false)∧w=w':=by
 have HI:=h_ (mX a cap v w)
 go_enter Tryz.func131,Tryz.ntmps131
 go_wp2_with fail
 refine HI.out.mono ?_
 rintro e w' ⟨rfl,rfl⟩
 go_wp2_with fail
 go_ret
 exact⟨rfl,rfl⟩
theorem yC (xs:List Cm)(id:Int):(cU xs id).isSome=xs.any (isCm id):=by
 unfold cU
 induction xs with
 | nil=>rfl
 | cons x l ih =>
   have e:cmAt id x=isCm id x:=rfl
   rw [List.find?_cons,List.any_cons,e]
   cases isCm id x with
   | true=>rfl
   | false=>simpa using ih
theorem tD (a:Option Addr)(cap:Nat)(xs:List Cm)(g:Nat)(id:Int)(w:Sk)(hr:ah 8 Cm.enc Flat w a xs)(hl:xs.length≤4000000)(hg:w.cell? ⟨g,0,none⟩=some (.int .i64 id))(hgl:g<w.heap.size) :
 Calls Tryz.prog 131 #[.slice a xs.length cap,.func (.func 132) #[] #[.pointer (some ⟨g,0,none⟩)]] w fun e w'=>e=.returned (.bool (cU xs id).isSome)∧Sq w.heap.size w w':=by
 rcases hr with rfl|⟨b,off,rfl,hb,hc⟩
 · exact(vH a cap _ w).mono fun e w' ⟨he,hw⟩=>⟨he,hw▸Sq.refl _ _⟩
 · have h:=Tryz.slices_ContainsFunc_f131 8 (fun w=>by kernel_rfl) (fun w=>by kernel_rfl) Cm.enc (fun _=>rfl) (isCm id) 132 #[.pointer (some ⟨g,0,none⟩)] (fun args w=>by kernel_rfl) b off xs.length cap xs w
    (fun W x hW=>(vx x g id W ((hW.cell (p:=⟨g,0,none⟩) hgl).trans hg) (Nat.lt_of_lt_of_le hgl hW.size)).mono fun e w' ⟨he,hw⟩=>⟨he,hW.trans (hw.mono hW.size)⟩)
    (Ss _) (by omega) hb (fun j hj i v hv=>(hc j _ (jR xs j hj)).1 i v hv)
   rw [List.take_length] at h
   rw [yC]
   exact h
def ju (d:DocC)(id:Int):Bool:=(aT d.eV id).isSome||(cU d.cM id).isSome
theorem ud (d:Doc)(id:Int)(w:Sk)(hd:d.lies w)(hf:d.fits):Calls Tryz.prog 84 #[.agg d.enc.toArray,.int .i64 id] w fun e w'=>e=.returned (.bool (ju d.c id))∧Sq w.heap.size w w':=by
 have eP:=h_ (fun(w1:Sk) (h:Sq w.heap.size w w1)=>cW d id w1 (Doc.later hd h).2.1 hf.2.2.2.2.2.2.2.2.1)
 have DM:=h_ (fun(w1:Sk) (h:Sq w.heap.size w w1) (hg:w1.cell? ⟨w.heap.size+1,0,none⟩=some (.int .i64 id)) (hl:w.heap.size+1<w1.heap.size)=>tD d.ca d.cc d.cM (w.heap.size+1) id w1 (Doc.later hd h).2.2 hf.2.2.2.2.2.2.2.2.2.2 hg hl)
 have hb2:Sq w.heap.size w ((w.alloc (.cells d.enc.toArray 27)).alloc (.cells #[.int .i64 id] 2)):=((Sq.refl _ _).alloc (Ss _) _).alloc (by simp) _
 have hg0:((w.alloc (.cells d.enc.toArray 27)).alloc (.cells #[.int .i64 id] 2)).heap[w.heap.size]? =some (.cells d.enc.toArray 27 (0,0)):=(Sl _ _ (by simp)).trans (Sj _ _)
 have hg1:((w.alloc (.cells d.enc.toArray 27)).alloc (.cells #[.int .i64 id] 2)).heap[w.heap.size+1]? =some (.cells #[.int .i64 id] 2 (0,0)):=by
  have:=Sj (w.alloc (.cells d.enc.toArray 27)) (.cells #[.int .i64 id] 2)
  rw [St] at this
  exact this
 have G0:=h_ hg0
 have G1:=h_ hg1
 have c1:((w.alloc (.cells d.enc.toArray 27)).alloc (.cells #[.int .i64 id] 2)).cell? ⟨w.heap.size+1,0,none⟩=some (.int .i64 id):=Sp _ _ 0 _ 2 (0,0) hg1
 have hr0:=ai hg0
 have kC:=h_ (fU d id)
 have hcs:d.c.cM=d.cM:=rfl
 generalize hT:ju d.c id=T
 unfold ju at hT
 rw [hcs] at hT
 have HT:=h_ hT
 clear hd hf hT hcs hg0 hg1
 go_enter Tryz.func84,Tryz.ntmps84
 go_wp2_with (refine aj 27 (.tmp 2) rfl w.heap.size 0 rfl d.enc _ hr0 Tryz.underlying27 rfl ag (by rfl) ?_)
 refine(eP.out _ hb2).mono ?_
 rintro e w1 ⟨rfl,hb3⟩
 have aM:=hb2.trans (hb3.mono hb2.size)
 have r1:=(hb3.block w.heap.size (by simp;try omega)).trans G0.out
 have g1:=(hb3.block (w.heap.size+1) (by simp;try omega)).trans G1.out
 have hs1:w.heap.size+2≤w1.heap.size:=by have:=hb3.size;simp at this;omega
 clear hb3 hb2 G0 G1 hr0 c1 eP
 rcases kC.out with⟨hp,hn⟩|⟨j,x,hp,hx,hn⟩
 · have ht:=HT.out
   rw [hn] at ht
   rw [hp]
   have c7:w1.cell? ⟨w.heap.size,7,none⟩=some (.slice d.ca d.cM.length d.cc):=Sp _ _ 7 _ 27 (0,0) r1
   have HC:=h_ (DM.out w1 aM (Sp _ _ 0 _ 2 (0,0) g1) (by omega))
   have Lc:=h_ ht
   clear DM r1 g1 ht kC HT
   go_wp2_with fail
   refine HC.out.mono ?_
   rintro e w2 ⟨rfl,hb4⟩
   have HB:=h_ (aM.trans (hb4.mono aM.size))
   clear hb4 c7 HC
   go_wp2_with fail
   go_ret
   exact⟨by rw [←Lc.out];rfl,HB.out⟩
 · have ht:=HT.out
   rw [hn] at ht
   have Lc:=h_ ht
   rw [hp]
   have hj:(0:Int)≤(j:Int):=by omega
   clear DM r1 g1 ht kC HT
   go_wp2_with fail
   go_ret
   exact⟨by rw [←Lc.out];rfl,aM⟩
def insQ (d:DocC)(e:EvC):Int:=if cErr d≠0 then cErr d else if e.id=0 then (if 1099511627776≤d.hd.last then 9 else 0) else if e.id<1∨d.hd.last<e.id then 2 else if ju d e.id=true then 7 else 0
def insE (d:DocC)(e:EvC):EvC:=if e.id=0 then { e with id:=d.hd.last+1 } else e
def insL (d:DocC)(e:EvC):Int:=if e.id=0 then d.hd.last+1 else d.hd.last
def insX (d:Doc)(x:Ev):Ev:=if x.id=0 then { x with id:=d.last+1 } else x
theorem Gx (d:Doc)(x:Ev):(insX d x).c=insE d.c x.c:=by
 unfold insX insE
 show _=if x.id=0 then _ else _
 split<;>rfl
theorem sD (d:DocC)(e:EvC):aQ d e=if insQ d e≠0 then insQ d e else if bT d.rG (insE d e)≠0 then bT d.rG (insE d e) else if 400≤d.eV.length then 9 else 0:=by
 unfold aQ insQ insE ju
 by_cases h:cErr d≠0
 · rw [if_pos h,if_pos h,if_pos h]
 · rw [if_neg h,if_neg h]
   simp only [Bool.or_eq_true]
theorem qq (d:DocC)(e:EvC):insertC d e=if aQ d e≠0 then (aQ d e,aU) else (0,{ d with hd:={ d.hd with last:=insL d e },eV:=de (d.eV++[insE d e]) }):=by
 unfold insertC insL insE
 split
 · rfl
 · split<;>rfl
theorem aV:(Tryz.prog.info? 72).map (·.size)=some 7:=by kernel_rfl
def jl (d:DocC)(x:EvC)(w:Sk)(e:Ending)(w':Sk):Prop:=∃ d2:Doc,e=.returned (.tuple #[.agg d2.enc.toArray,.int .i64 (if aQ d x=0 then (insE d x).id else 0),.int .i64 (aQ d x)])∧d2.c=(insertC d x).2∧d2.lies w'∧(∀ b,d2.uses b→w.heap.size≤b)∧Sq w.heap.size w w'
theorem jl.bad {d:DocC} {x:EvC} {w w':Sk} {q:Int} (hq:aQ d x=q)(h0:q≠0)(h:Sq w.heap.size w w'):jl d x w (.returned (.tuple #[.agg zDoc.enc.toArray,.int .i64 0,.int .i64 q])) w':=by
 subst hq
 exact⟨zDoc,by rw [if_neg h0],by rw [qq,if_pos h0];rfl,jZ w',fun b=>jY b _,h⟩
theorem Ai (w:Sk)(ds es zd:Array Sn):(((w.alloc (.cells ds 27)).alloc (.cells es 72)).alloc (.cells zd 27)).heap[w.heap.size]? =some (.cells ds 27 (0,0))∧(((w.alloc (.cells ds 27)).alloc (.cells es 72)).alloc (.cells zd 27)).heap[w.heap.size+1]? =some (.cells es 72 (0,0))∧(((w.alloc (.cells ds 27)).alloc (.cells es 72)).alloc (.cells zd 27)).heap[w.heap.size+1+1]? =some (.cells zd 27 (0,0)):=by
 refine⟨(Sl _ _ (by simp;try omega)).trans ((Sl _ _ (by simp)).trans (Sj _ _)),(Sl _ _ (by simp)).trans ?_,?_⟩
 · have:=Sj (w.alloc (.cells ds 27)) (.cells es 72)
   rw [St] at this
   exact this
 · have:=Sj ((w.alloc (.cells ds 27)).alloc (.cells es 72)) (.cells zd 27)
   rw [St,St] at this
   exact this
theorem kF {zs ys:List Ev} (hp:(ys.map Ev.c).Perm (zs.map Ev.c))(hs:ys.Pairwise fun x y=>ltOf lY y x=false)(hi:(zs.map Ev.c).Pairwise fun x y=>x.id≠y.id):ys.map Ev.c=de (zs.map Ev.c):=by
 refine ke hp ?_ hi
 rw [List.pairwise_map]
 refine hs.imp fun {x y} h=>?_
 rw [iW] at h
 simp only [decide_eq_false_iff_not] at h
 simp only [evLe,decide_eq_true_eq]
 show x.inn<y.inn∨(x.inn=y.inn∧x.id≤y.id)
 omega
theorem Ei {d:DocC} {e:EvC} (h:aQ d e=0):(d.eV++[insE d e]).Pairwise fun x y=>x.id≠y.id:=by
 rw [sD] at h
 by_cases hq:insQ d e≠0
 · rw [if_pos hq] at h;exact absurd h hq
 · have hq0:=Classical.not_not.1 hq
   unfold insQ at hq0
   by_cases hc:cErr d≠0
   · rw [if_pos hc] at hq0;exact absurd hq0 hc
   · rw [if_neg hc] at hq0
     have hc':=Classical.not_not.1 hc
     refine List.pairwise_append.2 ⟨(iy hc').ids,List.pairwise_singleton _ _,fun a ha b hb=>?_⟩
     obtain rfl:=List.mem_singleton.1 hb
     unfold insE
     by_cases hi:e.id=0
     · rw [if_pos hi]
       show a.id≠d.hd.last+1
       have:=vD hc' a ha
       omega
     · rw [if_neg hi] at hq0 ⊢
       by_cases hr:e.id<1∨d.hd.last<e.id
       · rw [if_pos hr] at hq0;exact absurd hq0 (by decide)
       · rw [if_neg hr] at hq0
         by_cases ht:ju d e.id=true
         · rw [if_pos ht] at hq0;exact absurd hq0 (by decide)
         · intro he
           have:(aT d.eV e.id).isSome=true:=by
            unfold aT
            rw [List.find?_isSome]
            exact⟨a,ha,by simp [evAt,he]⟩
           apply ht
           unfold ju
           rw [this]
           rfl
theorem Cd {d:Doc} {y:Ev} {w w6 w7:Sk} {v':Sn} {cs:Array Sn} {B:Nat} (hl:d.lies w6)(hu:∀ b,d.uses b→B≤b)(hap:d.apart)(ho:w6.ownsRow B 72 7 (.slice d.ea d.eV.length d.ec) d.eV.length (d.eV.flatMap Ev.enc))(hy:y.lies w)(hb:Sq w.heap.size w w6)(hBw:w.heap.size≤B)
 (hcs:cs.toList=y.enc) (hown:w7.ownsRow B 72 7 v' (d.eV.length+1) (d.eV.flatMap Ev.enc++cs.toList)) (hg:(w6.alloc (.cells cs 72)).grownBy w7 (Su d.ea d.eV.length d.ec).ownBlock) (hat:v'.ownBlock=(Su d.ea d.eV.length d.ec).ownBlock∨v'.ownBlock=some (w6.heap.size+1)) :
 ∃ a c,v'=.slice a (d.eV.length+1) c∧dy w7 a (d.eV++[y])∧Kept (fun b=>(Su d.ea d.eV.length d.ec).ownBlock=some b) w6 w7:=by
 have hyl:y.lies w6:=Ev.keeps _ _ _ hb hy
 have Ku:∀ b,(Su d.ea d.eV.length d.ec).ownBlock=some b→B≤b:=fun b e=>(ho.lt b e).1
 have hG0:jd 72 7 Ev.enc Ev.lies Ev.uses 0 w6 (.slice d.ea d.eV.length d.ec) d.eV w6:=by
  refine⟨dG ho (Sr _),fun z hz=>⟨gh hl.2.1 hz,fun b q=>⟨fun e=>?_,Sr _⟩⟩,Sq.refl _ _⟩
  obtain⟨t,_,t2,t3,_⟩:=hap
  have h3:=t3 z hz b q
  have h2:=t2 b ⟨fun e'=>by rw [e'] at hz;simp at hz,by
   cases Mc:d.ea with
   | none=>rw [Mc] at e;simp [Sv] at e
   | some ad=>rw [Mc] at e;exact⟨ad,rfl,by simpa [Sv] using e⟩⟩
  omega
 have hG:=jd.push Ev.deep hG0 (Sr _) hcs (dG hown (Sr _)) hg hat hyl (fun b q=>⟨fun e=>by
  have h1:=Ku b e
  have h2:=Ev.uses_lt hy q
  omega,Sr _⟩)
 obtain⟨a,c,hv,hS⟩:=aA (k:=7) (enc:=Ev.enc) (Ok:=Ev.lies) (xs:=d.eV++[y]) (fun _=>rfl) (by simpa using hG.1) (fun z hz=>(hG.2.1 z hz).1)
 have hk1:Kept (fun b=>(Su d.ea d.eV.length d.ec).ownBlock=some b) w6 (w6.alloc (.cells cs 72)):=(Kept.refl _ _).alloc _
 exact⟨a,c,by rw [hv];simp,hS,hk1.andGrown hg fun k hk _=>hk⟩
theorem wj:(zeE.all (·.oneCell'))=true:=by simp [Sn.oneCell']
theorem box3 (w:Sk)(x y z:Array Sn)(t1 t2 t3:TypeId):(((w.alloc (.cells x t1)).alloc (.cells y t2)).alloc (.cells z t3)).heap[w.heap.size]? =some (.cells x t1 (0,0))∧(((w.alloc (.cells x t1)).alloc (.cells y t2)).alloc (.cells z t3)).heap[w.heap.size+1]? =some (.cells y t2 (0,0))∧(((w.alloc (.cells x t1)).alloc (.cells y t2)).alloc (.cells z t3)).heap[w.heap.size+1+1]? =some (.cells z t3 (0,0)):=by
 refine⟨(Sl _ _ (by simp;try omega)).trans ((Sl _ _ (by simp)).trans (Sj _ _)),(Sl _ _ (by simp)).trans ?_,?_⟩
 · have:=Sj (w.alloc (.cells x t1)) (.cells y t2)
   rw [St] at this
   exact this
 · have:=Sj ((w.alloc (.cells x t1)).alloc (.cells y t2)) (.cells z t3)
   rw [St,St] at this
   exact this
def iB (a b:EvC)(w:Sk)(e:Ending)(w':Sk):Prop:=∃ y:Ev,e=.returned (.tuple #[.agg y.enc.toArray,.int .i64 (bS a b)])∧(bS a b=0→y.c=og a b)∧y.lies w'∧(∀ k,y.uses k→w.heap.size≤k)∧Sq w.heap.size w w'
theorem iB.bad {a b:EvC} {w w':Sk} {q:Int} (hq:bS a b=q)(h0:q≠0)(h:Sq w.heap.size w w'):iB a b w (.returned (.tuple #[.agg zeE,.int .i64 q])) w':=by
 subst hq
 exact⟨oS,rfl,fun e=>absurd e h0,jH _,fun k q=>(jG k q).elim,h⟩
theorem AZ (a b:Ev):evLt a.c b.c=kJ a b:=by
 rw [Bool.eq_iff_iff,wt]
 unfold evLt EvC.lt
 rw [decide_eq_true_eq]
theorem xS (a b:Ev):bS a.c b.c=if kJ a b=false then 8 else if 4<a.rows.length+b.rows.length then 9 else 0:=by
 unfold bS
 rw [AZ]
 show(if _ then _ else if 4<(a.rows.map Row.runs).length+(b.rows.map Row.runs).length then _ else _)=_
 rw [Sz,Sz]
theorem Gt {a b A:Ev} {n:Nat} {a':Option Addr} {rows':List Row} {v':Sn} {v1 v2:Sk} (hA:A.c=a.c)(hl:A.lies v1)(hap:∀ r∈A.rows,∀ b,r.uses b→(Su A.at_ A.rows.length A.cap).ownBlock≠some b)(hr:bx v1 a' rows')(hm:rows'.map Row.runs=b.rows.map Row.runs)
 (hu:∀ k,dh a' rows' k→(Su A.at_ A.rows.length A.cap).ownBlock≠some k) (ho:v2.ownsRow n 75 1 v' (A.rows.length+rows'.length) (A.rows.flatMap Row.enc++rows'.flatMap Row.enc)) (hg:v1.grownBy v2 (Su A.at_ A.rows.length A.cap).ownBlock) :
 ∃ y:Ev,v'=.slice y.at_ y.rows.length y.cap∧y={ A with at_:=y.at_,cap:=y.cap,rows:=A.rows++rows' }∧y.lies v2:=by
 have hl':∀ r∈A.rows++rows',r.lies v2:=fun r hr0=>by
  rcases Sy.1 hr0 with h|h
  · obtain⟨j,hj,rfl⟩:=Sx h
    have hrl:(A.rows[j]).lies v1:=by
     obtain⟨_,_,x,_,_,hx,_,hl⟩:=ah.at_ hl hj
     rw [Sw hj] at hx
     rw [SA hx];exact hl
    exact Row.frame hrl hg.size fun k hk=>hg.block k (Row.uses_lt hrl hk) fun e=>hap _ h k hk e.symm
  · obtain⟨j,hj,rfl⟩:=Sx h
    have hrl:(rows'[j]).lies v1:=by
     obtain⟨_,_,x,_,_,hx,_,hl⟩:=ah.at_ hr hj
     rw [Sw hj] at hx
     rw [SA hx];exact hl
    exact Row.frame hrl hg.size fun k hk=>hg.block k (Row.uses_lt hrl hk) fun e=>hu k (.inr ⟨_,h,hk⟩) e.symm
 obtain⟨ta,tc,hv,hS⟩:=aA (k:=1) (enc:=Row.enc) (Ok:=Row.lies) (xs:=A.rows++rows') (fun _=>rfl) (by simpa using ho) hl'
 exact⟨{ A with at_:=ta,cap:=tc,rows:=A.rows++rows' },hv,rfl,hS⟩
theorem Af {a b A:Ev} {g B:Nat} {a' av:Option Addr} {cv:Nat} {rows':List Row} {W v1 v2:Sk} (hA:A.c=a.c)(hl:A.lies W)(tR:∀ k,A.uses k→k<g∧B≤k)(hB:B≤W.heap.size)(hap:∀ r∈A.rows,∀ b,r.uses b→(Su A.at_ A.rows.length A.cap).ownBlock≠some b)(hgW:g<W.heap.size)
 (hown0:∀ k,(Su A.at_ A.rows.length A.cap).ownBlock=some k→k<g) (hv1:Sq W.heap.size W v1) (hr:bx v1 a' rows') (hm:rows'.map Row.runs=b.rows.map Row.runs) (hu:∀ k,dh a' rows' k→W.heap.size≤k)
 (ho:v2.ownsRow B 75 1 (.slice av (A.rows.length+rows'.length) cv) (A.rows.length+rows'.length) (A.rows.flatMap Row.enc++rows'.flatMap Row.enc)) (hg:v1.grownBy v2 (Su A.at_ A.rows.length A.cap).ownBlock)
 (hat:(Su av (A.rows.length+rows'.length) cv).ownBlock=(Su A.at_ A.rows.length A.cap).ownBlock∨(Su av (A.rows.length+rows'.length) cv).ownBlock=some v1.heap.size)
 (h8:(v2.setCell ⟨g,6,none⟩ (.slice av (A.rows.length+rows'.length) cv)).heap[g]? =some (.cells (A.enc.toArray.setIfInBounds 6 (.slice av (A.rows.length+rows'.length) cv)) 72 (0,0)))
 (hk:Kept (fun k=>k=g∨(Su A.at_ A.rows.length A.cap).ownBlock=some k) W (v2.setCell ⟨g,6,none⟩ (.slice av (A.rows.length+rows'.length) cv))) :
 ∃ y:Ev,y={ A with at_:=y.at_,cap:=y.cap,rows:=y.rows }∧y.rows.map Row.runs=A.rows.map Row.runs++b.rows.map Row.runs∧y.lies (v2.setCell ⟨g,6,none⟩ (.slice av (A.rows.length+rows'.length) cv))∧(∀ k,y.uses k→k≠g)∧(∀ k,y.uses k→B≤k)∧(v2.setCell ⟨g,6,none⟩ (.slice av (A.rows.length+rows'.length) cv)).heap[g]? =some (.cells y.enc.toArray 72 (0,0))∧Kept (fun k=>k=g∨(Su A.at_ A.rows.length A.cap).ownBlock=some k) W (v2.setCell ⟨g,6,none⟩ (.slice av (A.rows.length+rows'.length) cv)):=by
 have hs1:=hv1.size
 obtain⟨y,hv,hy,hyl⟩:=Gt (a:=a) (b:=b) hA (Ev.keeps _ _ _ hv1 hl) hap hr hm (fun k h e=>by have:=hu k h;have:=hown0 k e;omega) ho hg
 have hrows:y.rows=A.rows++rows':=by rw [hy]
 have qv:∀ k,y.uses k→k≠g∧B≤k:=fun k h=>by
  rcases h with⟨_,ad,e,rfl⟩|⟨r,hr0,h⟩
  · have e2:(Su av (A.rows.length+rows'.length) cv).ownBlock=some ad.block:=by rw [hv,e];rfl
    rcases hat with h|h
    · exact⟨by have:=hown0 _ (h.symm.trans e2);omega,(ho.lt _ e2).1⟩
    · rw [h] at e2
      exact⟨by have:=SA e2;omega,(ho.lt _ (h.trans e2)).1⟩
  · rw [hrows] at hr0
    rcases Sy.1 hr0 with hr0|hr0
    · have:=tR k (.inr ⟨r,hr0,h⟩);omega
    · have:=hu k (.inr ⟨r,hr0,h⟩);omega
 refine⟨y,by rw [hy],by rw [hrows,List.map_append,hm],Ev.frame hyl (by simp) fun k h=>Sq.heap_setCell _ _ _ _ (qv k h).1,fun k h=>(qv k h).1,fun k h=>(qv k h).2,?_,hk⟩
 rw [h8]
 congr 2
 rw [hv]
 rw [hy]
 simp [Ev.enc]
def fO (e:EvC)(fr row id:Int)(w:Sk)(en:Ending)(w':Sk):Prop:=∃ A B:Ev,en=.returned (.tuple #[.agg A.enc.toArray,.agg B.enc.toArray,.int .i64 (bg e fr row id)])∧(bg e fr row id=0→A.c=fS e fr row∧B.c=iI e fr row id)∧A.lies w'∧B.lies w'∧(∀ k,A.uses k→w.heap.size≤k)∧(∀ k,B.uses k→w.heap.size≤k)∧Sq w.heap.size w w'
theorem fO.bad {e:EvC} {fr row id:Int} {w w':Sk} {q:Int} (hq:bg e fr row id=q)(h0:q≠0)(h:Sq w.heap.size w w'):fO e fr row id w (.returned (.tuple #[.agg zeE,.agg zeE,.int .i64 q])) w':=by
 subst hq
 exact⟨oS,oS,rfl,fun e=>absurd e h0,jH _,jH _,fun k q=>(jG k q).elim,fun k q=>(jG k q).elim,h⟩
theorem dE {x:Ev} {B:Nat} {w:Sk} {xs:List Sn} (h:w.ownsRow B 75 1 (.slice x.at_ x.rows.length x.cap) x.rows.length xs):x.rows=[]∨∃ b,x.at_=some ⟨b,0,none⟩∧x.rows.length≤x.cap:=by
 rcases h.2 with⟨_,h0⟩|⟨g',cap',cur,h0,_,_,hnc,_⟩
 · exact .inl (List.length_eq_zero_iff.1 h0)
 · simp only [Su.injEq] at h0
   obtain⟨h1,_,h3⟩:=h0
   exact .inr ⟨g',h1,by rw [h3];exact hnc⟩
structure qW (c:EvC)(B0 g1 g2:Nat)(A B:Ev)(w:Sk):Prop where
 ac:A.c=c
 bc:B.c=c
 al:A.lies w
 bl:B.lies w
 af:A.rows=[]∨∃ b,A.at_=some ⟨b,0,none⟩∧A.rows.length≤A.cap
 bf:B.rows=[]∨∃ b,B.at_=some ⟨b,0,none⟩∧B.rows.length≤B.cap
 au:∀ k,A.uses k→k≠g1∧k≠g2∧B0≤k
 bu:∀ k,B.uses k→k≠g1∧k≠g2∧B0≤k
 z1:w.heap[g1]? =some (.cells A.enc.toArray 72 (0,0))
 z2:w.heap[g2]? =some (.cells B.enc.toArray 72 (0,0))
 n1:B0≤g1
 n2:B0≤g2
 ne:g1≠g2
theorem zv {c:EvC} {B0 g1 g2 k1 k2:Nat} {A B:Ev} {v w:Sk} (ac:A.c=c)(bc:B.c=c)(al:A.lies v)(bl:B.lies v)(af:A.rows=[]∨∃ b,A.at_=some ⟨b,0,none⟩∧A.rows.length≤A.cap)(bf:B.rows=[]∨∃ b,B.at_=some ⟨b,0,none⟩∧B.rows.length≤B.cap)
 (au:∀ k,A.uses k→k≠g1∧k≠g2∧B0≤k) (bu:∀ k,B.uses k→k≠g1∧k≠g2∧B0≤k) (z1:v.heap[g1]? =some (.cells zeE 72 (0,0))) (z2:v.heap[g2]? =some (.cells zeE 72 (0,0))) (n1:B0≤g1) (n2:B0≤g2) (ne:g1≠g2)
 (hw:(k1=g1∧k2=g2∧w=(v.setRow g1 A.enc.toArray).setRow g2 B.enc.toArray)∨(k1=g2∧k2=g1∧w=(v.setRow g2 B.enc.toArray).setRow g1 A.enc.toArray)):qW c B0 g1 g2 A B w:=by
 have hsz:w.heap.size=v.heap.size:=by
  rcases hw with⟨_,_,rfl⟩|⟨_,_,rfl⟩
  · rw [size_setRow,size_setRow]
  · rw [size_setRow,size_setRow]
 have hoff:∀ k,k≠g1→k≠g2→w.heap[k]? =v.heap[k]?:=fun k h1 h2=>by
  rcases hw with⟨_,_,rfl⟩|⟨_,_,rfl⟩
  · rw [aK _ _ _ _ h2,aK _ _ _ _ h1]
  · rw [aK _ _ _ _ h1,aK _ _ _ _ h2]
 refine⟨ac,bc,Ev.frame al (by omega) fun k h=>hoff k (au k h).1 (au k h).2.1,Ev.frame bl (by omega) fun k h=>hoff k (bu k h).1 (bu k h).2.1,af,bf,au,bu,?_,?_,n1,n2,ne⟩
 · rcases hw with⟨_,_,rfl⟩|⟨_,_,rfl⟩
   · rw [aK _ _ _ _ ne];exact Sm _ _ _ _ 72 (0,0) z1
   · exact Sm _ _ _ _ 72 (0,0) ((aK _ _ _ _ ne).trans z1)
 · rcases hw with⟨_,_,rfl⟩|⟨_,_,rfl⟩
   · exact Sm _ _ _ _ 72 (0,0) ((aK _ _ _ _ ne.symm).trans z2)
   · rw [aK _ _ _ _ ne.symm];exact Sm _ _ _ _ 72 (0,0) z2
theorem wu {may:Nat→Prop} {g:Nat} (hm:may g)(w:Sk)(cs:Array Sn):Kept may w (w.setRow g cs):=⟨rfl,rfl,rfl,by rw [size_setRow];exact Ss _,fun k _ hn=>aK _ _ _ _ (fun e=>hn (e▸hm))⟩
theorem aR {w:Sk} {g:Nat} {o:Obj} (h:w.heap[g]? =some o):g<w.heap.size:=(Array.getElem?_eq_some_iff.1 h).1
theorem ah.take {α:Type} {k:Nat} {enc:α→List Sn} {Ok:Sk→α→Prop} {w:Sk} {a:Option Addr} {xs:List α} (h:ah k enc Ok w a xs)(n:Nat):ah k enc Ok w a (xs.take n):=by
 rcases h with rfl|⟨b,off,rfl,hb,hc⟩
 · exact .inl (by simp)
 · refine .inr ⟨b,off,rfl,hb,fun i x hx=>hc i x ?_⟩
   rw [List.getElem?_take] at hx
   split at hx
   · exact hx
   · cases hx
theorem ah.drop {α:Type} {enc:α→List Sn} {Ok:Sk→α→Prop} {w:Sk} {b off:Nat} {xs:List α} (h:ah 1 enc Ok w (some ⟨b,off,none⟩) xs)(n:Nat):ah 1 enc Ok w (some ⟨b,off+n,none⟩) (xs.drop n):=by
 rcases h with rfl|⟨b',off',e,hb,hc⟩
 · exact .inl (by simp)
 · simp only [SB,Addr.mk.injEq,and_true] at e
   obtain⟨rfl,rfl⟩:=e
   refine .inr ⟨b,off+n,rfl,hb,fun i x hx=>?_⟩
   rw [List.getElem?_drop] at hx
   have:=hc (n+i) x hx
   refine⟨fun j v hv=>?_,this.2⟩
   rw [show off+n+i*1+j=off+(n+i)*1+j by omega]
   exact this.1 j v hv
theorem zG {a:Option Addr} {rows:List Row} {n k:Nat} (h:dh a (rows.take n) k):dh a rows k:=by
 rcases h with⟨h,q⟩|⟨r,hr,q⟩
 · exact .inl ⟨fun e=>h (by rw [e];simp),q⟩
 · exact .inr ⟨r,List.mem_of_mem_take hr,q⟩
theorem zI {a:Option Addr} {b n k:Nat} {rows:List Row} (ha:a=some ⟨b,0,none⟩)(h:dh (some ⟨b,n,none⟩) (rows.drop n) k):dh a rows k:=by
 rcases h with⟨h,ad,e,q⟩|⟨r,hr,q⟩
 · refine .inl ⟨fun e=>h (by rw [e];simp),⟨b,0,none⟩,ha,?_⟩
   simp only [SB] at e
   subst e
   exact q
 · exact .inr ⟨r,List.mem_of_mem_drop hr,q⟩
theorem zw {e:Ev} {fr id:Int} {n B0 g1 g2 ba bb:Nat} {A B A1 B1 A2 B3:Ev} {w wc W V w':Sk} (hm:qW e.c B0 g1 g2 A B wc)(hsz:w.heap.size+3≤B0)(hsc:B0≤wc.heap.size)(hbc:Sq w.heap.size w wc)(hk1:Kept (fun b=>b=g1∨b=g2) wc W)(hk3:Kept (fun b=>b=g1∨b=g2) W V)(hk:Kept (fun b=>b=w.heap.size+1∨b=w.heap.size+1+1) V w')
 (hla:A1.rows.length=e.rows.length∧A1.at_=some ⟨ba,0,none⟩∧A1={ A with out:=fr }) (hlb:B1.rows.length=e.rows.length∧B1.at_=some ⟨bb,0,none⟩∧B1={ B with inn:=fr })
 (hA2:A2={ A1 with cap:=n,rows:=A1.rows.take n }) (hB3:B3={ B1 with id:=id,at_:=some ⟨bb,n,none⟩,cap:=B1.cap-n,rows:=B1.rows.drop n }) :
 (0:Int)=0∧A2.c=fS e.c fr n∧B3.c=iI e.c fr n id∧A2.lies w'∧B3.lies w'∧(∀ k,A2.uses k→w.heap.size≤k)∧(∀ k,B3.uses k→w.heap.size≤k)∧Sq w.heap.size w w':=by
 have h1:=hk1.size
 have h3:=hk3.size
 have h4:=hk.size
 have hn1:=hm.n1
 have hn2:=hm.n2
 have hoff:∀ k,k<wc.heap.size→B0≤k→k≠g1→k≠g2→w'.heap[k]? =wc.heap[k]?:=fun k q1 q2 q3 q4 =>
  (hk.block k (by omega) (by omega)).trans ((hk3.block k (by omega) (by omega)).trans (hk1.block k q1 (by omega)))
 have cG:A.lies w':=Ev.frame hm.al (by omega) fun k h=>hoff k (Ev.uses_lt hm.al h) (hm.au k h).2.2 (hm.au k h).1 (hm.au k h).2.1
 have hBl:B.lies w':=Ev.frame hm.bl (by omega) fun k h=>hoff k (Ev.uses_lt hm.bl h) (hm.bu k h).2.2 (hm.bu k h).1 (hm.bu k h).2.1
 obtain⟨_,ha2,KU⟩:=hla
 obtain⟨_,hb2,hb3⟩:=hlb
 refine⟨rfl,?_,?_,?_,?_,?_,?_,?_⟩
 · rw [←hm.ac,hA2,KU]
   simp [Ev.c,fS,List.map_take]
 · rw [←hm.bc,hB3,hb3]
   simp [Ev.c,iI,List.map_drop]
 · rw [hA2,KU]
   exact ah.take cG n
 · rw [hB3]
   have:bx w' B1.at_ B1.rows:=by rw [hb3];exact hBl
   rw [hb2] at this
   have h5:=ah.drop this n
   rw [Nat.zero_add] at h5
   exact h5
 · rw [hA2,KU]
   intro k hk'
   have:=(hm.au k (zG hk')).2.2
   omega
 · intro k hk'
   rw [hB3,hb3] at hk'
   rw [hb3] at hb2
   have:=(hm.bu k (zI hb2 hk')).2.2
   omega
 · refine((hbc.trans (hk1.below (by omega) fun k hk' e=>by omega)).trans (hk3.below (by omega) fun k hk' e=>by omega)).trans (hk.below (by omega) fun k hk' e=>by omega)
end Go.Proofs.YtjebaagkomejaaaGreatDoor
