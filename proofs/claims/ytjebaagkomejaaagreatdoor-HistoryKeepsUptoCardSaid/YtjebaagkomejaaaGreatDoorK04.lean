/- slices.SortStableFunc at events: a permutation of what the row held, ascending. Lists of the call's own that grow by append, whose elements have memory of their own. -/
import Derived.StillTailTactics
import Derived.Test.YtjebaagkomejaaaGreatDoorK02
set_option linter.unusedVariables false
set_option linter.unusedSimpArgs false
set_option maxRecDepth 100000
set_option maxHeartbeats 12800000
open Go.Lib renaming hid→h_
open Go renaming World→Sj,Value→Sk,Calls→Sl,TypeId→Sm,heap_alloc_last→Sn,Program→Sp,TypeInfo→Sq,Operand→Sr
open Go.Sort renaming insertionSort→Ss,insertionSort_holds→St,permIn_trans→Su,permIn_mono→Sv
open Nat renaming le_refl→Sw,add_zero→Sx,mul_one→Sy,le_trans→Sz
open Go.Builtin renaming append_→SA,firstCells→SB,lenOf→SC
open Go.World renaming size_alloc→SD,ownsRow_nil→SF,cell?_alloc_lt→SG
open Go.RowKit.Below renaming refl→SH,heap_alloc→SI
open List renaming mem_of_getElem?→SJ,getElem?_eq_getElem→SK,drop_length→SL,getElem?_eq_some_iff→SM,take_length→SN,eq_nil_of_length_eq_zero→SO,drop_zero→SQ,length_append→SR,length_cons→SS,append_nil→SU
open Go.Lib renaming allEq→SV,byteCells→SW,IsBuilder→SX,BuilderAt→SY,allEq_len→SZ,strCells→S5
open Array renaming getElem?_eq_some_iff→S6
namespace Go.Proofs.YtjebaagkomejaaaGreatDoor
open Go.Shelf Go.RowKit Go.Lib Go.Sort
variable {P:Sp} {α:Type} [Inhabited α]
theorem Ej {lt:α→α→Bool} (hO:SWO lt) {d dk:Array α} {x bs:Nat} (hds:dk.size=d.size)(hb:x+bs≤d.size)(hP:PermIn 0 d.size d dk)(hpre:Pre lt bs dk x) :
 PermIn 0 d.size d (Ss lt dk x (x+bs))∧Pre lt bs (Ss lt dk x (x+bs)) (x+bs)∧(Ss lt dk x (x+bs)).size=d.size:=by
 obtain⟨h1,h2⟩:=St (lt:=lt) hO dk x (x+bs) (by omega) (by omega)
 refine⟨Su _ _ _ _ _ hP (Sv _ _ x (x+bs) 0 d.size (by omega) hb (by omega) h1),.snoc x (hpre.congr fun i hi=>h1.2.1 i (by omega)) h2,h1.1.trans hds⟩
theorem Ek {lt:α→α→Bool} (hO:SWO lt) {d dk:Array α} {x bs:Nat} (hds:dk.size=d.size)(hx:x≤d.size)(hb:d.size<x+bs)(hP:PermIn 0 d.size d dk)(hpre:Pre lt bs dk x) :
 PermIn 0 d.size d (Ss lt dk x d.size)∧Blk lt bs d.size (Ss lt dk x d.size) 0∧(Ss lt dk x d.size).size=d.size:=by
 obtain⟨h1,h2⟩:=St (lt:=lt) hO dk x d.size hx (by omega)
 refine⟨Su _ _ _ _ _ hP (Sv _ _ x d.size 0 d.size (by omega) (Sw _) (by omega) h1),(hpre.congr fun i hi=>h1.2.1 i (by omega)).join (.go x (SortedIn.part h2 (Sw _) (by omega)) (.stop _ (by omega))),h1.1.trans hds⟩
theorem DP {lt:α→α→Bool} {d dk d2:Array α} {x bs:Nat} (hds:dk.size=d.size)(hb:x+2*bs≤d.size)(hP:PermIn 0 d.size d dk)(hpre:Pre lt (2*bs) dk x)(hblk:Blk lt bs d.size dk x)(h1:PermIn x (x+2*bs) dk d2)(h2:SortedIn lt x (x+2*bs) d2) :
 PermIn 0 d.size d d2∧Pre lt (2*bs) d2 (x+2*bs)∧Blk lt bs d.size d2 (x+2*bs):=by
 refine⟨Su _ _ _ _ _ hP (Sv _ _ x (x+2*bs) 0 d.size (by omega) hb (by omega) h1),.snoc x (hpre.congr fun i hi=>h1.2.1 i (by omega)) h2,?_⟩
 have:=hblk.tail.tail
 rw [show x+bs+bs=x+2*bs by omega] at this
 exact this.congr fun i hi=>h1.2.1 i (by omega)
theorem vT {lt:α→α→Bool} {dk:Array α} {x bs n:Nat} (hb:x+2*bs≤n)(hblk:Blk lt bs n dk x):SortedIn lt x (x+bs) dk∧SortedIn lt (x+bs) (x+2*bs) dk :=
 ⟨SortedIn.part hblk.head (Sw _) (by omega),SortedIn.part hblk.tail.head (Sw _) (by omega)⟩
theorem rP {lt:α→α→Bool} {dk:Array α} {x bs n:Nat} (h1:x+bs<n)(hb:n<x+2*bs)(hblk:Blk lt bs n dk x):SortedIn lt x (x+bs) dk∧SortedIn lt (x+bs) n dk :=
 ⟨SortedIn.part hblk.head (Sw _) (by omega),SortedIn.part hblk.tail.head (Sw _) (by omega)⟩
theorem zu {lt:α→α→Bool} {d dk d2:Array α} {x bs:Nat} (hds:dk.size=d.size)(hx:x≤d.size)(hb:d.size<x+2*bs)(hP:PermIn 0 d.size d dk)(hpre:Pre lt (2*bs) dk x)(h1:PermIn x d.size dk d2)(h2:SortedIn lt x d.size d2) :
 PermIn 0 d.size d d2∧Blk lt (2*bs) d.size d2 0 :=
 ⟨Su _ _ _ _ _ hP (Sv _ _ x d.size 0 d.size (by omega) (Sw _) (by omega) h1),(hpre.congr fun i hi=>h1.2.1 i (by omega)).join (.go x (SortedIn.part h2 (Sw _) (by omega)) (.stop _ (by omega)))⟩
theorem uS {ρ:Ren} (L:SlLaysF0.n20 P ρ)(k:Nat)(aE:∀ w,(isAgg (ρ.t 24)).run P w=.ok true w)(zE:∀ w,(Go.sizeOf (ρ.t 24)).run P w=.ok k w)(enc:α→List Sk)(cf:α→α→Int)(g:Nat)(cb:Array Sk)(blk off cap a b:Nat)(d0 d:Array α)(w0 w:Sj)
 (eg:∀ args w,(callFunc g args).run P w=.ok (.enter g args) w) (hcmp:CmpLays P g cb enc k cf blk off d0.size w0) (R:RowK enc k w0 blk off d0) (hs:d0.size=d.size) (S:SWK enc k w0 blk off d w) (hO:SWO (ltOf cf)) (hab:a≤b) (hb:b≤d.size) (hsz:d.size<4611686018427387904) :
 Sl P (ρ.f 20) #[.slice (some ⟨blk,off,none⟩) d.size cap,.int .i64 a,.int .i64 b,.func (.func g) #[] cb] w fun e w'=>e=.returned (.tuple #[])∧SWK enc k w0 blk off (Ss (ltOf cf) d a b) w':=by
 have hs':(Ss (ltOf cf) d a b).size=d.size:=(St hO d a b hab hb).1.1
 have hC:CmpLays P g cb enc k cf blk off d.size w:=fun m os dk hdk x y=>by
  obtain⟨n0,os0,rfl⟩:=S
  rw [sortWorldK_on enc k w0 blk off n0 m d dk os0 os R.hblk hdk]
  exact hcmp _ _ dk (by omega) x y
 refine(AnyQ.insertionSortCmpFunc L k aE zE enc R.hk R.h1 cf g cb blk off cap a b d w eg hC (S.holds R.hblk R.hH hs.symm) (S.lt R.hblk) hab hb hsz).mono ?_
 rintro e w' ⟨rfl,n,os,rfl⟩
 exact⟨rfl,S.on R.hblk n _ os hs'⟩
end Go.Proofs.YtjebaagkomejaaaGreatDoor
namespace Go.Proofs.YtjebaagkomejaaaGreatDoor
open Go.RowKit
theorem eY {P:Sp} (w:Sj)(cs:Array Sk) {ops:Array Oper} {rest:List Oper} {o:Oper} {a:Act} {Q:Exit→Act→Sj→Prop} (hgd:o.guard=none)(s x:Sr)(t:Sm)
 (ho:o.op=.call { callee:=.builtin .append,args:=#[s,x],argTypes:=#[t,t] })
 (base:Nat) (e:Sm) (i:Sq) (z:Sk) (size bytes:Nat) (ht:P.underlying t=some (.slice e)) (hi:P.info? e=some i) (hz:i.zero=some z)
 (hsize:i.size=size) (hby:i.bytes=bytes) (hzs:z.cells.size=size) (hsz:0<size)
 (v:Sk) (n:Nat) (xs:List Sk) (hs:a.eval s=v) (hown:w.ownsRow base e size v n xs) (g:Nat) (hx:a.eval x=.slice (some ⟨g,0,none⟩) 1 1) (hg:g=w.heap.size)
 (hcs:cs.size=size) (h1:∀ u∈cs.toList,u.oneCell'=true) (h63:n+1≤maxLen) (hbytes:(n+1)*bytes≤140737488355328) (hbase:base≤w.heap.size)
 (h:∀ v' w2,w2.ownsRow base e size v' (n+1) (xs++cs.toList)→(w.alloc (.cells cs e)).grownBy w2 v.ownBlock→(v'.ownBlock=v.ownBlock∨v'.ownBlock=some (w.heap.size+1))→wpList P ops Q rest (a.put o.dst v') w2):wpList P ops Q (o::rest) a (w.alloc (.cells cs e)):=by
 subst hg
 refine wpList_append_own_at _ hgd s x t ho base e i z size bytes ht hi hz hsize hby hzs hsz v n xs hs (hown.alloc _) ⟨w.heap.size,0,none⟩ 1 1 cs.toList hx (by simpa using hcs) (nG w cs e) h1 h63 hbytes (by simp;omega) ?_
 intro v' w2 h2 h3 _ h4
 refine h v' w2 h2 h3 ?_
 simpa using h4
section
variable {P:Sp} {α:Type} {enc:α→List Sk} {Ok:Sj→α→Prop} (w:Sj)
theorem lR (base:Nat)(t ty e:Sm)(i:Sq)(z:Sk)(size bytes:Nat)(ht:P.underlying t=some (.slice e))(hi:P.info? e=some i)(hz:i.zero=some z)
 (hsize:i.size=size) (hby:i.bytes=bytes) (hzs:z.cells.size=size) (hsz:0<size) (hk:∀ x,(enc x).length=size) (h1:∀ x,∀ v∈enc x,v.oneCell'=true)
 (v:Sk) (n:Nat) (xs:List Sk) (hown:w.ownsRow base e size v n xs) (A:Option Addr) (c:Nat) (ys:List α) (hS:ah size enc Ok w A ys)
 (h63:n+ys.length≤maxLen) (hbytes:(n+ys.length)*bytes≤140737488355328) (hbase:base≤w.heap.size) :
 ∃ v' w',(SA #[t,t] ty #[v,.slice A ys.length c]).run P w=.ok v' w'∧w'.ownsRow base e size v' (n+ys.length) (xs++ys.flatMap enc)∧w.grownBy w' v.ownBlock∧(v'.ownBlock=v.ownBlock∨v'.ownBlock=some w.heap.size):=by
 rcases A with _|ad
 · have hm:ys=[]:=by
    rcases hS with h|⟨_,_,h,_⟩
    · exact h
    · cases h
   subst hm
   refine⟨v,w,?_,by simpa using hown,⟨rfl,rfl,rfl,Sw _,fun _ _ _=>rfl⟩,.inl rfl⟩
   rcases hown.2 with⟨rfl,rfl⟩|⟨g,cap,cur,rfl,_,_,hnc,_⟩
   · simp [SA,run_underlying ht,sizeOf,typeInfo,hi,SC,SB]
   · simp [SA,run_underlying ht,sizeOf,typeInfo,hi,SC,SB,hnc,storeCells]
 · have hcells:∀ j u,(ys.flatMap enc)[j]? =some u→w.cell? (ad.add j)=some u:=by
    intro j u hu
    rcases hS with h|⟨b,off,h,hlt,hc⟩
    · subst h
      simp at hu
    · obtain rfl:=Option.some.inj h
      have h':=fD (Ok:=Ok) hk (.inr ⟨b,off,rfl,hlt,hc⟩) j u hu
      simp only [Addr.add]
      split
      · rename_i h0
        have h0:j=0:=by simpa using h0
        subst h0
        simpa using h'
      · exact h'
   obtain⟨v',w',hrun,h2,h3,_,h5⟩:=run_append_own_at (P:=P) w base t ty e i z size bytes ht hi hz hsize hby hzs hsz v n xs hown ad ys.length c (ys.flatMap enc) (bz enc size hk ys) hcells (ei h1 ys) h63 hbytes hbase
   exact⟨v',w',hrun,h2,h3,h5⟩
theorem iH {o:Oper} {a:Act} {K:Act→Sj→Prop} {Q:Exit→Act→Sj→Prop} (s x:Sr)(t:Sm)
 (ho:o.op=.call { callee:=.builtin .append,args:=#[s,x],argTypes:=#[t,t] })
 (base:Nat) (e:Sm) (i:Sq) (z:Sk) (size bytes:Nat) (ht:P.underlying t=some (.slice e)) (hi:P.info? e=some i) (hz:i.zero=some z)
 (hsize:i.size=size) (hby:i.bytes=bytes) (hzs:z.cells.size=size) (hsz:0<size) (hk:∀ x,(enc x).length=size) (h1:∀ x,∀ v∈enc x,v.oneCell'=true)
 (v:Sk) (n:Nat) (xs:List Sk) (hs:a.eval s=v) (hown:w.ownsRow base e size v n xs) (A:Option Addr) (c:Nat) (ys:List α) (hx:a.eval x=.slice A ys.length c) (hS:ah size enc Ok w A ys)
 (h63:n+ys.length≤maxLen) (hbytes:(n+ys.length)*bytes≤140737488355328) (hbase:base≤w.heap.size)
 (h:∀ v' w',w'.ownsRow base e size v' (n+ys.length) (xs++ys.flatMap enc)→w.grownBy w' v.ownBlock→(v'.ownBlock=v.ownBlock∨v'.ownBlock=some w.heap.size)→K (a.put o.dst v') w'):o.wp P a w K Q:=by
 obtain⟨v',w',hrun,h2,h3,h4⟩:=lR (P:=P) (enc:=enc) (Ok:=Ok) w base t o.type e i z size bytes ht hi hz hsize hby hzs hsz hk h1 v n xs hown A c ys hS h63 hbytes hbase
 unfold Oper.wp execOp
 simp only [ho,resolve,invoke,builtin,Sem.run_bind,Sem.run_pure,Result.andThen_ok,List.map_toArray,List.map_cons,List.map_nil,hs,hx,hrun]
 exact h v' w' h2 h3 h4
theorem aJ {ops:Array Oper} {rest:List Oper} {o:Oper} {a:Act} {Q:Exit→Act→Sj→Prop} (hgd:o.guard=none)(s x:Sr)(t:Sm)
 (ho:o.op=.call { callee:=.builtin .append,args:=#[s,x],argTypes:=#[t,t] })
 (base:Nat) (e:Sm) (i:Sq) (z:Sk) (size bytes:Nat) (ht:P.underlying t=some (.slice e)) (hi:P.info? e=some i) (hz:i.zero=some z)
 (hsize:i.size=size) (hby:i.bytes=bytes) (hzs:z.cells.size=size) (hsz:0<size) (hk:∀ x,(enc x).length=size) (h1:∀ x,∀ v∈enc x,v.oneCell'=true)
 (v:Sk) (n:Nat) (xs:List Sk) (hs:a.eval s=v) (hown:w.ownsRow base e size v n xs) (A:Option Addr) (c:Nat) (ys:List α) (hx:a.eval x=.slice A ys.length c) (hS:ah size enc Ok w A ys)
 (h63:n+ys.length≤maxLen) (hbytes:(n+ys.length)*bytes≤140737488355328) (hbase:base≤w.heap.size)
 (h:∀ v' w',w'.ownsRow base e size v' (n+ys.length) (xs++ys.flatMap enc)→w.grownBy w' v.ownBlock→(v'.ownBlock=v.ownBlock∨v'.ownBlock=some w.heap.size)→wpList P ops Q rest (a.put o.dst v') w'):wpList P ops Q (o::rest) a w :=
 wpList_plain hgd fun _ hK=>iH (enc:=enc) (Ok:=Ok) w s x t ho base e i z size bytes ht hi hz hsize hby hzs hsz hk h1 v n xs hs hown A c ys hx hS h63 hbytes hbase fun v' w' h2 h3 h4=>hK _ _ (h v' w' h2 h3 h4)
end
structure Deep {α:Type} (lies:Sj→α→Prop)(uses:α→Nat→Prop):Prop where
 frame:∀ x w w',lies w x→w.heap.size≤w'.heap.size→(∀ b,uses x b→w'.heap[b]? =w.heap[b]?)→lies w' x
 lt:∀ x w b,lies w x→uses x b→b<w.heap.size
def jd {α:Type} (T k:Nat)(enc:α→List Sk)(lies:Sj→α→Prop)(uses:α→Nat→Prop)(B:Nat)(W0:Sj)(v:Sk)(zs:List α)(wr:Sj):Prop :=
 wr.ownsRow B T k v zs.length (zs.flatMap enc)∧(∀ z∈zs,lies wr z∧(∀ b,uses z b→v.ownBlock≠some b∧B≤b))∧Below B W0 wr
theorem jd.start {α:Type} {T k:Nat} {enc:α→List Sk} {lies:Sj→α→Prop} {uses:α→Nat→Prop} {B:Nat} {W0 wr:Sj} (hb:Below B W0 wr):jd T k enc lies uses B W0 (.slice none 0 0) [] wr :=
 ⟨SF _ _ _ _,fun z hz=>by simp at hz,hb⟩
theorem jd.later {α:Type} {T k:Nat} {enc:α→List Sk} {lies:Sj→α→Prop} {uses:α→Nat→Prop} (hD:Deep lies uses) {B:Nat} {W0 wr w1:Sj} {v:Sk} {zs:List α} (h:jd T k enc lies uses B W0 v zs wr)(hB:B≤W0.heap.size)(hb:Below wr.heap.size wr w1):jd T k enc lies uses B W0 v zs w1:=by
 obtain⟨h1,h2,h3⟩:=h
 exact⟨aI h1 hb,fun z hz=>⟨hD.frame z wr w1 (h2 z hz).1 hb.size (fun b hu=>hb.block b (hD.lt z wr b (h2 z hz).1 hu)),(h2 z hz).2⟩,h3.trans (hb.mono (Sz hB h3.size))⟩
theorem jd.push {α:Type} {T k:Nat} {enc:α→List Sk} {lies:Sj→α→Prop} {uses:α→Nat→Prop} (hD:Deep lies uses) {B:Nat} {W0 w1 w2:Sj} {v v':Sk} {zs:List α} {y:α} {cs:Array Sk} (h:jd T k enc lies uses B W0 v zs w1)(hB:B≤W0.heap.size)
 (hcs:cs.toList=enc y) (hown:w2.ownsRow B T k v' (zs.length+1) (zs.flatMap enc++cs.toList)) (hg:(w1.alloc (.cells cs T)).grownBy w2 v.ownBlock) (hat:v'.ownBlock=v.ownBlock∨v'.ownBlock=some (w1.heap.size+1))
 (hy:lies w1 y) (hyu:∀ b,uses y b→v.ownBlock≠some b∧B≤b):jd T k enc lies uses B W0 v' (zs++[y]) w2:=by
 obtain⟨h1,h2,h3⟩:=h
 have hsz:w1.heap.size+1≤w2.heap.size:=by
  have:=hg.size
  simpa using this
 have hblk:∀ b,b<w1.heap.size→v.ownBlock≠some b→w2.heap[b]? =w1.heap[b]?:=fun b hb hne=>by
  rw [hg.block b (by simp;omega) (fun e=>hne e.symm)]
  exact SI w1 _ b hb
 have hne':∀ b,b<w1.heap.size→v.ownBlock≠some b→v'.ownBlock≠some b:=fun b hb hne e=>by
  rcases hat with e'|e'
  · exact hne (e'▸e)
  · rw [e'] at e
    simp only [Option.some.injEq] at e
    omega
 refine⟨?_,fun z hz=>?_,?_⟩
 · rw [SR,List.flatMap_append]
   simp only [SS,List.length_nil,List.flatMap_cons,List.flatMap_nil,SU,←hcs]
   exact hown
 · rcases List.mem_append.1 hz with hz|hz
   · have hl:=(h2 z hz).1
     exact⟨hD.frame z w1 w2 hl (by omega) (fun b hu=>hblk b (hD.lt z w1 b hl hu) ((h2 z hz).2 b hu).1),fun b hu=>⟨hne' b (hD.lt z w1 b hl hu) ((h2 z hz).2 b hu).1,((h2 z hz).2 b hu).2⟩⟩
   · obtain rfl:z=y:=by simpa using hz
     exact⟨hD.frame z w1 w2 hy (by omega) (fun b hu=>hblk b (hD.lt z w1 b hy hu) (hyu b hu).1),fun b hu=>⟨hne' b (hD.lt z w1 b hy hu) (hyu b hu).1,(hyu b hu).2⟩⟩
 · have hB1:B≤w1.heap.size:=Sz hB h3.size
   exact(h3.alloc hB1 _).grown hg (by simp;omega) (fun j hj=>(h1.lt j hj).1)
theorem jd.slice {α:Type} {T k:Nat} {enc:α→List Sk} {lies:Sj→α→Prop} {uses:α→Nat→Prop} (hk:∀ x,(enc x).length=k) {B:Nat} {W0 wr:Sj} {v:Sk} {zs:List α} (h:jd T k enc lies uses B W0 v zs wr):∃ a cap,v=.slice a zs.length cap∧ah k enc lies wr a zs :=
 aA hk h.1 fun z hz=>(h.2.1 z hz).1
end Go.Proofs.YtjebaagkomejaaaGreatDoor
namespace Go.Proofs.YtjebaagkomejaaaGreatDoor
open Go.RowKit
structure Run where
 text:ByteArray
 color:Int
 it:Bool
 un:Bool
 ruby:ByteArray
def Run.enc (x:Run):List Sk:=[.string x.text,.int .u8 x.color,.bool x.it,.bool x.un,.string x.ruby]
def Run.fits (x:Run):Prop:=x.text.size≤4000000∧x.ruby.size≤4000000∧0≤x.color∧x.color≤255
structure Row where
 at_:Option Addr
 cap:Nat
 runs:List Run
def Row.enc (r:Row):List Sk:=[.slice r.at_ r.runs.length r.cap]
def Runs (w:Sj)(a:Option Addr)(xs:List Run):Prop:=ah 5 Run.enc Flat w a xs
theorem Runs.later {w w':Sj} {a:Option Addr} {xs:List Run} (h:Runs w a xs)(hb:Below w.heap.size w w'):Runs w' a xs:=ah.keeps Flat.keeps w w' a xs hb h
def Row.lies (w:Sj)(r:Row):Prop:=Runs w r.at_ r.runs
theorem Row.keeps:Keeps Row.lies:=fun w w' r hb h=>Runs.later h hb
def cH:List Run→Nat
 | []=>0
 | x::l=>x.text.size+cH l
def Row.fits (r:Row):Prop:=(∀ x∈r.runs,x.fits)∧r.runs.length≤4000000∧cH r.runs≤4000000
theorem cC (c:Int)(i u:Bool)(w:Sj):Sl Tryz.prog 77 #[.agg #[.int .u8 c,.bool i,.bool u]] w fun e w'=>e=.returned (.bool (decide (c≤6)))∧Below w.heap.size w w':=by
 go_enter Tryz.func77,Tryz.ntmps77
 go_wp2
 go_ret
 exact⟨rfl,(SH _ _).alloc (Sw _) _⟩
def eu (a b:Run):Bool:=(a.color==b.color&&a.it==b.it&&a.un==b.un)&&(a.ruby.toList.isEmpty&&b.ruby.toList.isEmpty)
theorem xA (c d:Int)(i u j v:Bool)(w:Sj):(binOp .eql 34 (.agg #[.int .u8 c,.bool i,.bool u]) (.agg #[.int .u8 d,.bool j,.bool v])).run Tryz.prog w=.ok (.bool (c==d&&i==j&&u==v)) w:=by
 simp [go_sem]
 repeat' split
 all_goals simp_all
theorem nI (a b:Run)(w:Sj):Sl Tryz.prog 183 #[.agg a.enc.toArray,.agg b.enc.toArray] w fun e w'=>e=.returned (.bool (eu a b))∧Below w.heap.size w w':=by
 have hA:eu a b=((a.color==b.color&&a.it==b.it&&a.un==b.un)&&(a.ruby.toList.isEmpty&&b.ruby.toList.isEmpty)):=rfl
 have hq:=xA a.color b.color a.it a.un b.it b.un
 obtain⟨t,c,i,u,r⟩:=a
 obtain⟨t',c',i',u',r'⟩:=b
 simp only at hA hq
 simp only [Run.enc]
 generalize eu ⟨t,c,i,u,r⟩ ⟨t',c',i',u',r'⟩=A at *
 generalize (c==c'&&i==i'&&u==u')=S at *
 have hb:∀ o o',Below w.heap.size w ((w.alloc o).alloc o'):=fun o o'=>((SH _ _).alloc (Sw _) _).alloc (by simp) _
 cases S
 · rw [Bool.false_and] at hA
   have HA:=h_ hA
   clear hA
   go_enter Tryz.func183,Tryz.ntmps183
   go_wp2
   go_ret
   rw [HA.out]
   exact⟨rfl,hb _ _⟩
 · rw [Bool.true_and] at hA
   by_cases h1:r.toList=[]
   · have h1':r.toList.isEmpty=true:=by simpa using h1
     rw [h1',Bool.true_and] at hA
     by_cases h2:r'.toList=[]
     · have h2':r'.toList.isEmpty=true:=by simpa using h2
       rw [h2'] at hA
       have HA:=h_ hA
       clear hA
       go_enter Tryz.func183,Tryz.ntmps183
       go_wp2
       go_ret
       rw [HA.out]
       exact⟨rfl,hb _ _⟩
     · have h2':r'.toList.isEmpty=false:=by simpa using h2
       rw [h2'] at hA
       have HA:=h_ hA
       clear hA
       go_enter Tryz.func183,Tryz.ntmps183
       go_wp2
       go_ret
       rw [HA.out]
       exact⟨rfl,hb _ _⟩
   · have h1':r.toList.isEmpty=false:=by simpa using h1
     rw [h1',Bool.false_and] at hA
     have HA:=h_ hA
     clear hA
     go_enter Tryz.func183,Tryz.ntmps183
     go_wp2
     go_ret
     rw [HA.out]
     exact⟨rfl,hb _ _⟩
theorem eC (s:ByteArray):∀ b pos,(c_ s b pos).length≤b
 | 0,_=>by simp [c_]
 | b+1,pos=>by
   simp only [c_]
   split
   · have:=eC s b (pos+(Utf8.decode s pos).2)
     rw [SS];omega
   · simp
theorem mR (s:ByteArray):-1≤lenB s∧lenB s≤s.size:=by
 unfold lenB
 have:=eC s s.size 0
 split
 · unfold runes;omega
 · omega
def cV:List Run→Int→Int
 | [],acc=>acc
 | x::l,acc=>if lenB x.text<0 then -1 else cV l (acc+lenB x.text)
def rowLen (runs:List Run):Int:=cV runs 0
theorem ck {α:Type} (xs:List α)(k:Nat)(x:α)(hx:xs[k]? =some x):xs.drop k=x::xs.drop (k+1):=by
 have hk:k<xs.length:=(SM.1 hx).1
 have e:xs[k]=x:=(SM.1 hx).2
 rw [List.drop_eq_getElem_cons hk,e]
theorem eI {w wr w1:Sj} (hb:Below w.heap.size w wr)(o:Obj)(h1:Below (wr.heap.size+1) (wr.alloc o) w1):Below w.heap.size w w1 :=
 (hb.alloc hb.size o).trans (h1.mono (by have:=hb.size;omega))
theorem eQ (r:Row)(w:Sj)(hE:Env w)(hr:r.lies w)(hf:r.fits) :
 Sl Tryz.prog 88 #[.agg r.enc.toArray] w fun e w'=>e=.returned (.int .i64 (rowLen r.runs))∧Below w.heap.size w w':=by
 obtain⟨a,cap,xs⟩:=r
 obtain⟨hfx,hl,hsum⟩:=hf
 simp only [Row.lies] at hr
 simp only [Row.enc] at *
 generalize hG:rowLen xs=G
 have H0:=h_ (show cV (xs.drop 0) 0=G by rw [SQ];exact hG)
 have hs0:0+cH (xs.drop 0)≤4000000:=by simpa using hsum
 clear hG
 go_enter Tryz.func88,Tryz.ntmps88
 go_wp2_with fail
 go_loopw [3,10] (fun s i wr=>∃ (k acc:Nat),k≤xs.length∧i=.int .i64 k∧s=.int .i64 acc∧cV (xs.drop k) acc=G∧acc+cH (xs.drop k)≤4000000∧Below w.heap.size w wr) (fun _ i _=>xs.length-(intOf i).toNat)
 case atStart=>exact⟨0,0,by omega,rfl,rfl,H0.out,hs0,(SH _ _).alloc (Sw _) _⟩
 case round =>
  obtain⟨k,acc,hk,rfl,rfl,hp,hs,hb⟩:=hrel
  by_cases hlt:k<xs.length
  · obtain⟨b,off,x,rfl,hbl,hx,hc,_⟩:=(hr.later hb).at_ hlt
    have hft:=hfx x (SJ hx)
    rw [ck xs k x hx] at hp hs
    simp only [cV] at hp
    simp only [cH] at hs
    have hll:=mR x.text
    have HL:=h_ (fun w1 (h:Env w1)=>sy x.text w1 hft.1 h)
    have HE:=h_ (fun w1 (h:Below w.heap.size w w1)=>hE.below h (Sw _))
    have Me:=fun o=>hb.alloc hb.size o
    have HB:=h_ (fun o w1 h1=>eI (w1:=w1) hb o h1)
    obtain⟨t,c,i,u,ru⟩:=x
    have d0:=hc 0 _ rfl;have d1:=hc 1 _ rfl;have d2:=hc 2 _ rfl;have d3:=hc 3 _ rfl;have d4:=hc 4 _ rfl
    simp only [Sx] at d0 d1 d2 d3 d4 hp hs HL hll
    have HP:=h_ hp
    have Nb:=h_ Me
    clear hp hc hx H0 hr Me hfx hft
    generalize hL:lenB t=L at *
    clear hL
    obtain⟨l0,l1⟩:=hll
    by_cases hneg:L<0
    · go_wp2_with (go_at_call 135;refine(HL.out _ (HE.out _ (Nb.out _))).mono ?_;rintro e w1 ⟨rfl,hb1⟩;simp only [SD] at hb1)
      go_ret
      exact⟨aG (by rw [←HP.out,if_pos hneg]),HB.out _ _ hb1⟩
    · have hnn:0≤L:=by omega
      go_wp2_with (go_at_call 135;refine(HL.out _ (HE.out _ (Nb.out _))).mono ?_;rintro e w1 ⟨rfl,hb1⟩;simp only [SD] at hb1)
      have hq:=HP.out
      rw [if_neg (by omega)] at hq
      have HQ:=h_ hq
      clear hq HP
      obtain⟨m,rfl⟩:=Int.eq_ofNat_of_zero_le hnn
      go_roundw
      case rel=>exact⟨k+1,acc+m,by omega,by go_num,by go_num,by have:=HQ.out;simpa using this,by omega,HB.out _ _ hb1⟩
      case measure=>simp [intOf];omega
  · obtain rfl:k=xs.length:=by omega
    rw [SL] at hp
    have HP:=h_ hp
    clear hp H0
    go_wp2_with fail
    go_ret
    exact⟨aG (by rw [←HP.out];rfl),hb⟩
def iC:List Run→List UInt8
 | []=>[]
 | x::l=>x.text.data.toList++iC l
def plain (runs:List Run):ByteArray:=⟨(iC runs).toArray⟩
theorem gQ:∀ l,(iC l).length=cH l
 | []=>rfl
 | x::l=>by simp [iC,cH,gQ l]
theorem oM (l:List UInt8)(s:ByteArray):SW l++S5 s=SW (l++s.data.toList):=by
 rw [Lib.byteCells_append,Lib.strCells_eq]
theorem qS {B b:Nat} {bs:List Sk} {w:Sj} (h:SX 232 5 B b bs w)(o:Obj):SX 232 5 B b bs (w.alloc o):=by
 have key:∀ p,SY 232 5 B b p bs w→SY 232 5 B b p bs (w.alloc o):=by
  rintro p ⟨hB,v,hb,hown,hne⟩
  have hlt:b<w.heap.size:=(S6.1 hb).1
  exact⟨hB,v,(SI w o b hlt).trans hb,hown.alloc o,hne⟩
 rcases h with h|h
 · exact .inl (key _ h)
 · exact .inr (key _ h)
theorem vE (w:Sj):SX 232 5 w.heap.size w.heap.size (SW []) (w.alloc (.cells #[.pointer none,.slice none 0 0] 232)) :=
 .inl ⟨Sw _,.slice none 0 0,Sn w _,SF _ _ _ _,by simp [Sk.ownBlock]⟩
def ku (xs:List Run)(w:Sj)(B k:Nat)(wr:Sj):Prop :=
 ∃ done,done++iC (xs.drop k)=iC xs∧SX 232 5 B B (SW done) wr∧Below B w wr
theorem ku.size {xs:List Run} {w:Sj} {B k:Nat} {wr:Sj} (h:ku xs w B k wr):B<wr.heap.size:=by
 obtain⟨done,_,hb,_⟩:=h
 rcases hb with⟨_,v,hb,_⟩|⟨_,v,hb,_⟩
 · exact(S6.1 hb).1
 · exact(S6.1 hb).1
theorem mI (r:Row)(w:Sj)(hr:r.lies w)(hf:r.fits) :
 Sl Tryz.prog 177 #[.agg r.enc.toArray] w fun e w'=>e=.returned (.string (plain r.runs))∧Below w.heap.size w w':=by
 obtain⟨a,cap,xs⟩:=r
 obtain⟨hfx,hl,hsum⟩:=hf
 simp only [Row.lies] at hr
 simp only [Row.enc] at *
 have hpl:(iC xs).length≤4000000:=by rw [gQ];exact hsum
 have Dt:=h_ hpl
 go_enter Tryz.func177,Tryz.ntmps177
 go_wp2_with fail
 have hst:∀ o,ku xs (w.alloc o) (w.heap.size+1) 0 ((w.alloc o).alloc (.cells #[.pointer none,.slice none 0 0] 232)):=fun o=>by
  have h1:=vE (w.alloc o)
  rw [SD] at h1
  exact⟨[],by rw [SQ,List.nil_append],h1,(SH _ _).alloc (by simp) _⟩
 have HST:=h_ hst
 clear hst hpl hsum
 go_loopw [9] (fun i wr=>∃ k:Nat,k≤xs.length∧i=.int .i64 k∧ku xs (w.alloc (.cells #[.slice a xs.length cap] 75)) (w.heap.size+1) k wr) (fun i _=>xs.length-(intOf i).toNat)
 case atStart=>exact⟨0,by omega,rfl,HST.out _⟩
 case round =>
  obtain⟨k,hk,rfl,hP⟩:=hrel
  have hsz:=hP.size
  obtain⟨done,hd,hB,hbel⟩:=hP
  have hbw:=bL hbel
  by_cases hlt:k<xs.length
  · obtain⟨b,off,x,rfl,hbl,hx,hc,_⟩:=(hr.later hbw).at_ hlt
    rw [ck xs k x hx] at hd
    simp only [iC] at hd
    obtain⟨t,c,i,u,ru⟩:=x
    have d0:=hc 0 _ rfl;have d1:=hc 1 _ rfl;have d2:=hc 2 _ rfl;have d3:=hc 3 _ rfl;have d4:=hc 4 _ rfl
    simp only [Sx] at d0 d1 d2 d3 d4 hd
    have hlen:(SW done).length+t.size≤140737488355328:=by
     have h1:=congrArg List.length hd
     have h2:=Dt.out
     simp only [SR,Array.length_toList,ByteArray.size_data] at h1
     rw [Lib.byteCells_length]
     omega
    have HW:=h_ (fun o=>kD (w.heap.size+1) (w.heap.size+1) (SW done) t (wr.alloc o) (qS hB o) hlen (by simp;omega))
    have HR:=h_ (fun(o:Obj) (w1:Sj) (h1:SY 232 5 (w.heap.size+1) (w.heap.size+1) (.pointer (some ⟨w.heap.size+1,0,none⟩)) (SW done++S5 t) w1) (h2:Below (w.heap.size+1) (wr.alloc o) w1) =>
     (show ku xs (w.alloc (.cells #[.slice (some ⟨b,off,none⟩) xs.length cap] 75)) (w.heap.size+1) (k+1) w1 from
      ⟨done++t.data.toList,by rw [List.append_assoc];exact hd,.inr (by rw [←oM];exact h1),(hbel.alloc (by omega) o).trans h2⟩))
    clear hc hx hr hd hB hbel hlen hfx
    go_wp2_with (go_at_call 219;refine(HW.out _).mono ?_;rintro e w1 ⟨rfl,h1,h2⟩)
    have hR:=HR.out _ _ h1 h2
    go_roundw
    case rel=>exact⟨k+1,by omega,by go_num,hR⟩
    case measure=>simp [intOf];omega
  · obtain rfl:k=xs.length:=by omega
    rw [SL] at hd
    simp only [iC,SU] at hd
    have HW:=h_ (Tryz.Builder_String_any (w.heap.size+1) (w.heap.size+1) done wr hB (by omega))
    have HB:=h_ (fun w1 (h:Below (w.heap.size+1) wr w1)=>hbw.trans (h.mono (by omega)))
    have HD:=h_ hd
    clear hd hB hbel hr hfx
    go_wp2_with (go_at_call 220;refine HW.out.mono ?_;rintro e w1 ⟨rfl,h1⟩)
    go_ret
    exact⟨by rw [HD.out];rfl,HB.out _ h1⟩
def jy (x:Run):Int:=if (!bw x.text)=true then 10 else if x.text.toList=[] then 4 else if ¬ x.color≤6 then 12 else if (!bw x.ruby)=true then 10 else 0
def fE (prev:Option Run)(x:Run):Int:=if (jy x != 0)=true then jy x else match prev with
 | none=>0
 | some p=>if eu p x=true then 8 else 0
def eK:Option Run→List Run→Int
 | _,[]=>0
 | prev,x::l=>if (fE prev x != 0)=true then fE prev x else eK (some x) l
def fT (runs:List Run):Int:=if 16<runs.length then 9 else eK none runs
def dC (xs:List Run):Nat→Option Run
 | 0=>none
 | k+1=>xs[k]?
theorem pZ (xs:List Run)(k:Nat)(x:Run)(hx:xs[k]? =some x)(prev:Option Run)(h:fE prev x=0):eK prev (xs.drop k)=eK (dC xs (k+1)) (xs.drop (k+1)):=by
 rw [ck xs k x hx,eK,h]
 simp [dC,hx]
theorem pY (xs:List Run)(k:Nat)(x:Run)(hx:xs[k]? =some x)(prev:Option Run)(h:(fE prev x != 0)=true):eK prev (xs.drop k)=fE prev x:=by
 rw [ck xs k x hx,eK,if_pos h]
theorem p_ (r:Row)(w:Sj)(hn:16<r.runs.length) :
 Sl Tryz.prog 126 #[.agg r.enc.toArray] w fun e w'=>e=.returned (.int .i64 (fT r.runs))∧Below w.heap.size w w':=by
 rw [fT,if_pos hn]
 have hn':(16:Int)<(r.runs.length:Int):=by omega
 simp only [Row.enc]
 go_enter Tryz.func126,Tryz.ntmps126
 go_wp2_with fail
 go_ret
 exact⟨rfl,(SH _ _).alloc (Sw _) _⟩
theorem zF (x:Run):(bw x.text=false∧jy x=10)∨(bw x.text=true∧x.text.toList=[]∧jy x=4)∨(bw x.text=true∧¬ x.text.toList=[]∧¬ x.color≤6∧jy x=12) ∨
 (bw x.text=true∧¬ x.text.toList=[]∧x.color≤6∧bw x.ruby=false∧jy x=10)∨(bw x.text=true∧¬ x.text.toList=[]∧x.color≤6∧bw x.ruby=true∧jy x=0):=by
 unfold jy
 cases h1:bw x.text<;>by_cases h2:x.text.toList=[]<;>by_cases h3:x.color≤6<;>cases h4:bw x.ruby<;>simp [h2,h3]
def cQ (a b:Int):Bool:=decide (0≤a∧a<b∧b≤5184000)
theorem uj (a b:Int)(w:Sj):Sl Tryz.prog 114 #[.agg #[.int .i64 a,.int .i64 b]] w fun e w'=>e=.returned (.bool (cQ a b))∧Below w.heap.size w w':=by
 rcases(show a<0∨(0≤a∧b≤a)∨(0≤a∧a<b∧5184000<b)∨(0≤a∧a<b∧b≤5184000) by omega) with h|⟨h1,h2⟩|⟨h1,h2,h3⟩|⟨h1,h2,h3⟩
 · have HS:=h_ (show cQ a b=false by simp [cQ];omega)
   have h':decide (0≤a)=false:=by simp;omega
   go_enter Tryz.func114,Tryz.ntmps114
   go_wp2
   go_ret
   rw [HS.out];exact⟨rfl,(SH _ _).alloc (Sw _) _⟩
 · have HS:=h_ (show cQ a b=false by simp [cQ];omega)
   have h':decide (a<b)=false:=by simp;omega
   go_enter Tryz.func114,Tryz.ntmps114
   go_wp2
   go_ret
   rw [HS.out];exact⟨rfl,(SH _ _).alloc (Sw _) _⟩
 · have HS:=h_ (show cQ a b=false by simp [cQ];omega)
   have h':decide (b≤5184000)=false:=by simp;omega
   go_enter Tryz.func114,Tryz.ntmps114
   go_wp2
   go_ret
   rw [HS.out];exact⟨rfl,(SH _ _).alloc (Sw _) _⟩
 · have HS:=h_ (show cQ a b=true by simp [cQ];omega)
   go_enter Tryz.func114,Tryz.ntmps114
   go_wp2
   go_ret
   rw [HS.out];exact⟨rfl,(SH _ _).alloc (Sw _) _⟩
def kindName (k:Int):ByteArray:=if k=1 then ⟨#[68,73,65,76,79,71,85,69]⟩ else if k=2 then ⟨#[83,79,85,78,68]⟩ else if k=3 then ⟨#[84,73,84,76,69]⟩ else if k=4 then ⟨#[77,85,83,73,67]⟩ else ⟨#[]⟩
theorem jA (k:Int)(w:Sj)(h0:0≤k)(h1:k≤255):Sl Tryz.prog 76 #[.int .u8 k] w fun e w'=>e=.returned (.string (kindName k))∧Below w.heap.size w w':=by
 rcases(show k<1∨4<k∨k=1∨k=2∨k=3∨k=4 by omega) with h|h|rfl|rfl|rfl|rfl
 · have HK:=h_ (show kindName k=⟨#[]⟩ by unfold kindName;repeat rw [if_neg (by omega)])
   go_enter Tryz.func76,Tryz.ntmps76
   go_wp2
   go_ret
   rw [HK.out];exact⟨rfl,SH _ _⟩
 · have HK:=h_ (show kindName k=⟨#[]⟩ by unfold kindName;repeat rw [if_neg (by omega)])
   go_enter Tryz.func76,Tryz.ntmps76
   go_wp2
   go_ret
   rw [HK.out];exact⟨rfl,SH _ _⟩
 all_goals
  go_enter Tryz.func76,Tryz.ntmps76
  go_wp2
  go_ret
  exact⟨rfl,(SH _ _).alloc (Sw _) _⟩
structure Ev where
 id:Int
 inn:Int
 out:Int
 region:ByteArray
 kind:Int
 speaker:ByteArray
 at_:Option Addr
 cap:Nat
 rows:List Row
def Ev.enc (x:Ev):List Sk:=[.int .i64 x.id,.int .i64 x.inn,.int .i64 x.out,.string x.region,.int .u8 x.kind,.string x.speaker,.slice x.at_ x.rows.length x.cap]
def bx (w:Sj)(a:Option Addr)(xs:List Row):Prop:=ah 1 Row.enc Row.lies w a xs
theorem bx.later {w w':Sj} {a:Option Addr} {xs:List Row} (h:bx w a xs)(hb:Below w.heap.size w w'):bx w' a xs:=ah.keeps Row.keeps w w' a xs hb h
def Ev.lies (w:Sj)(x:Ev):Prop:=bx w x.at_ x.rows
theorem Ev.keeps:Keeps Ev.lies:=fun w w' r hb h=>bx.later h hb
def Ev.fits (x:Ev):Prop:=i64 x.id∧i64 x.inn∧i64 x.out∧x.region.size≤4000000∧0≤x.kind∧x.kind≤255∧x.speaker.size≤4000000∧(∀ r∈x.rows,r.fits)∧x.rows.length≤4000000
def db (rows:List Row):List Int:=rows.map fun r=>rowLen r.runs
def fI (rows:List Row):Nat→List Int
 | 0=>[]
 | k+1=>fI rows k++[rowLen ((rows[k]?.map Row.runs).getD [])]
theorem j7 (rows:List Row):∀ k,(fI rows k).length=k
 | 0=>rfl
 | k+1=>by simp [fI,j7 rows k]
theorem mM (rows:List Row):∀ k,k≤rows.length→fI rows k=(rows.take k).map fun r=>rowLen r.runs
 | 0,_=>by simp [fI]
 | k+1,h=>by
   rw [fI,mM rows k (by omega),List.take_succ_eq_append_getElem (by omega),List.map_append]
   simp [SK (show k<rows.length by omega)]
theorem xQ (rows:List Row):fI rows rows.length=db rows:=by
 rw [mM rows _ (Sw _),SN];rfl
theorem Ab (rows:List Row)(k:Nat)(r:Row)(h:rows[k]? =some r):fI rows (k+1)=fI rows k++[rowLen r.runs]:=by
 rw [fI,h];rfl
theorem Tryz.info3:(Tryz.prog.info? 3).map (fun i=>(i.zero,i.size,i.bytes))=some (some (.int .i64 0),1,8):=by kernel_rfl
theorem zT {w w':Sj} {B base e size n:Nat} {v:Sk} {xs:List Sk} (h:w.ownsRow base e size v n xs)(hb:Below B w w')(hB:w.heap.size≤B):w'.ownsRow base e size v n xs:=by
 refine⟨h.1,?_⟩
 rcases h.2 with hn|⟨g,cap,cur,e1,hbase,hgg,rest⟩
 · exact .inl hn
 · refine .inr ⟨g,cap,cur,e1,hbase,?_,rest⟩
   rw [hb.block g (Nat.lt_of_lt_of_le (S6.1 hgg).1 hB)]
   exact hgg
theorem Ints.of_owns {w:Sj} {base e:Nat} {v:Sk} {zs:List Int} (h:w.ownsRow base e 1 v zs.length (zs.map (Sk.int .i64))):∃ a cap,v=.slice a zs.length cap∧Ints w a zs:=by
 have h':=h
 rcases h.2 with⟨rfl,h0⟩|⟨g,cap,cur,rfl,hb,hg,_⟩
 · exact⟨none,0,by rw [h0],.inl (by cases zs<;>simp_all)⟩
 · refine⟨_,cap,rfl,.inr ⟨g,0,rfl,(S6.1 hg).1,fun i z hz=>⟨fun j v hv=>?_,trivial⟩⟩⟩
   have hi:i<zs.length:=(SM.1 hz).1
   match j,hv with
   | 0,hv =>
     simp at hv
     subst hv
     rw [show 0+i*1+0=i by omega,h'.cellAt i (by omega)]
     simp [hz]
def Bc (rows:List Row)(w:Sj)(k:Nat)(v:Sk)(wr:Sj):Prop :=
 wr.ownsRow w.heap.size 3 1 v (fI rows k).length ((fI rows k).map (Sk.int .i64))∧Below w.heap.size w wr
def wQ (rows:List Row)(w:Sj)(e:Ending)(w':Sj):Prop:=∃ a c,e=.returned (.slice a rows.length c)∧Ints w' a (db rows)∧Below w.heap.size w w'
theorem Cb {xs:List Row} {w wr:Sj} {v:Sk} (hown:wr.ownsRow w.heap.size 3 1 v (fI xs xs.length).length ((fI xs xs.length).map (Sk.int .i64)))(hb:Below w.heap.size w wr):wQ xs w (.returned v) wr:=by
 rw [xQ] at hown
 obtain⟨a',c',rfl,hI⟩:=Ints.of_owns hown
 exact⟨a',c',by simp [db],hI,hb⟩
theorem pj (x:Ev)(w:Sj)(hE:Env w)(hr:x.lies w)(hf:x.fits) :
 Sl Tryz.prog 117 #[.agg x.enc.toArray] w (wQ x.rows w):=by
 obtain⟨id,inn,out,region,kind,speaker,a,cap,xs⟩:=x
 obtain⟨_,_,_,_,_,_,_,hfx,hl⟩:=hf
 simp only [Ev.lies] at hr hfx hl
 simp only [Ev.enc]
 obtain⟨j0,hj,hy0,hy1,hy2⟩:=info_parts Tryz.info3
 have JI:=h_ hj;have J0:=h_ hy0;have J1:=h_ hy1;have J2:=h_ hy2
 clear hj hy0 hy1 hy2
 go_enter Tryz.func117,Tryz.ntmps117
 go_wp2_with fail
 go_loopw [3,9] (fun v i wr=>∃ k:Nat,k≤xs.length∧i=.int .i64 k∧Bc xs w k v wr) (fun _ i _=>xs.length-(intOf i).toNat)
 case atStart=>exact⟨0,by omega,rfl,SF _ _ _ _,(SH _ _).alloc (Sw _) _⟩
 case round =>
  obtain⟨k,hk,rfl,hown,hb⟩:=hrel
  by_cases hlt:k<xs.length
  · obtain⟨b,off,r,rfl,hbl,hx,hc,hok⟩:=(hr.later hb).at_ hlt
    have hfr:=hfx r (SJ hx)
    have HL:=h_ (fun w1 h1 h2=>eQ r w1 h1 h2 hfr)
    have hat:=Ab xs k r hx
    obtain⟨ra,rc,rr⟩:=r
    simp only [Row.enc,Row.lies] at HL hok hat
    have d0:=hc 0 _ rfl
    simp only [Sx,Sy] at d0
    have hbs:=hb.size
    have HE:=h_ (fun o=>hE.below (hb.alloc hb.size o) (Sw _))
    have lJ:=h_ (fun o=>hok.later ((SH wr.heap.size wr).alloc (Sw _) o))
    have HO:=h_ (fun(o:Obj) (w1:Sj) (h1:Below (wr.heap.size+1) (wr.alloc o) w1)=>zT (hown.alloc o) h1 (by simp))
    have HB:=h_ (fun(o:Obj) (w1:Sj) (h1:Below (wr.heap.size+1) (wr.alloc o) w1)=>eI hb o h1)
    have HAT:=h_ hat
    have hlk:(fI xs k).length≤4000000:=by rw [j7];omega
    generalize rowLen rr=L at *
    clear hc hx hr hown hfx hfr hat hok
    go_wp2_with (first
     | (go_at_call 88;refine(HL.out _ (HE.out _) (lJ.out _)).mono ?_;rintro e w1 ⟨rfl,hb1⟩;simp only [SD] at hb1;have ho1:=h_ (HO.out _ _ hb1);have hbw:=HB.out _ _ hb1;have hbz:=hbw.size)
     | (at_builtin;refine aX _ _ rfl (.tmp 13) (.tmp 16) 162 rfl w.heap.size 3 j0 _ 1 8 Tryz.underlying162 JI.out J0.out J1.out J2.out rfl (by decide) _ _ _ rfl ho1.out _ rfl rfl rfl ?h1 ?h63 ?hb ?hbase ?_))
    case h1=>first|rfl|(intro u hu;simp at hu;subst hu;rfl)
    case h63=>unfold maxLen;omega
    case hb=>omega
    case hbase=>exact hbz
    intro v' w2 hown' hgrow
    have R:Bc xs w (k+1) v' w2:=by
     refine⟨?_,(hbw.alloc hbw.size _).grown hgrow (by simp;omega) (fun j hj=>(ho1.out.lt j hj).1)⟩
     rw [HAT.out]
     simpa using hown'
    clear hown' hgrow ho1
    go_wp2_with fail
    go_roundw
    case rel=>exact⟨k+1,by omega,by go_num,R⟩
    case measure=>simp [intOf];omega
  · obtain rfl:k=xs.length:=by omega
    have Lx:=h_ (Cb hown hb)
    clear hown
    go_wp2_with fail
    go_ret
    exact Lx.out
end Go.Proofs.YtjebaagkomejaaaGreatDoor
namespace Go.Proofs.YtjebaagkomejaaaGreatDoor
open Go.RowKit Go.Maps
def bM {α:Type} (xs:List α):Nat→Option α
 | 0=>none
 | k+1=>xs[k]?
theorem Di:Keyed Tryz.prog 2:=int_keyed Tryz.underlying2
theorem JK (w:Sj):(zeroValue 3).run Tryz.prog w=.ok (.int .i64 0) w:=by kernel_rfl
theorem isKey (z:Int):WideAt.IsKeyLit (.int .i64 z):=trivial
theorem wf64 {z:Int} (h:i64 z):(Lit.int .i64 z).wf=true:=WalkArith.wf_i64 h
theorem key2 {z:Int} (h:i64 z):keyOf Tryz.prog 2 (.int .i64 z)=some (.int .i64 z):=keyOf_int_mk Tryz.underlying2 (wf64 h)
theorem ay {P:Sp} (w:Sj) {ops:Array Oper} {rest:List Oper} {o:Oper} {a:Act} {Q:Exit→Act→Sj→Prop}
 (hg:o.guard=none) (m x:Sr) (t:Sm) (c:Bool) (hop:o.op=Op.lookup t m x c) (mv key v:Sk) (hm:a.eval m=mv) (hx:a.eval x=key)
 (hrun:(Instr.lookup t mv key c).run P w=.ok v w) (hK:wpList P ops Q rest (a.put o.dst v) w):wpList P ops Q (o::rest) a w:=by
 refine wpList_plain hg fun K' hK'=>?_
 unfold Oper.wp
 simp [execOp,hop,hm,hx,hrun,Result.andThen]
 exact hK' _ _ hK
def IMap (w:Sj)(b n:Nat)(f:Int→Option Nat):Prop:=∃ D:DataW Unit,w.ownsMap Tryz.prog 2 (plainElem Tryz.prog 3) b n D ∧
 ∀ z,Maps.has D (.int .i64 z)=(f z).isSome∧D.atKey (.int .i64 z) (.lit (.int .i64 0))=.lit (.int .i64 ((f z).getD 0:Nat))
theorem IMap.made (w:Sj):IMap (w.alloc (.map #[] 0)) w.heap.size 0 (fun _=>none) :=
 ⟨_,Sj.ownsMap_made _ _ _ _,fun z=>⟨rfl,rfl⟩⟩
theorem IMap.lt {w:Sj} {b n:Nat} {f:Int→Option Nat} (h:IMap w b n f):b<w.heap.size:=by
 obtain⟨D,h,_⟩:=h;exact h.lt
theorem ql {H:Type} {P:Sp} {k:Sm} {R:Sk→Option (DataW H × List MemPlace)} {w w':Sj} {b n B:Nat} {D:DataW H} (h:w.ownsMap P k R b n D)(hb:Below B w w')(hB:b<B):w'.ownsMap P k R b n D:=by
 obtain⟨es,clock,h1,r⟩:=h
 exact⟨es,clock,(hb.block b hB).trans h1,r⟩
theorem IMap.below {w w':Sj} {b n B:Nat} {f:Int→Option Nat} (h:IMap w b n f)(hb:Below B w w')(hB:b<B):IMap w' b n f:=by
 obtain⟨D,h,r⟩:=h
 exact⟨D,ql h hb hB,r⟩
theorem IMap.look {w:Sj} {b n:Nat} {f:Int→Option Nat} (h:IMap w b n f) {z:Int} (hz:i64 z) :
 (Instr.lookup 111 (.map (some b)) (.int .i64 z) true).run Tryz.prog w=.ok (.tuple #[.int .i64 ((f z).getD 0:Nat),.bool (f z).isSome]) w:=by
 obtain⟨D,h,r⟩:=h
 obtain⟨v,ps,hrun,hv⟩:=h.look_ok Di Tryz.underlying111 (JK w) (plainElem_int Tryz.underlying3 (by decide)) (key2 hz)
 rw [(r z).2] at hv
 obtain⟨c,rfl,hc,_⟩:=plainElem_int_inv Tryz.underlying3 hv
 simp only [Prod.mk.injEq,DataW.lit.injEq,Lit.int.injEq,true_and] at hc
 rw [hrun,(r z).1,←hc.1]
theorem IMap.put {w:Sj} {b n:Nat} {f:Int→Option Nat} (h:IMap w b n f) {z:Int} (hz:i64 z)(hn:n<maxLen)(v:Nat)(hv:i64 v) :
 ∃ w',(Instr.mapUpdate 111 (.map (some b)) (.int .i64 z) (.int .i64 v)).run Tryz.prog w=.ok () w'∧IMap w' b (n+1) (fun y=>if y=z then some v else f y)∧w.grownBy w' (some b):=by
 obtain⟨D,h,r⟩:=h
 obtain⟨w',h1,h2,h3⟩:=h.update Di Tryz.underlying111 hn (key2 hz) (plainElem_int Tryz.underlying3 (wf64 hv))
 refine⟨w',h1,⟨_,h2,fun y=>?_⟩,h3⟩
 by_cases hy:y=z
 · subst hy
   simp only [if_true]
   exact⟨has_put_same h.isMap (isKey _) _,atKey_put_same h.isMap (isKey _) _ _⟩
 · simp only [if_neg hy]
   have hne:Lit.int .i64 y≠Lit.int .i64 z:=by simpa using hy
   rw [has_put_other hne,atKey_put_other hne]
   exact r y
end Go.Proofs.YtjebaagkomejaaaGreatDoor
namespace Go.Proofs.YtjebaagkomejaaaGreatDoor
open Go.RowKit
def gL (a b:Run):Bool:=a.text.toList==b.text.toList&&(a.color==b.color&&a.it==b.it&&a.un==b.un)&&a.ruby.toList==b.ruby.toList
def gN (a b:Row):Bool:=SV gL a.runs b.runs
def dZ (a b:List Row):Bool:=SV gN a b
instance:Inhabited Run:=⟨⟨⟨#[]⟩,0,false,false,⟨#[]⟩⟩⟩
instance:Inhabited Row:=⟨⟨none,0,[]⟩⟩
theorem jR {α:Type} [Inhabited α] (xs:List α)(j:Nat)(h:j<xs.length):xs[j]? =some xs[j]!:=by
 rw [SK h,getElem!_pos xs j h]
theorem rY (x y:Run)(w:Sj):(binOp .neq 77 (.agg x.enc.toArray) (.agg y.enc.toArray)).run Tryz.prog w=.ok (.bool (!gL x y)) w:=by
 simp [go_sem,Run.enc,gL]
 repeat' split
 all_goals simp_all
theorem JP:Go.Proofs.NeqAt Tryz.prog 77 (fun x=>.agg (Run.enc x).toArray) gL:=⟨rY,Go.Proofs.GuardAt.agg (fun x=>(Run.enc x).toArray) (by kernel_rfl)⟩
theorem tk (a a':Option Addr)(n m c c':Nat)(w:Sj)(h:¬ n=m):Sl Tryz.prog 196 #[.slice a n c,.slice a' m c'] w fun e w'=>e=.returned (.bool false)∧w=w':=by
 have h1:(n != m)=true:=by simpa using h
 have h2:((n:Int) != (m:Int))=true:=by simp;omega
 go_enter Tryz.func196,Tryz.ntmps196
 go_wp2_with fail
 go_ret
 exact⟨rfl,rfl⟩
theorem ki (a a':Option Addr)(c c':Nat)(w:Sj):Sl Tryz.prog 196 #[.slice a 0 c,.slice a' 0 c'] w fun e w'=>e=.returned (.bool true)∧w=w':=by
 go_enter Tryz.func196,Tryz.ntmps196
 go_wp2_with fail
 refine wp_loop_rounds 1 ?_
 rw [rounds_succ]
 go_wp2_with fail
 go_ret
 exact⟨rfl,rfl⟩
theorem iY {α:Type} (eq:α→α→Bool):SV eq [] []=true:=by rw [SV]
theorem oy (a a':Option Addr)(c c':Nat)(xs ys:List Run)(w:Sj)(h:Runs w a xs)(h':Runs w a' ys)(hl:xs.length≤4000000)(hl':ys.length≤4000000) :
 Sl Tryz.prog 196 #[.slice a xs.length c,.slice a' ys.length c'] w fun e w'=>e=.returned (.bool (SV gL xs ys))∧Below w.heap.size w w':=by
 by_cases hn:xs.length=ys.length
 · rcases h with rfl|⟨b,off,rfl,hb,hc⟩
   · obtain rfl:ys=[]:=SO hn.symm
     rw [iY]
     exact(ki a a' c c' w).mono fun e w' ⟨he,hw⟩=>⟨he,hw▸SH _ _⟩
   · rcases h' with rfl|⟨b',off',rfl,hb',hc'⟩
     · obtain rfl:xs=[]:=SO hn
       rw [iY]
       exact(ki _ a' c c' w).mono fun e w' ⟨he,hw⟩=>⟨he,hw▸SH _ _⟩
     · have h:=Tryz.slices_Equal_f196 5 (fun w=>by kernel_rfl) (fun w=>by kernel_rfl) Run.enc (fun _=>rfl) gL JP b off xs.length c b' off' ys.length c' xs ys w (Sw _) (Sw _) (by omega) (by omega)
        (fun j hj i v hv=>(hc j _ (jR xs j hj)).1 i v hv) (fun j hj i v hv=>(hc' j _ (jR ys j hj)).1 i v hv)
       rw [SN,SN] at h
       exact h.mono fun e w' ⟨he,q,hw⟩=>⟨he,hw▸Go.below_drewN (SH _ _) q⟩
 · rw [SZ gL xs ys hn]
   exact(tk a a' _ _ c c' w hn).mono fun e w' ⟨he,hw⟩=>⟨he,hw▸SH _ _⟩
theorem xz (r s:Row)(w:Sj)(h:r.lies w)(h':s.lies w)(hl:r.runs.length≤4000000)(hl':s.runs.length≤4000000) :
 Sl Tryz.prog 147 #[.agg r.enc.toArray,.agg s.enc.toArray] w fun e w'=>e=.returned (.bool (gN r s))∧Below w.heap.size w w':=by
 have hb2:∀ o o',Below w.heap.size w ((w.alloc o).alloc o'):=fun o o'=>((SH _ _).alloc (Sw _) _).alloc (by simp) _
 have HC:=h_ (fun o o'=>oy r.at_ s.at_ r.cap s.cap r.runs s.runs ((w.alloc o).alloc o') (h.later (hb2 o o')) (h'.later (hb2 o o')) hl hl')
 have HB:=h_ (fun o o' w1 (h1:Below ((w.alloc o).alloc o').heap.size ((w.alloc o).alloc o') w1)=>(hb2 o o').trans (h1.mono (by simp;omega)))
 unfold gN
 obtain⟨ra,rc,rr⟩:=r
 obtain⟨sa,sc,ss⟩:=s
 simp only [Row.enc] at HC ⊢
 generalize SV gL rr ss=G at *
 clear hb2
 go_enter Tryz.func147,Tryz.ntmps147
 go_wp2_with fail
 refine(HC.out _ _).mono ?_
 rintro e w1 ⟨rfl,hb⟩
 have hb':=HB.out _ _ _ hb
 clear hb
 go_wp2_with fail
 go_ret
 exact⟨rfl,hb'⟩
theorem A4 (a a':Option Addr)(n m c c':Nat)(v:Sk)(w:Sj)(h:¬ n=m):Sl Tryz.prog 146 #[.slice a n c,.slice a' m c',v] w fun e w'=>e=.returned (.bool false)∧w=w':=by
 have h1:(n != m)=true:=by simpa using h
 have h2:((n:Int) != (m:Int))=true:=by simp;omega
 go_enter Tryz.func146,Tryz.ntmps146
 go_wp2_with fail
 go_ret
 exact⟨rfl,rfl⟩
theorem qT {α:Type} (eq:α→α→Bool)(xs ys:List α)(k:Nat)(x y:α)(hx:xs[k]? =some x)(hy:ys[k]? =some y):SV eq (xs.drop k) (ys.drop k)=(eq x y&&SV eq (xs.drop (k+1)) (ys.drop (k+1))):=by
 rw [ck xs k x hx,ck ys k y hy,SV]
def iZ (w:Sj)(a:Option Addr)(xs:List Row):Prop:=ah 1 Row.enc Row.lies w a xs
theorem vp (a a':Option Addr)(c c':Nat)(xs ys:List Row)(w:Sj)(h:iZ w a xs)(h':iZ w a' ys)(hf:∀ r∈xs,r.runs.length≤4000000)(hf':∀ r∈ys,r.runs.length≤4000000)(hl:xs.length≤4000000)(hn:xs.length=ys.length) :
 Sl Tryz.prog 146 #[.slice a xs.length c,.slice a' ys.length c',.func (.func 147) #[] #[]] w fun e w'=>e=.returned (.bool (dZ xs ys))∧Below w.heap.size w w':=by
 generalize hG:dZ xs ys=G
 have H0:=h_ (show SV gN (xs.drop 0) (ys.drop 0)=G from hG)
 have Dw:=h_ hn
 rw [←hn]
 clear hG hn
 have h1:((xs.length:Int) != (xs.length:Int))=false:=by simp
 go_enter Tryz.func146,Tryz.ntmps146
 go_wp2_with fail
 go_loopw [17] (fun i wr=>∃ k:Nat,k≤xs.length∧i=.int .i64 k∧SV gN (xs.drop k) (ys.drop k)=G∧Below w.heap.size w wr) (fun i _=>xs.length-(intOf i).toNat)
 case atStart=>exact⟨0,by omega,rfl,H0.out,SH _ _⟩
 case round =>
  obtain⟨k,hk,rfl,hp,hb⟩:=hrel
  by_cases hlt:k<xs.length
  · obtain⟨b,off,r,rfl,hbl,hx,hc,hok⟩:=(ah.keeps Row.keeps _ _ _ _ hb h).at_ hlt
    obtain⟨b',off',s,rfl,lW,hy,hc',hok'⟩:=(ah.keeps Row.keeps _ _ _ _ hb h').at_ (show k<ys.length by rw [←Dw.out];exact hlt)
    rw [qT gN xs ys k r s hx hy] at hp
    have hfr:=hf r (SJ hx)
    have hfs:=hf' s (SJ hy)
    have hb2:∀ o o',Below wr.heap.size wr ((wr.alloc o).alloc o'):=fun o o'=>((SH _ _).alloc (Sw _) _).alloc (by simp) _
    have HC:=h_ (fun o o'=>xz r s ((wr.alloc o).alloc o') (Row.keeps _ _ _ (hb2 o o') hok) (Row.keeps _ _ _ (hb2 o o') hok') hfr hfs)
    have HB:=h_ (fun o o' w1 (h1:Below ((wr.alloc o).alloc o').heap.size ((wr.alloc o).alloc o') w1)=>hb.trans (((hb2 o o').trans (h1.mono (by simp;omega))).mono hb.size))
    have HP:=h_ hp
    generalize gN r s=E at *
    obtain⟨ra,rc,rr⟩:=r
    obtain⟨sa,sc,ss⟩:=s
    simp only [Row.enc] at HC
    have d0:=hc 0 _ rfl
    have d0':=hc' 0 _ rfl
    simp only [Sx,Sy] at d0 d0'
    have dd:∀ o,(wr.alloc o).cell? ⟨b',off'+k,none⟩=some (.slice sa ss.length sc):=fun o=>(SG _ _ _ (by simpa using lW)).trans d0'
    clear hc hc' hp hx hy hok hok' hb2 hfr hfs H0 d0'
    cases E
    · go_wp2_with (go_at_call 147;refine(HC.out _ _).mono ?_;rintro e w1 ⟨rfl,hb1⟩;have hb1':=HB.out _ _ _ hb1;clear hb1)
      go_ret
      exact⟨by rw [←HP.out];rfl,hb1'⟩
    · go_wp2_with (go_at_call 147;refine(HC.out _ _).mono ?_;rintro e w1 ⟨rfl,hb1⟩;have hb1':=HB.out _ _ _ hb1;clear hb1)
      go_roundw
      case rel=>exact⟨k+1,by omega,by go_num,by rw [←HP.out];simp,hb1'⟩
      case measure=>simp [intOf];omega
  · obtain rfl:k=xs.length:=by omega
    have hp2:true=G:=by
     rw [←hp,SL,Dw.out,SL,iY]
    have HP:=h_ hp2
    clear hp hp2 H0
    go_wp2_with fail
    go_ret
    exact⟨by rw [←HP.out];rfl,hb⟩
theorem oc (a a':Option Addr)(c c':Nat)(xs ys:List Row)(w:Sj)(h:iZ w a xs)(h':iZ w a' ys)(hf:∀ r∈xs,r.runs.length≤4000000)(hf':∀ r∈ys,r.runs.length≤4000000)(hl:xs.length≤4000000) :
 Sl Tryz.prog 101 #[.slice a xs.length c,.slice a' ys.length c'] w fun e w'=>e=.returned (.bool (dZ xs ys))∧Below w.heap.size w w':=by
 have HC:Hid (Sl Tryz.prog 146 #[.slice a xs.length c,.slice a' ys.length c',.func (.func 147) #[] #[]] w fun e w'=>e=.returned (.bool (dZ xs ys))∧Below w.heap.size w w'):=by
  apply h_
  by_cases hn:xs.length=ys.length
  · exact vp a a' c c' xs ys w h h' hf hf' hl hn
  · rw [dZ,SZ gN xs ys hn]
    exact(A4 a a' _ _ c c' _ w hn).mono fun e w' ⟨he,hw⟩=>⟨he,hw▸SH _ _⟩
 go_enter Tryz.func101,Tryz.ntmps101
 go_wp2_with fail
 refine HC.out.mono ?_
 rintro e w1 ⟨rfl,hb⟩
 go_wp2_with fail
 go_ret
 exact⟨rfl,hb⟩
theorem pk:∀ (l:List Run)(acc:Int),0≤acc→-1≤cV l acc∧cV l acc≤acc+cH l
 | [],acc,h=>by simp only [cV,cH];omega
 | x::l,acc,h=>by
   have h1:=mR x.text
   simp only [cV,cH]
   split
   · omega
   · have:=pk l (acc+lenB x.text) (by omega)
     omega
theorem zJ (l:List Run):-1≤rowLen l∧rowLen l≤cH l:=by
 have:=pk l 0 (by omega)
 unfold rowLen
 omega
def mP:List Int→Int→Int
 | [],acc=>acc
 | n::l,acc=>if n<0 then -1 else mP l (acc+n)
def gC (rows:List Row):Int:=mP (db rows) (max ((rows.length:Int)-1) 0)
theorem mO (rows:List Row)(hf:∀ r∈rows,r.fits):∀ z∈db rows,z≤4000000:=by
 intro z hz
 simp only [db,List.mem_map] at hz
 obtain⟨r,hr,rfl⟩:=hz
 have h1:=zJ r.runs
 have h2:=(hf r hr).2.2
 omega
theorem nu (x:Ev)(w:Sj)(hE:Env w)(hr:x.lies w)(hf:x.fits) :
 Sl Tryz.prog 92 #[.agg x.enc.toArray] w fun e w'=>e=.returned (.int .i64 (gC x.rows))∧Below w.heap.size w w':=by
 have hLn:=fun w1 h1 h2=>pj x w1 h1 h2 hf
 obtain⟨id,inn,out,region,kind,speaker,a,cap,xs⟩:=x
 obtain⟨_,_,_,_,_,_,_,hfx,hl⟩:=hf
 have hbd:=mO xs hfx
 simp only [Ev.lies] at hr hfx hl hLn
 simp only [Ev.enc] at hLn ⊢
 have hlen:(db xs).length=xs.length:=by simp [db]
 generalize hG:gC xs=G
 unfold gC at hG
 generalize hz:db xs=zs at *
 have HZ:=h_ hz
 have HG:=h_ hG
 have IE:=h_ (hLn (w.alloc (.cells #[.int .i64 id,.int .i64 inn,.int .i64 out,.string region,.int .u8 kind,.string speaker,.slice a xs.length cap] 72)) (hE.below ((SH _ _).alloc (Sw _) _) (Sw _)) (hr.later ((SH _ _).alloc (Sw _) _)))
 have HLEN:=h_ hlen
 have fB:=h_ hbd
 clear hG hLn hlen hr hE hfx hz hbd
 obtain⟨m,hm,hm2,NS⟩:∃ m:Nat,max ((xs.length:Int)-1) 0=m∧((xs.length:Int)-1<0∧m=0∨(0:Int)≤(xs.length:Int)-1∧(m:Int)=(xs.length:Int)-1)∧m≤4000000:=by
  by_cases h:xs.length=0
  · exact⟨0,by omega,.inl ⟨by omega,rfl⟩,by omega⟩
  · exact⟨xs.length-1,by omega,.inr ⟨by omega,by omega⟩,by omega⟩
 rw [hm] at HG
 have HM:=h_ hm2
 clear hm hm2
 rcases HM.out with⟨h0,hm0⟩|⟨h0,hm0⟩
 all_goals
  have IC:=h_ hm0
  clear hm0
  go_enter Tryz.func92,Tryz.ntmps92
  go_wp2_with fail
  refine IE.out.mono ?_
  rintro e w1 ⟨a',c',rfl,hI,hb1⟩
  rw [SD] at hb1
  replace hb1:=h_ (bL hb1)
  rw [HZ.out] at hI
  clear IE
  go_wp2_with fail
  go_loop [3,14] (fun s i=>∃ (k acc:Nat),k≤zs.length∧i=.int .i64 k∧s=.int .i64 acc∧mP (zs.drop k) acc=G∧acc≤4000000+4000000*k) (fun _ i=>zs.length-(intOf i).toNat)
  case atStart=>exact⟨0,m,by omega,rfl,by have:=IC.out;go_num,by rw [SQ];exact HG.out,by omega⟩
  case round =>
   obtain⟨k,acc,hk,rfl,rfl,hp,hac⟩:=hrel
   have hlx:zs.length≤xs.length:=by have:=HLEN.out;omega
   have NX:xs.length≤zs.length:=by have:=HLEN.out;omega
   by_cases hlt:k<zs.length
   · obtain⟨b,off,z,rfl,hbl,hzz,hc,_⟩:=hI.at_ hlt
     have d0:=hc 0 _ rfl
     simp only [Sx,Sy] at d0
     have hzb:=fB.out z (SJ hzz)
     rw [ck zs k z hzz] at hp
     simp only [mP] at hp
     have HP:=h_ hp
     clear hp hc hzz hI HG
     by_cases hneg:z<0
     · go_wp2_with fail
       all_goals
        go_ret
        exact⟨aG (by rw [←HP.out,if_pos hneg]),hb1.out⟩
     · have hnn:0≤z:=by omega
       obtain⟨n,rfl⟩:=Int.eq_ofNat_of_zero_le hnn
       rw [if_neg (by omega)] at HP
       have Oe:acc≤4000000+4000000*4000000:=by omega
       clear hneg
       go_wp2_with fail
       all_goals
        go_round
        case rel=>exact⟨k+1,acc+n,by omega,by go_num,by go_num,by have:=HP.out;simpa using this,by omega⟩
        case measure=>simp [intOf];omega
   · obtain rfl:k=zs.length:=by omega
     rw [SL] at hp
     have HP:=h_ hp
     clear hp HG
     go_wp2_with fail
     go_ret
     exact⟨aG (by rw [←HP.out];rfl),hb1.out⟩
structure Cm where
 id:Int
 ev:Int
 frm:Int
 til:Int
 author:ByteArray
 text:ByteArray
 done:Bool
 lost:Bool
def Cm.enc (c:Cm):List Sk:=[.int .i64 c.id,.int .i64 c.ev,.int .i64 c.frm,.int .i64 c.til,.string c.author,.string c.text,.bool c.done,.bool c.lost]
def Cm.fits (c:Cm):Prop:=i64 c.id∧i64 c.ev∧i64 c.frm∧i64 c.til∧c.author.size≤4000000∧c.text.size≤4000000
structure Doc where
 title:ByteArray
 lA:ByteArray
 rate:Int
 drop:Bool
 last:Int
 ra:Option Addr
 rc:Nat
 rG:List Reg
 ea:Option Addr
 ec:Nat
 eV:List Ev
 ca:Option Addr
 cc:Nat
 cM:List Cm
def Doc.enc (d:Doc):List Sk:=[.string d.title,.string d.lA,.int .u8 d.rate,.bool d.drop,.int .i64 d.last,.slice d.ra d.rG.length d.rc,.slice d.ea d.eV.length d.ec,.slice d.ca d.cM.length d.cc]
def dy (w:Sj)(a:Option Addr)(xs:List Ev):Prop:=ah 7 Ev.enc Ev.lies w a xs
theorem dy.later {w w':Sj} {a:Option Addr} {xs:List Ev} (h:dy w a xs)(hb:Below w.heap.size w w'):dy w' a xs:=ah.keeps Ev.keeps w w' a xs hb h
def yU (w:Sj)(a:Option Addr)(xs:List Cm):Prop:=ah 8 Cm.enc Flat w a xs
theorem yU.later {w w':Sj} {a:Option Addr} {xs:List Cm} (h:yU w a xs)(hb:Below w.heap.size w w'):yU w' a xs:=ah.keeps Flat.keeps w w' a xs hb h
def Doc.lies (w:Sj)(d:Doc):Prop:=Regs w d.ra d.rG∧dy w d.ea d.eV∧yU w d.ca d.cM
theorem Doc.later {w w':Sj} {d:Doc} (h:d.lies w)(hb:Below w.heap.size w w'):d.lies w':=⟨h.1.later hb,h.2.1.later hb,h.2.2.later hb⟩
def Doc.fits (d:Doc):Prop:=d.title.size≤4000000∧d.lA.size≤4000000∧0≤d.rate∧d.rate≤255∧i64 d.last∧(∀ r∈d.rG,r.fits)∧d.rG.length≤4000000∧(∀ x∈d.eV,x.fits)∧d.eV.length≤4000000∧(∀ c∈d.cM,c.fits)∧d.cM.length≤4000000
def cw (last:Int)(f:Int→Option Nat)(eV:List Ev)(c:Cm):Int :=
 if c.ev<1∨last<c.ev then 2 else if c.lost then (if c.frm≠0∨c.til≠0 then 2 else 0) else match f c.ev with
  | none=>6
  | some i=>if c.frm<0∨c.til≤c.frm∨gC ((eV[i]?.map Ev.rows).getD [])<c.til then 2 else 0
theorem yK (last:Int)(f:Int→Option Nat)(eV:List Ev)(c:Cm)(hf:∀ z i,f z=some i→i<eV.length) :
 (cw last f eV c=2∧c.ev<1)∨(cw last f eV c=2∧1≤c.ev∧last<c.ev)∨(1≤c.ev∧c.ev≤last ∧
  ((c.lost=true∧((cw last f eV c=2∧c.frm≠0)∨(cw last f eV c=2∧c.frm=0∧c.til≠0)∨(cw last f eV c=0∧c.frm=0∧c.til=0))) ∨
   (c.lost=false∧((f c.ev=none∧cw last f eV c=6)∨∃ i x,f c.ev=some i∧i<eV.length∧eV[i]? =some x ∧
    ((cw last f eV c=2∧c.frm<0)∨(cw last f eV c=2∧0≤c.frm∧c.til≤c.frm)∨(0≤c.frm∧c.frm<c.til∧((cw last f eV c=2∧gC x.rows<c.til)∨(cw last f eV c=0∧c.til≤gC x.rows)))))))):=by
 unfold cw
 by_cases h1:c.ev<1
 · left;simp [h1]
 right
 by_cases h2:last<c.ev
 · left;simp [h1,h2];omega
 right
 refine⟨by omega,by omega,?_⟩
 rw [if_neg (by omega)]
 cases hl:c.lost
 · right
   refine⟨rfl,?_⟩
   cases hq:f c.ev with
   | none=>left;simp
   | some i =>
     right
     have hi:=hf _ _ hq
     refine⟨i,eV[i],rfl,hi,SK hi,?_⟩
     simp only [SK hi,Option.map_some,Option.getD_some,Bool.false_eq_true,if_false]
     by_cases h3:c.frm<0
     · left;simp [h3]
     right
     by_cases h4:c.til≤c.frm
     · left;simp [h4];omega
     right
     refine⟨by omega,by omega,?_⟩
     by_cases h5:gC eV[i].rows<c.til
     · left;simp [h5]
     · right;rw [if_neg (by omega)];exact⟨rfl,by omega⟩
 · left
   refine⟨rfl,?_⟩
   simp only [if_true]
   by_cases h3:c.frm=0
   · by_cases h4:c.til=0
     · right;right;simp [h3,h4]
     · right;left;simp [h3,h4]
   · left;simp [h3]
theorem tB {W w':Sj} {B b o:Nat} {v:Sk} (h:W.cell? ⟨b,o,none⟩=some v)(hB:b<B)(hb:Below B W w'):w'.cell? ⟨b,o,none⟩=some v :=
 (hb.cell (p:=⟨b,o,none⟩) hB).trans h
theorem bO (w:Sj)(cs cs':Array Sk)(t t':Sm)(j:Nat)(v:Sk)(h:cs[j]? =some v)(w':Sj)(hb:Below (w.heap.size+2) ((w.alloc (.cells cs t)).alloc (.cells cs' t')) w'):w'.cell? ⟨w.heap.size,j,none⟩=some v:=by
 refine tB ?_ (by omega) hb
 rw [SG _ _ _ (by simp),cell_of_row _ _ j cs t (0,0) (Sn w _),h]
theorem bB (w:Sj)(cs cs':Array Sk)(t t':Sm)(j:Nat)(v:Sk)(h:cs'[j]? =some v)(w':Sj)(hb:Below (w.heap.size+2) ((w.alloc (.cells cs t)).alloc (.cells cs' t')) w'):w'.cell? ⟨w.heap.size+1,j,none⟩=some v:=by
 refine tB ?_ (by omega) hb
 have:=Sn (w.alloc (.cells cs t)) (.cells cs' t')
 rw [SD] at this
 rw [cell_of_row _ _ j cs' t' (0,0) this,h]
theorem dU {w w':Sj} {o o':Obj} (hb:Below (w.heap.size+2) ((w.alloc o).alloc o') w'):Below w.heap.size w w' :=
 (((SH _ _).alloc (Sw _) _).alloc (by simp) _).trans (hb.mono (by omega))
end Go.Proofs.YtjebaagkomejaaaGreatDoor
