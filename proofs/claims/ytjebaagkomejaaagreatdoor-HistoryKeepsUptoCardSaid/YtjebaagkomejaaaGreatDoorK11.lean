/- DERIVED: THE SHELF's CONTRACTS AT THIS DUMP, IN PLAIN WORDS (tools/lay-plain.mjs out of 'YtjebaagkomejaaaGreatDoorShelfRs.lean', which tools/lay-shelf.mjs wrote): THE SAME DECLARATIONS UNDER THE SAME NAMES: 'import', 'namespace', 'open', -/
import Derived.Shelf.Utf8.AppendRunePlain
import Derived.Lib.SlBuf
import Derived.Shelf.Spec.SlicesInsertGrow
import Derived.Deep.DrawnRows
import Derived.Laws.CopyOwn
import Derived.Test.YtjebaagkomejaaaGreatDoorK08
import Derived.Test.YtjebaagkomejaaaGreatDoorK09
set_option linter.unusedVariables false
set_option linter.unusedSimpArgs false
set_option maxRecDepth 100000
set_option maxHeartbeats 12800000
open Go.Lib renaming hid→h_
open Go renaming World→Sj,run_storeCells_cells→Sk,below_drewN→Sl,wp_at_zero→Sm,wp_at_succ→Sn,run_underlying→Sp,Value→Sq
open Go.Lib renaming allEq→Sr,toList_data→Ss,runeCells→St
open Go.RowKit renaming Below→Su
open List renaming getElem?_eq_some_iff→Sv,getElem?_eq_getElem→Sw,drop_eq_nil_of_le→Sx,mem_cons→Sy,pairwise_cons→Sz,drop_length→SA,map_cons→SB,mem_of_getElem?→SC,pairwise_map→SD,getElem?_map→SF
open Go.RowKit.Below renaming refl→SG,heap_setCell→SH
open Go.Builtin renaming clear_→SI,zeroCells→SJ
open Nat renaming add_zero→SK,le_refl→SL
open Bool renaming and_eq_true→SM
open List.Pairwise renaming nil→SN
namespace Go.Proofs
open Go.Shelf
def Tryz.lays242_ren:Go.Shelf.Ren:=⟨fun|242=>243|278=>256|n=>n,fun|37=>230|21=>21|51=>261|4=>4|5=>5|46=>216|n=>n,fun|n=>n⟩
theorem Tryz.lays242:Go.Proofs.Lays.n242 Tryz.prog Tryz.lays242_ren:={
 mixed:=by kernel_rfl
 f242:=Tryz.func243.trans (congrArg some (by kernel_rfl))
 f278:=Tryz.func256.trans (congrArg some (by kernel_rfl))
 t4:=Tryz.underlying4
 a4:=Tryz.isAgg4
 z4:=Tryz.sizeOf4
 v4:=Tryz.zeroValue4
 t5:=Tryz.underlying5
 a5:=Tryz.isAgg5
 z5:=Tryz.sizeOf5
 v5:=Tryz.zeroValue5
 t21:=Tryz.underlying21
 a21:=Tryz.isAgg21
 z21:=Tryz.sizeOf21
 v21:=Tryz.zeroValue21
 t37:=Tryz.underlying230
 a37:=Tryz.isAgg230
 z37:=Tryz.sizeOf230
 v37:=Tryz.zeroValue230
 t46:=Tryz.underlying216
 a46:=Tryz.isAgg216
 z46:=Tryz.sizeOf216
 v46:=Tryz.zeroValue216
 t51:=Tryz.underlying261
 a51:=Tryz.isAgg261
 z51:=Tryz.sizeOf261
 v51:=Tryz.zeroValue261 }
theorem Tryz.utf8_AppendRune (B:Nat)(v:Sq)(n:Nat)(xs:List Sq)(r:Int)(hr0:-2147483648≤r)(hr1:r≤2147483647)(w:Sj)(hown:w.ownsRow B 5 1 v n xs)(hlen:n+4≤140737488355328)(hBw:B≤w.heap.size) :
 Calls Tryz.prog 243 #[v,.int .i32 r] w fun e w'=>∃ v',e=.returned v'∧w'.ownsRow B 5 1 v' (n+(St r).length) (xs++St r)∧∃ o,(w.alloc o).grownBy w' v.ownBlock:=Any.utf8_AppendRune_plain Tryz.lays242 (by kernel_rfl) B v n xs r hr0 hr1 w hown hlen hBw
end Go.Proofs
namespace Go.Proofs.YtjebaagkomejaaaGreatDoor
open Go.RowKit
theorem oB (d:Doc)(b n:Nat)(f:Int→Option Nat)(w:Sj)(hE:Env w)(hd:d.lies w)(eo:d.fits)(hM:IMap w b n f)(hf:∀ z i,f z=some i→i<d.eV.length) :
 Calls Tryz.prog 67 #[.agg d.enc.toArray,.map (some b)] w fun e w'=>e=.returned (.int .i64 (gU d.last f d.eV d.cM))∧Su w.heap.size w w':=by
 by_cases hn:64<d.cM.length
 · exact qN d b f w hn
 · exact tp d b n f w hE hd eo hM hf (by omega)
def cq (eV:List Ev):Nat→Int→Option Nat
 | 0=>fun _=>none
 | k+1=>fun y=>match eV[k]? with
   | none=>cq eV k y
   | some x=>if y=x.id then some k else cq eV k y
theorem xx (eV:List Ev)(k:Nat)(x:Ev)(h:eV[k]? =some x):(fun y=>if y=x.id then some k else cq eV k y)=cq eV (k+1):=by
 funext y
 simp only [cq,h]
theorem mq (eV:List Ev):∀ k z i,cq eV k z=some i→i<eV.length
 | 0,z,i,h=>by simp [cq] at h
 | k+1,z,i,h=>by
   simp only [cq] at h
   split at h
   · exact mq eV k z i h
   · rename_i x hx
     split at h
     · obtain rfl:k=i:=by simpa using h
       exact(Sv.1 hx).1
     · exact mq eV k z i h
def gj (prev:Option Ev)(x:Ev):Bool:=match prev with
 | none=>false
 | some p=>!kJ p x
def eT (rG:List Reg)(last:Int)(f:Int→Option Nat)(prev:Option Ev)(x:Ev):Int :=
 if (fK x rG != 0)=true then fK x rG else if last<x.id then 2 else if gj prev x=true then 8 else if (f x.id).isSome=true then 7 else 0
def nr (rG:List Reg)(last:Int)(eV:List Ev)(k:Nat):Nat→Int
 | 0=>0
 | n+1=>match eV[k]? with
   | none=>0
   | some x=>if (eT rG last (cq eV k) (bM eV k) x != 0)=true then eT rG last (cq eV k) (bM eV k) x else nr rG last eV (k+1) n
def ed (rG:List Reg)(last:Int)(eV:List Ev)(cM:List Cm)(k:Nat):Int :=
 if (nr rG last eV k (eV.length-k) != 0)=true then nr rG last eV k (eV.length-k) else gU last (cq eV eV.length) eV cM
def a_ (d:Doc):Int:=if (jP d.title d.lA d.rate d.drop d.last != 0)=true then jP d.title d.lA d.rate d.drop d.last else
 if (gA d.rG != 0)=true then gA d.rG else if 400<d.eV.length then 9 else ed d.rG d.last d.eV d.cM 0
theorem sk (rG:List Reg)(last:Int)(eV:List Ev)(cM:List Cm)(k:Nat)(x:Ev)(h:eV[k]? =some x)(h0:eT rG last (cq eV k) (bM eV k) x=0):ed rG last eV cM k=ed rG last eV cM (k+1):=by
 have hk:k<eV.length:=(Sv.1 h).1
 unfold ed
 rw [show eV.length-k=(eV.length-(k+1))+1 by omega,nr,h]
 simp only [h0]
 rfl
theorem sj (rG:List Reg)(last:Int)(eV:List Ev)(cM:List Cm)(k:Nat)(x:Ev)(h:eV[k]? =some x)(E:Int)(h0:eT rG last (cq eV k) (bM eV k) x=E)(hE:(E != 0)=true):ed rG last eV cM k=E:=by
 have hk:k<eV.length:=(Sv.1 h).1
 unfold ed
 rw [show eV.length-k=(eV.length-(k+1))+1 by omega,nr,h]
 simp only [h0,if_pos hE]
theorem uD (rG:List Reg)(last:Int)(eV:List Ev)(cM:List Cm):ed rG last eV cM eV.length=gU last (cq eV eV.length) eV cM:=by
 unfold ed
 rw [Nat.sub_self]
 rfl
theorem lC (rG:List Reg)(last:Int)(f:Int→Option Nat)(prev:Option Ev)(x:Ev)(A:Int)(hA:fK x rG=A) :
 ((A != 0)=true∧eT rG last f prev x=A)∨(A=0∧((last<x.id∧eT rG last f prev x=2)∨(x.id≤last∧((gj prev x=true∧eT rG last f prev x=8)∨(gj prev x=false ∧
  (((f x.id).isSome=true∧eT rG last f prev x=7)∨((f x.id).isSome=false∧eT rG last f prev x=0))))))):=by
 unfold eT
 rw [hA]
 by_cases h0:A=0
 · subst h0
   right
   refine⟨rfl,?_⟩
   rw [if_neg (by decide)]
   by_cases h1:last<x.id
   · left;rw [if_pos h1];exact⟨h1,rfl⟩
   · right
     refine⟨by omega,?_⟩
     rw [if_neg h1]
     cases h2:gj prev x<;>cases h3:(f x.id).isSome<;>simp
 · left
   have h0':(A != 0)=true:=by simpa using h0
   rw [if_pos h0']
   exact⟨h0',rfl⟩
theorem oT {ops:Array Oper} {rest:List Oper} {o:Oper} {a:Act} {Q:Exit→Act→Sj→Prop} (w:Sj)(hg:o.guard=none)(m x v:Operand)(hop:o.op=Op.mapUpdate 111 m x v)
 (b n:Nat) (f:Int→Option Nat) (hM:IMap w b n f) (hm:a.eval m=.map (some b)) (z:Int) (hz:i64 z) (hx:a.eval x=.int .i64 z) (val:Nat) (hv:a.eval v=.int .i64 val) (hi:i64 val) (hn:n<maxLen)
 (hK:∀ w',IMap w' b (n+1) (fun y=>if y=z then some val else f y)→w.grownBy w' (some b)→wpList Tryz.prog ops Q rest (a.put o.dst undef) w'):wpList Tryz.prog ops Q (o::rest) a w:=by
 refine wpList_plain hg fun K' hK'=>?_
 obtain⟨w',hrun,r1,r2⟩:=hM.put hz hn val hi
 unfold Oper.wp
 simp [execOp,hop,hm,hx,hv,hrun,Result.andThen]
 exact hK' _ _ (hK w' r1 r2)
theorem IMap.drewN {w:Sj} {b n:Nat} {f:Int→Option Nat} (h:IMap w b n f)(q:Nat):IMap (w.drewN q) b n f:=h.below (Sl (SG w.heap.size _) q) h.lt
def Jg (eV:List Ev)(B:Nat)(W0:Sj)(mb k:Nat)(wr:Sj):Prop:=IMap wr mb k (cq eV k)∧Su B W0 wr
theorem pX (eV:List Ev):∀ k y j x,j<k→eV[j]? =some x→x.id=y→(cq eV k y).isSome=true
 | 0,y,j,x,h,_,_=>by omega
 | k+1,y,j,x,h,hx,hy=>by
   simp only [cq]
   by_cases hj:j=k
   · subst hj
     rw [hx]
     simp [hy]
   · split
     · exact pX eV k y j x (by omega) hx hy
     · split
       · rfl
       · exact pX eV k y j x (by omega) hx hy
def bI {α:Type} (xs:List α)(k:Nat):List α:=xs.take k++xs.drop (k+1)
theorem yB {α:Type} (xs:List α)(k:Nat):∀ i x,(bI xs k)[i]? =some x→k<xs.length→(i<k∧xs[i]? =some x)∨(k≤i∧xs[i+1]? =some x):=by
 intro i x hx hk
 unfold bI at hx
 by_cases hi:i<k
 · rw [List.getElem?_append_left (by simp;omega),List.getElem?_take,if_pos hi] at hx
   exact .inl ⟨hi,hx⟩
 · rw [List.getElem?_append_right (by simp;omega),List.length_take,Nat.min_eq_left (by omega),List.getElem?_drop] at hx
   exact .inr ⟨by omega,by rw [←hx];congr 1;omega⟩
theorem jj {α:Type} (xs:List α)(k:Nat)(hk:k<xs.length):(bI xs k).length=xs.length-1:=by
 unfold bI
 simp
 omega
theorem BY {α:Type} {T K:Nat} {enc:α→List Sq} (hk:∀ x,(enc x).length=K) {w:Sj} {base g cap:Nat} {xs:List α} (h:w.ownsRow base T K (.slice (some ⟨g,0,none⟩) xs.length cap) xs.length (xs.flatMap enc)) {k:Nat} {x:α} (hx:xs[k]? =some x)(j:Nat)(v:Sq)(hv:(enc x)[j]? =some v):w.cell? ⟨g,k*K+j,none⟩=some v:=by
 have h1:=cK enc K hk xs k x j v hx hv
 have h2:=(Sv.1 h1).1
 rw [bz enc K hk xs] at h2
 rw [h.cellAt (k*K+j) h2]
 exact h1
theorem r_ (w:Sj)(g o c:Nat)(ty:TypeId)(hc:∀ j,j<7→(w.cell? ⟨g,o+j,none⟩).isSome=true)(hf:∀ j,j<7→w.frozen? ⟨g,o+j,none⟩=false) :
 (SI #[23] ty #[.slice (some ⟨g,o,none⟩) 1 c]).run Tryz.prog w=.ok (.tuple #[]) (w.setCells g o [.string ⟨#[]⟩,.int .i64 0,.int .i64 0,.int .i64 0,.int .i64 0,.int .u8 0,.bool false]):=by
 have hz:(zeroValue 37).run Tryz.prog w=.ok (.agg #[.string ⟨#[]⟩,.int .i64 0,.int .i64 0,.int .i64 0,.int .i64 0,.int .u8 0,.bool false]) w:=by kernel_rfl
 have hst:=Sk (P:=Tryz.prog) g o [.string ⟨#[]⟩,.int .i64 0,.int .i64 0,.int .i64 0,.int .i64 0,.int .u8 0,.bool false] 0 w (by simpa using hc) (by simpa using hf) (by intro v hv;simp at hv;rcases hv with rfl|rfl|rfl|rfl|rfl|rfl|rfl<;>rfl)
 have hzc:(SJ (Sq.agg #[.string ⟨#[]⟩,.int .i64 0,.int .i64 0,.int .i64 0,.int .i64 0,.int .u8 0,.bool false]).cells 1).toList=[.string ⟨#[]⟩,.int .i64 0,.int .i64 0,.int .i64 0,.int .i64 0,.int .u8 0,.bool false]:=by kernel_rfl
 simp only [SK] at hst
 simp [SI,Sp Tryz.underlying23,hz,hzc,hst]
theorem uA (w:Sj)(g o c:Nat)(ty:TypeId)(hc:∀ j,j<7→(w.cell? ⟨g,o+j,none⟩).isSome=true)(hf:∀ j,j<7→w.frozen? ⟨g,o+j,none⟩=false) :
 (SI #[24] ty #[.slice (some ⟨g,o,none⟩) 1 c]).run Tryz.prog w=.ok (.tuple #[]) (w.setCells g o [.int .i64 0,.int .i64 0,.int .i64 0,.string ⟨#[]⟩,.int .u8 0,.string ⟨#[]⟩,.slice none 0 0]):=by
 have hz:(zeroValue 72).run Tryz.prog w=.ok (.agg #[.int .i64 0,.int .i64 0,.int .i64 0,.string ⟨#[]⟩,.int .u8 0,.string ⟨#[]⟩,.slice none 0 0]) w:=by kernel_rfl
 have hst:=Sk (P:=Tryz.prog) g o [.int .i64 0,.int .i64 0,.int .i64 0,.string ⟨#[]⟩,.int .u8 0,.string ⟨#[]⟩,.slice none 0 0] 0 w (by simpa using hc) (by simpa using hf) (by intro v hv;simp at hv;rcases hv with rfl|rfl|rfl|rfl|rfl|rfl|rfl<;>rfl)
 have hzc:(SJ (Sq.agg #[.int .i64 0,.int .i64 0,.int .i64 0,.string ⟨#[]⟩,.int .u8 0,.string ⟨#[]⟩,.slice none 0 0]).cells 1).toList=[.int .i64 0,.int .i64 0,.int .i64 0,.string ⟨#[]⟩,.int .u8 0,.string ⟨#[]⟩,.slice none 0 0]:=by kernel_rfl
 simp only [SK] at hst
 simp [SI,Sp Tryz.underlying24,hz,hzc,hst]
theorem uB (w:Sj)(g o c:Nat)(ty:TypeId)(hc:∀ j,j<8→(w.cell? ⟨g,o+j,none⟩).isSome=true)(hf:∀ j,j<8→w.frozen? ⟨g,o+j,none⟩=false) :
 (SI #[25] ty #[.slice (some ⟨g,o,none⟩) 1 c]).run Tryz.prog w=.ok (.tuple #[]) (w.setCells g o [.int .i64 0,.int .i64 0,.int .i64 0,.int .i64 0,.string ⟨#[]⟩,.string ⟨#[]⟩,.bool false,.bool false]):=by
 have hz:(zeroValue 102).run Tryz.prog w=.ok (.agg #[.int .i64 0,.int .i64 0,.int .i64 0,.int .i64 0,.string ⟨#[]⟩,.string ⟨#[]⟩,.bool false,.bool false]) w:=by kernel_rfl
 have hst:=Sk (P:=Tryz.prog) g o [.int .i64 0,.int .i64 0,.int .i64 0,.int .i64 0,.string ⟨#[]⟩,.string ⟨#[]⟩,.bool false,.bool false] 0 w (by simpa using hc) (by simpa using hf) (by intro v hv;simp at hv;rcases hv with rfl|rfl|rfl|rfl|rfl|rfl|rfl|rfl<;>rfl)
 have hzc:(SJ (Sq.agg #[.int .i64 0,.int .i64 0,.int .i64 0,.int .i64 0,.string ⟨#[]⟩,.string ⟨#[]⟩,.bool false,.bool false]).cells 1).toList=[.int .i64 0,.int .i64 0,.int .i64 0,.int .i64 0,.string ⟨#[]⟩,.string ⟨#[]⟩,.bool false,.bool false]:=by kernel_rfl
 simp only [SK] at hst
 simp [SI,Sp Tryz.underlying25,hz,hzc,hst]
end Go.Proofs.YtjebaagkomejaaaGreatDoor
namespace Go.Proofs.YtjebaagkomejaaaGreatDoor
open Go.RowKit
attribute [local go_sem ↓] Sm Sn
def Aside (w5:Sj)(g:Nat)(w':Sj):Prop:=∀ b,b<w5.heap.size→b≠g→w'.heap[b]? =w5.heap[b]?
end Go.Proofs.YtjebaagkomejaaaGreatDoor
namespace Go.Proofs.YtjebaagkomejaaaGreatDoor
open Go.RowKit
theorem Doc.one:∀ (x:Doc)(v:Sq),v∈x.enc→v.oneCell'=true:=by
 intro x v hv
 simp only [Doc.enc,Sy,List.not_mem_nil,or_false] at hv
 rcases hv with rfl|rfl|rfl|rfl|rfl|rfl|rfl|rfl<;>rfl
theorem j5:∀ xs ys:List Row,xs.map Row.runs=ys.map Row.runs→eL xs=eL ys
 | [],[],_=>rfl
 | [],y::l,h=>by simp at h
 | x::l,[],h=>by simp at h
 | x::l,y::m,h=>by
   simp only [SB,List.cons.injEq] at h
   rw [eL,eL,h.1,j5 l m h.2]
theorem mN {xs ys:List Row} (h:xs.map Row.runs=ys.map Row.runs):db xs=db ys:=by
 have e:∀ zs:List Row,db zs=(zs.map Row.runs).map rowLen:=fun zs=>by unfold db;rw [List.map_map];rfl
 rw [e,e,h]
theorem jh {α β:Type} {f:α→β} {xs ys:List α} (h:xs.map f=ys.map f):xs.length=ys.length:=by
 have:=congrArg List.length h
 simpa using this
theorem ji {x y:Ev} (h:x.c=y.c)(rG:List Reg):fK x rG=fK y rG:=by
 obtain⟨id,inn,out,reg,kind,sp,a,c,rows⟩:=x
 obtain⟨id',inn',out',reg',kind',sp',a',c',rows'⟩:=y
 simp only [Ev.c,EvC.mk.injEq] at h
 obtain⟨rfl,rfl,rfl,rfl,rfl,rfl,hr⟩:=h
 unfold fK gk uC
 simp only [jh hr,j5 _ _ hr,mN hr]
theorem xP {x y x' y':Ev} (h:x.c=x'.c)(h':y.c=y'.c):kJ x y=kJ x' y':=by
 have h1:x.id=x'.id:=congrArg EvC.id h
 have h2:x.inn=x'.inn:=congrArg EvC.inn h
 have h3:y.id=y'.id:=congrArg EvC.id h'
 have h4:y.inn=y'.inn:=congrArg EvC.inn h'
 unfold kJ
 rw [h1,h2,h3,h4]
theorem at_like {xs ys:List Ev} (h:xs.map Ev.c=ys.map Ev.c)(k:Nat):(xs[k]? =none∧ys[k]? =none)∨∃ x y,xs[k]? =some x∧ys[k]? =some y∧x.c=y.c:=by
 have e:(xs.map Ev.c)[k]? =(ys.map Ev.c)[k]?:=by rw [h]
 rw [SF,SF] at e
 cases hx:xs[k]? with
 | none =>
   rw [hx] at e
   cases hy:ys[k]? with
   | none=>exact .inl ⟨rfl,rfl⟩
   | some y=>rw [hy] at e;simp at e
 | some x =>
   rw [hx] at e
   cases hy:ys[k]? with
   | none=>rw [hy] at e;simp at e
   | some y =>
     rw [hy] at e
     exact .inr ⟨x,y,rfl,rfl,by simpa using e⟩
theorem jL {xs ys:List Ev} (h:xs.map Ev.c=ys.map Ev.c):∀ k,cq xs k=cq ys k
 | 0=>rfl
 | k+1=>by
   funext z
   have ih:=jL h k
   simp only [cq]
   rcases at_like h k with⟨h1,h2⟩|⟨x,y,h1,h2,h3⟩
   · rw [h1,h2,ih]
   · have hid:x.id=y.id:=congrArg EvC.id h3
     rw [h1,h2]
     simp only [hid,ih]
theorem vo {xs ys:List Ev} (h:xs.map Ev.c=ys.map Ev.c)(k:Nat) {x y:Ev} (hxy:x.c=y.c):gj (bM xs k) x=gj (bM ys k) y:=by
 cases k with
 | zero=>rfl
 | succ k =>
   show gj xs[k]? x=gj ys[k]? y
   rcases at_like h k with⟨h1,h2⟩|⟨p,q,h1,h2,h3⟩
   · rw [h1,h2]
     rfl
   · rw [h1,h2]
     simp only [gj,xP h3 hxy]
theorem pw {xs ys:List Ev} (h:xs.map Ev.c=ys.map Ev.c)(rG:List Reg)(last:Int):∀ n k,nr rG last xs k n=nr rG last ys k n
 | 0,k=>rfl
 | n+1,k=>by
   have ih:=pw h rG last n (k+1)
   rw [nr,nr]
   rcases at_like h k with⟨h1,h2⟩|⟨x,y,h1,h2,h3⟩
   · rw [h1,h2]
   · have hid:x.id=y.id:=congrArg EvC.id h3
     have he:eT rG last (cq xs k) (bM xs k) x=eT rG last (cq ys k) (bM ys k) y:=by
      unfold eT
      rw [ji h3,hid,vo h k h3,jL h k]
     rw [h1,h2]
     simp only [he,ih]
theorem pz {xs ys:List Row} (h:xs.map Row.runs=ys.map Row.runs):gC xs=gC ys:=by
 unfold gC
 rw [mN h,jh h]
theorem yE {xs ys:List Ev} (h:xs.map Ev.c=ys.map Ev.c)(last:Int)(f:Int→Option Nat)(p:Option Cm)(c:Cm):fA last f xs p c=fA last f ys p c:=by
 have ha:cw last f xs c=cw last f ys c:=by
  unfold cw
  cases f c.ev with
  | none=>rfl
  | some i =>
    have:gC ((xs[i]?.map Ev.rows).getD [])=gC ((ys[i]?.map Ev.rows).getD []):=by
     rcases at_like h i with⟨h1,h2⟩|⟨x,y,h1,h2,h3⟩
     · rw [h1,h2]
     · rw [h1,h2]
       exact pz (congrArg EvC.rows h3)
    simp only [this]
 unfold fA
 rw [ha]
theorem lD {xs ys:List Ev} (h:xs.map Ev.c=ys.map Ev.c)(last:Int)(f:Int→Option Nat):∀ (cM:List Cm)(p:Option Cm),di last f xs p cM=di last f ys p cM
 | [],p=>rfl
 | c::l,p=>by rw [di,di,yE h,lD h last f l]
theorem vr {a b:Doc} (h:a.c=b.c):a_ a=a_ b:=by
 obtain⟨title,lA,rate,drop,last,ra,rc,rG,ea,ec,eV,ca,cc,cM⟩:=a
 obtain⟨title',lang',rate',drop',last',ra',rc',regs',ea',ec',evs',ca',cc',cms'⟩:=b
 simp only [Doc.c,Doc.hd,DocC.mk.injEq,Hd.mk.injEq] at h
 obtain⟨⟨rfl,rfl,rfl,rfl,rfl⟩,rfl,he,rfl⟩:=h
 have hl:=jh he
 have hc:gU last (cq eV eV.length) eV cM=gU last (cq evs' evs'.length) evs' cM:=by
  unfold gU
  rw [hl,jL he,lD he]
 have hr:ed rG last eV cM 0=ed rG last evs' cM 0:=by
  unfold ed
  rw [pw he,hc,hl]
 unfold a_
 simp only [hl,hr]
theorem KO {x y:Hd} (h:hdEq x y=true):x=y:=by
 obtain⟨a,b,c,d,e⟩:=x
 obtain⟨a',b',c',d',e'⟩:=y
 simp only [hdEq,SM,beq_iff_eq] at h
 obtain⟨⟨⟨⟨h1,h2⟩,rfl⟩,rfl⟩,rfl⟩:=h
 obtain rfl:=gV h1
 obtain rfl:=gV h2
 rfl
theorem Gg {x y:Reg} (h:gO x y=true):x=y:=by
 obtain⟨a,b,c,d,e,f,g⟩:=x
 obtain⟨a',b',c',d',e',f',g'⟩:=y
 simp only [gO,SM,beq_iff_eq] at h
 obtain⟨⟨⟨⟨⟨⟨h1,rfl⟩,rfl⟩,rfl⟩,rfl⟩,rfl⟩,rfl⟩:=h
 obtain rfl:=gV h1
 rfl
theorem K8 {x y:Cm} (h:cmEq x y=true):x=y:=by
 obtain⟨a,b,c,d,e,f,g,i⟩:=x
 obtain⟨a',b',c',d',e',f',g',i'⟩:=y
 simp only [cmEq,SM,beq_iff_eq] at h
 obtain⟨⟨⟨⟨⟨⟨⟨rfl,rfl⟩,rfl⟩,rfl⟩,h1⟩,h2⟩,rfl⟩,rfl⟩:=h
 obtain rfl:=gV h1
 obtain rfl:=gV h2
 rfl
theorem run_eq {x y:Run} (h:gL x y=true):x=y:=by
 obtain⟨a,b,c,d,e⟩:=x
 obtain⟨a',b',c',d',e'⟩:=y
 simp only [gL,SM,beq_iff_eq] at h
 obtain⟨⟨h1,⟨rfl,rfl⟩,rfl⟩,h2⟩:=h
 obtain rfl:=gV h1
 obtain rfl:=gV h2
 rfl
theorem wM {α:Type} (eq:α→α→Bool)(h:∀ x y,eq x y=true→x=y):∀ xs ys:List α,Sr eq xs ys=true→xs=ys
 | [],[],_=>rfl
 | [],y::l,h'=>by simp [Sr] at h'
 | x::l,[],h'=>by simp [Sr] at h'
 | x::l,y::m,h'=>by
   simp only [Sr,SM] at h'
   rw [h x y h'.1,wM eq h l m h'.2]
theorem zH:∀ xs ys:List Row,dZ xs ys=true→xs.map Row.runs=ys.map Row.runs
 | [],[],_=>rfl
 | [],y::l,h=>by simp [dZ,Sr] at h
 | x::l,[],h=>by simp [dZ,Sr] at h
 | x::l,y::m,h=>by
   unfold dZ at h
   simp only [Sr,SM] at h
   have h1:x.runs=y.runs:=wM _ (fun a b=>run_eq) _ _ h.1
   rw [SB,SB,h1,zH l m h.2]
theorem K6 {x y:Ev} (h:evEq x y=true):x.c=y.c:=by
 obtain⟨id,inn,out,reg,kind,sp,a,c,rows⟩:=x
 obtain⟨id',inn',out',reg',kind',sp',a',c',rows'⟩:=y
 simp only [evEq,SM,beq_iff_eq] at h
 obtain⟨⟨⟨⟨⟨rfl,rfl,rfl⟩,h1⟩,rfl⟩,h2⟩,hr⟩:=h
 obtain rfl:=gV h1
 obtain rfl:=gV h2
 simp only [Ev.c,zH _ _ hr]
def EvC.lt (x y:EvC):Prop:=x.inn<y.inn∨(x.inn=y.inn∧x.id<y.id)
structure Jf (c:DocC):Prop where
 rG:c.rG.Pairwise fun x y=>baLt x.name y.name
 cM:c.cM.Pairwise fun x y=>x.id<y.id
 ids:c.eV.Pairwise fun x y=>x.id≠y.id
 ord:c.eV.Pairwise EvC.lt
theorem nH (a:ByteArray):¬ baLt a a:=List.lt_irrefl _
theorem pC {a b c:ByteArray} (h:baLt a b)(h':baLt b c):baLt a c:=List.lt_trans h h'
theorem yJ {a b:ByteArray} (h1:¬ baLt a b)(h2:¬ a=b):baLt b a:=CN h1 fun h=>h2 (gV (by rw [Ss,Ss,h]))
theorem lp:∀ (xs:List Reg)(p:Option ByteArray),dH p xs=0→(∀ q,p=some q→∀ x∈xs,baLt q x.name)∧xs.Pairwise fun x y=>baLt x.name y.name
 | [],p,_=>⟨fun q _ x hx=>by simp at hx,SN⟩
 | x::l,p,h=>by
   rw [dH] at h
   split at h
   · rename_i hne
     rw [h] at hne
     cases hne
   · rename_i hne
     have h0:eA p x=0:=by simpa using hne
     have ih:=lp l _ h
     have hx:=ih.1 x.name rfl
     refine⟨fun q hq y hy=>?_,Sz.2 ⟨hx,ih.2⟩⟩
     subst hq
     have Jj:baLt q x.name:=by
      unfold eA at h0
      split at h0
      · rename_i h1
        rw [h0] at h1
        cases h1
      · simp only at h0
        split at h0
        · cases h0
        · rename_i h2
          split at h0
          · cases h0
          · rename_i h3
            exact yJ (fun h=>h3 ((Fh _ _).2 h)) (fun h=>h2 (by rw [h];simp))
     rcases Sy.1 hy with rfl|hy
     · exact Jj
     · exact pC Jj (hx y hy)
theorem nE (last:Int)(f:Int→Option Nat)(eV:List Ev):∀ (xs:List Cm)(p:Option Cm),di last f eV p xs=0→(∀ q,p=some q→∀ x∈xs,q.id<x.id)∧xs.Pairwise fun x y=>x.id<y.id
 | [],p,_=>⟨fun q _ x hx=>by simp at hx,SN⟩
 | x::l,p,h=>by
   rw [di] at h
   split at h
   · rename_i hne
     rw [h] at hne
     cases hne
   · rename_i hne
     have h0:fA last f eV p x=0:=by simpa using hne
     have ih:=nE last f eV l _ h
     have hx:=ih.1 x rfl
     refine⟨fun q hq y hy=>?_,Sz.2 ⟨hx,ih.2⟩⟩
     subst hq
     have Jj:q.id<x.id:=by
      unfold fA at h0
      split at h0
      · cases h0
      · split at h0
        · cases h0
        · rename_i h2
          simp only [eR,decide_eq_true_eq] at h2
          omega
     rcases Sy.1 hy with rfl|hy
     · exact Jj
     · have:=hx y hy
       omega
theorem jv {α:Type} {R:α→α→Prop} (ht:∀ a b c,R a b→R b c→R a c):∀ xs:List α,(∀ k x y,xs[k]? =some x→xs[k+1]? =some y→R x y)→xs.Pairwise R
 | [],_=>SN
 | [x],_=>by simp
 | x::y::l,h=>by
   have ih:=jv ht (y::l) fun k a b ha hb=>h (k+1) a b (by simpa using ha) (by simpa using hb)
   have hxy:=h 0 x y rfl rfl
   refine Sz.2 ⟨fun z hz=>?_,ih⟩
   rcases Sy.1 hz with rfl|hz
   · exact hxy
   · exact ht _ _ _ hxy (List.rel_of_pairwise_cons ih hz)
theorem ti (rG:List Reg)(last:Int)(eV:List Ev):∀ n k,nr rG last eV k n=0→∀ j x,k≤j→j<k+n→eV[j]? =some x→eT rG last (cq eV j) (bM eV j) x=0
 | 0,k,_,j,x,h1,h2,_=>by omega
 | n+1,k,h,j,x,h1,h2,hx=>by
   rw [nr] at h
   have hk:k<eV.length:=by have:=(Sv.1 hx).1;omega
   rw [Sw hk] at h
   simp only at h
   split at h
   · rename_i hne
     rw [h] at hne
     cases hne
   · rename_i hne
     by_cases hj:j=k
     · subst hj
       rw [Sw hk] at hx
       obtain rfl:eV[j]=x:=by simpa using hx
       simpa using hne
     · exact ti rG last eV n (k+1) h j x (by omega) (by omega) hx
theorem iv {rG:List Reg} {last:Int} {f:Int→Option Nat} {prev:Option Ev} {x:Ev} (h:eT rG last f prev x=0):fK x rG=0∧x.id≤last∧(f x.id).isSome=false∧gj prev x=false:=by
 rcases lC rG last f prev x _ rfl with⟨h1,h2⟩|⟨h1,⟨h2,h3⟩|⟨h2,⟨h3,h4⟩|⟨h3,⟨h4,h5⟩|⟨h4,h5⟩⟩⟩⟩
 · rw [←h2,h] at h1;cases h1
 · rw [h] at h3;cases h3
 · rw [h] at h4;cases h4
 · rw [h] at h5;cases h5
 · exact⟨h1,h2,h4,h3⟩
theorem kl {d:Doc} (h:a_ d=0):jP d.title d.lA d.rate d.drop d.last=0∧gA d.rG=0∧d.eV.length≤400∧(∀ j x,d.eV[j]? =some x→eT d.rG d.last (cq d.eV j) (bM d.eV j) x=0)∧gU d.last (cq d.eV d.eV.length) d.eV d.cM=0:=by
 unfold a_ at h
 split at h
 · rename_i hne;rw [h] at hne;cases hne
 · rename_i hhd
   split at h
   · rename_i hne;rw [h] at hne;cases hne
   · rename_i N1
     split at h
     · cases h
     · rename_i h4
       unfold ed at h
       split at h
       · rename_i hne;rw [h] at hne;cases hne
       · rename_i hne
         refine⟨by simpa using hhd,by simpa using N1,by omega,fun j x hx=>?_,h⟩
         exact ti d.rG d.last d.eV _ 0 (by simpa using hne) j x (Nat.zero_le _) (by have:=(Sv.1 hx).1;omega) hx
theorem wt (x y:Ev):kJ x y=true↔x.c.lt y.c:=by
 show ltOf lY x y=true↔_
 rw [iW]
 simp [EvC.lt,Ev.c]
theorem K7 {d:Doc} (h:a_ d=0):Jf d.c:=by
 obtain⟨_,h2,h3,h4,h5⟩:=kl h
 refine⟨?_,?_,?_,?_⟩
 · unfold gA at h2
   split at h2
   · cases h2
   · exact(lp _ _ h2).2
 · unfold gU at h5
   split at h5
   · cases h5
   · exact(nE _ _ _ _ _ h5).2
 · show(d.eV.map Ev.c).Pairwise _
   rw [SD,List.pairwise_iff_getElem]
   intro i j hi hj hij he
   have:=(iv (h4 j _ (Sw hj))).2.2.1
   rw [pX d.eV j d.eV[j].id i d.eV[i] hij (Sw hi) he] at this
   cases this
 · show(d.eV.map Ev.c).Pairwise _
   rw [SD]
   refine jv (fun a b c h1 h2=>?_) _ fun k x y hx hy=>?_
   · simp only [EvC.lt] at *
     omega
   · have:=(iv (h4 (k+1) y hy)).2.2.2
     rw [bM,hx] at this
     simp only [gj,Bool.not_eq_false'] at this
     exact(wt x y).1 this
end Go.Proofs.YtjebaagkomejaaaGreatDoor
namespace Go.Proofs.YtjebaagkomejaaaGreatDoor
open Go.RowKit
attribute [local go_sem ↓] Sm Sn
def pL (B:Nat)(xs:List Ev)(g cap k:Nat)(w4 wr:Sj):Prop :=
 ∃ zs:List Ev,zs.length=xs.length∧zs.map Ev.c=xs.map Ev.c∧wr.ownsRow B 72 7 (.slice (some ⟨g,0,none⟩) xs.length cap) xs.length (zs.flatMap Ev.enc)∧(∀ j z,zs[j]? =some z→z.lies wr∧(∀ b,z.uses b→b≠g∧(j<k→B≤b))∧(j<k→∀ r∈z.rows,∀ b,r.uses b→fk wr b))∧w4.heap.size≤wr.heap.size∧(∀ b,b<w4.heap.size→b≠g→wr.heap[b]? =w4.heap[b]?)
theorem np:∀ (zs:List Ev)(k:Nat)(z y:Ev),zs[k]? =some z→y.c=z.c→(zs.set k y).map Ev.c=zs.map Ev.c
 | [],k,z,y,h,_=>by simp at h
 | x::l,0,z,y,h,hy=>by
   obtain rfl:x=z:=by simpa using h
   simp [hy]
 | x::l,k+1,z,y,h,hy=>by
   have:=np l k z y (by simpa using h) hy
   simp [this]
theorem pL.step {B:Nat} {xs zs:List Ev} {g cap k:Nat} {w4 wr w1 w2:Sj} {z y:Ev} (hk:zs[k]? =some z)(h1:zs.length=xs.length)(h2:zs.map Ev.c=xs.map Ev.c)(h3:wr.ownsRow B 72 7 (.slice (some ⟨g,0,none⟩) xs.length cap) xs.length (zs.flatMap Ev.enc))
 (h4:∀ j z,zs[j]? =some z→z.lies wr∧(∀ b,z.uses b→b≠g∧(j<k→B≤b))∧(j<k→∀ r∈z.rows,∀ b,r.uses b→fk wr b)) (h5:w4.heap.size≤wr.heap.size) (h6:∀ b,b<w4.heap.size→b≠g→wr.heap[b]? =w4.heap[b]?) (hB:B≤w4.heap.size)
 (hb:Su wr.heap.size wr w1) (ff:y.c=z.c) (hyl:y.lies w1) (hyu:∀ b,y.uses b→wr.heap.size≤b) (mY:∀ r∈y.rows,∀ b,r.uses b→fk w1 b)
 (hw:w2=((((((w1.setCell ⟨g,k*7,none⟩ (.int .i64 y.id)).setCell ⟨g,k*7+1,none⟩ (.int .i64 y.inn)).setCell ⟨g,k*7+2,none⟩ (.int .i64 y.out)).setCell ⟨g,k*7+3,none⟩ (.string y.region)).setCell ⟨g,k*7+4,none⟩ (.int .u8 y.kind)).setCell ⟨g,k*7+5,none⟩ (.string y.speaker)).setCell ⟨g,k*7+6,none⟩ (.slice y.at_ y.rows.length y.cap)) :
 pL B xs g cap (k+1) w4 w2:=by
 have hkl:k<zs.length:=(Sv.1 hk).1
 have hg:=h3.lt g rfl
 obtain⟨s1,s2,s3⟩:=AX (aI h3 hb) h1 (by omega) y w2 hw
 have hs:=hb.size
 refine⟨zs.set k y,by simpa using h1,(np zs k z y hk ff).trans h2,s1,fun j x hx=>?_,by omega,fun b hb1 hb2=>?_⟩
 · rw [List.getElem?_set] at hx
   by_cases hjk:k=j
   · rw [if_pos hjk,if_pos hkl] at hx
     obtain rfl:=Option.some.inj hx
     refine⟨Ev.frame hyl (by omega) fun b hu=>s3 b ?_,fun b hu=>⟨?_,fun _=>?_⟩,fun _ r hr b hu=>(mY r hr b hu).kept (s3 b (by have:=hyu b (.inr ⟨r,hr,hu⟩);omega))⟩
     · have:=hyu b hu
       omega
     · have:=hyu b hu
       omega
     · have:=hyu b hu
       omega
   · rw [if_neg hjk] at hx
     obtain⟨q1,q2,q3⟩:=h4 j x hx
     exact⟨Ev.frame (Ev.keeps _ _ _ hb q1) (by omega) fun b hu=>s3 b (q2 b hu).1,fun b hu=>⟨(q2 b hu).1,fun hj=>(q2 b hu).2 (by omega)⟩,fun hj r hr b hu=>((q3 (by omega) r hr b hu).kept (hb.block b (Ev.uses_lt q1 (.inr ⟨r,hr,hu⟩)))).kept (s3 b (q2 b (.inr ⟨r,hr,hu⟩)).1)⟩
 · rw [s3 b hb2,hb.block b (by omega),h6 b hb1 hb2]
theorem oV {α:Type} {K:Nat} {enc:α→List Sq} {w3:Sj} {g i5 i7:Nat} {v5 v7:Sq} {a:Option Addr} {xs:List α} (h:ah K enc Flat w3 a xs)(hf:∀ ad,a=some ad→g<ad.block):ah K enc Flat ((w3.setCell ⟨g,i5,none⟩ v5).setCell ⟨g,i7,none⟩ v7) a xs :=
 ah.frame h (by simp) (fun b hu=>by
  obtain⟨_,ad,e,rfl⟩:=hu
  have:=hf ad e
  rw [SH _ _ _ _ (by simp only;omega),SH _ _ _ _ (by simp only;omega)]) (fun _ _ _=>trivial)
end Go.Proofs.YtjebaagkomejaaaGreatDoor
namespace Go.Proofs.YtjebaagkomejaaaGreatDoor
open Go.RowKit
attribute [local go_sem ↓] Sm Sn
theorem allEq_len {α:Type} (eq:α→α→Bool):∀ xs ys:List α,xs.length≠ys.length→Sr eq xs ys=false
 | [],[],h=>absurd rfl h
 | [],_::_,_=>rfl
 | _::_,[],_=>rfl
 | x::xs,y::ys,h=>by
   have:=allEq_len eq xs ys (by simpa using h)
   simp only [Sr,this,Bool.and_false]
theorem ox (a b:Option Addr)(c c':Nat)(xs ys:List Reg)(w:Sj)(hx:ah 7 Reg.enc Flat w a xs)(hy:ah 7 Reg.enc Flat w b ys)(hl:xs.length≤4000000)(hl':ys.length≤4000000) :
 Calls Tryz.prog 48 #[.slice a xs.length c,.slice b ys.length c'] w fun e w'=>e=.returned (.bool (Sr gO xs ys))∧Su w.heap.size w w':=by
 generalize hR:Sr gO xs ys=R
 by_cases hle:xs.length=ys.length
 · have HX:=h_ (fun(w1:Sj) (h:Su w.heap.size w w1)=>ah.keeps Flat.keeps _ _ _ _ h hx)
   have HY:=h_ (fun(w1:Sj) (h:Su w.heap.size w w1)=>ah.keeps Flat.keeps _ _ _ _ h hy)
   have H0:=h_ (show Sr gO (xs.drop 0) (ys.drop 0)=R from hR)
   rw [←hle]
   have pH:=h_ hle
   clear hle hx hy hl' hR
   go_enter Tryz.func48,Tryz.ntmps48
   go_wp2_with fail
   go_loopw [13] (fun i wr=>∃ k:Nat,k≤xs.length∧i=.int .i64 k∧Sr gO (xs.drop k) (ys.drop k)=R∧Su w.heap.size w wr) (fun i _=>xs.length-(intOf i).toNat)
   case atStart=>exact⟨0,by omega,rfl,H0.out,SG _ _⟩
   case round =>
    clear H0
    obtain⟨k,hk,rfl,hp,hb⟩:=hrel
    by_cases hlt:k<xs.length
    · obtain⟨b0,off,x,rfl,hbl,hxk,hcx,_⟩:=(HX.out _ hb).at_ hlt
      obtain⟨b0',off',y,rfl,lW,hyk,hcy,_⟩:=(HY.out _ hb).at_ (show k<ys.length from by have:=pH.out;omega)
      rw [ck xs k x hxk,ck ys k y hyk,Sr] at hp
      have r1:=fun wx=>rZ x y wx
      have d0:=hcx 0 _ rfl;have d1:=hcx 1 _ rfl;have d2:=hcx 2 _ rfl;have d3:=hcx 3 _ rfl;have d4:=hcx 4 _ rfl;have d5:=hcx 5 _ rfl;have d6:=hcx 6 _ rfl;have e0:=hcy 0 _ rfl;have e1:=hcy 1 _ rfl;have e2:=hcy 2 _ rfl;have e3:=hcy 3 _ rfl;have e4:=hcy 4 _ rfl;have e5:=hcy 5 _ rfl;have e6:=hcy 6 _ rfl
      generalize hQ:gO x y=EQ at hp r1
      obtain⟨xnm,xtop,xheight,xleft,xwidth,xalign,xbottom⟩:=x
      obtain⟨ynm,ytop,yheight,yleft,ywidth,yalign,ybottom⟩:=y
      simp only [Reg.enc,SK] at r1 d0 e0 d1 e1 d2 e2 d3 e3 d4 e4 d5 e5 d6 e6
      have Da:=h_ (fun n=>Sl hb n)
      clear hcx hcy hxk hyk hQ
      cases EQ with
      | true =>
        have HP:=h_ (by simpa using hp)
        clear hp
        go_wp2_with fail
        go_quiet (fail)
        go_wp2_with fail
        go_roundw
        case rel=>exact⟨k+1,by omega,by go_num,HP.out,Da.out _⟩
        all_goals first|(simp [intOf];done)|(simp [intOf];omega)
      | false =>
        have HP:=h_ (show R=false from by rw [←hp];rfl)
        clear hp
        go_wp2_with fail
        go_quiet (fail)
        go_wp2_with fail
        go_ret
        exact⟨by rw [HP.out];rfl,Da.out _⟩
    · obtain rfl:k=xs.length:=by omega
      have HP:=h_ (show R=true from by
       rw [←hp,SA,Sx (by have:=pH.out;omega)]
       rfl)
      clear hp
      go_wp2_with fail
      go_ret
      exact⟨by rw [HP.out];rfl,hb⟩
 · have HP:=h_ (show R=false from by rw [←hR];exact allEq_len _ _ _ hle)
   have hne:(((xs.length:Nat):Int) != ((ys.length:Nat):Int))=true:=by
    simp only [bne_iff_ne,ne_eq]
    omega
   clear hx hy hR hle
   go_enter Tryz.func48,Tryz.ntmps48
   go_wp2_with fail
   go_ret
   exact⟨by rw [HP.out];rfl,SG _ _⟩
theorem qI (a b:Option Addr)(c c':Nat)(xs ys:List Cm)(w:Sj)(hx:ah 8 Cm.enc Flat w a xs)(hy:ah 8 Cm.enc Flat w b ys)(hl:xs.length≤4000000)(hl':ys.length≤4000000) :
 Calls Tryz.prog 51 #[.slice a xs.length c,.slice b ys.length c'] w fun e w'=>e=.returned (.bool (Sr cmEq xs ys))∧Su w.heap.size w w':=by
 generalize hR:Sr cmEq xs ys=R
 by_cases hle:xs.length=ys.length
 · have HX:=h_ (fun(w1:Sj) (h:Su w.heap.size w w1)=>ah.keeps Flat.keeps _ _ _ _ h hx)
   have HY:=h_ (fun(w1:Sj) (h:Su w.heap.size w w1)=>ah.keeps Flat.keeps _ _ _ _ h hy)
   have H0:=h_ (show Sr cmEq (xs.drop 0) (ys.drop 0)=R from hR)
   rw [←hle]
   have pH:=h_ hle
   clear hle hx hy hl' hR
   go_enter Tryz.func51,Tryz.ntmps51
   go_wp2_with fail
   go_loopw [13] (fun i wr=>∃ k:Nat,k≤xs.length∧i=.int .i64 k∧Sr cmEq (xs.drop k) (ys.drop k)=R∧Su w.heap.size w wr) (fun i _=>xs.length-(intOf i).toNat)
   case atStart=>exact⟨0,by omega,rfl,H0.out,SG _ _⟩
   case round =>
    clear H0
    obtain⟨k,hk,rfl,hp,hb⟩:=hrel
    by_cases hlt:k<xs.length
    · obtain⟨b0,off,x,rfl,hbl,hxk,hcx,_⟩:=(HX.out _ hb).at_ hlt
      obtain⟨b0',off',y,rfl,lW,hyk,hcy,_⟩:=(HY.out _ hb).at_ (show k<ys.length from by have:=pH.out;omega)
      rw [ck xs k x hxk,ck ys k y hyk,Sr] at hp
      have r1:=fun wx=>vW x y wx
      have d0:=hcx 0 _ rfl;have d1:=hcx 1 _ rfl;have d2:=hcx 2 _ rfl;have d3:=hcx 3 _ rfl;have d4:=hcx 4 _ rfl;have d5:=hcx 5 _ rfl;have d6:=hcx 6 _ rfl;have d7:=hcx 7 _ rfl;have e0:=hcy 0 _ rfl;have e1:=hcy 1 _ rfl;have e2:=hcy 2 _ rfl;have e3:=hcy 3 _ rfl;have e4:=hcy 4 _ rfl;have e5:=hcy 5 _ rfl;have e6:=hcy 6 _ rfl;have e7:=hcy 7 _ rfl
      generalize hQ:cmEq x y=EQ at hp r1
      obtain⟨xid,xev,xfrm,xtil,xau,xtx,xdn,xlo⟩:=x
      obtain⟨yid,yev,yfrm,ytil,yau,ytx,ydn,ylo⟩:=y
      simp only [Cm.enc,SK] at r1 d0 e0 d1 e1 d2 e2 d3 e3 d4 e4 d5 e5 d6 e6 d7 e7
      have Da:=h_ (fun n=>Sl hb n)
      clear hcx hcy hxk hyk hQ
      cases EQ with
      | true =>
        have HP:=h_ (by simpa using hp)
        clear hp
        go_wp2_with fail
        go_quiet (fail)
        go_wp2_with fail
        go_roundw
        case rel=>exact⟨k+1,by omega,by go_num,HP.out,Da.out _⟩
        all_goals first|(simp [intOf];done)|(simp [intOf];omega)
      | false =>
        have HP:=h_ (show R=false from by rw [←hp];rfl)
        clear hp
        go_wp2_with fail
        go_quiet (fail)
        go_wp2_with fail
        go_ret
        exact⟨by rw [HP.out];rfl,Da.out _⟩
    · obtain rfl:k=xs.length:=by omega
      have HP:=h_ (show R=true from by
       rw [←hp,SA,Sx (by have:=pH.out;omega)]
       rfl)
      clear hp
      go_wp2_with fail
      go_ret
      exact⟨by rw [HP.out];rfl,hb⟩
 · have HP:=h_ (show R=false from by rw [←hR];exact allEq_len _ _ _ hle)
   have hne:(((xs.length:Nat):Int) != ((ys.length:Nat):Int))=true:=by
    simp only [bne_iff_ne,ne_eq]
    omega
   clear hx hy hR hle
   go_enter Tryz.func51,Tryz.ntmps51
   go_wp2_with fail
   go_ret
   exact⟨by rw [HP.out];rfl,SG _ _⟩
theorem qH (a b:Option Addr)(c c':Nat)(xs ys:List Ev)(w:Sj)(hx:dy w a xs)(hy:dy w b ys)(hf:∀ x∈xs,x.rows.length≤4000000∧∀ r∈x.rows,r.runs.length≤4000000)(hf':∀ x∈ys,x.rows.length≤4000000∧∀ r∈x.rows,r.runs.length≤4000000)(hl:xs.length≤4000000)(hl':ys.length≤4000000) :
 Calls Tryz.prog 49 #[.slice a xs.length c,.slice b ys.length c',.func (.func 50) #[] #[]] w fun e w'=>e=.returned (.bool (Sr evEq xs ys))∧Su w.heap.size w w':=by
 generalize hR:Sr evEq xs ys=R
 by_cases hle:xs.length=ys.length
 · have HX:=h_ (fun(w1:Sj) (h:Su w.heap.size w w1)=>hx.later h)
   have HY:=h_ (fun(w1:Sj) (h:Su w.heap.size w w1)=>hy.later h)
   have H0:=h_ (show Sr evEq (xs.drop 0) (ys.drop 0)=R from hR)
   have HF:=h_ hf
   have HG:=h_ hf'
   rw [←hle]
   have pH:=h_ hle
   clear hle hx hy hl' hR hf hf'
   go_enter Tryz.func49,Tryz.ntmps49
   go_wp2_with fail
   go_loopw [17] (fun i wr=>∃ k:Nat,k≤xs.length∧i=.int .i64 k∧Sr evEq (xs.drop k) (ys.drop k)=R∧Su w.heap.size w wr) (fun i _=>xs.length-(intOf i).toNat)
   case atStart=>exact⟨0,by omega,rfl,H0.out,SG _ _⟩
   case round =>
    clear H0
    obtain⟨k,hk,rfl,hp,hb⟩:=hrel
    by_cases hlt:k<xs.length
    · obtain⟨b0,off,x,rfl,hbl,hxk,hcx,hxl⟩:=(HX.out _ hb).at_ hlt
      obtain⟨b0',off',y,rfl,lW,hyk,hcy,hyl⟩:=(HY.out _ hb).at_ (show k<ys.length from by have:=pH.out;omega)
      rw [ck xs k x hxk,ck ys k y hyk,Sr] at hp
      have hfx:=HF.out x (SC hxk)
      have Ma:=HG.out y (SC hyk)
      have DI:=h_ (fun(w1:Sj) (h:Su wr.heap.size wr w1)=>tj x y w1 (Ev.keeps _ _ _ h hxl) (Ev.keeps _ _ _ h hyl) hfx.2 Ma.2 hfx.1)
      have hcell:∀ (w1:Sj),Su wr.heap.size wr w1→∀ (q:Nat) (u:Sq),y.enc[q]? =some u→w1.cell? ⟨b0',off'+k*7+q,none⟩=some u:=fun w1 h q u e=>(h.cell (p:=⟨b0',off'+k*7+q,none⟩) lW).trans (hcy q u e)
      have d0:=hcx 0 _ rfl;have d1:=hcx 1 _ rfl;have d2:=hcx 2 _ rfl;have d3:=hcx 3 _ rfl;have d4:=hcx 4 _ rfl;have d5:=hcx 5 _ rfl;have d6:=hcx 6 _ rfl
      have HA1:=h_ (fun(o:Obj)=>((SG wr.heap.size wr).alloc (SL _) o))
      have HA2:=h_ (fun(o o':Obj)=>(((SG wr.heap.size wr).alloc (SL _) o).alloc (by simp) o':Su wr.heap.size wr ((wr.alloc o).alloc o')))
      have e0:=fun(o:Obj)=>hcell _ (HA1.out o) 0 _ rfl
      have e1:=fun(o:Obj)=>hcell _ (HA1.out o) 1 _ rfl
      have e2:=fun(o:Obj)=>hcell _ (HA1.out o) 2 _ rfl
      have e3:=fun(o:Obj)=>hcell _ (HA1.out o) 3 _ rfl
      have e4:=fun(o:Obj)=>hcell _ (HA1.out o) 4 _ rfl
      have e5:=fun(o:Obj)=>hcell _ (HA1.out o) 5 _ rfl
      have e6:=fun(o:Obj)=>hcell _ (HA1.out o) 6 _ rfl
      generalize hQ:evEq x y=EQ at hp DI
      obtain⟨xid,xin,xout,xreg,xkind,xsp,xa,xc,xrows⟩:=x
      obtain⟨yid,yin,yout,yreg,ykind,ysp,ya,yc,yrows⟩:=y
      simp only [Ev.enc,SK] at DI d0 e0
      have jt:=h_ hb
      clear hcx hcy hxk hyk hQ hcell hfx Ma hxl hyl
      go_wp2_with fail
      refine(DI.out _ (HA2.out _ _)).mono ?_
      rintro e w5 ⟨rfl,hb5⟩
      have iG:=h_ (jt.out.trans (((HA2.out _ _).trans (hb5.mono (HA2.out _ _).size)).mono jt.out.size))
      clear hb5 DI
      cases EQ with
      | true =>
        have HP:=h_ (by simpa using hp)
        clear hp
        go_wp2_with fail
        go_roundw
        case rel=>exact⟨k+1,by omega,by go_num,HP.out,iG.out⟩
        all_goals first|(simp [intOf];done)|(simp [intOf];omega)
      | false =>
        have HP:=h_ (show R=false from by rw [←hp];rfl)
        clear hp
        go_wp2_with fail
        go_ret
        exact⟨by rw [HP.out];rfl,iG.out⟩
    · obtain rfl:k=xs.length:=by omega
      have HP:=h_ (show R=true from by
       rw [←hp,SA,Sx (by have:=pH.out;omega)]
       rfl)
      clear hp
      go_wp2_with fail
      go_ret
      exact⟨by rw [HP.out];rfl,hb⟩
 · have HP:=h_ (show R=false from by rw [←hR];exact allEq_len _ _ _ hle)
   have hne:(((xs.length:Nat):Int) != ((ys.length:Nat):Int))=true:=by
    simp only [bne_iff_ne,ne_eq]
    omega
   clear hx hy hR hle hf hf'
   go_enter Tryz.func49,Tryz.ntmps49
   go_wp2_with fail
   go_ret
   exact⟨by rw [HP.out];rfl,SG _ _⟩
end Go.Proofs.YtjebaagkomejaaaGreatDoor
