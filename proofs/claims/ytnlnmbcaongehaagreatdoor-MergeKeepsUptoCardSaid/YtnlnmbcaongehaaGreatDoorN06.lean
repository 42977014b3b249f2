/- The reference's lists of keys, built by insertion, are the program's ones, sorted and compacted. The reference's Clone of rows and events, Same of events, and event. The reference's SameChange and Same at changes with equal contents. -/
import Derived.Shelf.SlSortCmp.KitK
import Derived.Test.YtnlnmbcaongehaaGreatDoorN05
set_option linter.unusedVariables false
set_option linter.unusedSimpArgs false
set_option maxRecDepth 100000
set_option maxHeartbeats 12800000
open Go.Lib renaming hid→h_
open Go.Lib renaming toList_data→Su,allEq→Sv,compact→Sw
open List renaming pairwise_cons→Sx,mem_cons→Sy,mem_map→Sz,pairwise_mergeSort→SA,not_lt→SB,mem_mergeSort→SC,length_cons→SD,map_append→SE,lt_irrefl→SF,map_cons→SG,lt_trans→SH
open Go renaming sizeOf→SI,World→SJ,Value→SK
open Nat renaming le_refl→SL
open Go.Sort renaming permIn_trans→SM,permIn_mono→SN
open Go.IntKind renaming i64→SO,wrap_i64→SQ,u64→SR
namespace Go.Proofs.YtnlnmbcaongehaaGreatDoor
open Go.RowKit
theorem i_ (zs:List Int):(Sw (aR zs)).Pairwise (·<·)∧∀ x,x∈Sw (aR zs)↔x∈zs:=by
 have hs:(aR zs).Pairwise (·≤·):=by
  have:=SA (le:=fun x y:Int=>decide (x≤y)) (fun a b c h1 h2=>by simp at *;omega) (fun a b=>by simp;omega) zs
  exact this.imp fun h=>by simpa using h
 obtain⟨h1,h2⟩:=ow (α:=Int) (·≤·) (·<·) (fun a b h hn=>by omega) (fun a b c h h'=>by omega) (aR zs) hs
 refine⟨h1,fun x=>?_⟩
 rw [h2]
 exact SC
def putS:List ByteArray→ByteArray→List ByteArray
 | [],s=>[s]
 | z::l,s=>if Op.bytesLess z.toList s.toList=true then z::putS l s else if (z.toList==s.toList)=true then z::l else s::z::l
def iV:List ByteArray→List Reg→List ByteArray
 | zs,[]=>zs
 | zs,x::l=>iV (putS zs x.name) l
theorem qU {a b:ByteArray} (h:a.toList=b.toList):a=b:=by
 rw [Su,Su] at h
 cases a;cases b
 congr 1
 exact Array.toList_inj.1 h
theorem Cd (a b:ByteArray):Op.bytesLess a.toList b.toList=true↔a.data.toList<b.data.toList:=by
 rw [bytesLess_eq,Su,Su]
 simp
theorem CK (s:ByteArray):∀ zs:List ByteArray,zs.length≤(putS zs s).length∧(putS zs s).length≤zs.length+1
 | []=>by simp [putS]
 | z::l=>by
   have:=CK s l
   unfold putS
   repeat' split
   all_goals simp only [SD];omega
def baLt (a b:ByteArray):Prop:=a.data.toList<b.data.toList
theorem wF (s x:ByteArray):∀ zs:List ByteArray,x∈putS zs s↔x=s∨x∈zs
 | []=>by simp [putS]
 | z::l=>by
   have ih:=wF s x l
   unfold putS
   split
   · rw [Sy,ih,Sy]
     constructor
     · rintro (h|h|h)
       · exact .inr (.inl h)
       · exact .inl h
       · exact .inr (.inr h)
     · rintro (h|h|h)
       · exact .inr (.inl h)
       · exact .inl h
       · exact .inr (.inr h)
   · split
     · rename_i h
       have h:=qU (by simpa using h)
       subst h
       rw [Sy]
       constructor
       · exact fun h=>.inr h
       · rintro (h|h)
         · exact .inl h
         · exact h
     · rw [Sy]
theorem xq {a b:List UInt8} (h1:¬ a<b)(h2:¬ a=b):b<a:=by
 rcases Classical.em (b<a) with h|h
 · exact h
 · exact absurd (List.le_antisymm (SB.1 h) (SB.1 h1)) h2
theorem CL (s:ByteArray):∀ zs:List ByteArray,zs.Pairwise baLt→(putS zs s).Pairwise baLt
 | [],_=>by simp [putS]
 | z::l,h=>by
   rw [Sx] at h
   unfold putS
   split
   · rename_i hz
     rw [Sx]
     refine⟨fun y hy=>?_,CL s l h.2⟩
     rcases(wF s y l).1 hy with rfl|hy
     · exact(Cd _ _).1 hz
     · exact h.1 y hy
   · split
     · rw [Sx];exact h
     · rename_i h1 h2
       have hsz:baLt s z:=xq (fun h=>h1 ((Cd _ _).2 h)) (fun h=>h2 (by rw [Su,Su,h];simp))
       rw [Sx,Sx]
       refine⟨fun y hy=>?_,h⟩
       rcases Sy.1 hy with rfl|hy
       · exact hsz
       · exact SH hsz (h.1 y hy)
theorem qH:∀ (rs:List Reg)(zs:List ByteArray),zs.Pairwise baLt→(iV zs rs).Pairwise baLt
 | [],zs,h=>h
 | x::l,zs,h=>qH l _ (CL x.name zs h)
theorem qG (y:ByteArray):∀ (rs:List Reg)(zs:List ByteArray),y∈iV zs rs↔y∈zs∨y∈rs.map (fun x:Reg=>x.name)
 | [],zs=>by simp [iV]
 | x::l,zs=>by
   rw [iV,qG y l,wF,SG,Sy]
   constructor
   · rintro ((h|h)|h)
     · exact .inr (.inl h)
     · exact .inl h
     · exact .inr (.inr h)
   · rintro (h|h|h)
     · exact .inl (.inr h)
     · exact .inl (.inl h)
     · exact .inr h
theorem kO:∀ (rs:List Reg)(zs:List ByteArray),(iV zs rs).length≤zs.length+rs.length
 | [],zs=>by simp [iV]
 | x::l,zs=>by
   have h1:=kO l (putS zs x.name)
   have h2:=(CK x.name zs).2
   rw [iV,SD]
   omega
theorem sf (zs:List (List UInt8)):(Sw (fk zs)).Pairwise (·<·)∧∀ x,x∈Sw (fk zs)↔x∈zs:=by
 have hs:(fk zs).Pairwise (·≤·):=by
  have:=SA (le:=fun x y:List UInt8=>decide (x≤y)) (fun a b c h1 h2=>by simp at *;exact List.le_trans h1 h2) (fun a b=>by simp;exact List.le_total a b) zs
  exact this.imp fun h=>by simpa using h
 obtain⟨h1,h2⟩:=ow (α:=List UInt8) (·≤·) (·<·) (fun a b h hn=>xq (fun h'=>absurd h' (SB.2 h)) (fun e=>hn e.symm)) (fun a b c h h'=>List.lt_of_le_of_lt h h') (fk zs) hs
 refine⟨h1,fun x=>?_⟩
 rw [h2]
 exact SC
theorem Br (a b:Doc):iV [] (a.rG++b.rG)=pQ a b:=by
 refine tk baLt (fun a h=>SF _ h) (fun a b h h'=>SF _ (SH h h')) _ _ (qH _ _ List.Pairwise.nil) ?_ fun x=>?_
 · unfold pQ
   rw [List.pairwise_map]
   exact(sf _).1.imp fun h=>by simpa [baLt] using h
 · unfold pQ
   rw [qG]
   constructor
   · rintro (h|h)
     · simp at h
     · obtain⟨r,hr,rfl⟩:=Sz.1 h
       exact Sz.2 ⟨r.name.data.toList,((sf _).2 _).2 (Sz.2 ⟨r,hr,rfl⟩),by simp⟩
   · intro h
     obtain⟨l,hl,rfl⟩:=Sz.1 h
     obtain⟨r,hr,rfl⟩:=Sz.1 (((sf _).2 _).1 hl)
     exact .inr (Sz.2 ⟨r,hr,by simp⟩)
abbrev ND:=iO 78 1 Row.enc Row.lies Row.uses
theorem Row.deep:Deep Row.lies Row.uses:=⟨fun x w w' h hs hb=>Row.frame h hs hb,fun x w b h hu=>Row.uses_lt h hu⟩
def tC (rows:List Row)(w:SJ)(v:SK)(k:Nat)(wr:SJ):Prop:=∃ zs:List Row,zs.length=k∧zs.map Row.runs=(rows.take k).map Row.runs∧ND w.heap.size w v zs wr
theorem tC.done {rows:List Row} {w wr:SJ} {v:SK} (h:tC rows w v rows.length wr):rM rows w (.returned v) wr:=by
 obtain⟨zs,h1,h2,h3⟩:=h
 obtain⟨a,c,rfl,hS⟩:=iO.slice (k:=1) (enc:=Row.enc) (fun _=>rfl) h3
 refine⟨a,c,zs,rfl,hS,by rw [h2,List.take_length],fun b hu=>?_,h3.2.2⟩
 rcases hu with⟨hne,ad,rfl,rfl⟩|⟨r,hr,hu⟩
 · exact(h3.1.lt _ rfl).1
 · exact((h3.2.1 r hr).2 b hu).2
theorem DD {α:Type} (xs:List α)(k:Nat)(x:α)(h:xs[k]? =some x):xs.take (k+1)=xs.take k++[x]:=by
 rw [List.take_add_one,h]
 rfl
theorem tC.push {rows:List Row} {w wr w1:SJ} {v:SK} {k:Nat} {r:Row} {a2:Option Addr} {c2:Nat} (h:tC rows w v k wr)(hk:rows[k]? =some r)(hb:Below wr.heap.size wr w1)(hS:w1.ownsRow (wr.heap.size+1) 75 5 (.slice a2 r.runs.length c2) r.runs.length (r.runs.flatMap Run.enc)) :
 ∃ zs:List Row,zs.length=k∧w1.ownsRow w.heap.size 78 1 v k (zs.flatMap Row.enc)∧(∀ v' w2,w2.ownsRow w.heap.size 78 1 v' (k+1) (zs.flatMap Row.enc++[.slice a2 r.runs.length c2])→(w1.alloc (.cells #[.slice a2 r.runs.length c2] 78)).grownBy w2 v.ownBlock→(v'.ownBlock=v.ownBlock∨v'.ownBlock=some (w1.heap.size+1))→tC rows w v' (k+1) w2):=by
 obtain⟨zs,h1,h2,h3⟩:=h
 have h4:=iO.later Row.deep h3 (SL _) hb
 refine⟨zs,h1,h1▸h4.1,fun v' w2 hown hg hat=>⟨zs++[⟨a2,c2,r.runs⟩],by rw [List.length_append,h1];rfl,?_,iO.push Row.deep h4 (SL _) rfl (by rw [h1];exact hown) hg hat ?_ ?_⟩⟩
 · rw [DD rows k r hk,SE,SE,h2]
   rfl
 · obtain⟨a3,c3,he,hS'⟩:=ay (k:=5) (enc:=Run.enc) (Ok:=Flat) (fun _=>rfl) hS (fun _ _=>trivial)
   simp only [SK.slice.injEq] at he
   obtain⟨rfl,_,_⟩:=he
   exact hS'
 · rintro b ⟨hne,ad,had,rfl⟩
   have had:a2=some ad:=had
   subst had
   have h5:=(hS.lt ad.block rfl).1
   have h6:=h3.2.2.size
   refine⟨fun e=>?_,by omega⟩
   have:=(h3.1.lt _ e).2
   omega
end Go.Proofs.YtnlnmbcaongehaaGreatDoor
namespace Go.Proofs.YtnlnmbcaongehaaGreatDoor
open Go.RowKit
attribute [local go_sem ↓] Go.wp_at_zero Go.wp_at_succ
theorem j5 {α:Type} (eq:α→α→Bool)(h:∀ x,eq x x=true):∀ xs:List α,Sv eq xs xs=true
 | []=>by rw [Sv]
 | x::l=>by rw [Sv,h x,j5 eq h l];rfl
theorem pM (x:Run):mz x x=true:=by simp [mz]
theorem vf:∀ xs ys:List Row,xs.map Row.runs=ys.map Row.runs→j8 xs ys=true
 | [],[],_=>by unfold j8;rw [Sv]
 | [],y::l,h=>by simp at h
 | x::l,[],h=>by simp at h
 | x::l,y::m,h=>by
   simp only [SG,List.cons.injEq] at h
   have ih:=vf l m h.2
   unfold j8 at ih ⊢
   rw [Sv,ih,tQ,h.1,j5 mz pM]
   rfl
theorem Py (x y:Ev)(h:x.c=y.c):evEq x y=true:=by
 simp only [Ev.c,EvC.mk.injEq] at h
 obtain⟨h1,h2,h3,h4,h5,h6,h7⟩:=h
 unfold evEq
 rw [h1,h2,h3,h4,h5,h6,vf _ _ h7]
 simp
theorem Gd (x:Hd):hdEq x x=true:=by simp [hdEq]
theorem vj (x:Reg):mD x x=true:=by simp [mD]
theorem GW (x:Cm):cmEq x x=true:=by simp [cmEq]
def Chg.fits (x:Chg):Prop:=(x.oe.rows.length≤4000000∧∀ r∈x.oe.rows,r.runs.length≤4000000)∧(x.ne.rows.length≤4000000∧∀ r∈x.ne.rows,r.runs.length≤4000000)
abbrev NG (w:SJ)(a:Option Addr)(xs:List Chg):Prop:=af 59 Chg.enc Chg.lies w a xs
end Go.Proofs.YtnlnmbcaongehaaGreatDoor
namespace Go.Proofs.YtnlnmbcaongehaaGreatDoor
open Go.Sort
variable {α:Type} [Inhabited α]
def swIx (x y n i:Nat):Nat:=if x≤i∧i<x+n then i-x+y else if y≤i∧i<y+n then i-y+x else i
def dX (a m b i:Nat):Nat:=if a≤i∧i<a+(b-m) then i+(m-a) else if a+(b-m)≤i∧i<b then i-(b-m) else i
theorem Lo (x y i:Nat):swIx x y 0 i=i:=by
 unfold swIx
 rw [if_neg (by omega),if_neg (by omega)]
theorem Lp (d dk:Array α)(x y n k:Nat)(hxy:x+n≤y)(hk:k<n)(hy:y+n≤d.size)(hs:dk.size=d.size)(h:∀ i,dk[i]! =d[swIx x y k i]!)(i:Nat):(swp dk (x+k) (y+k))[i]! =d[swIx x y (k+1) i]!:=by
 rw [swp_get dk (show x+k<dk.size by omega) (show y+k<dk.size by omega),h,h,h]
 by_cases h1:i=y+k
 · rw [if_pos h1]
   congr 1
   unfold swIx
   rw [if_neg (by omega),if_neg (by omega),if_neg (by omega),if_pos (by omega)]
   omega
 · rw [if_neg h1]
   by_cases h2:i=x+k
   · rw [if_pos h2]
     congr 1
     unfold swIx
     rw [if_neg (by omega),if_neg (by omega),if_pos (by omega)]
     omega
   · rw [if_neg h2]
     congr 1
     unfold swIx
     by_cases h3:x≤i∧i<x+k
     · rw [if_pos h3,if_pos (by omega)]
     · rw [if_neg h3,if_neg (show ¬ (x≤i∧i<x+(k+1)) by omega)]
       by_cases h4:y≤i∧i<y+k
       · rw [if_pos h4,if_pos (by omega)]
       · rw [if_neg h4,if_neg (by omega)]
theorem IB (m i j t:Nat)(hj:0<j)(hij:j<i)(him:i≤m):swIx (m-i) m j (dX (m-i+j) m (m+j) t)=dX (m-i) m (m+j) t:=by
 unfold dX swIx
 repeat' split
 all_goals omega
theorem Fq (m i j t:Nat)(hi:0<i)(hij:i<j)(him:i≤m):swIx (m-i) (m+j-i) i (dX (m-i) m (m+j-i) t)=dX (m-i) m (m+j) t:=by
 unfold dX swIx
 repeat' split
 all_goals omega
theorem IA (m i t:Nat)(him:i≤m):swIx (m-i) m i t=dX (m-i) m (m+i) t:=by
 unfold dX swIx
 repeat' split
 all_goals omega
theorem yz (a m b i:Nat)(h:a=m∨m=b)(h1:a≤m)(h2:m≤b):dX a m b i=i:=by
 unfold dX
 repeat' split
 all_goals omega
theorem K3 (d dk:Array α)(a k:Nat)(hak:a≤k)(hk:k+1<d.size)(hs:dk.size=d.size)(h:∀ i,dk[i]! =d[dX a (a+1) (k+1) i]!)(i:Nat):(swp dk k (k+1))[i]! =d[dX a (a+1) (k+2) i]!:=by
 rw [swp_get dk (show k<dk.size by omega) (show k+1<dk.size by omega),h,h,h]
 by_cases h1:i=k+1
 · rw [if_pos h1];congr 1;unfold dX
   repeat' split
   all_goals omega
 · rw [if_neg h1]
   by_cases h2:i=k
   · rw [if_pos h2];congr 1;unfold dX
     repeat' split
     all_goals omega
   · rw [if_neg h2];congr 1;unfold dX
     repeat' split
     all_goals omega
theorem GJ (d dk:Array α)(m k:Nat)(hkm:k+1≤m)(hk:m<d.size)(hs:dk.size=d.size)(h:∀ i,dk[i]! =d[dX (k+1) m (m+1) i]!)(i:Nat):(swp dk (k+1) k)[i]! =d[dX k m (m+1) i]!:=by
 rw [swp_get dk (show k+1<dk.size by omega) (show k<dk.size by omega),h,h,h]
 by_cases h1:i=k
 · rw [if_pos h1];congr 1;unfold dX
   repeat' split
   all_goals omega
 · rw [if_neg h1]
   by_cases h2:i=k+1
   · rw [if_pos h2];congr 1;unfold dX
     repeat' split
     all_goals omega
   · rw [if_neg h2];congr 1;unfold dX
     repeat' split
     all_goals omega
variable {lt:α→α→Bool}
theorem SortedIn.part {a b a' b':Nat} {d:Array α} (h:SortedIn lt a b d)(ha:a≤a')(hb:b'≤b):SortedIn lt a' b' d:=fun i j h1 h2 h3=>h i j (by omega) h2 (by omega)
theorem PermIn.out {a b i:Nat} {d d':Array α} (h:PermIn a b d d')(hi:i<a∨b≤i):d'[i]! =d[i]!:=h.2.1 i hi
theorem Ou (hS:SWO lt)(d d':Array α)(a i b:Nat)(hi:a+1≤i)(hib:i≤b)(h:SortedIn lt (a+1) b d)(hlo:∀ t,a+1≤t→t<i→lt d[t]! d[a]! =true)(hhi:∀ t,i≤t→t<b→lt d[t]! d[a]! =false)
 (hd:∀ t,d'[t]! =d[dX a (a+1) i t]!):SortedIn lt a b d':=by
 have e1:∀ t,a≤t→t<i-1→d'[t]! =d[t+1]!:=fun t h1 h2=>by rw [hd];congr 1;unfold dX;rw [if_pos (by omega)];omega
 have e2:d'[i-1]! =d[a]!:=by rw [hd];congr 1;unfold dX;rw [if_neg (by omega),if_pos (by omega)];omega
 have e3:∀ t,i≤t→d'[t]! =d[t]!:=fun t h1=>by rw [hd];congr 1;unfold dX;rw [if_neg (by omega),if_neg (by omega)]
 intro p q hp hpq hq
 by_cases hq1:q<i-1
 · rw [e1 q (by omega) hq1,e1 p hp (by omega)];exact h _ _ (by omega) (by omega) (by omega)
 · by_cases hq2:q=i-1
   · rw [hq2,e2,e1 p hp (by omega)];exact hS.asymmA (hlo _ (by omega) (by omega))
   · rw [e3 q (by omega)]
     by_cases hp1:p<i-1
     · rw [e1 p hp hp1];exact h _ _ (by omega) (by omega) hq
     · by_cases hp2:p=i-1
       · rw [hp2,e2];exact hhi _ (by omega) hq
       · rw [e3 p (by omega)];exact h _ _ (by omega) hpq hq
theorem I7 (hS:SWO lt)(d d':Array α)(a i m:Nat)(hi:a≤i)(him:i≤m)(h:SortedIn lt a m d)(hlo:∀ t,a≤t→t<i→lt d[m]! d[t]! =false)(hhi:∀ t,i≤t→t<m→lt d[m]! d[t]! =true)
 (hd:∀ t,d'[t]! =d[dX i m (m+1) t]!):SortedIn lt a (m+1) d':=by
 have e1:∀ t,t<i→d'[t]! =d[t]!:=fun t h1=>by rw [hd];congr 1;unfold dX;rw [if_neg (by omega),if_neg (by omega)]
 have e2:d'[i]! =d[m]!:=by rw [hd];congr 1;unfold dX;rw [if_pos (by omega)];omega
 have e3:∀ t,i<t→t≤m→d'[t]! =d[t-1]!:=fun t h1 h2=>by rw [hd];congr 1;unfold dX;rw [if_neg (by omega),if_pos (by omega)];omega
 intro p q hp hpq hq
 by_cases hq1:q<i
 · rw [e1 q hq1,e1 p (by omega)];exact h _ _ hp hpq (by omega)
 · by_cases hq2:q=i
   · rw [hq2,e2,e1 p (by omega)];exact hlo _ hp (by omega)
   · rw [e3 q (by omega) (by omega)]
     by_cases hp1:p<i
     · rw [e1 p hp1];exact h _ _ hp (by omega) (by omega)
     · by_cases hp2:p=i
       · rw [hp2,e2];exact hS.asymmA (hhi _ (by omega) (by omega))
       · rw [e3 p (by omega) (by omega)];exact h _ _ (by omega) (by omega) (by omega)
theorem halves (hS:SWO lt)(d d':Array α)(a m b start fin mid:Nat)(h1:a≤start)(h2:start≤m)(h3:m≤fin)(h4:fin≤b)(hmid:start+(fin-m)=mid)(hl:SortedIn lt a m d)(hr:SortedIn lt m b d)
 (hL:∀ t u,a≤t→t<start→fin≤u→u<b→lt d[u]! d[t]! =false) (hR:∀ t u,start≤t→t<m→m≤u→u<fin→lt d[t]! d[u]! =false)
 (hd:∀ t,d'[t]! =d[dX start m fin t]!) :
 SortedIn lt a start d'∧SortedIn lt start mid d'∧SortedIn lt mid fin d'∧SortedIn lt fin b d'∧∀ u v,a≤u→u<mid→mid≤v→v<b→lt d'[v]! d'[u]! =false:=by
 have e1:∀ t,t<start→d'[t]! =d[t]!:=fun t h=>by rw [hd];congr 1;unfold dX;rw [if_neg (by omega),if_neg (by omega)]
 have e2:∀ t,start≤t→t<mid→d'[t]! =d[t+(m-start)]!:=fun t h h'=>by rw [hd];congr 1;unfold dX;rw [if_pos (by omega)]
 have e3:∀ t,mid≤t→t<fin→d'[t]! =d[t-(fin-m)]!:=fun t h h'=>by rw [hd];congr 1;unfold dX;rw [if_neg (by omega),if_pos (by omega)]
 have e4:∀ t,fin≤t→d'[t]! =d[t]!:=fun t h=>by rw [hd];congr 1;unfold dX;rw [if_neg (by omega),if_neg (by omega)]
 refine⟨fun p q hp hpq hq=>?_,fun p q hp hpq hq=>?_,fun p q hp hpq hq=>?_,fun p q hp hpq hq=>?_,fun u v hu hu' hv hv'=>?_⟩
 · rw [e1 q hq,e1 p (by omega)];exact hl _ _ hp hpq (by omega)
 · rw [e2 q (by omega) hq,e2 p hp (by omega)];exact hr _ _ (by omega) (by omega) (by omega)
 · rw [e3 q (by omega) hq,e3 p hp (by omega)];exact hl _ _ (by omega) (by omega) (by omega)
 · rw [e4 q (by omega),e4 p hp];exact hr _ _ (by omega) hpq hq
 · by_cases hu1:u<start
   · rw [e1 u hu1]
     by_cases hv1:v<fin
     · rw [e3 v hv hv1];exact hl _ _ hu (by omega) (by omega)
     · rw [e4 v (by omega)];exact hL _ _ hu hu1 (by omega) hv'
   · rw [e2 u (by omega) hu']
     by_cases hv1:v<fin
     · rw [e3 v hv hv1];exact hR _ _ (by omega) (by omega) (by omega) (by omega)
     · rw [e4 v (by omega)];exact hr _ _ (by omega) (by omega) hv'
theorem zab (d:Array α)(a mid b:Nat)(h1:SortedIn lt a mid d)(h2:SortedIn lt mid b d)(hx:∀ u v,a≤u→u<mid→mid≤v→v<b→lt d[v]! d[u]! =false):SortedIn lt a b d:=by
 intro p q hp hpq hq
 by_cases hq1:q<mid
 · exact h1 _ _ hp hpq hq1
 · by_cases hp1:p<mid
   · exact hx _ _ hp hp1 (by omega) hq
   · exact h2 _ _ (by omega) hpq hq
theorem merged (d1 d2 d3:Array α)(a mid b:Nat)(hm:a≤mid)(hb:mid≤b)(hsz:b≤d1.size)(hx:∀ u v,a≤u→u<mid→mid≤v→v<b→lt d1[v]! d1[u]! =false)
 (p2:PermIn a mid d1 d2) (s2:SortedIn lt a mid d2) (p3:PermIn mid b d2 d3) (s3:SortedIn lt mid b d3):PermIn a b d1 d3∧SortedIn lt a b d3:=by
 have z2:d2.size=d1.size:=p2.1
 refine⟨SM _ _ _ a b (SN _ _ a mid a b (SL _) hb hsz p2) (SN _ _ mid b a b hm (SL _) (by omega) p3),zab d3 a mid b ?_ s3 ?_⟩
 · intro p q hp hpq hq
   rw [p3.2.1 q (by omega),p3.2.1 p (by omega)]
   exact s2 p q hp hpq hq
 · have hx2:∀ v,mid≤v→v<b→∀ u,a≤u→u<mid→lt d2[v]! d2[u]! =false:=fun v hv hv' u hu hu'=>by
    rw [p2.2.1 v (by omega)]
    exact permIn_all d1 d2 a mid (fun y=>lt d1[v]! y=false) (by omega) p2 (fun i h h'=>hx i v h h' hv hv') u hu hu'
   intro u v hu hu' hv hv'
   rw [p3.2.1 u (by omega)]
   exact permIn_all d2 d3 mid b (fun y=>lt y d2[u]! =false) (by omega) p3 (fun i h h'=>hx2 i h h' u hu hu') v hv hv'
inductive Blk (lt:α→α→Bool) (bs n:Nat) (d:Array α):Nat→Prop where
 | stop (a:Nat):n≤a→Blk lt bs n d a
 | go (a:Nat):SortedIn lt a (min (a+bs) n) d→Blk lt bs n d (a+bs)→Blk lt bs n d a
inductive Pre (lt:α→α→Bool) (bs:Nat) (d:Array α):Nat→Prop where
 | zero:Pre lt bs d 0
 | snoc (a:Nat):Pre lt bs d a→SortedIn lt a (a+bs) d→Pre lt bs d (a+bs)
theorem Blk.congr {bs n a:Nat} {d d':Array α} (h:Blk lt bs n d a)(e:∀ i,a≤i→d'[i]! =d[i]!):Blk lt bs n d' a:=by
 induction h with
 | stop a h=>exact .stop a h
 | go a hs _ ih =>
   refine .go a (fun p q hp hpq hq=>?_) (ih fun i hi=>e i (by omega))
   rw [e q (by omega),e p hp]
   exact hs p q hp hpq hq
theorem Pre.congr {bs a:Nat} {d d':Array α} (h:Pre lt bs d a)(e:∀ i,i<a→d'[i]! =d[i]!):Pre lt bs d' a:=by
 induction h with
 | zero=>exact .zero
 | snoc a _ hs ih =>
   refine .snoc a (ih fun i hi=>e i (by omega)) (fun p q hp hpq hq=>?_)
   rw [e q (by omega),e p (by omega)]
   exact hs p q hp hpq hq
theorem Pre.join {bs n a:Nat} {d:Array α} (h:Pre lt bs d a):Blk lt bs n d a→Blk lt bs n d 0:=by
 induction h with
 | zero=>exact id
 | snoc a _ hs ih=>exact fun hb=>ih (.go a (SortedIn.part hs (SL _) (by omega)) hb)
theorem Blk.head {bs n a:Nat} {d:Array α} (h:Blk lt bs n d a):SortedIn lt a (min (a+bs) n) d:=by
 cases h with
 | stop _ h=>exact fun p q h1 h2 h3=>by omega
 | go _ hs _=>exact hs
theorem Blk.tail {bs n a:Nat} {d:Array α} (h:Blk lt bs n d a):Blk lt bs n d (a+bs):=by
 cases h with
 | stop _ h=>exact .stop _ (by omega)
 | go _ _ ht=>exact ht
theorem DI (hS:SWO lt)(d:Array α)(a m b mid s0 r0 i fin:Nat)(hs0:a≤s0)(hr0:r0≤m)(hs1:mid+m≤s0+b)(hr1:r0≤mid)(hcase:(s0+b=mid+m∧r0=mid)∨(s0=a∧r0=m))
 (hl:SortedIn lt a m d) (hr:SortedIn lt m b d) (h1:s0≤i) (h2:i≤r0) (h3:i+fin=mid+m) (h4:∀ t,s0≤t→t<i→lt d[mid+m-1-t]! d[t]! =false) (h5:∀ t,i≤t→t<r0→lt d[mid+m-1-t]! d[t]! =true) :
 (∀ t u,a≤t→t<i→fin≤u→u<b→lt d[u]! d[t]! =false)∧(∀ t u,i≤t→t<m→m≤u→u<fin→lt d[t]! d[u]! =false):=by
 have le:∀ p q,a≤p→p≤q→q<m→lt d[q]! d[p]! =false:=fun p q hp hpq hq=>by
  by_cases e:p=q
  · rw [e];exact hS.irrefl _
  · exact hl p q hp (by omega) hq
 have re:∀ p q,m≤p→p≤q→q<b→lt d[q]! d[p]! =false:=fun p q hp hpq hq=>by
  by_cases e:p=q
  · rw [e];exact hS.irrefl _
  · exact hr p q hp (by omega) hq
 refine⟨fun t u ht ht' hu hu'=>?_,fun t u ht ht' hu hu'=>?_⟩
 · by_cases hi:s0<i
   · have:=h4 (i-1) (by omega) (by omega)
     rw [show mid+m-1-(i-1)=fin by omega] at this
     exact hS.ntrans _ _ _ (re fin u (by omega) hu hu') (hS.ntrans _ _ _ this (le t (i-1) ht (by omega) (by omega)))
   · rcases hcase with h|h<;>omega
 · by_cases hi:i<r0
   · have:=h5 i (SL _) hi
     rw [show mid+m-1-i=fin-1 by omega] at this
     exact hS.ntrans _ _ _ (le i t (by omega) ht ht') (hS.ntrans _ _ _ (hS.asymmA this) (re u (fin-1) hu (by omega) (by omega)))
   · rcases hcase with h|h<;>omega
end Go.Proofs.YtnlnmbcaongehaaGreatDoor
namespace Go.Proofs.YtnlnmbcaongehaaGreatDoor
open Go.Shelf Go.RowKit Go.Lib Go.Sort
variable {P:Program} {α:Type} [Inhabited α]
structure xy (P:Program):Prop where
 mixed:P.follows .mixedOrders=true
 f299:P.funcs[299]? =some Tryz.f299
 f290:P.funcs[290]? =some Tryz.f290
 f278:P.funcs[278]? =some Tryz.f278
 f247:P.funcs[247]? =some Tryz.f247
 f185:P.funcs[185]? =some Tryz.f185
 ins:SlLaysF0.n20 P ⟨fun|20=>277|n=>n,fun|22=>24|24=>50|25=>252|n=>n,fun n=>n⟩
 t0:P.underlying 0=some (TypeDesc.tuple #[])
 a0:∀ w,(isAgg 0).run P w=.ok false w
 z0:∀ w,(SI 0).run P w=.ok 1 w
 v0:∀ w,(zeroValue 0).run P w=.ok (SK.tuple #[]) w
 t3:P.underlying 3=some (TypeDesc.int SO)
 a3:∀ w,(isAgg 3).run P w=.ok false w
 z3:∀ w,(SI 3).run P w=.ok 1 w
 v3:∀ w,(zeroValue 3).run P w=.ok (SK.int SO 0) w
 t4:P.underlying 4=some (TypeDesc.bool)
 a4:∀ w,(isAgg 4).run P w=.ok false w
 z4:∀ w,(SI 4).run P w=.ok 1 w
 v4:∀ w,(zeroValue 4).run P w=.ok (SK.bool false) w
 t24:P.underlying 24=some (TypeDesc.slice 50)
 a24:∀ w,(isAgg 24).run P w=.ok false w
 z24:∀ w,(SI 24).run P w=.ok 1 w
 v24:∀ w,(zeroValue 24).run P w=.ok (SK.slice none 0 0) w
 t238:P.underlying 238=some (TypeDesc.int SR)
 a238:∀ w,(isAgg 238).run P w=.ok false w
 z238:∀ w,(SI 238).run P w=.ok 1 w
 v238:∀ w,(zeroValue 238).run P w=.ok (SK.int SR 0) w
 t252:P.underlying 252=some (TypeDesc.func #[50,50] #[3] false)
 a252:∀ w,(isAgg 252).run P w=.ok false w
 z252:∀ w,(SI 252).run P w=.ok 1 w
 v252:∀ w,(zeroValue 252).run P w=.ok (SK.nilFunc) w
def xC (enc:α→List SK)(k:Nat)(w0:SJ)(blk off:Nat)(d:Array α)(a b:Nat)(f:Nat→Nat)(e:Ending)(w':SJ):Prop :=
 e=.returned (.tuple #[])∧∃ d',d'.size=d.size∧SWK enc k w0 blk off d' w'∧PermIn a b d d'∧∀ t,d'[t]! =d[f t]!
theorem se (L:xy P)(k:Nat)(aE:∀ w,(isAgg 50).run P w=.ok true w)(zE:∀ w,(SI 50).run P w=.ok k w)(enc:α→List SK)(fv:SK)(blk off cap a b n:Nat)(d0 d:Array α)(w0 w:SJ)
 (R:RowK enc k w0 blk off d0) (hs:d0.size=d.size) (S:SWK enc k w0 blk off d w) (hab:a+n≤b) (hb:b+n≤d.size) (hsz:d.size<4611686018427387904) :
 Calls P 299 #[.slice (some ⟨blk,off,none⟩) d.size cap,.int .i64 a,.int .i64 b,.int .i64 n,fv] w (xC enc k w0 blk off d a (b+n) (swIx a b n)):=by
 have mixed:=L.mixed;have t0:=L.t0;have a0:=L.a0;have z0:=L.z0;have v0:=L.v0;have t3:=L.t3;have a3:=L.a3;have z3:=L.z3;have v3:=L.v3;have t4:=L.t4;have a4:=L.a4;have z4:=L.z4;have v4:=L.v4;have t24:=L.t24;have a24:=L.a24;have z24:=L.z24;have v24:=L.v24;have t252:=L.t252;have a252:=L.a252;have z252:=L.z252;have v252:=L.v252
 have FG:=L.f299
 have S0:Aside (SWK enc k w0 blk off d w):=S
 clear S L
 generalize hQ:xC enc k w0 blk off d a (b+n) (swIx a b n)=Q
 have HQ:=h_ (fun(dk:Array α) (W:SJ) (h1:dk.size=d.size) (h2:SWK enc k w0 blk off dk W) (h3:PermIn a (b+n) d dk) (h4:∀ t,dk[t]! =d[swIx a b n t]!)=>show Q (.returned (.tuple #[])) W from hQ▸⟨rfl,dk,h1,h2,h3,h4⟩)
 clear hQ
 go_enter FG,Tryz.ntmps299
 go_wp2
 go_loopg [10] n (fun kx s10 wr=>∃ (i:Nat) (dk:Array α),s10=.int .i64 i∧i≤n∧n-i≤kx∧dk.size=d.size∧Aside (SWK enc k w0 blk off dk wr)∧Hid (PermIn a (b+n) d dk)∧Hid (∀ t,dk[t]! =d[swIx a b i t]!))
 case atStart=>exact⟨0,d,rfl,Nat.zero_le _,by omega,rfl,S0,permIn_refl _ _ _,fun t=>by rw [Lo]⟩
 case round =>
  clear S0
  obtain⟨i,dk,rfl,hin,hkx,hds,S1,HP,HT⟩:=hrel
  by_cases hlt:i<n
  · have hltz:(i:Int)<(n:Int):=by omega
    go_wp2_with fail
    have ea:((a:Int)+(i:Int)).toNat=a+i:=by omega
    have pa:(0:Int)≤(a:Int)+(i:Int):=by omega
    have ba:(a:Int)+(i:Int)<(d.size:Int):=by omega
    have ra:SO.wrap ((a:Int)+(i:Int))=(a:Int)+(i:Int):=by rw [SQ];omega
    have ec:((b:Int)+(i:Int)).toNat=b+i:=by omega
    have pc:(0:Int)≤(b:Int)+(i:Int):=by omega
    have bc:(b:Int)+(i:Int)<(d.size:Int):=by omega
    have rc:SO.wrap ((b:Int)+(i:Int))=(b:Int)+(i:Int):=by rw [SQ];omega
    have S2:Aside (SWK enc k w0 blk off (swp dk (a+i) (b+i)) ((wr.drew.setCells blk (off+(a+i)*k) (enc dk[b+i]!)).setCells blk (off+(b+i)*k) (enc dk[a+i]!))):=S1.out.swapped R (a+i) (b+i) (by omega) (by omega)
    have la:=S1.out.ld1 R (by omega) P (a+i) (by omega)
    have lb:=S1.out.ld1 R (by omega) P (b+i) (by omega)
    have sa:=S1.out.st1 R (by omega) P (a+i) (by omega) dk[b+i]!
    have sb:=S1.out.st2 R (by omega) P (a+i) (b+i) (by omega) (by omega) dk[b+i]! dk[a+i]!
    have na:(enc dk[a+i]!).length=k:=R.hk _
    have nb:(enc dk[b+i]!).length=k:=R.hk _
    generalize enc dk[a+i]! =cI at S2 la sb na
    generalize enc dk[b+i]! =cJ at S2 lb sa sb nb
    clear S1
    go_wp2_with fail
    go_big_region_o
    clear la lb sa sb
    generalize (wr.drew.setCells blk (off+(a+i)*k) cJ).setCells blk (off+(b+i)*k) cI=w2 at S2 ⊢
    go_wp2
    go_roundg (n-(i+1))
    case measure=>omega
    case rel =>
     exact⟨i+1,swp dk (a+i) (b+i),by go_num,by omega,SL _,by rw [size_swp];exact hds,S2,SM _ _ _ _ _ HP.out (swp_permIn _ _ _ _ _ (by omega) (by omega) (by omega) (by omega) (by omega)),Lp d dk a b n i hab hlt hb hds HT.out⟩
  · obtain rfl:i=n:=by omega
    go_wp2
    go_end0
    exact HQ.out dk _ hds S1.out HP.out HT.out
theorem yy (L:xy P)(k:Nat)(aE:∀ w,(isAgg 50).run P w=.ok true w)(zE:∀ w,(SI 50).run P w=.ok k w)(enc:α→List SK)(fv:SK)(blk off cap a m b:Nat)(d0 d:Array α)(w0 w:SJ)
 (R:RowK enc k w0 blk off d0) (hs:d0.size=d.size) (S:SWK enc k w0 blk off d w) (ham:a<m) (hmb:m<b) (hb:b≤d.size) (hsz:d.size<4611686018427387904) :
 Calls P 290 #[.slice (some ⟨blk,off,none⟩) d.size cap,.int .i64 a,.int .i64 m,.int .i64 b,fv] w (xC enc k w0 blk off d a b (dX a m b)):=by
 have mixed:=L.mixed;have t0:=L.t0;have a0:=L.a0;have z0:=L.z0;have v0:=L.v0;have t3:=L.t3;have a3:=L.a3;have z3:=L.z3;have v3:=L.v3;have t4:=L.t4;have a4:=L.a4;have z4:=L.z4;have v4:=L.v4;have t24:=L.t24;have a24:=L.a24;have z24:=L.z24;have v24:=L.v24;have t252:=L.t252;have a252:=L.a252;have z252:=L.z252;have v252:=L.v252
 have FG:=L.f290
 have e299:∀ args w,(callFunc 299 args).run P w=.ok (.enter 299 args) w:=enters_of L.f299 (by kernel_rfl) rfl
 have HC:=h_ (fun(x y n:Nat) (dk:Array α) (W:SJ) (h1:d0.size=dk.size) (h2:SWK enc k w0 blk off dk W) (h3:x+n≤y) (h4:y+n≤dk.size) (h5:dk.size<4611686018427387904)=>se L k aE zE enc fv blk off cap x y n d0 dk w0 W R h1 h2 h3 h4 h5)
 have S0:Aside (SWK enc k w0 blk off d w):=S
 clear S L
 generalize hQ:xC enc k w0 blk off d a b (dX a m b)=Q
 have HQ:=h_ (fun(dk:Array α) (W:SJ) (h1:dk.size=d.size) (h2:SWK enc k w0 blk off dk W) (h3:PermIn a b d dk) (h4:∀ t,dk[t]! =d[dX a m b t]!)=>show Q (.returned (.tuple #[])) W from hQ▸⟨rfl,dk,h1,h2,h3,h4⟩)
 clear hQ
 go_enter FG,Tryz.ntmps290
 go_wp2
 go_loopg [10,11] (b-a) (fun kx s10 s11 wr=>∃ (i j:Nat) (dk:Array α),s10=.int .i64 i∧s11=.int .i64 j∧0<i∧0<j∧a+i≤m∧m+j≤b∧i+j≤kx∧dk.size=d.size∧Aside (SWK enc k w0 blk off dk wr)∧Hid (PermIn a b d dk)∧Hid (∀ t,dk[dX (m-i) m (m+j) t]! =d[dX a m b t]!))
 case atStart=>exact⟨m-a,b-m,d,by go_num,by go_num,by omega,by omega,by omega,by omega,by omega,rfl,S0,permIn_refl _ _ _,fun t=>by rw [show m-(m-a)=a by omega,show m+(b-m)=b by omega]⟩
 case round =>
  clear S0
  obtain⟨i,j,dk,rfl,rfl,hi,hj,hai,hjb,hkx,hds,S1,HP,HT⟩:=hrel
  obtain⟨x,hx⟩:∃ x,x+i=m:=⟨m-i,by omega⟩
  have hxz:(m:Int)-(i:Int)=(x:Int):=by omega
  have HXN:=h_ (show m-i=x by omega)
  rcases Nat.lt_trichotomy i j with hij|hij|hij
  · have O0:((i:Int) != (j:Int))=true:=by simp;omega
    have hijn:(i != j)=true:=by simp;omega
    have hg:¬ (j:Int)<(i:Int):=by omega
    obtain⟨y,hy⟩:∃ y,y+i=m+j:=⟨m+j-i,by omega⟩
    have hyz:(m:Int)+(j:Int)-(i:Int)=(y:Int):=by omega
    have hC:=HC.out x y i dk wr (by omega) S1.out (by omega) (by omega) (by omega)
    rw [hds] at hC
    have mH:=h_ hC
    have HY:=h_ (show y=m+j-i by omega)
    have hyb:y+i≤b:=by omega
    have hax:a≤x:=by omega
    clear hC hx hy
    go_wp2_with (go_at_fn 299;refine mH.out.mono ?_;rintro e w' ⟨rfl,d',hd1,S2,hd3,hd4⟩)
    have HT2:Hid (∀ t,d'[dX (m-i) m (m+(j-i)) t]! =d[dX a m b t]!):=fun t=>by
     rw [hd4,←HT.out t,HY.out,←HXN.out,show m+(j-i)=m+j-i by omega,Fq m i j t hi hij (by omega)]
    have Ct:Hid (PermIn a b d d'):=SM _ _ _ _ _ HP.out (SN _ _ x (y+i) a b hax hyb (by omega) hd3)
    have S3:Aside (SWK enc k w0 blk off d' w'):=S2
    have Mv:d'.size=d.size:=by omega
    clear hd1 hd3 hd4 S2 mH
    go_wp2
    go_roundg (i+(j-i))
    case measure=>omega
    case rel=>exact⟨i,j-i,d',rfl,by go_num,hi,by omega,hai,by omega,SL _,Mv,S3,Ct,HT2⟩
  · obtain rfl:i=j:=hij
    have O0:((i:Int) != (i:Int))=false:=by simp
    have hC:=HC.out x m i dk wr (by omega) S1.out (by omega) (by omega) (by omega)
    rw [hds] at hC
    have mH:=h_ hC
    have hax:a≤x:=by omega
    clear hC hx
    go_wp2_with (go_at_fn 299;refine mH.out.mono ?_;rintro e w' ⟨rfl,d',hd1,S2,hd3,hd4⟩)
    go_end0
    refine HQ.out d' _ (by omega) S2 (SM _ _ _ _ _ HP.out (SN _ _ x (m+i) a b hax (by omega) (by omega) hd3)) fun t=>?_
    rw [hd4,←HT.out t,←HXN.out,IA m i t (by omega)]
  · have O0:((i:Int) != (j:Int))=true:=by simp;omega
    have hijn:(i != j)=true:=by simp;omega
    have hg:(j:Int)<(i:Int):=by omega
    have hC:=HC.out x m j dk wr (by omega) S1.out (by omega) (by omega) (by omega)
    rw [hds] at hC
    have mH:=h_ hC
    have hax:a≤x:=by omega
    clear hC hx
    go_wp2_with (go_at_fn 299;refine mH.out.mono ?_;rintro e w' ⟨rfl,d',hd1,S2,hd3,hd4⟩)
    have HT2:Hid (∀ t,d'[dX (m-(i-j)) m (m+j) t]! =d[dX a m b t]!):=fun t=>by
     rw [hd4,←HT.out t,←HXN.out,show m-(i-j)=m-i+j by omega,IB m i j t hj hij (by omega)]
    have Ct:Hid (PermIn a b d d'):=SM _ _ _ _ _ HP.out (SN _ _ x (m+j) a b hax hjb (by omega) hd3)
    have S3:Aside (SWK enc k w0 blk off d' w'):=S2
    have Mv:d'.size=d.size:=by omega
    clear hd1 hd3 hd4 S2 mH
    go_wp2
    go_roundg (i-j+j)
    case measure=>omega
    case rel=>exact⟨i-j,j,d',by go_num,rfl,by omega,hj,by omega,hjb,SL _,Mv,S3,Ct,HT2⟩
end Go.Proofs.YtnlnmbcaongehaaGreatDoor
