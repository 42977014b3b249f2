/- Plain laws on ascending lists without repetitions, and slices.Sort and slices.Compact on rows of the call's own. diff.keys at regions, events and comments: the keys of two lists, ascending, each once. (printed by gen_keys.py) The contracts of style.Same and style.SameRows: whether rows are equal. The contracts of align.Find, document.Find and align.has: where a link or an event with an ID lies. -/
import Derived.Lib.OwnBridge
import Derived.Test.YtnlnmbcaongehaaGreatDoorB04
set_option linter.unusedVariables false
set_option linter.unusedSimpArgs false
set_option maxRecDepth 100000
set_option maxHeartbeats 12800000
open Go.Lib renaming hid→h_
open Go.Lib renaming compact→e_,compactUpTo→fb,allEq→fe,holds_of_ownsRow→ff,ownsRow_putRow→fg,below_putRow→fh,compact_length_le→fi,keeps→fj,allEq_len→fk
open List renaming eq_nil_of_length_eq_zero→fm,length_mergeSort→fo,length_map→fp,take_length→fq,mem_cons→fr,length_append→ft,take_append_of_le_length→fu,take_of_length_le→fw,mem_of_getElem?→fx,mem_cons_of_mem→fy,drop_length→fz,mem_append→fA,replicate→fB
open Nat renaming le_refl→fC,add_zero→fD,le_trans→fE,add_sub_cancel→fF
open Go renaming World→fG,Value→fH,heap_alloc_last→fI,Calls→fJ,cell_of_row→fK,info_parts→fL
open Go.RowKit renaming Below→fM
open Go.Proofs.Tryz renaming prog→fN,underlying85→fO,ntmps204→fP,ntmps147→fQ,func204→fR,func147→fS
open Go.RowKit.Below renaming refl→fT
open Go.Value renaming int→fU
open Go.World renaming ownsRow_nil→fV
namespace Go.Proofs.YtnlnmbcaongehaaGreatDoor
open Go.RowKit
theorem zhh {α:Type} [Inhabited α] [DecidableEq α] (d:Array α)(j:Nat):fj d j=true↔j=0∨d[j]!≠d[j-1]!:=by
 unfold fj
 simp
theorem eK {α:Type} [Inhabited α] [DecidableEq α] (le lt:α→α→Prop)(hlt:∀ a b,le a b→a≠b→lt a b)(htr:∀ a b c,le a b→lt b c→lt a c)(d:Array α)(hs:∀ i j,i<j→j<d.size→le d[i]! d[j]!) :
 ∀ m,m≤d.size→(fb d m).Pairwise lt∧(∀ x,x∈fb d m↔∃ j,j<m∧d[j]! =x)∧(∀ x∈fb d m,0<m→(x=d[m-1]!∨lt x d[m-1]!))
 | 0,_=>⟨by simp [fb],by simp [fb],by simp [fb]⟩
 | m+1,hm=>by
   obtain⟨h1,h2,h3⟩:=eK le lt hlt htr d hs m (by omega)
   rw [Lib.compactUpTo_succ]
   by_cases hk:fj d m=true
   · rw [if_pos hk]
     have hk':=(zhh d m).1 hk
     have hnew:∀ x∈fb d m,lt x d[m]!:=fun x hx=>by
      rcases Nat.eq_zero_or_pos m with h0|h0
      · subst h0
        simp [fb] at hx
      · have hne:d[m]!≠d[m-1]!:=by
         rcases hk' with h|h
         · omega
         · exact h
        have hl:=hlt _ _ (hs (m-1) m (by omega) (by omega)) (fun e=>hne e.symm)
        rcases h3 x hx h0 with rfl|h
        · exact hl
        · obtain⟨j,hj,rfl⟩:=(h2 x).1 hx
          by_cases hjm:j=m-1
          · rw [hjm];exact hl
          · exact htr _ _ _ (hs j (m-1) (by omega) (by omega)) hl
     refine⟨List.pairwise_append.2 ⟨h1,List.pairwise_singleton _ _,fun a ha b hb=>?_⟩,fun x=>?_,fun x hx _=>?_⟩
     · obtain rfl:b=d[m]!:=by simpa using hb
       exact hnew a ha
     · rw [fA,h2]
       constructor
       · rintro (⟨j,hj,rfl⟩|hx)
         · exact⟨j,by omega,rfl⟩
         · exact⟨m,by omega,(List.mem_singleton.1 hx).symm⟩
       · rintro ⟨j,hj,rfl⟩
         by_cases hjm:j=m
         · right;rw [hjm];simp
         · left;exact⟨j,by omega,rfl⟩
     · simp only [fF]
       rcases fA.1 hx with hx|hx
       · exact .inr (hnew x hx)
       · exact .inl (by simpa using hx)
   · rw [if_neg hk,List.append_nil]
     have hk':¬ (m=0∨d[m]!≠d[m-1]!):=fun h=>hk ((zhh d m).2 h)
     have hm0:m≠0:=fun e=>hk' (.inl e)
     have heq:d[m]! =d[m-1]!:=Classical.byContradiction fun e=>hk' (.inr e)
     refine⟨h1,fun x=>?_,fun x hx _=>?_⟩
     · rw [h2]
       constructor
       · rintro ⟨j,hj,rfl⟩;exact⟨j,by omega,rfl⟩
       · rintro ⟨j,hj,rfl⟩
         by_cases hjm:j=m
         · exact⟨m-1,by omega,by rw [hjm];exact heq.symm⟩
         · exact⟨j,by omega,rfl⟩
     · simp only [fF]
       rw [heq]
       exact h3 x hx (by omega)
theorem zbc {α:Type} [Inhabited α] [DecidableEq α] (le lt:α→α→Prop)(hlt:∀ a b,le a b→a≠b→lt a b)(htr:∀ a b c,le a b→lt b c→lt a c)(zs:List α)(hs:zs.Pairwise le):(e_ zs).Pairwise lt∧∀ x,x∈e_ zs↔x∈zs:=by
 have h:=eK le lt hlt htr zs.toArray (fun i j hij hj=>by
  have hj':j<zs.length:=by simpa using hj
  rw [getElem!_pos zs.toArray i (by simp;omega),getElem!_pos zs.toArray j hj]
  simpa using List.pairwise_iff_getElem.1 hs i j (by omega) hj' hij) zs.length (by simp)
 refine⟨h.1,fun x=>?_⟩
 rw [show e_ zs=fb zs.toArray zs.length from rfl,h.2.1]
 constructor
 · rintro ⟨j,hj,rfl⟩
   rw [getElem!_pos zs.toArray j (by simpa using hj)]
   simp
 · intro hx
   obtain⟨j,hj,rfl⟩:=List.getElem_of_mem hx
   exact⟨j,hj,by rw [getElem!_pos zs.toArray j (by simpa using hj)];simp⟩
theorem zgu {α:Type} (lt:α→α→Prop)(hir:∀ a,¬ lt a a)(hasy:∀ a b,lt a b→lt b a→False):∀ (xs ys:List α),xs.Pairwise lt→ys.Pairwise lt→(∀ x,x∈xs↔x∈ys)→xs=ys
 | [],[],_,_,_=>rfl
 | [],y::ys,_,_,h=>absurd ((h y).2 (by simp)) (by simp)
 | x::xs,[],_,_,h=>absurd ((h x).1 (by simp)) (by simp)
 | x::xs,y::ys,hx,hy,h=>by
   rw [List.pairwise_cons] at hx hy
   have hxy:x=y:=by
    rcases fr.1 ((h x).1 (by simp)) with e|e
    · exact e
    · rcases fr.1 ((h y).2 (by simp)) with e'|e'
      · exact e'.symm
      · exact(hasy _ _ (hy.1 x e) (hx.1 y e')).elim
   subst hxy
   rw [zgu lt hir hasy xs ys hx.2 hy.2 fun z=>?_]
   constructor
   · intro hz
     rcases fr.1 ((h z).1 (fy _ hz)) with e|e
     · subst e;exact(hir _ (hx.1 z hz)).elim
     · exact e
   · intro hz
     rcases fr.1 ((h z).2 (fy _ hz)) with e|e
     · subst e;exact(hir _ (hy.1 z hz)).elim
     · exact e
theorem zg9 {X:fG} {base T k n:Nat} {v:fH} {xs:List fH} (h:X.ownsRow base T k v n xs)(os:Array Obj):(Sort.grow X os).ownsRow base T k v n xs:=by
 refine⟨h.1,?_⟩
 rcases h.2 with h0|⟨g,cap,cur,h1,h2,h3,h4⟩
 · exact .inl h0
 · exact .inr ⟨g,cap,cur,h1,h2,by rw [Sort.heap_grow_old _ _ (Array.getElem?_eq_some_iff.1 h3).1];exact h3,h4⟩
theorem zcr {B:Nat} {W X:fG} (h:fM B W X)(hB:B≤X.heap.size)(os:Array Obj):fM B W (Sort.grow X os) :=
 ⟨h.os,h.tape,h.output,by have:=h.size;simp;omega,fun k hk=>by rw [Sort.heap_grow_old _ _ (Nat.lt_of_lt_of_le hk hB)];exact h.block k hk⟩
def c_ (ss:List (List UInt8)):List (List UInt8):=ss.mergeSort fun x y=>decide (x≤y)
def bn (zs:List Int):List Int:=zs.mergeSort fun x y=>decide (x≤y)
def zlJ {α:Type} (T:Nat)(enc:α→fH)(base:Nat)(v:fH)(zs:List α)(w:fG)(e:Ending)(r:fH)(w':fG):Prop:=e=.returned r∧w'.ownsRow base T 1 v zs.length (zs.map enc)∧fM base w w'
theorem zfJ (base:Nat)(v:fH)(ss:List (List UInt8))(w:fG)(hown:w.ownsRow base 9 1 v ss.length (ss.map encStr))(hl:ss.length≤8000000)(hb:base≤w.heap.size) :
 fJ fN 91 #[v] w fun e w'=>zlJ 9 encStr base v (c_ ss) w e (.tuple #[]) w':=by
 have hlen:(c_ ss).length=ss.length:=fo ..
 by_cases hv:v=.slice none 0 0
 · subst hv
   have h0:ss=[]:=by
    rcases hown.2 with⟨_,h⟩|⟨_,_,_,h,_⟩
    · exact fm h
    · cases h
   subst h0
   exact(Tryz.slices_Sort_string_none none 0 w).mono fun e w' ⟨he,hw⟩=>⟨he,by subst hw;simpa [c_] using hown,hw▸fT _ _⟩
 · obtain⟨g,cap,rfl,hbg,hgl,_,_,_,hH⟩:=ff hown hv
   refine(Tryz.slices_Sort_string g 0 cap ss w hH hgl (by omega)).mono fun e w' ⟨he,n,os,hw⟩=>?_
   subst hw
   have h1:=fg (q:=n) (ys:=c_ ss) hown hlen (fC _)
   rw [fw (by omega)] at h1
   exact⟨he,by rw [hlen];exact zg9 h1 os,zcr (fh (fT _ _) hbg) (by simpa using hb) os⟩
theorem zby (base:Nat)(v:fH)(ss:List Int)(w:fG)(hown:w.ownsRow base 2 1 v ss.length (ss.map (fU .i64)))(hl:ss.length≤8000000)(hb:base≤w.heap.size) :
 fJ fN 94 #[v] w fun e w'=>zlJ 2 (fU .i64) base v (bn ss) w e (.tuple #[]) w':=by
 have hlen:(bn ss).length=ss.length:=fo ..
 by_cases hv:v=.slice none 0 0
 · subst hv
   have h0:ss=[]:=by
    rcases hown.2 with⟨_,h⟩|⟨_,_,_,h,_⟩
    · exact fm h
    · cases h
   subst h0
   exact(Tryz.slices_Sort_int_none none 0 w).mono fun e w' ⟨he,hw⟩=>⟨he,by subst hw;simpa [bn] using hown,hw▸fT _ _⟩
 · obtain⟨g,cap,rfl,hbg,hgl,_,_,_,hH⟩:=ff hown hv
   refine(Tryz.slices_Sort_int g 0 cap ss w hH hgl (by omega)).mono fun e w' ⟨he,n,os,hw⟩=>?_
   subst hw
   have h1:=fg (q:=n) (ys:=bn ss) hown hlen (fC _)
   rw [fw (by omega)] at h1
   exact⟨he,by rw [hlen];exact zg9 h1 os,zcr (fh (fT _ _) hbg) (by simpa using hb) os⟩
def zaP {α:Type} (T:Nat)(enc:α→fH)(base:Nat)(zs:List α)(w:fG)(e:Ending)(w':fG):Prop:=∃ v,e=.returned v∧w'.ownsRow base T 1 v zs.length (zs.map enc)∧fM base w w'
theorem zdq (base:Nat)(v:fH)(ss:List (List UInt8))(w:fG)(hown:w.ownsRow base 9 1 v ss.length (ss.map encStr))(hl:ss.length≤8000000) :
 fJ fN 92 #[v] w (zaP 9 encStr base (e_ ss) w):=by
 by_cases hv:v=.slice none 0 0
 · subst hv
   have h0:ss=[]:=by
    rcases hown.2 with⟨_,h⟩|⟨_,_,_,h,_⟩
    · exact fm h
    · cases h
   subst h0
   exact(Tryz.slices_Compact_string_empty none 0 w).mono fun e w' ⟨he,hw⟩=>⟨_,he,by subst hw;simpa [e_,fb] using hown,hw▸fT _ _⟩
 · obtain⟨g,cap,rfl,hbg,hgl,hnc,_,_,hH⟩:=ff hown hv
   have hle:=fi ss
   refine(Tryz.slices_Compact_string g 0 cap ss w hH (by omega) hnc).mono fun e w' ⟨he,q,hw⟩=>?_
   subst hw
   have h1:=fg (q:=q) (k:=(e_ ss).length) (ys:=e_ ss++fB (ss.length-(e_ ss).length) []) hown (by simp;omega) hle
   rw [fu (fC _),fq] at h1
   exact⟨_,he,h1,fh (fT _ _) hbg⟩
theorem zau (base:Nat)(v:fH)(ss:List Int)(w:fG)(hown:w.ownsRow base 2 1 v ss.length (ss.map (fU .i64)))(hl:ss.length≤8000000) :
 fJ fN 95 #[v] w (zaP 2 (fU .i64) base (e_ ss) w):=by
 by_cases hv:v=.slice none 0 0
 · subst hv
   have h0:ss=[]:=by
    rcases hown.2 with⟨_,h⟩|⟨_,_,_,h,_⟩
    · exact fm h
    · cases h
   subst h0
   exact(Tryz.slices_Compact_int_empty none 0 w).mono fun e w' ⟨he,hw⟩=>⟨_,he,by subst hw;simpa [e_,fb] using hown,hw▸fT _ _⟩
 · obtain⟨g,cap,rfl,hbg,hgl,hnc,_,_,hH⟩:=ff hown hv
   have hle:=fi ss
   refine(Tryz.slices_Compact_int g 0 cap ss w hH (by omega) hnc).mono fun e w' ⟨he,q,hw⟩=>?_
   subst hw
   have h1:=fg (q:=q) (k:=(e_ ss).length) (ys:=e_ ss++fB (ss.length-(e_ ss).length) 0) hown (by simp;omega) hle
   rw [fu (fC _),fq] at h1
   exact⟨_,he,h1,fh (fT _ _) hbg⟩
theorem Tryz.info9:(fN.info? 9).map (fun i=>(i.zero,i.size,i.bytes))=some (some (.string ⟨#[]⟩),1,16):=by kernel_rfl
theorem Tryz.info2:(fN.info? 2).map (fun i=>(i.zero,i.size,i.bytes))=some (some (.int .i64 0),1,8):=by kernel_rfl
theorem zik (s:ByteArray):encStr s.data.toList=.string s:=by simp [encStr]
def cZ {α β:Type} (K:Nat)(enc:β→fH)(key:α→β)(zs:List α)(W:fG)(k:Nat)(v:fH)(wr:fG):Prop :=
 wr.ownsRow W.heap.size K 1 v k (((zs.take k).map key).map enc)∧fM W.heap.size W wr
theorem cZ.step {α β:Type} {K:Nat} {enc:β→fH} {key:α→β} {zs:List α} {W w1 w2:fG} {k:Nat} {v v':fH} {x:α} {cs:Array fH} (hx:zs[k]? =some x)(hb:fM W.heap.size W w1)(ho:w1.ownsRow W.heap.size K 1 v k (((zs.take k).map key).map enc))(hcs:cs.toList=[enc (key x)])
 (hown:w2.ownsRow W.heap.size K 1 v' (k+1) (((zs.take k).map key).map enc++cs.toList)) (hg:(w1.alloc (.cells cs K)).grownBy w2 v.ownBlock):cZ K enc key zs W (k+1) v' w2:=by
 refine⟨?_,(hb.alloc hb.size _).grown hg (by have:=hb.size;simp;omega) (fun j hj=>(ho.lt j hj).1)⟩
 rw [List.take_add_one,hx]
 simp only [Option.toList_some,List.map_append,List.map_cons,List.map_nil]
 rw [hcs] at hown
 exact hown
theorem cZ.all {α β:Type} {K:Nat} {enc:β→fH} {key:α→β} {zs:List α} {W wr:fG} {v:fH} (h:cZ K enc key zs W zs.length v wr):wr.ownsRow W.heap.size K 1 v (zs.map key).length ((zs.map key).map enc):=by
 have:=h.1
 rw [fq] at this
 simpa using this
theorem zah (x:Reg)(w:fG):fJ fN 35 #[.agg x.enc.toArray] w fun e w'=>e=.returned (.string x.name)∧fM w.heap.size w w':=by
 obtain⟨nm,top,height,left,width,align,bottom⟩:=x
 simp only [Reg.enc]
 go_enter Tryz.func35,Tryz.ntmps35
 go_wp2_with fail
 go_ret
 exact⟨rfl,(fT _ _).alloc (fC _) _⟩
theorem zcX {Ok:fG→Reg→Prop} (hK:Keeps Ok)(a1 a2:Option Addr)(c1 c2:Nat)(xs ys:List Reg)(w:fG)(h1:ab 7 Reg.enc Ok w a1 xs)(h2:ab 7 Reg.enc Ok w a2 ys)(hx:xs.length≤4000000)(hy:ys.length≤4000000) :
 fJ fN 34 #[.slice a1 xs.length c1,.slice a2 ys.length c2,.func (.func 35) #[] #[]] w (zaP 9 encStr w.heap.size (e_ (c_ ((xs++ys).map (fun x:Reg=>x.name.data.toList)))) w):=by
 obtain⟨zs,hzs⟩:∃ zs,zs=xs++ys:=⟨_,rfl⟩
 have hzl:zs.length≤8000000:=by rw [hzs,ft];omega
 have HC:=h_ (fun(o:Array fH) (ho:o=#[.slice a1 xs.length c1,.slice a2 ys.length c2])=>(show fJ fN 90 #[.slice (some ⟨w.heap.size,0,none⟩) 2 2] (w.alloc (.cells o 23)) (aG 44 7 Reg.enc zs (w.alloc (.cells o 23))) from by
  rw [hzs]
  have hb:fM w.heap.size w (w.alloc (.cells o 23)):=(fT _ _).alloc (fC _) _
  refine zeY hK w.heap.size c1 c2 a1 a2 xs ys (w.alloc (.cells o 23)) ?_ ?_ (by simp) (ab.keeps hK _ _ _ _ hb h1) (ab.keeps hK _ _ _ _ hb h2) hx hy
  · rw [fK _ _ 0 o 23 (0,0) (fI w _),ho];rfl
  · rw [fK _ _ 1 o 23 (0,0) (fI w _),ho];rfl))
 rw [←hzs]
 have hsl:(c_ (zs.map (fun x:Reg=>x.name.data.toList))).length≤8000000:=by unfold c_;rw [fo,fp];exact hzl
 have HFIN:=h_ (fun(W wr:fG) (v:fH) (h:cZ 9 encStr (fun x:Reg=>x.name.data.toList) zs W zs.length v wr)=>zfJ W.heap.size v (zs.map (fun x:Reg=>x.name.data.toList)) wr h.all (by rw [fp];exact hzl) h.2.size)
 have HCMP:=h_ (fun(B:Nat) (wr:fG) (v:fH) (ho:wr.ownsRow B 9 1 v (c_ (zs.map (fun x:Reg=>x.name.data.toList))).length ((c_ (zs.map (fun x:Reg=>x.name.data.toList))).map encStr))=>zdq B v (c_ (zs.map (fun x:Reg=>x.name.data.toList))) wr ho hsl)
 have HQ:=h_ (fun(B:Nat) (w1 w2 w3 w4:fG) (v:fH) (hB:w.heap.size≤B) (h1:fM w.heap.size w w1) (h2:fM B w1 w2) (h3:fM B w2 w3) (h4:fM B w3 w4) (ho:w4.ownsRow B 9 1 v (e_ (c_ (zs.map (fun x:Reg=>x.name.data.toList)))).length ((e_ (c_ (zs.map (fun x:Reg=>x.name.data.toList)))).map encStr))=>(show zaP 9 encStr w.heap.size (e_ (c_ (zs.map (fun x:Reg=>x.name.data.toList)))) w (.returned v) w4 from
  ⟨v,rfl,⟨ho.1,ho.2.imp id (fun⟨g,cap,cur,q1,q2,q3⟩=>⟨g,cap,cur,q1,fE hB q2,q3⟩)⟩,((h1.trans (h2.mono hB)).trans (h3.mono hB)).trans (h4.mono hB)⟩))
 obtain⟨j0,hj,hy0,hy1,hy2⟩:=fL Tryz.info9
 have JI:=h_ hj;have J0:=h_ hy0;have J1:=h_ hy1;have J2:=h_ hy2
 have HST:=h_ (fun(W w1 w2:fG) (k:Nat) (v v':fH) (x:Reg) (cs:Array fH) (hx:zs[k]? =some x)=>cZ.step (K:=9) (enc:=encStr) (key:=(fun x:Reg=>x.name.data.toList)) (zs:=zs) (W:=W) (w1:=w1) (w2:=w2) (k:=k) (v:=v) (v':=v') (x:=x) (cs:=cs) hx)
 have HREL:Hid (∀ (W wr:fG) (k:Nat) (v:fH),cZ 9 encStr (fun x:Reg=>x.name.data.toList) zs W k v wr→wr.ownsRow W.heap.size 9 1 v k (((zs.take k).map (fun x:Reg=>x.name.data.toList)).map encStr)∧fM W.heap.size W wr):=h_ (fun _ _ _ _ h=>h)
 have HS0:Hid (∀ W:fG,cZ 9 encStr (fun x:Reg=>x.name.data.toList) zs W 0 (.slice none 0 0) W):=h_ (fun W=>⟨fV _ _ _ _,fT _ _⟩)
 generalize cZ 9 encStr (fun x:Reg=>x.name.data.toList) zs=R at *
 obtain⟨cells,hcells⟩:∃ cells:Nat→List fH,cells=fun k=>(((zs.take k).map (fun x:Reg=>x.name.data.toList)).map encStr):=⟨_,rfl⟩
 simp only [show ∀ k,(((zs.take k).map (fun x:Reg=>x.name.data.toList)).map encStr)=cells k from fun k=>by rw [hcells]] at HREL HST
 generalize c_ (zs.map (fun x:Reg=>x.name.data.toList))=S at *
 generalize e_ S=C at *
 generalize zaP 9 encStr w.heap.size C w=Q at *
 clear hj hy0 hy1 hy2 h1 h2 hzs hsl hcells
 go_enter Tryz.func34,Tryz.ntmps34
 go_wp2_with fail
 refine(HC.out _ rfl).mono ?_
 rintro e w1 ⟨v1,rfl,ho1,hb1⟩
 obtain⟨av,cv,rfl,hS⟩:=ax (k:=7) (enc:=Reg.enc) (Ok:=Flat) (fun _=>rfl) ho1 (fun _ _=>trivial)
 have HB1:=h_ (show fM w.heap.size w w1 from((fT _ _).alloc (fC _) _).trans (hb1.mono (by simp)))
 have HSL:=h_ hS
 have hs1:=HB1.out.size
 clear ho1 hb1 hS HC
 go_wp2_with fail
 go_loopw [7,15] (fun v i wr=>∃ k:Nat,k≤zs.length∧i=.int .i64 k∧R w1 k v wr) (fun _ i _=>zs.length-(intOf i).toNat)
 case atStart=>exact⟨0,by omega,rfl,HS0.out _⟩
 case round =>
  obtain⟨k,hk,rfl,hrel⟩:=hrel
  have hrk:=HREL.out _ _ _ _ hrel
  by_cases hlt:k<zs.length
  · obtain⟨b,off,x,rfl,hbl,hxk,hc,_⟩:=(ab.keeps Flat.keeps _ _ _ _ hrk.2 HSL.out).at_ hlt
    have hbs:=hrk.2.size
    have HKC:=h_ (fun o=>zah x (wr.alloc o))
    have HBA:=h_ (fun(o:Obj) (w2:fG) (h1:fM (wr.alloc o).heap.size (wr.alloc o) w2)=>(show fM wr.heap.size wr w2 from((fT _ _).alloc (fC _) _).trans (h1.mono (by simp))))
    have HO:=h_ (fun(w2:fG) (hb:fM wr.heap.size wr w2)=>aM hrk.1 hb)
    have HBB:=h_ (fun(w2:fG) (hb:fM wr.heap.size wr w2)=>(show fM w1.heap.size w1 w2 from hrk.2.trans (hb.mono hrk.2.size)))
    have HS2:=h_ (fun(w2 w3:fG) (v':fH) (cs:Array fH)=>HST.out w1 w2 w3 k u7 v' x cs hxk)
    have d0:=hc 0 _ rfl;have d1:=hc 1 _ rfl;have d2:=hc 2 _ rfl;have d3:=hc 3 _ rfl;have d4:=hc 4 _ rfl;have d5:=hc 5 _ rfl;have d6:=hc 6 _ rfl
    obtain⟨nm,top,height,left,width,align,bottom⟩:=x
    simp only [Reg.enc,fD] at HKC d0 d1 d2 d3 d4 d5 d6
    simp only [zik] at HS2
    clear hc hxk hrel hrk
    go_wp2_with fail
    refine(HKC.out _).mono ?_
    rintro e w2 ⟨rfl,hb2⟩
    have hb3:=HBA.out _ _ hb2
    have hs2:=hb3.size
    have HO2:=h_ (HO.out _ hb3)
    have HB3:=h_ (HBB.out _ hb3)
    clear hb2 hb3 HO HKC HBA d0 d1 d2 d3 d4 d5 d6
    go_wp2_with (at_builtin;refine aH _ _ rfl (.tmp 19) (.tmp 23) 55 rfl w1.heap.size 9 j0 _ 1 16 Tryz.underlying55 JI.out J0.out J1.out J2.out rfl (by decide) _ _ _ rfl HO2.out _ rfl rfl rfl ?h1 ?h63 ?hb ?hbase ?_)
    case h1=>first|rfl|(intro u hu;simp at hu;subst hu;rfl)
    case h63=>unfold maxLen;omega
    case hb=>omega
    case hbase=>omega
    intro v' w3 hown' hgrow
    have RR:=h_ (HS2.out w2 w3 v' _ HB3.out HO2.out rfl hown' hgrow)
    clear hown' hgrow
    go_wp2_with fail
    go_roundw
    case rel=>exact⟨k+1,by omega,by go_num,RR.out⟩
    case measure=>simp [intOf];omega
  · obtain rfl:k=zs.length:=by omega
    obtain⟨av2,cv2,hav⟩:∃ a c,u7=.slice a zs.length c:=by
     rcases hrk.1.2 with⟨rfl,h0⟩|⟨g,cap,_,rfl,_⟩
     · exact⟨none,0,by rw [h0]⟩
     · exact⟨_,_,rfl⟩
    subst hav
    have HF1:=h_ (HFIN.out _ _ _ hrel)
    have HRB:=h_ hrk.2
    clear hrel hrk
    go_wp2_with fail
    refine HF1.out.mono ?_
    rintro e w2 ⟨rfl,ho2,hb2⟩
    have HF2:=h_ (HCMP.out _ _ _ ho2)
    have HB2:=h_ hb2
    clear ho2 hb2
    go_wp2_with fail
    refine HF2.out.mono ?_
    rintro e w3 ⟨v3,rfl,ho3,hb3⟩
    have HF3:=h_ (HQ.out _ w1 _ _ _ v3 hs1 HB1.out HRB.out HB2.out hb3 ho3)
    clear ho3 hb3
    go_wp2_with fail
    exact HF3.out
theorem zag (x:Ev)(w:fG):fJ fN 38 #[.agg x.enc.toArray] w fun e w'=>e=.returned (.int .i64 x.id)∧fM w.heap.size w w':=by
 obtain⟨id,inn,out,reg,kind,sp,xa,xc,xr⟩:=x
 simp only [Ev.enc]
 go_enter Tryz.func38,Tryz.ntmps38
 go_wp2_with fail
 go_ret
 exact⟨rfl,(fT _ _).alloc (fC _) _⟩
theorem zcW {Ok:fG→Ev→Prop} (hK:Keeps Ok)(a1 a2:Option Addr)(c1 c2:Nat)(xs ys:List Ev)(w:fG)(h1:ab 7 Ev.enc Ok w a1 xs)(h2:ab 7 Ev.enc Ok w a2 ys)(hx:xs.length≤4000000)(hy:ys.length≤4000000) :
 fJ fN 37 #[.slice a1 xs.length c1,.slice a2 ys.length c2,.func (.func 38) #[] #[]] w (zaP 2 (fU .i64) w.heap.size (e_ (bn ((xs++ys).map (fun x:Ev=>x.id)))) w):=by
 obtain⟨zs,hzs⟩:∃ zs,zs=xs++ys:=⟨_,rfl⟩
 have hzl:zs.length≤8000000:=by rw [hzs,ft];omega
 have HC:=h_ (fun(o:Array fH) (ho:o=#[.slice a1 xs.length c1,.slice a2 ys.length c2])=>(show fJ fN 93 #[.slice (some ⟨w.heap.size,0,none⟩) 2 2] (w.alloc (.cells o 24)) (aG 50 7 Ev.enc zs (w.alloc (.cells o 24))) from by
  rw [hzs]
  have hb:fM w.heap.size w (w.alloc (.cells o 24)):=(fT _ _).alloc (fC _) _
  refine zeX hK w.heap.size c1 c2 a1 a2 xs ys (w.alloc (.cells o 24)) ?_ ?_ (by simp) (ab.keeps hK _ _ _ _ hb h1) (ab.keeps hK _ _ _ _ hb h2) hx hy
  · rw [fK _ _ 0 o 24 (0,0) (fI w _),ho];rfl
  · rw [fK _ _ 1 o 24 (0,0) (fI w _),ho];rfl))
 rw [←hzs]
 have hsl:(bn (zs.map (fun x:Ev=>x.id))).length≤8000000:=by unfold bn;rw [fo,fp];exact hzl
 have HFIN:=h_ (fun(W wr:fG) (v:fH) (h:cZ 2 (fU .i64) (fun x:Ev=>x.id) zs W zs.length v wr)=>zby W.heap.size v (zs.map (fun x:Ev=>x.id)) wr h.all (by rw [fp];exact hzl) h.2.size)
 have HCMP:=h_ (fun(B:Nat) (wr:fG) (v:fH) (ho:wr.ownsRow B 2 1 v (bn (zs.map (fun x:Ev=>x.id))).length ((bn (zs.map (fun x:Ev=>x.id))).map (fU .i64)))=>zau B v (bn (zs.map (fun x:Ev=>x.id))) wr ho hsl)
 have HQ:=h_ (fun(B:Nat) (w1 w2 w3 w4:fG) (v:fH) (hB:w.heap.size≤B) (h1:fM w.heap.size w w1) (h2:fM B w1 w2) (h3:fM B w2 w3) (h4:fM B w3 w4) (ho:w4.ownsRow B 2 1 v (e_ (bn (zs.map (fun x:Ev=>x.id)))).length ((e_ (bn (zs.map (fun x:Ev=>x.id)))).map (fU .i64)))=>(show zaP 2 (fU .i64) w.heap.size (e_ (bn (zs.map (fun x:Ev=>x.id)))) w (.returned v) w4 from
  ⟨v,rfl,⟨ho.1,ho.2.imp id (fun⟨g,cap,cur,q1,q2,q3⟩=>⟨g,cap,cur,q1,fE hB q2,q3⟩)⟩,((h1.trans (h2.mono hB)).trans (h3.mono hB)).trans (h4.mono hB)⟩))
 obtain⟨j0,hj,hy0,hy1,hy2⟩:=fL Tryz.info2
 have JI:=h_ hj;have J0:=h_ hy0;have J1:=h_ hy1;have J2:=h_ hy2
 have HST:=h_ (fun(W w1 w2:fG) (k:Nat) (v v':fH) (x:Ev) (cs:Array fH) (hx:zs[k]? =some x)=>cZ.step (K:=2) (enc:=(fU .i64)) (key:=(fun x:Ev=>x.id)) (zs:=zs) (W:=W) (w1:=w1) (w2:=w2) (k:=k) (v:=v) (v':=v') (x:=x) (cs:=cs) hx)
 have HREL:Hid (∀ (W wr:fG) (k:Nat) (v:fH),cZ 2 (fU .i64) (fun x:Ev=>x.id) zs W k v wr→wr.ownsRow W.heap.size 2 1 v k (((zs.take k).map (fun x:Ev=>x.id)).map (fU .i64))∧fM W.heap.size W wr):=h_ (fun _ _ _ _ h=>h)
 have HS0:Hid (∀ W:fG,cZ 2 (fU .i64) (fun x:Ev=>x.id) zs W 0 (.slice none 0 0) W):=h_ (fun W=>⟨fV _ _ _ _,fT _ _⟩)
 generalize cZ 2 (fU .i64) (fun x:Ev=>x.id) zs=R at *
 obtain⟨cells,hcells⟩:∃ cells:Nat→List fH,cells=fun k=>(((zs.take k).map (fun x:Ev=>x.id)).map (fU .i64)):=⟨_,rfl⟩
 simp only [show ∀ k,(((zs.take k).map (fun x:Ev=>x.id)).map (fU .i64))=cells k from fun k=>by rw [hcells]] at HREL HST
 generalize bn (zs.map (fun x:Ev=>x.id))=S at *
 generalize e_ S=C at *
 generalize zaP 2 (fU .i64) w.heap.size C w=Q at *
 clear hj hy0 hy1 hy2 h1 h2 hzs hsl hcells
 go_enter Tryz.func37,Tryz.ntmps37
 go_wp2_with fail
 refine(HC.out _ rfl).mono ?_
 rintro e w1 ⟨v1,rfl,ho1,hb1⟩
 obtain⟨av,cv,rfl,hS⟩:=ax (k:=7) (enc:=Ev.enc) (Ok:=Flat) (fun _=>rfl) ho1 (fun _ _=>trivial)
 have HB1:=h_ (show fM w.heap.size w w1 from((fT _ _).alloc (fC _) _).trans (hb1.mono (by simp)))
 have HSL:=h_ hS
 have hs1:=HB1.out.size
 clear ho1 hb1 hS HC
 go_wp2_with fail
 go_loopw [7,15] (fun v i wr=>∃ k:Nat,k≤zs.length∧i=.int .i64 k∧R w1 k v wr) (fun _ i _=>zs.length-(intOf i).toNat)
 case atStart=>exact⟨0,by omega,rfl,HS0.out _⟩
 case round =>
  obtain⟨k,hk,rfl,hrel⟩:=hrel
  have hrk:=HREL.out _ _ _ _ hrel
  by_cases hlt:k<zs.length
  · obtain⟨b,off,x,rfl,hbl,hxk,hc,_⟩:=(ab.keeps Flat.keeps _ _ _ _ hrk.2 HSL.out).at_ hlt
    have hbs:=hrk.2.size
    have HKC:=h_ (fun o=>zag x (wr.alloc o))
    have HBA:=h_ (fun(o:Obj) (w2:fG) (h1:fM (wr.alloc o).heap.size (wr.alloc o) w2)=>(show fM wr.heap.size wr w2 from((fT _ _).alloc (fC _) _).trans (h1.mono (by simp))))
    have HO:=h_ (fun(w2:fG) (hb:fM wr.heap.size wr w2)=>aM hrk.1 hb)
    have HBB:=h_ (fun(w2:fG) (hb:fM wr.heap.size wr w2)=>(show fM w1.heap.size w1 w2 from hrk.2.trans (hb.mono hrk.2.size)))
    have HS2:=h_ (fun(w2 w3:fG) (v':fH) (cs:Array fH)=>HST.out w1 w2 w3 k u7 v' x cs hxk)
    have d0:=hc 0 _ rfl;have d1:=hc 1 _ rfl;have d2:=hc 2 _ rfl;have d3:=hc 3 _ rfl;have d4:=hc 4 _ rfl;have d5:=hc 5 _ rfl;have d6:=hc 6 _ rfl
    obtain⟨id,inn,out,reg,kind,sp,xa,xc,xr⟩:=x
    simp only [Ev.enc,fD] at HKC d0 d1 d2 d3 d4 d5 d6
    simp only at HS2
    clear hc hxk hrel hrk
    go_wp2_with fail
    refine(HKC.out _).mono ?_
    rintro e w2 ⟨rfl,hb2⟩
    have hb3:=HBA.out _ _ hb2
    have hs2:=hb3.size
    have HO2:=h_ (HO.out _ hb3)
    have HB3:=h_ (HBB.out _ hb3)
    clear hb2 hb3 HO HKC HBA d0 d1 d2 d3 d4 d5 d6
    go_wp2_with (at_builtin;refine aH _ _ rfl (.tmp 19) (.tmp 23) 85 rfl w1.heap.size 2 j0 _ 1 8 fO JI.out J0.out J1.out J2.out rfl (by decide) _ _ _ rfl HO2.out _ rfl rfl rfl ?h1 ?h63 ?hb ?hbase ?_)
    case h1=>first|rfl|(intro u hu;simp at hu;subst hu;rfl)
    case h63=>unfold maxLen;omega
    case hb=>omega
    case hbase=>omega
    intro v' w3 hown' hgrow
    have RR:=h_ (HS2.out w2 w3 v' _ HB3.out HO2.out rfl hown' hgrow)
    clear hown' hgrow
    go_wp2_with fail
    go_roundw
    case rel=>exact⟨k+1,by omega,by go_num,RR.out⟩
    case measure=>simp [intOf];omega
  · obtain rfl:k=zs.length:=by omega
    obtain⟨av2,cv2,hav⟩:∃ a c,u7=.slice a zs.length c:=by
     rcases hrk.1.2 with⟨rfl,h0⟩|⟨g,cap,_,rfl,_⟩
     · exact⟨none,0,by rw [h0]⟩
     · exact⟨_,_,rfl⟩
    subst hav
    have HF1:=h_ (HFIN.out _ _ _ hrel)
    have HRB:=h_ hrk.2
    clear hrel hrk
    go_wp2_with fail
    refine HF1.out.mono ?_
    rintro e w2 ⟨rfl,ho2,hb2⟩
    have HF2:=h_ (HCMP.out _ _ _ ho2)
    have HB2:=h_ hb2
    clear ho2 hb2
    go_wp2_with fail
    refine HF2.out.mono ?_
    rintro e w3 ⟨v3,rfl,ho3,hb3⟩
    have HF3:=h_ (HQ.out _ w1 _ _ _ v3 hs1 HB1.out HRB.out HB2.out hb3 ho3)
    clear ho3 hb3
    go_wp2_with fail
    exact HF3.out
theorem zaf (x:Cm)(w:fG):fJ fN 42 #[.agg x.enc.toArray] w fun e w'=>e=.returned (.int .i64 x.id)∧fM w.heap.size w w':=by
 obtain⟨id,ev,frm,til,au,tx,dn,lo⟩:=x
 simp only [Cm.enc]
 go_enter Tryz.func42,Tryz.ntmps42
 go_wp2_with fail
 go_ret
 exact⟨rfl,(fT _ _).alloc (fC _) _⟩
theorem zcV {Ok:fG→Cm→Prop} (hK:Keeps Ok)(a1 a2:Option Addr)(c1 c2:Nat)(xs ys:List Cm)(w:fG)(h1:ab 8 Cm.enc Ok w a1 xs)(h2:ab 8 Cm.enc Ok w a2 ys)(hx:xs.length≤4000000)(hy:ys.length≤4000000) :
 fJ fN 41 #[.slice a1 xs.length c1,.slice a2 ys.length c2,.func (.func 42) #[] #[]] w (zaP 2 (fU .i64) w.heap.size (e_ (bn ((xs++ys).map (fun x:Cm=>x.id)))) w):=by
 obtain⟨zs,hzs⟩:∃ zs,zs=xs++ys:=⟨_,rfl⟩
 have hzl:zs.length≤8000000:=by rw [hzs,ft];omega
 have HC:=h_ (fun(o:Array fH) (ho:o=#[.slice a1 xs.length c1,.slice a2 ys.length c2])=>(show fJ fN 97 #[.slice (some ⟨w.heap.size,0,none⟩) 2 2] (w.alloc (.cells o 25)) (aG 52 8 Cm.enc zs (w.alloc (.cells o 25))) from by
  rw [hzs]
  have hb:fM w.heap.size w (w.alloc (.cells o 25)):=(fT _ _).alloc (fC _) _
  refine zeW hK w.heap.size c1 c2 a1 a2 xs ys (w.alloc (.cells o 25)) ?_ ?_ (by simp) (ab.keeps hK _ _ _ _ hb h1) (ab.keeps hK _ _ _ _ hb h2) hx hy
  · rw [fK _ _ 0 o 25 (0,0) (fI w _),ho];rfl
  · rw [fK _ _ 1 o 25 (0,0) (fI w _),ho];rfl))
 rw [←hzs]
 have hsl:(bn (zs.map (fun x:Cm=>x.id))).length≤8000000:=by unfold bn;rw [fo,fp];exact hzl
 have HFIN:=h_ (fun(W wr:fG) (v:fH) (h:cZ 2 (fU .i64) (fun x:Cm=>x.id) zs W zs.length v wr)=>zby W.heap.size v (zs.map (fun x:Cm=>x.id)) wr h.all (by rw [fp];exact hzl) h.2.size)
 have HCMP:=h_ (fun(B:Nat) (wr:fG) (v:fH) (ho:wr.ownsRow B 2 1 v (bn (zs.map (fun x:Cm=>x.id))).length ((bn (zs.map (fun x:Cm=>x.id))).map (fU .i64)))=>zau B v (bn (zs.map (fun x:Cm=>x.id))) wr ho hsl)
 have HQ:=h_ (fun(B:Nat) (w1 w2 w3 w4:fG) (v:fH) (hB:w.heap.size≤B) (h1:fM w.heap.size w w1) (h2:fM B w1 w2) (h3:fM B w2 w3) (h4:fM B w3 w4) (ho:w4.ownsRow B 2 1 v (e_ (bn (zs.map (fun x:Cm=>x.id)))).length ((e_ (bn (zs.map (fun x:Cm=>x.id)))).map (fU .i64)))=>(show zaP 2 (fU .i64) w.heap.size (e_ (bn (zs.map (fun x:Cm=>x.id)))) w (.returned v) w4 from
  ⟨v,rfl,⟨ho.1,ho.2.imp id (fun⟨g,cap,cur,q1,q2,q3⟩=>⟨g,cap,cur,q1,fE hB q2,q3⟩)⟩,((h1.trans (h2.mono hB)).trans (h3.mono hB)).trans (h4.mono hB)⟩))
 obtain⟨j0,hj,hy0,hy1,hy2⟩:=fL Tryz.info2
 have JI:=h_ hj;have J0:=h_ hy0;have J1:=h_ hy1;have J2:=h_ hy2
 have HST:=h_ (fun(W w1 w2:fG) (k:Nat) (v v':fH) (x:Cm) (cs:Array fH) (hx:zs[k]? =some x)=>cZ.step (K:=2) (enc:=(fU .i64)) (key:=(fun x:Cm=>x.id)) (zs:=zs) (W:=W) (w1:=w1) (w2:=w2) (k:=k) (v:=v) (v':=v') (x:=x) (cs:=cs) hx)
 have HREL:Hid (∀ (W wr:fG) (k:Nat) (v:fH),cZ 2 (fU .i64) (fun x:Cm=>x.id) zs W k v wr→wr.ownsRow W.heap.size 2 1 v k (((zs.take k).map (fun x:Cm=>x.id)).map (fU .i64))∧fM W.heap.size W wr):=h_ (fun _ _ _ _ h=>h)
 have HS0:Hid (∀ W:fG,cZ 2 (fU .i64) (fun x:Cm=>x.id) zs W 0 (.slice none 0 0) W):=h_ (fun W=>⟨fV _ _ _ _,fT _ _⟩)
 generalize cZ 2 (fU .i64) (fun x:Cm=>x.id) zs=R at *
 obtain⟨cells,hcells⟩:∃ cells:Nat→List fH,cells=fun k=>(((zs.take k).map (fun x:Cm=>x.id)).map (fU .i64)):=⟨_,rfl⟩
 simp only [show ∀ k,(((zs.take k).map (fun x:Cm=>x.id)).map (fU .i64))=cells k from fun k=>by rw [hcells]] at HREL HST
 generalize bn (zs.map (fun x:Cm=>x.id))=S at *
 generalize e_ S=C at *
 generalize zaP 2 (fU .i64) w.heap.size C w=Q at *
 clear hj hy0 hy1 hy2 h1 h2 hzs hsl hcells
 go_enter Tryz.func41,Tryz.ntmps41
 go_wp2_with fail
 refine(HC.out _ rfl).mono ?_
 rintro e w1 ⟨v1,rfl,ho1,hb1⟩
 obtain⟨av,cv,rfl,hS⟩:=ax (k:=8) (enc:=Cm.enc) (Ok:=Flat) (fun _=>rfl) ho1 (fun _ _=>trivial)
 have HB1:=h_ (show fM w.heap.size w w1 from((fT _ _).alloc (fC _) _).trans (hb1.mono (by simp)))
 have HSL:=h_ hS
 have hs1:=HB1.out.size
 clear ho1 hb1 hS HC
 go_wp2_with fail
 go_loopw [7,15] (fun v i wr=>∃ k:Nat,k≤zs.length∧i=.int .i64 k∧R w1 k v wr) (fun _ i _=>zs.length-(intOf i).toNat)
 case atStart=>exact⟨0,by omega,rfl,HS0.out _⟩
 case round =>
  obtain⟨k,hk,rfl,hrel⟩:=hrel
  have hrk:=HREL.out _ _ _ _ hrel
  by_cases hlt:k<zs.length
  · obtain⟨b,off,x,rfl,hbl,hxk,hc,_⟩:=(ab.keeps Flat.keeps _ _ _ _ hrk.2 HSL.out).at_ hlt
    have hbs:=hrk.2.size
    have HKC:=h_ (fun o=>zaf x (wr.alloc o))
    have HBA:=h_ (fun(o:Obj) (w2:fG) (h1:fM (wr.alloc o).heap.size (wr.alloc o) w2)=>(show fM wr.heap.size wr w2 from((fT _ _).alloc (fC _) _).trans (h1.mono (by simp))))
    have HO:=h_ (fun(w2:fG) (hb:fM wr.heap.size wr w2)=>aM hrk.1 hb)
    have HBB:=h_ (fun(w2:fG) (hb:fM wr.heap.size wr w2)=>(show fM w1.heap.size w1 w2 from hrk.2.trans (hb.mono hrk.2.size)))
    have HS2:=h_ (fun(w2 w3:fG) (v':fH) (cs:Array fH)=>HST.out w1 w2 w3 k u7 v' x cs hxk)
    have d0:=hc 0 _ rfl;have d1:=hc 1 _ rfl;have d2:=hc 2 _ rfl;have d3:=hc 3 _ rfl;have d4:=hc 4 _ rfl;have d5:=hc 5 _ rfl;have d6:=hc 6 _ rfl;have d7:=hc 7 _ rfl
    obtain⟨id,ev,frm,til,au,tx,dn,lo⟩:=x
    simp only [Cm.enc,fD] at HKC d0 d1 d2 d3 d4 d5 d6 d7
    simp only at HS2
    clear hc hxk hrel hrk
    go_wp2_with fail
    refine(HKC.out _).mono ?_
    rintro e w2 ⟨rfl,hb2⟩
    have hb3:=HBA.out _ _ hb2
    have hs2:=hb3.size
    have HO2:=h_ (HO.out _ hb3)
    have HB3:=h_ (HBB.out _ hb3)
    clear hb2 hb3 HO HKC HBA d0 d1 d2 d3 d4 d5 d6 d7
    go_wp2_with (at_builtin;refine aH _ _ rfl (.tmp 19) (.tmp 23) 85 rfl w1.heap.size 2 j0 _ 1 8 fO JI.out J0.out J1.out J2.out rfl (by decide) _ _ _ rfl HO2.out _ rfl rfl rfl ?h1 ?h63 ?hb ?hbase ?_)
    case h1=>first|rfl|(intro u hu;simp at hu;subst hu;rfl)
    case h63=>unfold maxLen;omega
    case hb=>omega
    case hbase=>omega
    intro v' w3 hown' hgrow
    have RR:=h_ (HS2.out w2 w3 v' _ HB3.out HO2.out rfl hown' hgrow)
    clear hown' hgrow
    go_wp2_with fail
    go_roundw
    case rel=>exact⟨k+1,by omega,by go_num,RR.out⟩
    case measure=>simp [intOf];omega
  · obtain rfl:k=zs.length:=by omega
    obtain⟨av2,cv2,hav⟩:∃ a c,u7=.slice a zs.length c:=by
     rcases hrk.1.2 with⟨rfl,h0⟩|⟨g,cap,_,rfl,_⟩
     · exact⟨none,0,by rw [h0]⟩
     · exact⟨_,_,rfl⟩
    subst hav
    have HF1:=h_ (HFIN.out _ _ _ hrel)
    have HRB:=h_ hrk.2
    clear hrel hrk
    go_wp2_with fail
    refine HF1.out.mono ?_
    rintro e w2 ⟨rfl,ho2,hb2⟩
    have HF2:=h_ (HCMP.out _ _ _ ho2)
    have HB2:=h_ hb2
    clear ho2 hb2
    go_wp2_with fail
    refine HF2.out.mono ?_
    rintro e w3 ⟨v3,rfl,ho3,hb3⟩
    have HF3:=h_ (HQ.out _ w1 _ _ _ v3 hs1 HB1.out HRB.out HB2.out hb3 ho3)
    clear ho3 hb3
    go_wp2_with fail
    exact HF3.out
def eM (a b:Run):Bool:=a.text.toList==b.text.toList&&(a.color==b.color&&a.it==b.it&&a.un==b.un)&&a.ruby.toList==b.ruby.toList
def eN (a b:Row):Bool:=fe eM a.runs b.runs
def cP (a b:List Row):Bool:=fe eN a b
instance:Inhabited Run:=⟨⟨⟨#[]⟩,0,false,false,⟨#[]⟩⟩⟩
instance:Inhabited Row:=⟨⟨none,0,[]⟩⟩
theorem zkh {α:Type} [Inhabited α] (xs:List α)(j:Nat)(h:j<xs.length):xs[j]? =some xs[j]!:=by
 rw [List.getElem?_eq_getElem h,getElem!_pos xs j h]
theorem zgL (x y:Run)(w:fG):(binOp .neq 75 (.agg x.enc.toArray) (.agg y.enc.toArray)).run fN w=.ok (.bool (!eM x y)) w:=by
 simp [go_sem,Run.enc,eM]
 repeat' split
 all_goals simp_all
theorem zmL:Go.Proofs.NeqAt fN 75 (fun x=>.agg (Run.enc x).toArray) eM:=⟨zgL,Go.Proofs.GuardAt.agg (fun x=>(Run.enc x).toArray) (by kernel_rfl)⟩
theorem zhw (a a':Option Addr)(n m c c':Nat)(w:fG)(h:¬ n=m):fJ fN 204 #[.slice a n c,.slice a' m c'] w fun e w'=>e=.returned (.bool false)∧w=w':=by
 have h1:(n != m)=true:=by simpa using h
 have h2:((n:Int) != (m:Int))=true:=by simp;omega
 go_enter fR,fP
 go_wp2_with fail
 go_ret
 exact⟨rfl,rfl⟩
theorem zbW (a a':Option Addr)(c c':Nat)(w:fG):fJ fN 204 #[.slice a 0 c,.slice a' 0 c'] w fun e w'=>e=.returned (.bool true)∧w=w':=by
 go_enter fR,fP
 go_wp2_with fail
 refine wp_loop_rounds 1 ?_
 rw [rounds_succ]
 go_wp2_with fail
 go_ret
 exact⟨rfl,rfl⟩
theorem zaN {α:Type} (eq:α→α→Bool):fe eq [] []=true:=by rw [fe]
theorem zeR (a a':Option Addr)(c c':Nat)(xs ys:List Run)(w:fG)(h:Runs w a xs)(h':Runs w a' ys)(hl:xs.length≤4000000)(hl':ys.length≤4000000) :
 fJ fN 204 #[.slice a xs.length c,.slice a' ys.length c'] w fun e w'=>e=.returned (.bool (fe eM xs ys))∧fM w.heap.size w w':=by
 by_cases hn:xs.length=ys.length
 · rcases h with rfl|⟨b,off,rfl,hb,hc⟩
   · obtain rfl:ys=[]:=fm hn.symm
     rw [zaN]
     exact(zbW a a' c c' w).mono fun e w' ⟨he,hw⟩=>⟨he,hw▸fT _ _⟩
   · rcases h' with rfl|⟨b',off',rfl,hb',hc'⟩
     · obtain rfl:xs=[]:=fm hn
       rw [zaN]
       exact(zbW _ a' c c' w).mono fun e w' ⟨he,hw⟩=>⟨he,hw▸fT _ _⟩
     · have h:=Tryz.slices_Equal_f204 5 (fun w=>by kernel_rfl) (fun w=>by kernel_rfl) Run.enc (fun _=>rfl) eM zmL b off xs.length c b' off' ys.length c' xs ys w (fC _) (fC _) (by omega) (by omega)
        (fun j hj i v hv=>(hc j _ (zkh xs j hj)).1 i v hv) (fun j hj i v hv=>(hc' j _ (zkh ys j hj)).1 i v hv)
       rw [fq,fq] at h
       exact h.mono fun e w' ⟨he,q,hw⟩=>⟨he,hw▸below_drewN (fT _ _) q⟩
 · rw [fk eM xs ys hn]
   exact(zhw a a' _ _ c c' w hn).mono fun e w' ⟨he,hw⟩=>⟨he,hw▸fT _ _⟩
theorem zi8 (r s:Row)(w:fG)(h:r.lies w)(h':s.lies w)(hl:r.runs.length≤4000000)(hl':s.runs.length≤4000000) :
 fJ fN 148 #[.agg r.enc.toArray,.agg s.enc.toArray] w fun e w'=>e=.returned (.bool (eN r s))∧fM w.heap.size w w':=by
 have hb2:∀ o o',fM w.heap.size w ((w.alloc o).alloc o'):=fun o o'=>((fT _ _).alloc (fC _) _).alloc (by simp) _
 have HC:=h_ (fun o o'=>zeR r.at_ s.at_ r.cap s.cap r.runs s.runs ((w.alloc o).alloc o') (h.later (hb2 o o')) (h'.later (hb2 o o')) hl hl')
 have HB:=h_ (fun o o' w1 (h1:fM ((w.alloc o).alloc o').heap.size ((w.alloc o).alloc o') w1)=>(hb2 o o').trans (h1.mono (by simp;omega)))
 unfold eN
 obtain⟨ra,rc,rr⟩:=r
 obtain⟨sa,sc,ss⟩:=s
 simp only [Row.enc] at HC ⊢
 generalize fe eM rr ss=G at *
 clear hb2
 go_enter Tryz.func148,Tryz.ntmps148
 go_wp2_with fail
 refine(HC.out _ _).mono ?_
 rintro e w1 ⟨rfl,hb⟩
 have hb':=HB.out _ _ _ hb
 clear hb
 go_wp2_with fail
 go_ret
 exact⟨rfl,hb'⟩
theorem zkt (a a':Option Addr)(n m c c':Nat)(v:fH)(w:fG)(h:¬ n=m):fJ fN 147 #[.slice a n c,.slice a' m c',v] w fun e w'=>e=.returned (.bool false)∧w=w':=by
 have h1:(n != m)=true:=by simpa using h
 have h2:((n:Int) != (m:Int))=true:=by simp;omega
 go_enter fS,fQ
 go_wp2_with fail
 go_ret
 exact⟨rfl,rfl⟩
theorem zgx {α:Type} (eq:α→α→Bool)(xs ys:List α)(k:Nat)(x y:α)(hx:xs[k]? =some x)(hy:ys[k]? =some y):fe eq (xs.drop k) (ys.drop k)=(eq x y&&fe eq (xs.drop (k+1)) (ys.drop (k+1))):=by
 rw [aZ xs k x hx,aZ ys k y hy,fe]
def zaO (w:fG)(a:Option Addr)(xs:List Row):Prop:=ab 1 Row.enc Row.lies w a xs
theorem zil (a a':Option Addr)(c c':Nat)(xs ys:List Row)(w:fG)(h:zaO w a xs)(h':zaO w a' ys)(hf:∀ r∈xs,r.runs.length≤4000000)(hf':∀ r∈ys,r.runs.length≤4000000)(hl:xs.length≤4000000)(hn:xs.length=ys.length) :
 fJ fN 147 #[.slice a xs.length c,.slice a' ys.length c',.func (.func 148) #[] #[]] w fun e w'=>e=.returned (.bool (cP xs ys))∧fM w.heap.size w w':=by
 generalize hG:cP xs ys=G
 have H0:=h_ (show fe eN (xs.drop 0) (ys.drop 0)=G from hG)
 have HNN:=h_ hn
 rw [←hn]
 clear hG hn
 have h1:((xs.length:Int) != (xs.length:Int))=false:=by simp
 go_enter fS,fQ
 go_wp2_with fail
 go_loopw [17] (fun i wr=>∃ k:Nat,k≤xs.length∧i=.int .i64 k∧fe eN (xs.drop k) (ys.drop k)=G∧fM w.heap.size w wr) (fun i _=>xs.length-(intOf i).toNat)
 case atStart=>exact⟨0,by omega,rfl,H0.out,fT _ _⟩
 case round =>
  obtain⟨k,hk,rfl,hp,hb⟩:=hrel
  by_cases hlt:k<xs.length
  · obtain⟨b,off,r,rfl,hbl,hx,hc,hok⟩:=(ab.keeps Row.keeps _ _ _ _ hb h).at_ hlt
    obtain⟨b',off',s,rfl,hbl',hy,hc',hok'⟩:=(ab.keeps Row.keeps _ _ _ _ hb h').at_ (show k<ys.length by rw [←HNN.out];exact hlt)
    rw [zgx eN xs ys k r s hx hy] at hp
    have hfr:=hf r (fx hx)
    have hfs:=hf' s (fx hy)
    have hb2:∀ o o',fM wr.heap.size wr ((wr.alloc o).alloc o'):=fun o o'=>((fT _ _).alloc (fC _) _).alloc (by simp) _
    have HC:=h_ (fun o o'=>zi8 r s ((wr.alloc o).alloc o') (Row.keeps _ _ _ (hb2 o o') hok) (Row.keeps _ _ _ (hb2 o o') hok') hfr hfs)
    have HB:=h_ (fun o o' w1 (h1:fM ((wr.alloc o).alloc o').heap.size ((wr.alloc o).alloc o') w1)=>hb.trans (((hb2 o o').trans (h1.mono (by simp;omega))).mono hb.size))
    have HP:=h_ hp
    generalize eN r s=E at *
    obtain⟨ra,rc,rr⟩:=r
    obtain⟨sa,sc,ss⟩:=s
    simp only [Row.enc] at HC
    have d0:=hc 0 _ rfl
    have d0':=hc' 0 _ rfl
    simp only [fD,Nat.mul_one] at d0 d0'
    have dd:∀ o,(wr.alloc o).cell? ⟨b',off'+k,none⟩=some (.slice sa ss.length sc):=fun o=>(fG.cell?_alloc_lt _ _ _ (by simpa using hbl')).trans d0'
    clear hc hc' hp hx hy hok hok' hb2 hfr hfs H0 d0'
    cases E
    · go_wp2_with (go_at_call 148;refine(HC.out _ _).mono ?_;rintro e w1 ⟨rfl,hb1⟩;have hb1':=HB.out _ _ _ hb1;clear hb1)
      go_ret
      exact⟨by rw [←HP.out];rfl,hb1'⟩
    · go_wp2_with (go_at_call 148;refine(HC.out _ _).mono ?_;rintro e w1 ⟨rfl,hb1⟩;have hb1':=HB.out _ _ _ hb1;clear hb1)
      go_roundw
      case rel=>exact⟨k+1,by omega,by go_num,by rw [←HP.out];simp,hb1'⟩
      case measure=>simp [intOf];omega
  · obtain rfl:k=xs.length:=by omega
    have hp2:true=G:=by
     rw [←hp,fz,HNN.out,fz,zaN]
    have HP:=h_ hp2
    clear hp hp2 H0
    go_wp2_with fail
    go_ret
    exact⟨by rw [←HP.out];rfl,hb⟩
theorem za4 (a a':Option Addr)(c c':Nat)(xs ys:List Row)(w:fG)(h:zaO w a xs)(h':zaO w a' ys)(hf:∀ r∈xs,r.runs.length≤4000000)(hf':∀ r∈ys,r.runs.length≤4000000)(hl:xs.length≤4000000) :
 fJ fN 84 #[.slice a xs.length c,.slice a' ys.length c'] w fun e w'=>e=.returned (.bool (cP xs ys))∧fM w.heap.size w w':=by
 have HC:Hid (fJ fN 147 #[.slice a xs.length c,.slice a' ys.length c',.func (.func 148) #[] #[]] w fun e w'=>e=.returned (.bool (cP xs ys))∧fM w.heap.size w w'):=by
  apply h_
  by_cases hn:xs.length=ys.length
  · exact zil a a' c c' xs ys w h h' hf hf' hl hn
  · rw [cP,fk eN xs ys hn]
    exact(zkt a a' _ _ c c' _ w hn).mono fun e w' ⟨he,hw⟩=>⟨he,hw▸fT _ _⟩
 go_enter Tryz.func84,Tryz.ntmps84
 go_wp2_with fail
 refine HC.out.mono ?_
 rintro e w1 ⟨rfl,hb⟩
 go_wp2_with fail
 go_ret
 exact⟨rfl,hb⟩
instance:Inhabited Ev:=⟨⟨0,0,0,⟨#[]⟩,0,⟨#[]⟩,none,0,[]⟩⟩
end Go.Proofs.YtnlnmbcaongehaaGreatDoor
