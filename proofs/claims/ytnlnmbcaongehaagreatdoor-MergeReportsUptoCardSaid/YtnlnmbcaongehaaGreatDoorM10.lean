/- Lists of changes that grow; keys that stay. (printed by gen_diff2.py) The contract of diff.apply at a comment's change. (printed by gen_applycm.py out of ApplyReg's text) The contract of the reference's Names: the names of the regions of two documents, ascending. (printed by gen_names.py) The contract of the reference's Diff. (printed by gen_refdiff.py) The law DiffLists, where awake is true: the changes of both sides have the same contents. The chapter's example: its two documents, that they are in order, and the changes between them. The fields in which a change's sides differ, and the report of changes, in plain words. The contract of document.Clone. (printed by gen_docclone.py) The contract of diff.Patch, over what one change does to a document. What one change does to the contents of a document, in plain words; diff.apply does just that to a document in order. The example's two changes: what each does to the document. -/
import Derived.Laws.CopyOwn
import Derived.Test.YtnlnmbcaongehaaGreatDoorM09
set_option linter.unusedVariables false
set_option linter.unusedSimpArgs false
set_option maxRecDepth 100000
set_option maxHeartbeats 12800000
open Go.Lib renaming hid→h_
open Go renaming World→fm,cell_of_row→fp,Value→ft,frozen_of_row→fu,heap_alloc_last→fw,wp_at_zero→fB,wp_at_succ→fC,heap_setCell_same→fD
open Go.RowKit renaming Below→fE
open List renaming getElem_of_mem→fF,getElem?_eq_getElem→fG,flatMap_cons→fH,filter_eq_nil_iff→fI,length_append→fJ,pairwise_append→fK,mem_of_getElem?→fL,append_assoc→fM,eq_nil_of_length_eq_zero→fN,mem_filter→fO,mem_append→fP,getElem?_eq_some_iff→fQ,mem_cons→fR,flatMap_append→fS,filter_eq_self→fT,pairwise_cons→fU,getElem?_map→fV,length_map→fW,map_cons→fX,mem_map→fY
open Go.RowKit.Below renaming heap_setCell→fZ,heap_alloc→f_,setCell→gd,refl→gf
open Array renaming getElem?_eq_some_iff→gh
open Nat renaming le_refl→gj,lt_of_lt_of_le→gl,le_trans→gp
open Go.Value renaming string→gq
open Go.Value.slice renaming injEq→gu
open Go.Lib renaming allEq→gv
open Option.some renaming inj→gw
namespace Go.Proofs.YtnlnmbcaongehaaGreatDoor
open Go.RowKit
attribute [local go_sem ↓] fB fC
def DRel (pre:List ChgC)(B:Nat)(W0:fm)(v:ft)(wr:fm):Prop:=∃ zs,zje B W0 v zs wr∧zs.map Chg.c=pre
theorem DRel.below {pre:List ChgC} {B:Nat} {W0:fm} {v:ft} {wr:fm} (h:DRel pre B W0 v wr):fE B W0 wr:=h.choose_spec.1.2.2
theorem DRel.later {pre:List ChgC} {B:Nat} {W0:fm} {v:ft} {wr w1:fm} (h:DRel pre B W0 v wr)(hB:B≤W0.heap.size)(hb:fE wr.heap.size wr w1):DRel pre B W0 v w1 :=
 h.imp fun zs hz=>⟨cY.later Chg.deep hz.1 hB hb,hz.2⟩
theorem DRel.owns {pre:List ChgC} {B:Nat} {W0:fm} {v:ft} {wr:fm} (h:DRel pre B W0 v wr):∃ zs:List Chg,zs.length=pre.length∧wr.ownsRow B 54 59 v zs.length (zs.flatMap Chg.enc) ∧
 ∀ (y:Chg) (cs:Array ft) (v':ft) (w2:fm),cs.toList=y.enc→w2.ownsRow B 54 59 v' (zs.length+1) (zs.flatMap Chg.enc++cs.toList)→(wr.alloc (.cells cs 54)).grownBy w2 v.ownBlock→(v'.ownBlock=v.ownBlock∨v'.ownBlock=some (wr.heap.size+1))→y.lies wr→(∀ b,y.uses b→v.ownBlock≠some b∧B≤b)→B≤W0.heap.size→DRel (pre++[y.c]) B W0 v' w2:=by
 obtain⟨zs,hz,he⟩:=h
 refine⟨zs,by rw [←he,fW],hz.1,fun y cs v' w2 hcs hown hg hat hy hu hB=>⟨zs++[y],cY.push Chg.deep hz hB hcs hown hg hat hy hu,by rw [List.map_append,he];rfl⟩⟩
def zbf {β:Type} (enc:β→ft)(ks:List β)(a:Option Addr)(v:ft)(wr:fm):Prop:=af 1 (fun k=>[enc k]) Flat wr a ks∧∀ b,zb0 a ks b→v.ownBlock≠some b
theorem zbf.later {β:Type} {enc:β→ft} {ks:List β} {a:Option Addr} {v:ft} {wr w1:fm} (h:zbf enc ks a v wr)(hb:fE wr.heap.size wr w1):zbf enc ks a v w1:=⟨af.keeps Flat.keeps _ _ _ _ hb h.1,h.2⟩
theorem zbf.push {β:Type} {enc:β→ft} {ks:List β} {a:Option Addr} {v v':ft} {w1 w2:fm} {cs:Array ft} (h:zbf enc ks a v w1)(hg:(w1.alloc (.cells cs 54)).grownBy w2 v.ownBlock)(hat:v'.ownBlock=v.ownBlock∨v'.ownBlock=some (w1.heap.size+1)):zbf enc ks a v' w2:=by
 have hs:w1.heap.size+1≤w2.heap.size:=by
  have:=hg.size
  simpa using this
 refine⟨af.frame h.1 (by omega) (fun b hu=>?_) (fun _ _ _=>trivial),fun b hu e=>?_⟩
 · rw [hg.block b (by have:=bL h.1 hu;simp;omega) (fun e=>h.2 b hu e.symm)]
   exact f_ w1 _ b (bL h.1 hu)
 · rcases hat with e'|e'
   · exact h.2 b hu (e'▸e)
   · rw [e'] at e
     simp only [Option.some.injEq] at e
     have:=bL h.1 hu
     omega
theorem zbf.of {β:Type} {enc:β→ft} {ks:List β} {kv:ft} {v:ft} {B K:Nat} {w1:fm} (ho:w1.ownsRow B K 1 kv ks.length (ks.map enc))(hv:∀ b,v.ownBlock=some b→b<B):∃ a c,kv=.slice a ks.length c∧zbf enc ks a v w1:=by
 have e:ks.map enc=ks.flatMap (fun k=>[enc k]):=by
  clear ho
  induction ks with
  | nil=>rfl
  | cons x l ih=>rw [fX,fH,ih];rfl
 rw [e] at ho
 obtain⟨a,c,rfl,hS⟩:=aj (k:=1) (enc:=fun k=>[enc k]) (Ok:=Flat) (fun _=>rfl) ho (fun _ _=>trivial)
 refine⟨a,c,rfl,hS,fun b hu e=>?_⟩
 obtain⟨_,ad,rfl,rfl⟩:=hu
 have:=(ho.lt ad.block rfl).1
 have:=hv _ e
 omega
theorem DRel.lt {pre:List ChgC} {B:Nat} {W0:fm} {v:ft} {wr:fm} (h:DRel pre B W0 v wr):∀ b,v.ownBlock=some b→b<wr.heap.size:=fun b hb=>by
 obtain⟨zs,hz,_⟩:=h
 exact(hz.1.lt b hb).2
theorem DRel.slice {pre:List ChgC} {B:Nat} {W0:fm} {v:ft} {wr:fm} (h:DRel pre B W0 v wr):∃ a n c,v=.slice a n c:=by
 obtain⟨zs,hz,_⟩:=h
 obtain⟨a,c,rfl,_⟩:=cY.slice (k:=59) (enc:=Chg.enc) Chg.len hz
 exact⟨a,_,c,rfl⟩
structure HdAt (g:Nat)(x:Hd)(w:fm):Prop where
 lt:g<w.heap.size
 c0:w.cell? ⟨g,0,none⟩=some (.string x.title)
 c1:w.cell? ⟨g,1,none⟩=some (.string x.lang)
 c2:w.cell? ⟨g,2,none⟩=some (.int .u8 x.rate)
 c3:w.cell? ⟨g,3,none⟩=some (.bool x.drop)
 c4:w.cell? ⟨g,4,none⟩=some (.int .i64 x.last)
 z0:w.frozen? ⟨g,0,none⟩=false
 z1:w.frozen? ⟨g,1,none⟩=false
 z2:w.frozen? ⟨g,2,none⟩=false
 z3:w.frozen? ⟨g,3,none⟩=false
 z4:w.frozen? ⟨g,4,none⟩=false
def zhd:Array ft:=#[.string ⟨#[]⟩,.string ⟨#[]⟩,.int .u8 0,.bool false,.int .i64 0]
theorem HdAt.of {g:Nat} {w:fm} (h:w.heap[g]? =some (.cells zhd 41)):HdAt g zaF w :=
 ⟨(gh.1 h).1,fp _ _ 0 zhd 41 (0,0) h,fp _ _ 1 zhd 41 (0,0) h,fp _ _ 2 zhd 41 (0,0) h,fp _ _ 3 zhd 41 (0,0) h,fp _ _ 4 zhd 41 (0,0) h,fu _ _ 0 zhd 41 h,fu _ _ 1 zhd 41 h,fu _ _ 2 zhd 41 h,fu _ _ 3 zhd 41 h,fu _ _ 4 zhd 41 h⟩
theorem HdAt.later {g:Nat} {x:Hd} {w w':fm} (h:HdAt g x w)(hb:fE w.heap.size w w'):HdAt g x w':=by
 obtain⟨l,c0,c1,c2,c3,c4,z0,z1,z2,z3,z4⟩:=h
 exact⟨gl l hb.size,(hb.cell (p:=⟨g,0,none⟩) l).trans c0,(hb.cell (p:=⟨g,1,none⟩) l).trans c1,(hb.cell (p:=⟨g,2,none⟩) l).trans c2,(hb.cell (p:=⟨g,3,none⟩) l).trans c3,(hb.cell (p:=⟨g,4,none⟩) l).trans c4,(hb.frozen (p:=⟨g,0,none⟩) l).trans z0,(hb.frozen (p:=⟨g,1,none⟩) l).trans z1,(hb.frozen (p:=⟨g,2,none⟩) l).trans z2,(hb.frozen (p:=⟨g,3,none⟩) l).trans z3,(hb.frozen (p:=⟨g,4,none⟩) l).trans z4⟩
theorem zdK {α:Type} (xs:List α)(k:Nat)(x:α)(h:xs[k]? =some x):xs.take (k+1)=xs.take k++[x]:=by
 rw [List.take_add_one,h]
 rfl
theorem HdAt.set {g:Nat} {x:Hd} {wq:fm} (h:HdAt g zaF wq):HdAt g x (((((wq.setCell ⟨g,0,none⟩ (.string x.title)).setCell ⟨g,1,none⟩ (.string x.lang)).setCell ⟨g,2,none⟩ (.int .u8 x.rate)).setCell ⟨g,3,none⟩ (.bool x.drop)).setCell ⟨g,4,none⟩ (.int .i64 x.last)):=by
 obtain⟨l,c0,c1,c2,c3,c4,z0,z1,z2,z3,z4⟩:=h
 refine⟨?_,?_,?_,?_,?_,?_,?_,?_,?_,?_,?_⟩<;>simp [go_sem, *]
theorem HdAt.alloc {g:Nat} {x:Hd} {wq:fm} (h:HdAt g x wq)(o:Obj):HdAt g x (wq.alloc o):=h.later ((gf _ _).alloc (gj _) _)
theorem HdAt.new {g:Nat} {x:Hd} {wq:fm} (hg:g=wq.heap.size):HdAt g x (wq.alloc (.cells #[.string x.title,.string x.lang,.int .u8 x.rate,.bool x.drop,.int .i64 x.last] 41)):=by
 subst hg
 have h:=fw wq (.cells x.enc.toArray 41)
 exact⟨(gh.1 h).1,fp _ _ 0 x.enc.toArray 41 (0,0) h,fp _ _ 1 x.enc.toArray 41 (0,0) h,fp _ _ 2 x.enc.toArray 41 (0,0) h,fp _ _ 3 x.enc.toArray 41 (0,0) h,fp _ _ 4 x.enc.toArray 41 (0,0) h,fu _ _ 0 x.enc.toArray 41 h,fu _ _ 1 x.enc.toArray 41 h,fu _ _ 2 x.enc.toArray 41 h,fu _ _ 3 x.enc.toArray 41 h,fu _ _ 4 x.enc.toArray 41 h⟩
def LRel {β:Type} (pre:List ChgC)(f:β→List ChgC)(enc:β→ft)(ks:List β)(a:Option Addr)(B:Nat)(W0:fm)(k:Nat)(v:ft)(wr:fm):Prop :=
 DRel (pre++(ks.take k).flatMap f) B W0 v wr∧zbf enc ks a v wr
theorem LRel.skip {β:Type} {pre:List ChgC} {f:β→List ChgC} {enc:β→ft} {ks:List β} {a:Option Addr} {B:Nat} {W0:fm} {k:Nat} {v:ft} {wr w1:fm} {x:β} (h:LRel pre f enc ks a B W0 k v wr)(hx:ks[k]? =some x)(hB:B≤W0.heap.size)(hb:fE wr.heap.size wr w1)(hf:f x=[]):LRel pre f enc ks a B W0 (k+1) v w1:=by
 refine⟨?_,h.2.later hb⟩
 rw [zdK ks k x hx,fS,fH,hf]
 simpa using h.1.later hB hb
theorem ziJ {β:Type} (f:β→List ChgC)(hf:∀ x,(f x).length≤1):∀ ks:List β,(ks.flatMap f).length≤ks.length
 | []=>by simp
 | x::l=>by
   have:=ziJ f hf l
   have:=hf x
   rw [fH,fJ,List.length_cons]
   omega
theorem LRel.push {β:Type} {pre:List ChgC} {f:β→List ChgC} {enc:β→ft} {ks:List β} {a:Option Addr} {B:Nat} {W0:fm} {k:Nat} {v:ft} {wr w1:fm} {x:β} (h:LRel pre f enc ks a B W0 k v wr)(hx:ks[k]? =some x)(hB:B≤W0.heap.size)(hb:fE wr.heap.size wr w1)(hf:∀ x,(f x).length≤1) :
 ∃ n xs,n≤pre.length+k∧w1.ownsRow B 54 59 v n xs∧∀ (y:Chg) (cs:Array ft) (v':ft) (w2:fm),f x=[y.c]→cs.toList=y.enc→w2.ownsRow B 54 59 v' (n+1) (xs++cs.toList)→(w1.alloc (.cells cs 54)).grownBy w2 v.ownBlock→(v'.ownBlock=v.ownBlock∨v'.ownBlock=some (w1.heap.size+1))→y.lies w1→(∀ b,y.uses b→wr.heap.size≤b)→LRel pre f enc ks a B W0 (k+1) v' w2:=by
 obtain⟨zs,hz,ho,hp⟩:=(h.1.later hB hb).owns
 refine⟨zs.length,zs.flatMap Chg.enc,?_,ho,fun y cs v' w2 hfx hcs hown hg hat hy hu=>⟨?_,(h.2.later hb).push hg hat⟩⟩
 · have h1:=ziJ f hf (ks.take k)
   have h2:(ks.take k).length≤k:=by rw [List.length_take];omega
   rw [hz,fJ]
   omega
 · have:=hp y cs v' w2 hcs hown hg hat hy (fun b hb'=>⟨fun e=>?_,?_⟩) hB
   · rw [zdK ks k x hx,fS,fH,hfx,←fM]
     simpa using this
   · have h1:=h.1.lt b e
     have h2:=hu b hb'
     omega
   · have h2:=hu b hb'
     have h3:=h.1.below.size
     omega
def zc6 (w5:fm)(g1 g2:Nat)(w':fm):Prop:=w'.heap[g1]? =w5.heap[g1]?∧w'.heap[g2]? =w5.heap[g2]?
theorem zc6.of {w5 w':fm} {g1 g2:Nat} (h1:g1<w5.heap.size)(h2:g2<w5.heap.size)(h:fE w5.heap.size w5 w'):zc6 w5 g1 g2 w':=⟨h.block _ h1,h.block _ h2⟩
theorem zc6.grown {w5 w7 w8:fm} {g1 g2:Nat} {cs:Array ft} {row:Option Nat} (h:zc6 w5 g1 g2 w7)(h1:g1<w7.heap.size)(h2:g2<w7.heap.size)(hg:(w7.alloc (.cells cs 54)).grownBy w8 row)(hr:∀ b,row=some b→b<g1∧b<g2):zc6 w5 g1 g2 w8 :=
 ⟨by
  rw [hg.block g1 (by simp;omega) (fun e=>by have:=(hr g1 e.symm).1;omega),f_ w7 _ g1 h1]
  exact h.1,by
  rw [hg.block g2 (by simp;omega) (fun e=>by have:=(hr g2 e.symm).2;omega),f_ w7 _ g2 h2]
  exact h.2⟩
end Go.Proofs.YtnlnmbcaongehaaGreatDoor
namespace Go.Proofs.YtnlnmbcaongehaaGreatDoor
open Go.RowKit
attribute [local go_sem ↓] fB fC
def zir (c:Chg):Cm:=⟨c.id,c.nc.ev,c.nc.frm,c.nc.til,c.nc.author,c.nc.text,c.nc.done,c.nc.lost⟩
end Go.Proofs.YtnlnmbcaongehaaGreatDoor
namespace Go.Proofs.YtnlnmbcaongehaaGreatDoor
open Go.RowKit
def encN (s:ByteArray):List ft:=[.string s]
abbrev Strs (w:fm)(a:Option Addr)(zs:List ByteArray):Prop:=af 1 encN Flat w a zs
theorem zgN (zs:List ByteArray):zs.flatMap encN=zs.map gq:=by
 induction zs with
 | nil=>rfl
 | cons z l ih=>rw [fH,ih];rfl
theorem Strs.cells {w:fm} {b off:Nat} {zs:List ByteArray} (h:Strs w (some ⟨b,off,none⟩) zs):∀ (j:Nat)(u:ft),(zs.map gq)[j]? =some u→w.cell? ⟨b,off+j,none⟩=some u:=by
 intro j u hu
 rw [←zgN] at hu
 exact cq (Ok:=Flat) (k:=1) (enc:=encN) (fun _=>rfl) h j u hu
def zi9 (B:Nat)(w:fm)(v:ft)(zs:List ByteArray):Prop:=((v=.slice none 0 0∧zs=[])∨∃ b off cap,v=.slice (some ⟨b,off,none⟩) zs.length cap∧b<w.heap.size∧zs.length≤cap∧cap≤9223372036854775807∧Strs w (some ⟨b,off,none⟩) zs)∧∀ b,v.ownBlock=some b→B≤b
theorem zi9.later {B:Nat} {w w':fm} {v:ft} {zs:List ByteArray} (h:zi9 B w v zs)(hb:fE w.heap.size w w'):zi9 B w' v zs:=by
 refine⟨?_,h.2⟩
 rcases h.1 with h|⟨b,off,cap,h1,h2,h3,h5,h4⟩
 · exact .inl h
 · exact .inr ⟨b,off,cap,h1,gl h2 hb.size,h3,h5,af.keeps Flat.keeps _ _ _ _ hb h4⟩
theorem zi9.of_owns {w:fm} {B base:Nat} {v:ft} {zs:List ByteArray} (hB:B≤base)(h:w.ownsRow base 9 1 v zs.length (zs.map gq)):zi9 B w v zs:=by
 refine⟨?_,fun b hb=>gp hB (h.lt b hb).1⟩
 rw [←zgN] at h
 obtain⟨a,c,he,hI⟩:=aj (k:=1) (enc:=encN) (Ok:=Flat) (fun _=>rfl) h (fun _ _=>trivial)
 rcases h.2 with⟨rfl,h0⟩|⟨g,cap,cur,rfl,hb,hg,hc,hm,_⟩
 · exact .inl ⟨rfl,fN h0⟩
 · simp only [gu] at he
   obtain⟨rfl,_,rfl⟩:=he
   exact .inr ⟨g,0,cap,rfl,(gh.1 hg).1,hc,by simp only [maxLen] at hm;omega,hI⟩
end Go.Proofs.YtnlnmbcaongehaaGreatDoor
namespace Go.Proofs.YtnlnmbcaongehaaGreatDoor
open Go.RowKit
attribute [local go_sem ↓] fB fC
theorem zfG {α β:Type} (f:β→β→Bool)(g:α→β):∀ xs ys:List α,gv (fun x y=>f (g x) (g y)) xs ys=gv f (xs.map g) (ys.map g)
 | [],[]=>rfl
 | [],_::_=>rfl
 | _::_,[]=>rfl
 | x::xs,y::ys=>by simp only [gv,fX,zfG f g xs ys]
def zcP (x y:EvC):Bool:=x.id==y.id&&(x.inn==y.inn&&x.out==y.out)&&x.region.toList==y.region.toList&&x.kind==y.kind&&x.speaker.toList==y.speaker.toList&&gv (gv eL) x.rows y.rows
theorem ziT (x y:Ev):evEq x y=zcP x.c y.c:=by
 unfold evEq zcP bS
 rw [show gv zdc x.rows y.rows=gv (gv eL) (x.rows.map Row.runs) (y.rows.map Row.runs) from zfG (gv eL) Row.runs x.rows y.rows]
 rfl
end Go.Proofs.YtnlnmbcaongehaaGreatDoor
namespace Go.Proofs.YtnlnmbcaongehaaGreatDoor
open Go.RowKit
def ziW (a b:Doc):Int:=if aG a≠0 then aG a else aG b
def zgO (a b:Doc):List ChgC:=if aG a≠0 then [] else if aG b≠0 then [] else chgs a b
def zeP (a b:Doc)(w:fm)(e:Ending)(w':fm):Prop:=∃ (A:Option Addr) (xs:List Chg) (c:Nat),e=.returned (.tuple #[.slice A xs.length c,.int .i64 (ziW a b)])∧zld w' A xs∧xs.map Chg.c=zgO a b∧fE w.heap.size w w'
theorem zeP.of {a b:Doc} {w:fm} (e:Ending)(w':fm)(h:zgZ a b w e w'):zeP a b w e w':=by
 unfold zgZ at h
 unfold zeP ziW zgO
 by_cases h0:aG a≠0
 · rw [if_pos h0] at h
   rw [if_pos h0,if_pos h0]
   exact⟨none,[],0,h.1,.inl rfl,rfl,h.2⟩
 · rw [if_neg h0] at h
   rw [if_neg h0,if_neg h0]
   by_cases h1:aG b≠0
   · rw [if_pos h1] at h
     rw [if_pos h1]
     exact⟨none,[],0,h.1,.inl rfl,rfl,h.2⟩
   · rw [if_neg h1] at h
     rw [if_neg h1]
     obtain⟨v,xs,rfl,hG,hc⟩:=h
     obtain⟨A,c,rfl,hS⟩:=cY.slice (k:=59) (enc:=Chg.enc) Chg.len hG
     have h2:aG b=0:=by simpa using h1
     exact⟨A,xs,c,by rw [h2],hS,hc,hG.2.2⟩
end Go.Proofs.YtnlnmbcaongehaaGreatDoor
namespace Go.Proofs.YtnlnmbcaongehaaGreatDoor
open Go.RowKit
def sA:ByteArray:=⟨#[65]⟩
variable (pa ea ra ua ca qa fa sa ta da:Option Addr)(pc ec rc uc cc qc fc sc tc dc:Nat)
end Go.Proofs.YtnlnmbcaongehaaGreatDoor
namespace Go.Proofs.YtnlnmbcaongehaaGreatDoor
open Go.RowKit
theorem zjP {w:fm} {b:Nat} {o o':Obj} (h:w.heap[b]? =some o):(w.alloc o').heap[b]? =some o:=by
 rw [f_ _ _ _ (gh.1 h).1]
 exact h
structure Fld where
 name:ByteArray
 differs:Bool
def Fld.enc (f:Fld):List ft:=[.string f.name,.bool f.differs]
def zav (fs:List Fld):List ByteArray:=(fs.filter (·.differs)).map Fld.name
end Go.Proofs.YtnlnmbcaongehaaGreatDoor
namespace Go.Proofs.YtnlnmbcaongehaaGreatDoor
open Go.RowKit
attribute [local go_sem ↓] fB fC
def zd5 (B:Nat)(xs:List Ev)(g cap k:Nat)(w4 wr:fm):Prop :=
 ∃ zs:List Ev,zs.length=xs.length∧zs.map Ev.c=xs.map Ev.c∧wr.ownsRow B 50 7 (.slice (some ⟨g,0,none⟩) xs.length cap) xs.length (zs.flatMap Ev.enc)∧(∀ j z,zs[j]? =some z→z.lies wr∧(∀ b,z.uses b→b≠g∧(j<k→B≤b)))∧w4.heap.size≤wr.heap.size∧(∀ b,b<w4.heap.size→b≠g→wr.heap[b]? =w4.heap[b]?)
theorem zcK:∀ (zs:List Ev)(k:Nat)(z y:Ev),zs[k]? =some z→y.c=z.c→(zs.set k y).map Ev.c=zs.map Ev.c
 | [],k,z,y,h,_=>by simp at h
 | x::l,0,z,y,h,hy=>by
   obtain rfl:x=z:=by simpa using h
   simp [hy]
 | x::l,k+1,z,y,h,hy=>by
   have:=zcK l k z y (by simpa using h) hy
   simp [this]
theorem zd5.step {B:Nat} {xs zs:List Ev} {g cap k:Nat} {w4 wr w1 w2:fm} {z y:Ev} (hk:zs[k]? =some z)(h1:zs.length=xs.length)(h2:zs.map Ev.c=xs.map Ev.c)(h3:wr.ownsRow B 50 7 (.slice (some ⟨g,0,none⟩) xs.length cap) xs.length (zs.flatMap Ev.enc))
 (h4:∀ j z,zs[j]? =some z→z.lies wr∧(∀ b,z.uses b→b≠g∧(j<k→B≤b))) (h5:w4.heap.size≤wr.heap.size) (h6:∀ b,b<w4.heap.size→b≠g→wr.heap[b]? =w4.heap[b]?) (hB:B≤w4.heap.size)
 (hb:fE wr.heap.size wr w1) (hyc:y.c=z.c) (hyl:y.lies w1) (hyu:∀ b,y.uses b→wr.heap.size≤b)
 (hw:w2=((((((w1.setCell ⟨g,k*7,none⟩ (.int .i64 y.id)).setCell ⟨g,k*7+1,none⟩ (.int .i64 y.inn)).setCell ⟨g,k*7+2,none⟩ (.int .i64 y.out)).setCell ⟨g,k*7+3,none⟩ (.string y.region)).setCell ⟨g,k*7+4,none⟩ (.int .u8 y.kind)).setCell ⟨g,k*7+5,none⟩ (.string y.speaker)).setCell ⟨g,k*7+6,none⟩ (.slice y.at_ y.rows.length y.cap)) :
 zd5 B xs g cap (k+1) w4 w2:=by
 have hkl:k<zs.length:=(fQ.1 hk).1
 have hg:=h3.lt g rfl
 obtain⟨s1,s2,s3⟩:=ziQ (aq h3 hb) h1 (by omega) y w2 hw
 have hs:=hb.size
 refine⟨zs.set k y,by simpa using h1,(zcK zs k z y hk hyc).trans h2,s1,fun j x hx=>?_,by omega,fun b hb1 hb2=>?_⟩
 · rw [List.getElem?_set] at hx
   by_cases hjk:k=j
   · rw [if_pos hjk,if_pos hkl] at hx
     obtain rfl:=gw hx
     refine⟨Ev.frame hyl (by omega) fun b hu=>s3 b ?_,fun b hu=>⟨?_,fun _=>?_⟩⟩
     · have:=hyu b hu
       omega
     · have:=hyu b hu
       omega
     · have:=hyu b hu
       omega
   · rw [if_neg hjk] at hx
     obtain⟨q1,q2⟩:=h4 j x hx
     exact⟨Ev.frame (Ev.keeps _ _ _ hb q1) (by omega) fun b hu=>s3 b (q2 b hu).1,fun b hu=>⟨(q2 b hu).1,fun hj=>(q2 b hu).2 (by omega)⟩⟩
 · rw [s3 b hb2,hb.block b (by omega),h6 b hb1 hb2]
theorem zdL {α:Type} {K:Nat} {enc:α→List ft} {w3:fm} {g i5 i7:Nat} {v5 v7:ft} {a:Option Addr} {xs:List α} (h:af K enc Flat w3 a xs)(hf:∀ ad,a=some ad→g<ad.block):af K enc Flat ((w3.setCell ⟨g,i5,none⟩ v5).setCell ⟨g,i7,none⟩ v7) a xs :=
 af.frame h (by simp) (fun b hu=>by
  obtain⟨_,ad,e,rfl⟩:=hu
  have:=hf ad e
  rw [fZ _ _ _ _ (by simp only;omega),fZ _ _ _ _ (by simp only;omega)]) (fun _ _ _=>trivial)
theorem zi4 {d:Doc} {w wc w5 wr w':fm} {a1 a3:Option Addr} {c1 c3 g cap:Nat} (hS1:af 7 Reg.enc Flat wc a1 d.rG)(hS3:af 8 Cm.enc Flat wc a3 d.cms)(hf1:∀ ad,a1=some ad→w.heap.size+2≤ad.block)(hf3:∀ ad,a3=some ad→w.heap.size+2≤ad.block)
 (h45:wc.heap.size≤w5.heap.size∧∀ b,b<wc.heap.size→b≠w.heap.size→w5.heap[b]? =wc.heap[b]?) (hg:wc.heap.size≤g) (hR:zd5 (w.heap.size+2) d.evs g cap d.evs.length w5 wr) (hw':wr.heap.size≤w'.heap.size∧∀ b,b≠w.heap.size+1→w'.heap[b]? =wr.heap[b]?) (hb:fE w.heap.size w w') :
 e9 d.c w (.returned (.agg #[.string d.title,.string d.lang,.int .u8 d.rate,.bool d.drop,.int .i64 d.last,.slice a1 d.rG.length c1,.slice (some ⟨g,0,none⟩) d.evs.length cap,.slice a3 d.cms.length c3])) w':=by
 obtain⟨zs,z1,z2,z3,z4,z5,z6⟩:=hR
 have hgl:=z3.lt g rfl
 have hF:∀ b,b<wc.heap.size→w.heap.size+2≤b→w'.heap[b]? =wc.heap[b]?:=fun b h1 h2=>by
  rw [hw'.2 b (by omega),z6 b (by omega) (by omega),h45.2 b h1 (by omega)]
 refine⟨⟨d.title,d.lang,d.rate,d.drop,d.last,a1,c1,d.rG,some ⟨g,0,none⟩,cap,zs,a3,c3,d.cms⟩,by simp only [Doc.enc,z1],by simp only [Doc.c,Doc.hd,z2],⟨af.frame hS1 (by omega) (fun b hu=>?_) (fun _ _ _=>trivial),?_,af.frame hS3 (by omega) (fun b hu=>?_) (fun _ _ _=>trivial)⟩,fun b hu=>?_,hb⟩
 · have h1:=bL hS1 hu
   obtain⟨_,ad,h2,rfl⟩:=hu
   exact hF _ h1 (hf1 ad h2)
 · rw [←z1] at z3
   obtain⟨a',c',he,hS⟩:=aj (k:=7) (enc:=Ev.enc) (Ok:=Ev.lies) (fun _=>rfl) z3 (fun z hz=>by
    obtain⟨j,hj,rfl⟩:=fF hz
    exact(z4 j _ (fG hj)).1)
   simp only [gu] at he
   obtain⟨rfl,_,rfl⟩:=he
   refine zai.frame hS hw'.1 fun b hu=>hw'.2 b ?_
   rcases hu with⟨_,ad,e,rfl⟩|⟨z,hz,hu⟩
   · obtain rfl:=gw e
     simp only
     omega
   · obtain⟨j,hj,rfl⟩:=fF hz
     have:=((z4 j _ (fG hj)).2 b hu).2 (by rw [←z1];exact hj)
     omega
 · have h1:=bL hS3 hu
   obtain⟨_,ad,h2,rfl⟩:=hu
   exact hF _ h1 (hf3 ad h2)
 · rcases hu with⟨_,ad,h2,rfl⟩|(⟨_,ad,e,rfl⟩|⟨z,hz,hu⟩)|⟨_,ad,h2,rfl⟩
   · have:=hf1 ad h2
     omega
   · obtain rfl:=gw e
     simp only
     omega
   · obtain⟨j,hj,rfl⟩:=fF hz
     have:=((z4 j _ (fG hj)).2 b hu).2 (by rw [←z1];exact hj)
     omega
   · have:=hf3 ad h2
     omega
theorem zhR {d:Doc} {w wc w':fm} {a1 a2 a3:Option Addr} {c1 c2 c3:Nat} (hS1:af 7 Reg.enc Flat wc a1 d.rG)(hS3:af 8 Cm.enc Flat wc a3 d.cms)(hf1:∀ ad,a1=some ad→w.heap.size+2≤ad.block)(hf3:∀ ad,a3=some ad→w.heap.size+2≤ad.block)
 (h0:d.evs=[]) (hw':wc.heap.size≤w'.heap.size∧∀ b,b<wc.heap.size→w.heap.size+2≤b→w'.heap[b]? =wc.heap[b]?) (hb:fE w.heap.size w w') :
 e9 d.c w (.returned (.agg #[.string d.title,.string d.lang,.int .u8 d.rate,.bool d.drop,.int .i64 d.last,.slice a1 d.rG.length c1,.slice a2 0 c2,.slice a3 d.cms.length c3])) w':=by
 refine⟨⟨d.title,d.lang,d.rate,d.drop,d.last,a1,c1,d.rG,a2,c2,[],a3,c3,d.cms⟩,rfl,by simp only [Doc.c,Doc.hd,h0],⟨af.frame hS1 hw'.1 (fun b hu=>?_) (fun _ _ _=>trivial),.inl rfl,af.frame hS3 hw'.1 (fun b hu=>?_) (fun _ _ _=>trivial)⟩,fun b hu=>?_,hb⟩
 · have h1:=bL hS1 hu
   obtain⟨_,ad,h2,rfl⟩:=hu
   exact hw'.2 _ h1 (hf1 ad h2)
 · have h1:=bL hS3 hu
   obtain⟨_,ad,h2,rfl⟩:=hu
   exact hw'.2 _ h1 (hf3 ad h2)
 · rcases hu with⟨_,ad,h2,rfl⟩|(⟨h,_⟩|⟨z,hz,hu⟩)|⟨_,ad,h2,rfl⟩
   · have:=hf1 ad h2
     omega
   · exact absurd rfl h
   · simp at hz
   · have:=hf3 ad h2
     omega
theorem zds (d:Doc)(w:fm)(hd:d.lies w)(hf:d.fits):Calls Tryz.prog 54 #[.agg d.enc.toArray] w (e9 d.c w):=by
 have HFE:=h_ (fun(zs:List Ev) (z:Ev) (j:Nat) (h:zs[j]? =some z) (e:zs.map Ev.c=d.evs.map Ev.c)=>(show z.rows.length≤4000000∧∀ r∈z.rows,r.runs.length≤4000000 from by
  have h1:(d.evs.map Ev.c)[j]? =some z.c:=by rw [←e,fV,h];rfl
  rw [fV] at h1
  obtain⟨x,hx,hxc⟩:=Option.map_eq_some_iff.1 h1
  have hfx:=hf.2.2.2.2.2.2.2.1 x (fL hx)
  have hr:x.rows.map Row.runs=z.rows.map Row.runs:=congrArg EvC.rows hxc
  have hl:=congrArg List.length hr
  simp only [fW] at hl
  refine⟨by have:=hfx.2.2.2.2.2.2.2.2;omega,fun r hr'=>?_⟩
  have:r.runs∈x.rows.map Row.runs:=by rw [hr];exact fY.2 ⟨r,hr',rfl⟩
  obtain⟨r0,h0,he⟩:=fY.1 this
  rw [←he]
  exact(hfx.2.2.2.2.2.2.2.1 r0 h0).2.1))
 have HCR:=h_ (fun(w1:fm) (h:fE w.heap.size w w1)=>zdF d.ra d.rc d.rG w1 (hd.1.later h) hf.2.2.2.2.2.2.1)
 have HCC:=h_ (fun(w1:fm) (h:fE w.heap.size w w1)=>zdD d.ca d.cc d.cms w1 (hd.2.2.later h) hf.2.2.2.2.2.2.2.2.2.2)
 have HCE:=h_ (fun(w1:fm) (h:fE w.heap.size w w1)=>zdB d.ea d.ec d.evs w1 (hd.2.1.later h) hf.2.2.2.2.2.2.2.2.1)
 have HEV:=h_ (fun(w1:fm) (h:fE w.heap.size w w1)=>hd.2.1.later h)
 have HQ:=h_ (fun(d':Doc) (w':fm) (h1:d'.c=d.c) (h2:d'.lies w') (h3:∀ b,d'.uses b→w.heap.size≤b) (h4:fE w.heap.size w w')=>(show e9 d.c w (.returned (.agg d'.enc.toArray)) w' from⟨d',rfl,h1,h2,h3,h4⟩))
 have hel:=hf.2.2.2.2.2.2.2.2.1
 have HQ1:=h_ (fun(wc w5 wr w':fm) (a1 a3:Option Addr) (c1 c3 g cap:Nat) hS1 hS3 hf1 hf3 h45 hg hR hw' hb=>zi4 (d:=d) (w:=w) (wc:=wc) (w5:=w5) (wr:=wr) (w':=w') (a1:=a1) (a3:=a3) (c1:=c1) (c3:=c3) (g:=g) (cap:=cap) hS1 hS3 hf1 hf3 h45 hg hR hw' hb)
 have HQ0:=h_ (fun(wc w':fm) (a1 a2 a3:Option Addr) (c1 c2 c3:Nat) hS1 hS3 hf1 hf3 h0 hw' hb=>zhR (d:=d) (w:=w) (wc:=wc) (w':=w') (a1:=a1) (a2:=a2) (a3:=a3) (c1:=c1) (c2:=c2) (c3:=c3) hS1 hS3 hf1 hf3 h0 hw' hb)
 generalize e9 d.c w=Q at *
 obtain⟨title,lang,rate,drop,last,ra,rc,rG,ea,ec,evs,ca,cc,cms⟩:=d
 simp only [Doc.enc] at *
 clear hd hf
 generalize hds:#[gq title,.string lang,.int .u8 rate,.bool drop,.int .i64 last,.slice ra rG.length rc,.slice ea evs.length ec,.slice ca cms.length cc]=ds
 obtain⟨zd,hzd⟩:∃ zd:Array ft,zd=#[.string ⟨#[]⟩,.string ⟨#[]⟩,.int .u8 0,.bool false,.int .i64 0,.slice none 0 0,.slice none 0 0,.slice none 0 0]:=⟨_,rfl⟩
 have f5:=bA w ds zd 27 27 5 (.slice ra rG.length rc) (by rw [←hds];rfl)
 have f6:=bA w ds zd 27 27 6 (.slice ea evs.length ec) (by rw [←hds];rfl)
 have f7:=bA w ds zd 27 27 7 (.slice ca cms.length cc) (by rw [←hds];rfl)
 have HB:=h_ (fun(w1:fm) (h:fE (w.heap.size+2) ((w.alloc (.cells ds 27)).alloc (.cells zd 27)) w1)=>zbx h)
 have hb0:fE (w.heap.size+2) ((w.alloc (.cells ds 27)).alloc (.cells zd 27)) ((w.alloc (.cells ds 27)).alloc (.cells zd 27)):=gf _ _
 have hsz:((w.alloc (.cells ds 27)).alloc (.cells zd 27)).heap.size=w.heap.size+2:=by simp
 have hk1:((w.alloc (.cells ds 27)).alloc (.cells zd 27)).heap[w.heap.size]? =some (.cells ds 27 (0,0)):=by
  rw [f_ _ _ _ (by simp)]
  exact fw w _
 have hk2:((w.alloc (.cells ds 27)).alloc (.cells zd 27)).heap[w.heap.size+1]? =some (.cells zd 27 (0,0)):=by
  have:=fw (w.alloc (.cells ds 27)) (.cells zd 27)
  rwa [fm.size_alloc] at this
 rw [hzd] at f5 f6 f7 HB hb0 hsz hk1 hk2
 clear hzd zd
 generalize hW0:(w.alloc (.cells ds 27)).alloc (.cells #[.string ⟨#[]⟩,.string ⟨#[]⟩,.int .u8 0,.bool false,.int .i64 0,.slice none 0 0,.slice none 0 0,.slice none 0 0] 27)=W0 at *
 have HW0:=h_ hW0
 have HSZ:=h_ hsz
 have HK1:=h_ hk1
 have HK2:=h_ hk2
 have HDS:=h_ hds
 have HT0:=h_ (fun(w2 w3:fm) (h:fE (w.heap.size+2) W0 w2) (h3:fE w2.heap.size w2 w3)=>(h.trans (h3.mono (by have:=h.size;rw [HSZ.out] at this;exact this)):fE (w.heap.size+2) W0 w3))
 have HLT:=h_ (fun(w2:fm) (h:fE (w.heap.size+2) W0 w2)=>(show w.heap.size+2≤w2.heap.size by have:=h.size;rw [HSZ.out] at this;exact this))
 have hbd:fE (w.heap.size+2) W0 W0.drew:=hb0.drew
 have zf:∀ (w':fm),fE (w.heap.size+2) W0 w'→∀ (j:Nat),w'.frozen? ⟨w.heap.size,j,none⟩=false:=fun w' h j=>by simp [fm.frozen?,(h.block w.heap.size (by omega)).trans HK1.out]
 clear hW0 hsz hk1 hk2
 go_enter Tryz.func54,Tryz.ntmps54
 subst hds
 go_upto_region 1 with fail
 rw [HW0.out]
 go_cut [] (fun wx=>∃ a1 c1 a3 c3,wx.heap[w.heap.size]? =some (.cells #[gq title,.string lang,.int .u8 rate,.bool drop,.int .i64 last,.slice a1 rG.length c1,.slice ea evs.length ec,.slice a3 cms.length c3] 27 (0,0))∧wx.heap[w.heap.size+1]? =some (.cells #[.string ⟨#[]⟩,.string ⟨#[]⟩,.int .u8 0,.bool false,.int .i64 0,.slice none 0 0,.slice none 0 0,.slice none 0 0] 27 (0,0))∧af 7 Reg.enc Flat wx a1 rG∧af 8 Cm.enc Flat wx a3 cms∧(∀ ad,a1=some ad→w.heap.size+2≤ad.block)∧(∀ ad,a3=some ad→w.heap.size+2≤ad.block)∧fE w.heap.size w wx∧w.heap.size+2≤wx.heap.size)
 case first =>
  go_region_with (first
   | (go_at_call 106;refine(HCR.out _ (HB.out _ hbd)).mono ?_;rintro e w1 ⟨v1,rfl,ho1,hb1⟩;have hc1:=HT0.out _ _ hbd hb1;obtain⟨a1,c1,rfl,hS1⟩:=aj (k:=7) (enc:=Reg.enc) (Ok:=Flat) (fun _=>rfl) ho1 (fun _ _=>trivial);have HF1:=h_ (fun ad (e:a1=some ad)=>(ho1.lt ad.block (by rw [e];rfl)).1);have HS1:=h_ hS1;clear ho1 hb1 hS1)
   | (go_at_call 107;refine(HCC.out _ (HB.out _ hc1)).mono ?_;rintro e w3 ⟨v3,rfl,ho3,hb3⟩;have hc3:=HT0.out _ _ hc1 hb3;obtain⟨a3,c3,rfl,hS3⟩:=aj (k:=8) (enc:=Cm.enc) (Ok:=Flat) (fun _=>rfl) ho3 (fun _ _=>trivial);have HF3:=h_ (fun ad (e:a3=some ad)=>(ho3.lt ad.block (by rw [e];rfl)).1);have HS3:=h_ hS3;have HB3:=h_ hb3;clear ho3 hb3 hS3))
  all_goals
   have hk3:=(hc3.block w.heap.size (by omega)).trans HK1.out
   have hz3:=(hc3.block (w.heap.size+1) (by omega)).trans HK2.out
   have hs0:=HSZ.out
   have HFX1:=h_ (fun(ad:Addr) (e:a1=some ad)=>(show w.heap.size+2≤ad.block from by rw [←hs0];exact HF1.out ad e))
   have HFX3:=h_ (fun(ad:Addr) (e:a3=some ad)=>(show w.heap.size+2≤ad.block from by have:=HF3.out ad e;have:=HLT.out _ hc1;omega))
   clear f5 f6 f7 zf
   go_wp2_with fail
   go_meet
   refine⟨a1,c1,a3,c3,?_,?_,zdL (af.keeps Flat.keeps _ _ _ _ HB3.out HS1.out) (fun ad e=>by have:=HFX1.out ad e;omega),zdL HS3.out (fun ad e=>by have:=HFX3.out ad e;omega),HFX1.out,HFX3.out,gd (gd (HB.out _ hc3) (by dsimp only;omega) _) (by dsimp only;omega) _,by have:=HLT.out _ hc3;simpa using this⟩
   · exact fD _ _ _ _ _ _ (fD _ _ _ _ _ _ hk3)
   · rw [fZ _ _ _ _ (by simp),fZ _ _ _ _ (by simp)]
     exact hz3
 case rest =>
  obtain⟨a1,c1,a3,c3,hk1,hk2,hS1,hS3,hf1,hf3,hbw,hws⟩:=hcut
  clear hb0 hbd f5 f6 f7 zf HK1 HK2 HT0 HLT
  have c0:∀ (j:Nat),wc.cell? ⟨w.heap.size,j,none⟩=_:=fun j=>fp _ _ j _ 27 (0,0) hk1
  have HCE1:=h_ (HCE.out _ hbw)
  have HK1:=h_ hk1
  have HK2:=h_ hk2
  have HS1:=h_ hS1
  have HS3:=h_ hS3
  have HF1:=h_ hf1
  have HF3:=h_ hf3
  have HBW:=h_ hbw
  clear hk1 hk2 hS1 hS3 hf1 hf3 hbw HCE HCR HCC
  go_wp2_with fail
  refine HCE1.out.mono ?_
  rintro e w4 ⟨v4,rfl,ho4,hb4⟩
  obtain⟨ae,ce,rfl⟩:∃ av cv,v4=.slice av evs.length cv:=by
   rcases ho4.2 with⟨rfl,h0⟩|⟨g,cap,_,rfl,_⟩
   · exact⟨none,0,by rw [h0]⟩
   · exact⟨_,_,rfl⟩
  have hk4:=(hb4.block w.heap.size (by omega)).trans HK1.out
  have c4:∀ (j:Nat),w4.cell? ⟨w.heap.size,j,none⟩=_:=fun j=>fp _ _ j _ 27 (0,0) hk4
  have z4:∀ (j:Nat),w4.frozen? ⟨w.heap.size,j,none⟩=false:=fun j=>by simp [fm.frozen?,hk4]
  obtain⟨w5,hw5⟩:∃ w5,w5=w4.setCell ⟨w.heap.size,6,none⟩ (.slice ae evs.length ce):=⟨_,rfl⟩
  have HW5:=h_ hw5
  have hk5:w5.heap[w.heap.size]? =some (.cells #[gq title,.string lang,.int .u8 rate,.bool drop,.int .i64 last,.slice a1 rG.length c1,.slice ae evs.length ce,.slice a3 cms.length c3] 27 (0,0)):=hw5▸fD _ _ _ _ _ _ hk4
  have hz5:w5.heap[w.heap.size+1]? =some (.cells #[.string ⟨#[]⟩,.string ⟨#[]⟩,.int .u8 0,.bool false,.int .i64 0,.slice none 0 0,.slice none 0 0,.slice none 0 0] 27 (0,0)):=by
   rw [hw5,fZ _ _ _ _ (by simp),hb4.block _ (by omega)]
   exact HK2.out
  have h45:wc.heap.size≤w5.heap.size∧∀ b,b<wc.heap.size→b≠w.heap.size→w5.heap[b]? =wc.heap[b]?:=by
   refine⟨by rw [hw5];simpa using hb4.size,fun b h1 h2=>?_⟩
   rw [hw5,fZ _ _ _ _ (by simpa using h2),hb4.block b h1]
  have hb5:fE w.heap.size w w5:=by
   rw [hw5]
   exact(HBW.out.trans (hb4.mono HBW.out.size)).setCell (by simp) _
  have c5:∀ (j:Nat),w5.cell? ⟨w.heap.size,j,none⟩=_:=fun j=>fp _ _ j _ 27 (0,0) hk5
  have ho5:w5.ownsRow wc.heap.size 50 7 (.slice ae evs.length ce) evs.length (evs.flatMap Ev.enc):=by
   rw [hw5]
   refine fm.ownsRow.kept ho4 (row:=some w.heap.size) ⟨rfl,rfl,rfl,by simp,fun k _ hk=>fZ _ _ _ _ (fun e=>hk (by simp [e]))⟩ (Classical.or_iff_not_imp_left.2 fun _ e=>?_)
   have:=(ho4.lt _ e).1
   omega
  have HH45:=h_ h45
  have HB5:=h_ hb5
  have HK5:=h_ hk5
  have HZ5:=h_ hz5
  have hs5:=h45.1
  clear hw5 hk4 hb4 ho4 h45 hb5 hk5 hz5 c0 HCE1
  go_wp2_with fail
  rw [←HW5.out]
  have cz:∀ (w':fm),w'.heap[w.heap.size+1]? =w5.heap[w.heap.size+1]?→∀ (j:Nat),w'.cell? ⟨w.heap.size+1,j,none⟩=_:=fun w' h j=>fp _ _ j _ 27 (0,0) (h.trans HZ5.out)
  have zz:∀ (w':fm),w'.heap[w.heap.size+1]? =w5.heap[w.heap.size+1]?→∀ (j:Nat),w'.frozen? ⟨w.heap.size+1,j,none⟩=false:=fun w' h j=>by simp [fm.frozen?,h.trans HZ5.out]
  by_cases he:evs.length=0
  · obtain rfl:=fN he
    have cz5:=cz w5 rfl
    have zz5:=zz w5 rfl
    clear cz zz ho5 c4 z4
    simp only [List.length_nil] at *
    refine wp_loop_rounds 1 ?_
    rw [rounds_succ]
    go_wp2_with fail
    refine bodyPost_ret (v:=.agg #[.string title,.string lang,.int .u8 rate,.bool drop,.int .i64 last,.slice a1 rG.length c1,.slice ae 0 ce,.slice a3 cms.length c3]) (by simp [results,Tryz.results54,go_sem,cz5]) rfl ?_
    refine HQ0.out wc _ a1 ae a3 c1 ce c3 HS1.out HS3.out HF1.out HF3.out (by first|rfl|trivial) ⟨?_,fun b h1 h2=>?_⟩ ?_
    · simpa using HH45.out.1
    · repeat rw [fZ _ _ _ _ (by simp only;omega)]
      exact HH45.out.2 b h1 (by omega)
    · repeat refine gd ?_ (by simp only;omega) _
      exact HB5.out
  · obtain⟨g,cp,hve⟩:=zat ho5 (by omega)
    simp only [gu,true_and] at hve
    obtain⟨rfl,rfl⟩:=hve
    have hgl:=ho5.lt g rfl
    have hgw:=hgl.1
    have hg5:=hgl.2
    have HR0:=h_ (show zd5 (w.heap.size+2) evs g ce 0 w5 w5 from⟨evs,rfl,rfl,⟨ho5.1,ho5.2.imp id (fun⟨g,cap,cur,q1,q2,q3⟩=>⟨g,cap,cur,q1,by omega,q3⟩)⟩,fun j z hz=>⟨zaT (HEV.out w5 HB5.out) (fL hz),fun b hu=>⟨by
     have:=Ev.uses_lt (zaT (HEV.out w (gf _ _)) (fL hz)) hu
     omega,fun h=>by omega⟩⟩,gj _,fun _ _ _=>rfl⟩)
    have HCZ:=h_ cz
    have HZZ:=h_ zz
    clear ho5 cz zz c4 z4 c5 hgl HEV
    go_loopw [20] (fun i wr=>∃ k:Nat,k≤evs.length∧i=.int .i64 k∧zd5 (w.heap.size+2) evs g ce k w5 wr∧fE w.heap.size w wr) (fun i _=>evs.length-(intOf i).toNat)
    case atStart=>exact⟨0,by omega,rfl,HR0.out,HB5.out⟩
    case round =>
     clear HR0
     obtain⟨k,hk,rfl,hR,hbr⟩:=hrel
     have HRR:=h_ hR
     obtain⟨zs,z1,z2,z3,z4,z5,z6⟩:=hR
     have HBR:=h_ hbr
     have hkr:=(z6 w.heap.size (by omega) (by omega)).trans HK5.out
     by_cases hlt:k<evs.length
     · have hzk:zs[k]? =some zs[k]:=fG (by omega)
       generalize zs[k]=z at hzk
       have hgr:g<wr.heap.size:=(z3.lt g rfl).2
       have dd:∀ (j:Nat) (v:ft),z.enc[j]? =some v→wr.cell? ⟨g,k*7+j,none⟩=some v:=fun j v hv=>by
        have hj:j<7:=(fQ.1 hv).1
        rw [z3.cellAt (k*7+j) (by omega)]
        exact zbr Ev.enc 7 (fun _=>rfl) zs k z j v hzk hv
       have hfz:=HFE.out zs z k hzk z2
       have hzl:=(z4 k z hzk).1
       obtain⟨xe,hxe⟩:∃ xe,xe=z.enc.toArray:=⟨_,rfl⟩
       have HCL:=h_ (fun(w1:fm) (h:fE wr.heap.size wr w1)=>ej z w1 (Ev.keeps _ _ _ h hzl) hfz.2 hfz.1)
       have HST:=h_ (fun(w1 w2:fm) (y:Ev) hb hyc hyl hyu hw=>zd5.step (w1:=w1) (w2:=w2) (y:=y) hzk z1 z2 z3 z4 z5 z6 (by omega) hb hyc hyl hyu hw)
       have HFR:=h_ (fun(w1:fm) (h:fE wr.heap.size wr w1) (j:Nat)=>(aq z3 h).frozenAt j)
       generalize z.c=zc at HCL HST
       obtain⟨zid,zin,zout,zreg,zkind,zsp,za,zcp,zrows⟩:=z
       have d0:=dd 0 _ rfl;have d1:=dd 1 _ rfl;have d2:=dd 2 _ rfl;have d3:=dd 3 _ rfl;have d4:=dd 4 _ rfl;have d5:=dd 5 _ rfl;have d6:=dd 6 _ rfl
       simp only [Nat.add_zero] at d0
       simp only [Ev.enc] at HCL
       clear dd hzk hzl hfz z1 z2 z3 z4 z6 hxe xe hbr
       obtain⟨wa,hwa⟩:∃ wa,wa=wr.alloc (.cells #[.int .i64 zid,.int .i64 zin,.int .i64 zout,.string zreg,.int .u8 zkind,.string zsp,.slice za zrows.length zcp] 50):=⟨_,rfl⟩
       have HWA:=h_ hwa
       have hra:fE wr.heap.size wr wa:=hwa▸(gf _ _).alloc (gj _) _
       have hka:wa.heap[wr.heap.size]? =some (.cells #[.int .i64 zid,.int .i64 zin,.int .i64 zout,.string zreg,.int .u8 zkind,.string zsp,.slice za zrows.length zcp] 50 (0,0)):=hwa▸fw wr _
       have hla:wr.heap.size<wa.heap.size:=by rw [hwa];simp
       have cr:=fun(j:Nat)=>fp wr w.heap.size j _ 27 (0,0) hkr
       have ba:∀ (w':fm),fE wa.heap.size wa w'→∀ (j:Nat),w'.cell? ⟨wr.heap.size,j,none⟩=_:=fun w' h j=>fp _ _ j _ 50 (0,0) ((h.block _ hla).trans hka)
       have bd:∀ (w':fm),fE wa.heap.size wa w'→∀ (j:Nat),w'.cell? ⟨w.heap.size,j,none⟩=_:=fun w' h j=>fp _ _ j _ 27 (0,0) ((h.block w.heap.size (by omega)).trans ((hra.block w.heap.size (by omega)).trans hkr))
       have HRA:=h_ hra
       have e0:=fun(w':fm) (h:fE wa.heap.size wa w')=>(h.cell (p:=⟨g,k*7,none⟩) (by simp only;omega)).trans ((hra.cell (p:=⟨g,k*7,none⟩) hgr).trans d0)
       have e1:=fun(w':fm) (h:fE wa.heap.size wa w')=>(h.cell (p:=⟨g,k*7+1,none⟩) (by simp only;omega)).trans ((hra.cell (p:=⟨g,k*7+1,none⟩) hgr).trans d1)
       have e2:=fun(w':fm) (h:fE wa.heap.size wa w')=>(h.cell (p:=⟨g,k*7+2,none⟩) (by simp only;omega)).trans ((hra.cell (p:=⟨g,k*7+2,none⟩) hgr).trans d2)
       have e3:=fun(w':fm) (h:fE wa.heap.size wa w')=>(h.cell (p:=⟨g,k*7+3,none⟩) (by simp only;omega)).trans ((hra.cell (p:=⟨g,k*7+3,none⟩) hgr).trans d3)
       have e4:=fun(w':fm) (h:fE wa.heap.size wa w')=>(h.cell (p:=⟨g,k*7+4,none⟩) (by simp only;omega)).trans ((hra.cell (p:=⟨g,k*7+4,none⟩) hgr).trans d4)
       have e5:=fun(w':fm) (h:fE wa.heap.size wa w')=>(h.cell (p:=⟨g,k*7+5,none⟩) (by simp only;omega)).trans ((hra.cell (p:=⟨g,k*7+5,none⟩) hgr).trans d5)
       have e6:=fun(w':fm) (h:fE wa.heap.size wa w')=>(h.cell (p:=⟨g,k*7+6,none⟩) (by simp only;omega)).trans ((hra.cell (p:=⟨g,k*7+6,none⟩) hgr).trans d6)
       have ez:=fun(w':fm) (h:fE wa.heap.size wa w') (j:Nat)=>HFR.out w' (HRA.out.trans (h.mono HRA.out.size)) j
       have had:fE wa.heap.size wa wa.drew:=(gf _ _).drew
       clear hwa hka hkr hra
       go_upto_region 6 with fail
       rw [←HWA.out]
       clear d0 d1 d2 d3 d4 d5 d6 cr
       go_region_with (go_at_call 40;refine(HCL.out _ (HRA.out.trans (had.mono HRA.out.size))).mono ?_;rintro e w1 ⟨y,rfl,hyc,hyl,hyu,hyb⟩;have hw1:fE wa.heap.size wa w1:=had.trans hyb;have HY:=h_ (And.intro hyc (And.intro hyl hyu));clear hyc hyl hyu hyb;obtain⟨yid,yin,yout,yreg,ykind,ysp,ya,ycp,yrows⟩:=y;simp only [Ev.enc])
       all_goals
        have hrw:=HRA.out.trans (hw1.mono HRA.out.size)
        have R:=h_ (HST.out w1 _ (⟨yid,yin,yout,yreg,ykind,ysp,ya,ycp,yrows⟩:Ev) hrw HY.out.1 HY.out.2.1 (fun b hu=>gp HRA.out.size (HY.out.2.2 b hu)) rfl)
        have HRW:=h_ hrw
        clear HY HST HCL HFR hrw
        go_wp2_with fail
        go_roundw
        case rel =>
         refine⟨k+1,by omega,by go_num,R.out,?_⟩
         repeat refine gd ?_ (by simp only;omega) _
         exact HBR.out.trans (HRW.out.mono HBR.out.size)
        all_goals first|(simp [intOf];done)|(simp [intOf];omega)
     · obtain rfl:k=evs.length:=by omega
       have hzr:=z6 (w.heap.size+1) (by omega) (by omega)
       have czr:=HCZ.out wr hzr
       have zzr:=HZZ.out wr hzr
       have cr:=fun(j:Nat)=>fp wr w.heap.size j _ 27 (0,0) hkr
       clear z1 z2 z3 z4 z6 hkr hzr hbr
       go_wp2_with fail
       refine bodyPost_ret (v:=.agg #[.string title,.string lang,.int .u8 rate,.bool drop,.int .i64 last,.slice a1 rG.length c1,.slice (some ⟨g,0,none⟩) evs.length ce,.slice a3 cms.length c3]) (by simp [results,Tryz.results54,go_sem,czr]) rfl ?_
       refine HQ1.out wc w5 wr _ a1 a3 c1 c3 g ce HS1.out HS3.out HF1.out HF3.out HH45.out hgw HRR.out ⟨?_,fun b hb=>?_⟩ ?_
       · simp
       · repeat rw [fZ _ _ _ _ (by simpa using hb)]
       · repeat refine gd ?_ (by simp only;omega) _
         exact HBR.out
end Go.Proofs.YtnlnmbcaongehaaGreatDoor
namespace Go.Proofs.YtnlnmbcaongehaaGreatDoor
open Go.RowKit
def dx:Array ft:=#[.string ⟨#[]⟩,.string ⟨#[]⟩,.int .u8 0,.bool false,.int .i64 0,.slice none 0 0,.slice none 0 0,.slice none 0 0]
theorem Doc.one:∀ (x:Doc)(v:ft),v∈x.enc→v.oneCell'=true:=by
 intro x v hv
 simp only [Doc.enc,fR,List.not_mem_nil,or_false] at hv
 rcases hv with rfl|rfl|rfl|rfl|rfl|rfl|rfl|rfl<;>rfl
def zjR (St:Int→Doc→Prop)(d:Doc)(g:Nat)(w:fm)(e:Ending)(w':fm):Prop :=
 ∃ (err:Int) (d':Doc),e=.returned (.int .i64 err)∧zdI d' g w'∧(∀ b,d'.uses b→d.uses b∨w.heap.size≤b)∧w.grownBy w' (some g)∧St err d'
def zcf (St:Nat→Doc→Prop)(w:fm)(k:Nat)(wr:fm):Prop :=
 ∃ d':Doc,zdI d' w.heap.size wr∧St k d'∧(∀ b,d'.uses b→w.heap.size+2≤b)∧wr.heap[w.heap.size+1]? =some (.cells dx 27 (0,0))∧fE w.heap.size w wr
theorem zcf.start {St:Nat→Doc→Prop} {w w2:fm} {d2:Doc} {cs:Array ft} (hk:w2.heap[w.heap.size]? =some (.cells cs 27 (0,0)))(hz:w2.heap[w.heap.size+1]? =some (.cells dx 27 (0,0)))(hl:d2.lies w2)(hu:∀ b,d2.uses b→w.heap.size+2≤b)(hb:fE w.heap.size w w2)(h0:St 0 d2) :
 zcf St w 0 (w2.setRow w.heap.size d2.enc.toArray) :=
 ⟨d2,⟨setRow_heap w2 _ cs _ 27 (0,0) hk,Doc.frame hl (by simp) (fun b h=>setRow_other w2 _ b _ (by have:=hu b h;omega)),fun b h=>by have:=hu b h;omega⟩,h0,hu,by rw [setRow_other _ _ _ _ (by omega)];exact hz,below_setRow hb (gj _) _⟩
theorem zcf.step {St:Nat→Doc→Prop} {w wr w1 w2:fm} {d' d2:Doc} {k:Nat} (h3:∀ b,d'.uses b→w.heap.size+2≤b)(h4:wr.heap[w.heap.size+1]? =some (.cells dx 27 (0,0)))(h5:fE w.heap.size w wr)(hb:fE wr.heap.size wr w1)
 (q1:zdI d2 w.heap.size w2) (q2:∀ b,d2.uses b→d'.uses b∨w1.heap.size≤b) (q3:w1.grownBy w2 (some w.heap.size)) (q4:St k d2):zcf St w k w2:=by
 have hlt:w.heap.size+1<wr.heap.size:=(gh.1 h4).1
 have hs:=hb.size
 refine⟨d2,q1,q4,fun b h=>?_,?_,?_⟩
 · rcases q2 b h with h|h
   · exact h3 b h
   · omega
 · rw [q3.block _ (by omega) (by simp),hb.block _ hlt]
   exact h4
 · exact(h5.trans (hb.mono h5.size)).grown q3 (by have:=h5.size;omega) (fun j hj=>Nat.le_of_eq (gw hj))
theorem zeX {α:Type} (lo eq:α→Bool)(R:α→α→Prop)(hR:∀ x y,R x y→lo x=false→lo y=false∧eq y=false) :
 ∀ xs:List α,xs.Pairwise R→∃ (A:List α) (M:Option α) (B:List α),xs=A++M.toList++B∧(∀ a∈A,lo a=true)∧(∀ m,M=some m→lo m=false∧eq m=true)∧(∀ b∈B,lo b=false∧eq b=false)
 | [],_=>⟨[],none,[],rfl,by simp,by simp,by simp⟩
 | x::l,h=>by
   rw [fU] at h
   cases hx:lo x
   · have hl:∀ b∈l,lo b=false∧eq b=false:=fun b hb=>hR x b (h.1 b hb) hx
     cases he:eq x
     · refine⟨[],none,x::l,rfl,by simp,by simp,fun b hb=>?_⟩
       rcases fR.1 hb with rfl|hb
       · exact⟨hx,he⟩
       · exact hl b hb
     · exact⟨[],some x,l,rfl,by simp,fun m hm=>by obtain rfl:=gw hm;exact⟨hx,he⟩,hl⟩
   · obtain⟨A,M,B,hl,h1,h2,h3⟩:=zeX lo eq R hR l h.2
     refine⟨x::A,M,B,by rw [hl];simp,fun a ha=>?_,h2,h3⟩
     rcases fR.1 ha with rfl|ha
     · exact hx
     · exact h1 a ha
def setAt {α:Type} (lo eq:α→Bool)(v:Option α)(xs:List α):List α:=xs.filter lo++v.toList++xs.filter fun x=>!lo x&&!eq x
theorem zfN {α:Type} {lo eq:α→Bool} {A B:List α} {M:Option α} (h1:∀ a∈A,lo a=true)(h2:∀ m,M=some m→lo m=false∧eq m=true)(h3:∀ b∈B,lo b=false∧eq b=false)(v:Option α):setAt lo eq v (A++M.toList++B)=A++v.toList++B:=by
 have a1:A.filter lo=A:=fT.2 h1
 have a2:(A.filter fun x=>!lo x&&!eq x)=[]:=fI.2 fun a ha=>by simp [h1 a ha]
 have b1:B.filter lo=[]:=fI.2 fun b hb=>by simp [(h3 b hb).1]
 have b2:(B.filter fun x=>!lo x&&!eq x)=B:=fT.2 fun b hb=>by simp [h3 b hb]
 have m1:M.toList.filter lo=[]:=fI.2 fun m hm=>by simp [(h2 m (by simpa using hm)).1]
 have m2:(M.toList.filter fun x=>!lo x&&!eq x)=[]:=fI.2 fun m hm=>by simp [h2 m (by simpa using hm)]
 unfold setAt
 simp only [List.filter_append,a1,a2,b1,b2,m1,m2,List.append_nil,List.nil_append]
theorem zbI {α:Type} {lo eq:α→Bool} {R:α→α→Prop} (hR:∀ x y,R x y→lo x=false→lo y=false∧eq y=false) {xs:List α} (hp:xs.Pairwise R)(v:Option α)(h1:∀ y,v=some y→∀ a,lo a=true→R a y)(h2:∀ y,v=some y→∀ b,lo b=false→eq b=false→R y b):(setAt lo eq v xs).Pairwise R:=by
 obtain⟨A,M,B,rfl,q1,q2,q3⟩:=zeX lo eq R hR xs hp
 rw [zfN q1 q2 q3]
 have hAB:(A++B).Pairwise R:=hp.sublist (by rw [fM];exact List.Sublist.append (List.Sublist.refl _) (List.sublist_append_right _ _))
 rw [fK] at hAB
 obtain⟨hA,hB,hc⟩:=hAB
 rw [fM,fK]
 refine⟨hA,?_,fun a ha x hx=>?_⟩
 · cases v with
   | none=>simpa using hB
   | some y=>exact fU.2 ⟨fun b hb=>h2 y rfl b (q3 b hb).1 (q3 b hb).2,hB⟩
 · rcases fP.1 hx with hx|hx
   · exact h1 x (by simpa using hx) a (q1 a ha)
   · exact hc a ha x hx
theorem zgv {α:Type} (lo eq:α→Bool)(v:Option α)(xs:List α):(setAt lo eq v xs).length≤xs.length+1:=by
 have h:∀ l:List α,(l.filter lo).length+(l.filter fun x=>!lo x&&!eq x).length≤l.length:=by
  intro l
  induction l with
  | nil=>simp
  | cons x l ih =>
    simp only [List.filter_cons]
    cases lo x<;>cases eq x<;>simp<;>omega
 have:=h xs
 unfold setAt
 rw [fJ,fJ]
 cases v<;>simp<;>omega
theorem zeY {α:Type} {lo eq:α→Bool} {v:Option α} {xs:List α} {x:α} (h:x∈setAt lo eq v xs):x∈xs∨v=some x:=by
 unfold setAt at h
 rcases fP.1 h with h|h
 · rcases fP.1 h with h|h
   · exact .inl ((fO.1 h).1)
   · exact .inr (by simpa using h)
 · exact .inl ((fO.1 h).1)
def evLe (x y:EvC):Bool:=decide (x.inn<y.inn∨(x.inn=y.inn∧x.id≤y.id))
def dD (l:List EvC):List EvC:=l.mergeSort evLe
theorem dq (l:List EvC):(dD l).Perm l:=List.mergeSort_perm l _
theorem zaV (l:List EvC):(dD l).Pairwise fun x y=>evLe x y=true :=
 List.pairwise_mergeSort (fun a b c h1 h2=>by simp only [evLe,decide_eq_true_eq] at *;omega) (fun a b=>by simp only [evLe,Bool.or_eq_true,decide_eq_true_eq];omega) l
theorem zkm {l:List EvC} (h:l.Pairwise fun x y=>x.id≠y.id) {a b:EvC} (ha:a∈l)(hb:b∈l)(he:a.id=b.id):a=b:=by
 obtain⟨i,hi,rfl⟩:=fF ha
 obtain⟨j,hj,rfl⟩:=fF hb
 rw [List.pairwise_iff_getElem] at h
 rcases Nat.lt_trichotomy i j with hij|rfl|hij
 · exact absurd he (h i j hi hj hij)
 · rfl
 · exact absurd he.symm (h j i hj hi hij)
theorem zaU {xs l:List EvC} (hp:xs.Perm l)(hs:xs.Pairwise fun x y=>evLe x y=true)(hi:l.Pairwise fun x y=>x.id≠y.id):xs=dD l:=by
 refine List.Perm.eq_of_pairwise (le:=fun x y=>evLe x y=true) (fun a b ha hb h1 h2=>?_) hs (zaV l) (hp.trans (dq l).symm)
 simp only [evLe,decide_eq_true_eq] at h1 h2
 exact zkm hi (hp.subset ha) ((dq l).subset hb) (by omega)
theorem ziR {l:List EvC} (hi:l.Pairwise fun x y=>x.id≠y.id):(dD l).Pairwise EvC.lt∧(dD l).Pairwise fun x y=>x.id≠y.id:=by
 have h2:(dD l).Pairwise fun x y=>x.id≠y.id:=hi.perm (dq l).symm (fun h h'=>h h'.symm)
 refine⟨?_,h2⟩
 refine((zaV l).and h2).imp fun h=>?_
 obtain⟨h,h'⟩:=h
 simp only [evLe,decide_eq_true_eq] at h
 simp only [EvC.lt]
 omega
def zgu (evs:List EvC)(id:Int)(v:Option EvC):List EvC:=dD (evs.filter (fun x=>!(x.id==id))++v.toList)
theorem zg6 {evs:List EvC} (h:evs.Pairwise fun x y=>x.id≠y.id)(id:Int)(v:Option EvC)(hv:∀ y,v=some y→y.id=id):(evs.filter (fun x=>!(x.id==id))++v.toList).Pairwise fun x y=>x.id≠y.id:=by
 rw [fK]
 refine⟨h.sublist List.filter_sublist,by cases v<;>simp,fun a ha b hb=>?_⟩
 have h1:=(fO.1 ha).2
 have h2:=hv b (by simpa using hb)
 simp at h1
 omega
def ChgC.zfd (c:ChgC):Reg:=⟨c.name,c.nr.top,c.nr.height,c.nr.left,c.nr.width,c.nr.align,c.nr.bottom⟩
def ChgC.newEv (c:ChgC):EvC:=⟨c.id,c.ne.inn,c.ne.out,c.ne.region,c.ne.kind,c.ne.speaker,c.ne.rows⟩
def ChgC.zir (c:ChgC):Cm:=⟨c.id,c.nc.ev,c.nc.frm,c.nc.til,c.nc.author,c.nc.text,c.nc.done,c.nc.lost⟩
def zjX (c:ChgC):Int:=if c.sec<1∨4<c.sec then 3 else if (c.added&&c.gone||(c.sec==1&&(c.added||c.gone)))=true then 1 else 0
def zfR (k:ByteArray)(x:Reg):Bool:=Op.bytesLess x.name.toList k.toList
def zaK (k:ByteArray)(x:Reg):Bool:=x.name.toList==k.toList
def cmLo (k:Int)(x:Cm):Bool:=decide (x.id<k)
def cmAt (k:Int)(x:Cm):Bool:=x.id==k
def evAt (k:Int)(x:EvC):Bool:=x.id==k
def zfa (rG:List Reg)(c:ChgC):Int:=zbz c.added (rG.find? (zaK c.name)).isSome (d_ ((rG.find? (zaK c.name)).getD bB) c.rg)
def zgR (cms:List Cm)(c:ChgC):Int:=zbz c.added (cms.find? (cmAt c.id)).isSome (cmEq ((cms.find? (cmAt c.id)).getD bG) c.oc)
def zgM (evs:List EvC)(c:ChgC):Int:=zbz c.added (evs.find? (evAt c.id)).isSome (zcP ((evs.find? (evAt c.id)).getD dI) c.oe)
def za9 (d:DocC)(c:ChgC):Int × DocC :=
 if zjX c≠0 then (zjX c,d)
 else if c.sec=1 then (if hdEq d.hd c.oh=true then (0,⟨c.nh,d.rG,d.evs,d.cms⟩) else (16,d))
 else if c.sec=2 then (if zfa d.rG c=0 then (0,⟨d.hd,setAt (zfR c.name) (zaK c.name) (if c.gone=true then none else some c.zfd) d.rG,d.evs,d.cms⟩) else (zfa d.rG c,d))
 else if c.sec=3 then (if zgM d.evs c=0 then (0,⟨d.hd,d.rG,zgu d.evs c.id (if c.gone=true then none else some c.newEv),d.cms⟩) else (zgM d.evs c,d))
 else (if zgR d.cms c=0 then (0,⟨d.hd,d.rG,d.evs,setAt (cmLo c.id) (cmAt c.id) (if c.gone=true then none else some c.zir) d.cms⟩) else (zgR d.cms c,d))
theorem zkb (k:ByteArray)(x y:Reg)(h:baLt x.name y.name)(hx:zfR k x=false):zfR k y=false∧zaK k y=false:=by
 have hx':¬ baLt x.name k:=fun h=>by rw [zfR,(zhT _ _).2 h] at hx;cases hx
 constructor
 · cases hy:zfR k y
   · rfl
   · exact absurd (zhU h ((zhT _ _).1 hy)) hx'
 · cases hy:zaK k y
   · rfl
   · have e:=eF (a:=y.name) (b:=k) (by simpa [zaK] using hy)
     rw [e] at h
     exact absurd h hx'
theorem zkR (k:Int)(x y:Cm)(h:x.id<y.id)(hx:cmLo k x=false):cmLo k y=false∧cmAt k y=false:=by
 simp only [cmLo,cmAt,decide_eq_false_iff_not,beq_eq_false_iff_ne] at *
 omega
theorem zc7.step {St:Int→Doc→Prop} {err:Int} {c':DocC} {d:Doc} {g:Nat} {w:fm} {e:Ending} {w':fm} (h:zc7 err c' d g w e w')(hS:∀ d':Doc,d'.c=c'→St err d'):zjR St d g w e w':=by
 obtain⟨rfl,d',h1,h2,h3,h4,h5⟩:=h
 exact⟨err,d',rfl,⟨h1,h3,fun b hu=>(h4 b hu).1⟩,fun b hu=>(h4 b hu).2,h5,hS d' h2⟩
end Go.Proofs.YtnlnmbcaongehaaGreatDoor
