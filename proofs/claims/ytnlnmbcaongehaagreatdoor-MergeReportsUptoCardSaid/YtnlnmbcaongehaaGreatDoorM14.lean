/- event.Plain: the text of an event; document.runes: the characters of a text. (printed by gen_mgtext.py) How many characters two texts have alike: what the loops of Follow find out. document.Follow: a comment moved from one text to another. (printed by gen_mgfollow.py) -/
import Derived.Test.YtnlnmbcaongehaaGreatDoorM11
set_option linter.unusedVariables false
set_option linter.unusedSimpArgs false
set_option maxRecDepth 100000
set_option maxHeartbeats 12800000
open Go.Lib renaming hid→h_
open Go renaming World→fm,cell_of_row→fp,heap_setCell_same→ft,Value→fu,heap_alloc_last→fw,below_drewN→fB
open Go.Lib renaming join→fC
open List renaming getElem?_eq_some_iff→fD,getElem?_eq_getElem→fE,length_cons→fF,length_map→fG
open Go.Value renaming int→fH,string→fI
open Go.RowKit renaming Below→fJ
open Go.RowKit.Below renaming refl→fK,setCell→fL,heap_setCell→fM,heap_alloc→fN
open Nat renaming le_refl→fO,le_trans→fP
open Go.World renaming frozen?→fQ,cell?→fR,ownsRow_nil→fS,iterPos→fT
open Int renaming not_le→fU
namespace Go.Proofs.YtnlnmbcaongehaaGreatDoor
open Go.RowKit
theorem Tryz.info21m:(Tryz.prog.info? 21).map (fun i=>(i.zero,i.size,i.bytes))=some (some (.int .i32 0),1,4):=by kernel_rfl
theorem dS {w:fm} {base e size n:Nat} {v:fu} {xs:List fu} (h:w.ownsRow base e size v n xs):∃ a c,v=.slice a n c:=by
 rcases h.2 with⟨rfl,h0⟩|⟨g',cap,cur,rfl,_⟩
 · exact⟨none,0,by rw [h0]⟩
 · exact⟨_,cap,rfl⟩
theorem bT:∀ l:List Run,zbm l=et l
 | []=>rfl
 | x::l=>by rw [zbm,et,bT l]
theorem ze1:∀ rows:List (List Run),fC ((rows.map plain).map (·.data.toList)) [10]=bp rows
 | []=>rfl
 | [r]=>by
   rw [bp,bT]
   simp [fC,plain]
 | r::q::l=>by
   have ih:=ze1 (q::l)
   rw [bp,←ih,bT]
   · simp only [List.map_cons,Lib.join_cons,plain]
     simp [Lib.joinTail]
   · simp
theorem eM {n:Nat}:∀ rows:List (List Run),(∀ r∈rows,bQ r≤n)→(bp rows).length≤rows.length*(n+1)
 | [],_=>by simp [bp]
 | [r],h=>by
   have:=h r (by simp)
   rw [bp,bT,dR]
   simp
   omega
 | r::q::l,h=>by
   have ih:=eM (q::l) (fun x hx=>h x (by simp [hx]))
   have:=h r (by simp)
   have e:(bp (r::q::l)).length=(zbm r).length+((bp (q::l)).length+1):=by
    rw [bp]
    · simp
    · simp
   rw [e,bT,dR]
   rw [fF,Nat.add_mul]
   omega
theorem zjC (B:Nat)(v:fu)(ws:List ByteArray)(sep:ByteArray)(w:fm)(h:w.ownsRow B 9 1 v ws.length (ws.map fI))(hl:ws.length≤4000000)(hj:(fC (ws.map (·.data.toList)) sep.data.toList).length≤140737488355328) :
 Calls Tryz.prog 68 #[v,.string sep] w fun e w'=>e=.returned (.string ⟨(fC (ws.map (·.data.toList)) sep.data.toList).toArray⟩)∧fJ w.heap.size w w':=by
 rcases Nat.eq_zero_or_pos ws.length with h0|h0
 · obtain rfl:=List.eq_nil_of_length_eq_zero h0
   obtain⟨a,c,rfl⟩:=dS h
   refine(Tryz.strings_Join_none a c sep w).mono fun e w' p=>?_
   obtain⟨rfl,rfl⟩:=p
   exact⟨rfl,fK _ _⟩
 · rcases h.2 with⟨_,hn⟩|⟨g,cap,cur,rfl,hB,hc,hnc,r⟩
   · omega
   · refine Tryz.strings_Join g 0 cap ws sep w (fun j x hx=>?_) (h.lt g rfl).2 (by omega) hnc hj
     rw [Nat.zero_add,h.cellAt j (by have:=(fD.1 hx).1;omega)]
     simp [hx]
theorem zaW (x:Ev)(w:fm)(hx:x.lies w)(hf:x.fits):Calls Tryz.prog 203 #[.agg x.enc.toArray] w fun e w'=>e=.returned (.string (dC (some x.c)))∧fJ w.heap.size w w':=by
 generalize hQ:(fun(e:Ending) (w':fm)=>e=.returned (.string (dC (some x.c)))∧fJ w.heap.size w w')=Q
 have hrf:=hf.2.2.2.2.2.2.2.1
 have hl:=hf.2.2.2.2.2.2.2.2
 have HRW:=h_ (fun(w1:fm) (hb:fJ w.heap.size w w1)=>bu.later hx hb)
 have HT:=ze1 (x.rows.map Row.runs)
 rw [show(x.rows.map Row.runs).map plain=x.rows.map fun r=>plain r.runs from by rw [List.map_map];rfl] at HT
 have HLN:=h_ (show(fC ((x.rows.map fun r=>plain r.runs).map (·.data.toList)) [10]).length≤140737488355328 from by
  have h1:=eM (n:=4000000) (x.rows.map Row.runs) (fun r hr=>by
   obtain⟨q,hq,rfl⟩:=List.mem_map.1 hr
   exact(hrf q hq).2.2)
  rw [←HT,fG] at h1
  have h2:=Nat.mul_le_mul_right 4000001 hl
  exact fP h1 (fP h2 (by decide)))
 have HQ:=h_ (fun(w':fm) (hb:fJ w.heap.size w w')=>(show Q (.returned (.string ⟨(fC ((x.rows.map fun r=>plain r.runs).map (·.data.toList)) (⟨#[10]⟩:ByteArray).data.toList).toArray⟩)) w' from hQ▸⟨by
  show _=Ending.returned (.string ⟨(bp (x.rows.map Row.runs)).toArray⟩)
  rw [←HT],hb⟩))
 have HFR:=h_ hrf
 clear hQ hrf HT hx hf
 obtain⟨id,inn,out,reg,kind,sp,xa,xc,xr⟩:=x
 simp only at HRW HLN HQ HFR hl
 obtain⟨j0,hj,hy0,hy1,hy2⟩:=info_parts Tryz.info9
 have JI:=h_ hj;have J0:=h_ hy0;have J1:=h_ hy1;have J2:=h_ hy2
 have HST:=h_ (fun(W w1 w2:fm) (k:Nat) (v v':fu) (r:Row) (cs:Array fu) (hr:xr[k]? =some r)=>dH.step (K:=9) (enc:=fI) (key:=fun r:Row=>plain r.runs) (zs:=xr) (W:=W) (w1:=w1) (w2:=w2) (k:=k) (v:=v) (v':=v') (x:=r) (cs:=cs) hr)
 have HREL:Hid (∀ (W wr:fm) (k:Nat) (v:fu),dH 9 fI (fun r:Row=>plain r.runs) xr W k v wr→wr.ownsRow W.heap.size 9 1 v k (((xr.take k).map fun r:Row=>plain r.runs).map fI)∧fJ W.heap.size W wr):=h_ (fun _ _ _ _ h=>h)
 have HS0:Hid (∀ W:fm,dH 9 fI (fun r:Row=>plain r.runs) xr W 0 (.slice none 0 0) W):=h_ (fun W=>⟨fS _ _ _ _,fK _ _⟩)
 have HFIN:=h_ (fun(W wr:fm) (v:fu) (h:dH 9 fI (fun r:Row=>plain r.runs) xr W xr.length v wr)=>zjC W.heap.size v (xr.map fun r=>plain r.runs) ⟨#[10]⟩ wr h.all (by rw [fG];exact hl) HLN.out)
 generalize dH 9 fI (fun r:Row=>plain r.runs) xr=R at *
 obtain⟨cells,hcells⟩:∃ cells:Nat→List fu,cells=fun k=>(((xr.take k).map fun r:Row=>plain r.runs).map fI):=⟨_,rfl⟩
 simp only [show ∀ k,(((xr.take k).map fun r:Row=>plain r.runs).map fI)=cells k from fun k=>by rw [hcells]] at HREL HST
 generalize (⟨(fC ((xr.map fun r=>plain r.runs).map (·.data.toList)) (⟨#[10]⟩:ByteArray).data.toList).toArray⟩:ByteArray)=S at *
 clear hj hy0 hy1 hy2 hcells HLN
 simp only [Ev.enc]
 have hk1:=fw w (.cells (Ev.enc ⟨id,inn,out,reg,kind,sp,xa,xc,xr⟩).toArray 50)
 have HB1:=h_ (show fJ w.heap.size w (w.alloc (.cells (Ev.enc ⟨id,inn,out,reg,kind,sp,xa,xc,xr⟩).toArray 50)) from(fK _ _).alloc (fO _) _)
 simp only [Ev.enc] at hk1 HB1
 go_enter Tryz.func203,Tryz.ntmps203
 go_wp2_with fail
 generalize hW:w.alloc (.cells #[.int .i64 id,.int .i64 inn,.int .i64 out,.string reg,.int .u8 kind,.string sp,.slice xa xr.length xc] 50)=W at *
 have hs1:=HB1.out.size
 clear hW hk1
 go_loopw [3,9] (fun v i wr=>∃ k:Nat,k≤xr.length∧i=.int .i64 k∧R W k v wr) (fun _ i _=>xr.length-(intOf i).toNat)
 case atStart=>exact⟨0,by omega,rfl,HS0.out _⟩
 case round =>
  obtain⟨k,hk,rfl,hrel⟩:=hrel
  have hrk:=HREL.out _ _ _ _ hrel
  have HRK:=h_ (HB1.out.trans (hrk.2.mono hs1))
  by_cases hlt:k<xr.length
  · obtain⟨b,off,r,rfl,hbl,hrx,hc,hrl⟩:=(HRW.out _ HRK.out).at_ hlt
    have hbs:=hrk.2.size
    have HKC:=h_ (fun o=>zcu r (wr.alloc o) (Row.keeps _ _ _ ((fK _ _).alloc (fO _) o) hrl) (HFR.out r (List.mem_of_getElem? hrx)))
    have HBA:=h_ (fun(o:Obj) (w2:fm) (h1:fJ (wr.alloc o).heap.size (wr.alloc o) w2)=>(show fJ wr.heap.size wr w2 from((fK _ _).alloc (fO _) _).trans (h1.mono (by simp))))
    have HO:=h_ (fun(w2:fm) (hb:fJ wr.heap.size wr w2)=>aq hrk.1 hb)
    have HBB:=h_ (fun(w2:fm) (hb:fJ wr.heap.size wr w2)=>(show fJ W.heap.size W w2 from hrk.2.trans (hb.mono hrk.2.size)))
    have HS2:=h_ (fun(w2 w3:fm) (v':fu) (cs:Array fu)=>HST.out W w2 w3 k u3 v' r cs hrx)
    have d0:=hc 0 _ rfl
    obtain⟨ra,rc,rr⟩:=r
    simp only [Row.enc,Nat.add_zero,Nat.mul_one] at HKC d0 HS2
    clear hc hrx hrel hrk hrl
    generalize plain rr=S1 at *
    go_wp2_with fail
    refine(HKC.out _).mono ?_
    rintro e w2 ⟨rfl,hb2⟩
    have hb3:=HBA.out _ _ hb2
    have hs2:=hb3.size
    have HO2:=h_ (HO.out _ hb3)
    have HB3:=h_ (HBB.out _ hb3)
    clear hb2 hb3 HO HKC HBA d0
    go_wp2_with (at_builtin;refine aP _ _ rfl (.tmp 13) (.tmp 16) 55 rfl W.heap.size 9 j0 _ 1 16 Tryz.underlying55 JI.out J0.out J1.out J2.out rfl (by decide) _ _ _ rfl HO2.out _ rfl rfl rfl ?h1 ?h63 ?hb ?hbase ?_)
    case h1=>first|rfl|(intro u hu;simp at hu;subst hu;rfl)
    case h63=>unfold maxLen;omega
    case hb=>omega
    case hbase=>omega
    intro v' w3 hown' hgrow
    have RR:=h_ (HS2.out w2 w3 v' _ HB3.out HO2.out rfl hown' hgrow)
    clear hown' hgrow
    go_wp2_with fail
    go_roundw
    case rel=>exact⟨k+1,by omega,by go_num,RR.out⟩
    case measure=>simp [intOf];omega
  · obtain rfl:k=xr.length:=by omega
    have HF1:=h_ (HFIN.out _ _ _ hrel)
    have HRB:=h_ (fun(w':fm) (h:fJ wr.heap.size wr w')=>HRK.out.trans (h.mono HRK.out.size))
    clear hrel hrk
    go_wp2_with fail
    refine HF1.out.mono ?_
    rintro e w2 ⟨rfl,hb2⟩
    have HB2:=h_ (HRB.out _ hb2)
    clear hb2
    go_wp2_with fail
    exact HQ.out _ HB2.out
def zfI (s:ByteArray)(w:fm)(v:fu)(wr:fm):Prop :=
 ∃ (pos b:Nat) (xs:List Nat),xs++cd s b pos=runes s∧s.size≤pos+b∧xs.length≤pos∧xs.length≤s.size∧wr.ownsRow (w.heap.size+1) 21 1 v xs.length (xs.map fun n:Nat=>fH .i32 (n:Int))∧wr.heap[w.heap.size]? =some (.stringIter s pos)∧fJ w.heap.size w wr
def zbb (s:ByteArray)(w:fm)(e:Ending)(w':fm):Prop:=∃ v,e=.returned v∧w'.ownsRow w.heap.size 21 1 v (runes s).length ((runes s).map fun n:Nat=>fH .i32 (n:Int))∧fJ w.heap.size w w'
theorem zi5 {w:fm} {B e k n:Nat} {v:fu} {xs:List fu} (h:w.ownsRow (B+1) e k v n xs):w.ownsRow B e k v n xs :=
 ⟨h.1,h.2.imp id fun⟨g,cap,cur,q1,q2,q3⟩=>⟨g,cap,cur,q1,by omega,q3⟩⟩
theorem zak (s:ByteArray)(w:fm)(hs:s.size≤20000000000000):Calls Tryz.prog 257 #[.string s] w (zbb s w):=by
 obtain⟨i0,hi,hz0,hz1,hz2⟩:=info_parts Tryz.info21m
 have HI:=h_ hi;have J0:=h_ hz0;have J1:=h_ hz1;have J2:=h_ hz2
 clear hi hz0 hz1 hz2
 have HQ:=h_ (fun(v:fu) (xs:List Nat) (w':fm) (he:xs=runes s) (ho:w'.ownsRow (w.heap.size+1) 21 1 v xs.length (xs.map fun n:Nat=>fH .i32 (n:Int))) (hb:fJ w.heap.size w w')=>(show zbb s w (.returned v) w' from⟨v,rfl,by subst he;exact zi5 ho,hb⟩))
 generalize zbb s w=Q at *
 go_enter Tryz.func257,Tryz.ntmps257
 go_wp2_with fail
 go_loopw [3] (fun v wr=>zfI s w v wr) (fun _ wr=>s.size-wr.iterPos w.heap.size)
 case atStart=>exact⟨0,s.size,[],rfl,by omega,by simp,by simp,fS _ _ _ _,fm.iter_heap w s 0,(fK _ _).alloc (fO _) _⟩
 case round =>
  obtain⟨pos,b,xs,hp,hb,hkp,hks,hown,hit,hbe⟩:=hrel
  have hpos:=h_ (show wr.iterPos w.heap.size=pos by simp [fT,hit])
  by_cases hlt:pos<s.size
  · obtain⟨c,rfl,hn⟩:=zas s b pos hlt hb
    have hwd:=width_pos s pos hlt
    have hle:=decode_le s pos
    have hnx:∀ ty,(Instr.next (.pointer (some ⟨w.heap.size,0,none⟩)) true ty).run Tryz.prog wr=_:=fun ty=>Lib.run_next_any_at wr w.heap.size s pos ty hit hlt
    rw [hn] at hp
    have HP:=h_ hp
    generalize (Utf8.decode s pos).1=x at *
    generalize (Utf8.decode s pos).2=d at *
    have hgl:w.heap.size<wr.heap.size:=(Array.getElem?_eq_some_iff.1 hit).1
    have hown2:=ownsRow_iterAt hown (show w.heap.size<w.heap.size+1 by omega) s (pos+d)
    have HI2:=h_ (Lib.iterAt_heap wr w.heap.size s pos (pos+d) hit)
    have hsz:(wr.iterAt w.heap.size s (pos+d)).heap.size=wr.heap.size:=Lib.iterAt_size _ _ _ _
    have HBE:=h_ (Lib.below_iterAt hbe (fO _) s (pos+d))
    have HLT:=h_ (fun j hj=>(hown.lt j hj).1)
    clear hown hn hit hbe hp
    go_wp2_with (at_builtin;refine aP _ _ rfl (.tmp 11) (.tmp 13) 312 rfl (w.heap.size+1) 21 i0 _ 1 4 Tryz.underlying312 HI.out J0.out J1.out J2.out rfl (by decide) _ _ _ rfl hown2 _ rfl (by simp [hsz]) rfl ?h1 ?h63 ?hb ?hbase ?_)
    case h1=>first|rfl|(intro u hu;simp at hu;subst hu;rfl)
    case h63=>unfold maxLen;omega
    case hb=>omega
    case hbase=>omega
    intro v' w2 hown' hgrow
    have hI3:w2.heap[w.heap.size]? =some (.stringIter s (pos+d)):=by
     rw [hgrow.block w.heap.size (by simp;omega) (fun h=>by have:=HLT.out w.heap.size h.symm;omega),fN _ _ _ (by omega)]
     exact HI2.out
    have R:zfI s w v' w2:=⟨pos+d,c,xs++[x],by rw [List.append_assoc];exact HP.out,by omega,by simp;omega,by simp;omega,by simpa using hown',hI3,(HBE.out.alloc (by omega) _).grown hgrow (by simp;omega) (fun j hj=>by have:=HLT.out j hj;omega)⟩
    have hpos2:w2.iterPos w.heap.size=pos+d:=by simp [fT,hI3]
    clear hown' hgrow hown2
    go_wp2_with fail
    go_roundw
    case rel=>exact R
    case measure=>rw [hpos2,hpos.out];omega
  · have hnx:∀ ty,(Instr.next (.pointer (some ⟨w.heap.size,0,none⟩)) true ty).run Tryz.prog wr=_:=fun ty=>Lib.run_next_end_at wr w.heap.size s pos ty hit hlt
    rw [zbj s b pos hlt,List.append_nil] at hp
    have HF:=h_ (HQ.out u3 xs wr hp hown hbe)
    clear hown hit hbe hp
    go_wp2_with fail
    exact HF.out
theorem zaf:∀ a b:List Nat,alike a b≤a.length∧alike a b≤b.length
 | [],_=>by simp [alike]
 | x::l,[]=>by simp [alike]
 | x::l,y::m=>by
   have ih:=zaf l m
   simp only [alike,fF]
   split<;>omega
theorem zgV:∀ (a b:List Nat)(i:Nat),i<alike a b→a[i]? =b[i]?
 | [],_,i,h=>by simp [alike] at h
 | x::l,[],i,h=>by simp [alike] at h
 | x::l,y::m,i,h=>by
   simp only [alike] at h
   split at h
   · rename_i hxy
     subst hxy
     cases i with
     | zero=>rfl
     | succ j=>simpa using zgV l m j (by omega)
   · omega
theorem zgU:∀ (a b:List Nat),alike a b<a.length→alike a b<b.length→a[alike a b]?≠b[alike a b]?
 | [],_,h,_=>by simp at h
 | x::l,[],_,h=>by simp at h
 | x::l,y::m,h1,h2=>by
   simp only [alike] at h1 h2 ⊢
   split
   · rename_i hxy
     rw [if_pos hxy] at h1 h2
     simpa using zgU l m (by simpa using h1) (by simpa using h2)
   · rename_i hxy
     simpa using hxy
theorem zd1 {a b:List Nat} {p x y:Nat} (h:p≤alike a b)(hx:a[p]? =some x)(hy:b[p]? =some y):(x=y→p+1≤alike a b)∧(x≠y→p=alike a b):=by
 refine⟨fun e=>?_,fun e=>?_⟩
 · refine Decidable.byContradiction fun hn=>?_
   obtain rfl:p=alike a b:=by omega
   refine zgU a b (fD.1 hx).1 (fD.1 hy).1 ?_
   rw [hx,hy,e]
 · refine Decidable.byContradiction fun hn=>e ?_
   have:=zgV a b p (by omega)
   rw [hx,hy] at this
   exact Option.some.inj this
theorem zfH {a b:List Nat} {p:Nat} (h:p≤alike a b)(hp:a.length≤p∨b.length≤p):p=alike a b:=by
 have:=zaf a b
 omega
def du (a b:List Nat)(p:Nat):Nat:=alike (a.drop p).reverse (b.drop p).reverse
theorem rev_at {a:List Nat} {p s x:Nat} (hs:s<a.length-p)(hx:a[a.length-1-s]? =some x):(a.drop p).reverse[s]? =some x:=by
 rw [List.getElem?_reverse (by simpa using hs),List.getElem?_drop,List.length_drop]
 rw [←hx]
 congr 1
 omega
theorem zgl {a b:List Nat} {p s x y:Nat} (h:s≤du a b p)(h1:s<a.length-p)(h2:s<b.length-p)(hx:a[a.length-1-s]? =some x)(hy:b[b.length-1-s]? =some y):(x=y→s+1≤du a b p)∧(x≠y→s=du a b p) :=
 zd1 h (rev_at h1 hx) (rev_at h2 hy)
theorem zhY {a b:List Nat} {p s:Nat} (h:s≤du a b p)(hp:a.length-p≤s∨b.length-p≤s):s=du a b p :=
 zfH h (by simpa using hp)
theorem zc0 (a b:List Nat)(p:Nat):du a b p≤a.length-p∧du a b p≤b.length-p:=by
 have:=zaf (a.drop p).reverse (b.drop p).reverse
 simpa [du] using this
theorem zcm (w:fm)(xs ys:Array fu)(T T':TypeId)(wx:fm)(h:fJ (w.heap.size+2) ((w.alloc (.cells xs T)).alloc (.cells ys T')) wx) :
 wx.heap[w.heap.size]? =some (.cells xs T (0,0))∧wx.heap[w.heap.size+1]? =some (.cells ys T' (0,0)):=by
 refine⟨?_,?_⟩
 · rw [h.block _ (by omega),fN _ _ _ (by simp)]
   exact fw w _
 · rw [h.block _ (by omega)]
   have:=fw (w.alloc (.cells xs T)) (.cells ys T')
   rwa [fm.size_alloc] at this
theorem ze0 {w:fm} {B:Nat} {v:fu} {xs:List Nat} (h:w.ownsRow B 21 1 v xs.length (xs.map fun n:Nat=>fH .i32 (n:Int))):∃ g c z,v=.slice z xs.length c∧(0<xs.length→z=some ⟨g,0,none⟩)∧(0<xs.length→xs.length≤c)∧∀ (j x:Nat),xs[j]? =some x→w.cell? ⟨g,j,none⟩=some (.int .i32 (x:Int)):=by
 rcases h.2 with⟨rfl,h0⟩|⟨g,cap,cur,rfl,hB,hc,hnc,r⟩
 · refine⟨0,0,none,by rw [h0],fun hp=>by omega,fun hp=>by omega,fun j x hx=>?_⟩
   have:=(fD.1 hx).1
   omega
 · refine⟨g,cap,_,rfl,fun _=>rfl,fun _=>hnc,fun j x hx=>?_⟩
   rw [h.cellAt j (by have:=(fD.1 hx).1;omega)]
   simp [hx]
theorem zj4 (w:fm)(o o':Obj):fJ w.heap.size w ((w.alloc o).alloc o'):=((fK _ _).alloc (fO _) _).alloc (by simp) _
theorem zbq (c:Cm)(a b:List Nat):eW c a b=(let q:=dB a.length b.length (alike a b) (du a b (alike a b)) c.frm c.til;if q.2≤q.1 then { c with frm:=0,til:=0,lost:=true } else { c with frm:=q.1,til:=q.2 }):=rfl
theorem zft (c:Cm)(s1 s2:ByteArray)(w:fm)(hlo:c.lost=false)(hfr:-1000000000000000000≤c.frm∧c.frm≤1000000000000000000)(hti:-1000000000000000000≤c.til∧c.til≤1000000000000000000)(h1:s1.size≤20000000000000)(h2:s2.size≤20000000000000) :
 Calls Tryz.prog 202 #[.agg c.enc.toArray,.string s1,.string s2] w fun e w'=>e=.returned (.agg (eW c (runes s1) (runes s2)).enc.toArray)∧fJ w.heap.size w w':=by
 have HR1:=h_ (fun w1=>zak s1 w1 h1)
 have HR2:=h_ (fun w1=>zak s2 w1 h2)
 have hl1:(runes s1).length≤20000000000000:=fP (dP s1 s1.size 0) h1
 have hl2:(runes s2).length≤20000000000000:=fP (dP s2 s2.size 0) h2
 unfold zbb at HR1 HR2
 generalize runes s1=a at *
 generalize runes s2=b at *
 obtain⟨id,ev,frm,til,au,tx,dn,lo⟩:=c
 simp only at hlo hfr hti
 subst hlo
 generalize hQ:(fun(e:Ending) (w':fm)=>e=.returned (.agg (eW ⟨id,ev,frm,til,au,tx,dn,false⟩ a b).enc.toArray)∧fJ w.heap.size w w')=Q
 have HQ:=h_ (fun(f t:Int) (hf:dB a.length b.length (alike a b) (du a b (alike a b)) frm til=(f,t)) (w':fm) (hb:fJ w.heap.size w w')=>(show(t≤f→Q (.returned (.agg #[fH .i64 id,.int .i64 ev,.int .i64 0,.int .i64 0,.string au,.string tx,.bool dn,.bool true])) w')∧(¬ t≤f→Q (.returned (.agg #[fH .i64 id,.int .i64 ev,.int .i64 f,.int .i64 t,.string au,.string tx,.bool dn,.bool false])) w') from by
  subst hQ
  constructor
  · intro h
    refine⟨?_,hb⟩
    rw [zbq]
    simp only [hf]
    rw [if_pos h]
    rfl
  · intro h
    refine⟨?_,hb⟩
    rw [zbq]
    simp only [hf]
    rw [if_neg h]
    rfl))
 clear hQ
 have HX:=h_ (fun wx (h:fJ (w.heap.size+2) ((w.alloc (.cells #[fH .i64 id,.int .i64 ev,.int .i64 frm,.int .i64 til,.string au,.string tx,.bool dn,.bool false] 52)).alloc (.cells #[fH .i64 0,.int .i64 0,.int .i64 0,.int .i64 0,.string ⟨#[]⟩,.string ⟨#[]⟩,.bool false,.bool false] 52)) wx)=>zcm w #[fH .i64 id,.int .i64 ev,.int .i64 frm,.int .i64 til,.string au,.string tx,.bool dn,.bool false] #[fH .i64 0,.int .i64 0,.int .i64 0,.int .i64 0,.string ⟨#[]⟩,.string ⟨#[]⟩,.bool false,.bool false] 52 52 wx h)
 have HB:=h_ (fun wx (h:fJ (w.heap.size+2) ((w.alloc (.cells #[fH .i64 id,.int .i64 ev,.int .i64 frm,.int .i64 til,.string au,.string tx,.bool dn,.bool false] 52)).alloc (.cells #[fH .i64 0,.int .i64 0,.int .i64 0,.int .i64 0,.string ⟨#[]⟩,.string ⟨#[]⟩,.bool false,.bool false] 52)) wx)=>(show fJ w.heap.size w wx from(zj4 w _ _).trans (h.mono (by omega))))
 have hsz:((w.alloc (.cells #[fH .i64 id,.int .i64 ev,.int .i64 frm,.int .i64 til,.string au,.string tx,.bool dn,.bool false] 52)).alloc (.cells #[fH .i64 0,.int .i64 0,.int .i64 0,.int .i64 0,.string ⟨#[]⟩,.string ⟨#[]⟩,.bool false,.bool false] 52)).heap.size=w.heap.size+2:=by simp
 generalize hW0:((w.alloc (.cells #[fH .i64 id,.int .i64 ev,.int .i64 frm,.int .i64 til,.string au,.string tx,.bool dn,.bool false] 52)).alloc (.cells #[fH .i64 0,.int .i64 0,.int .i64 0,.int .i64 0,.string ⟨#[]⟩,.string ⟨#[]⟩,.bool false,.bool false] 52))=W0 at *
 have HW0:=h_ hW0
 have HSZ:=h_ hsz
 have hb0:fJ (w.heap.size+2) W0 W0:=fK _ _
 have HT:=h_ (fun(w2 w3:fm) (h:fJ (w.heap.size+2) W0 w2) (h3:fJ w2.heap.size w2 w3)=>(h.trans (h3.mono (by have:=h.size;rw [HSZ.out] at this;exact this)):fJ (w.heap.size+2) W0 w3))
 clear hW0 hsz
 have fx:∀ wx,fJ (w.heap.size+2) W0 wx→∀ j,wx.cell? ⟨w.heap.size,j,none⟩=_:=fun wx h j=>fp _ _ j _ 52 (0,0) (HX.out wx h).1
 have gx0:=fx W0 hb0
 simp only [Cm.enc]
 go_enter Tryz.func202,Tryz.ntmps202
 go_wp2_with fail
 rw [HW0.out]
 clear gx0
 have gx0:=fx W0 hb0
 go_wp2_with fail
 refine(HR1.out _).mono ?_
 rintro e w1 ⟨v1,rfl,ho1,hb1⟩
 have hc1:=HT.out _ _ hb0 hb1
 clear hb1 gx0 hb0
 go_wp2_with fail
 refine(HR2.out _).mono ?_
 rintro e w2 ⟨v2,rfl,ho2,hb2⟩
 have hc2:=HT.out _ _ hc1 hb2
 obtain⟨ga,ca,za,hva,hza,hca,hra⟩:=ze0 (aq ho1 hb2)
 obtain⟨gb,cb,zb,hvb,hzb,hcb,hrb⟩:=ze0 ho2
 have HZA:=h_ hza
 have HZB:=h_ hzb
 subst hva
 subst hvb
 have HRA:=h_ hra
 have HRB:=h_ hrb
 have HCA:=h_ hca
 have HCB:=h_ hcb
 have hx2:=HX.out _ hc2
 have HB2:=h_ (HB.out _ hc2)
 have HX2:=h_ hx2
 have fg:∀ j,w2.cell? ⟨w.heap.size,j,none⟩=_:=fun j=>fp _ _ j _ 52 (0,0) hx2.1
 have zg:∀ j,w2.frozen? ⟨w.heap.size,j,none⟩=false:=fun j=>by simp [fQ,hx2.1]
 have fr:∀ j,w2.cell? ⟨w.heap.size+1,j,none⟩=_:=fun j=>fp _ _ j _ 52 (0,0) hx2.2
 have zr:∀ j,w2.frozen? ⟨w.heap.size+1,j,none⟩=false:=fun j=>by simp [fQ,hx2.2]
 clear hra hrb hca hcb hza hzb ho1 ho2 hb2 hc1 hc2 fx HT HX HB hx2 HR1 HR2 HSZ HW0
 go_upto_block 0 with fail
 go_cut [11] (fun s11 wx=>s11=.int .i64 (alike a b:Nat)∧wx.heap=w2.heap∧fJ w.heap.size w wx)
 case first =>
  go_wp2_with fail
  go_loopw [11] (fun i wr=>∃ p:Nat,p≤alike a b∧i=.int .i64 p∧wr.heap=w2.heap∧fJ w.heap.size w wr) (fun i _=>a.length-(intOf i).toNat)
  case atStart=>exact⟨0,by omega,rfl,rfl,HB2.out⟩
  case round =>
   obtain⟨p,hp,rfl,hh,hbr⟩:=hrel
   have HH:=h_ hh
   have HBR:=h_ (fun n=>fB hbr n)
   have hcl:∀ g j,wr.cell? ⟨g,j,none⟩=w2.cell? ⟨g,j,none⟩:=fun g j=>by simp [fR,hh]
   have hle:=zaf a b
   clear hh hbr
   by_cases hlt:p<a.length∧p<b.length
   · obtain⟨x,hx⟩:∃ x,a[p]? =some x:=⟨_,fE hlt.1⟩
     obtain⟨y,hy⟩:∃ y,b[p]? =some y:=⟨_,fE hlt.2⟩
     have HM:=h_ (zd1 hp hx hy)
     have ra:=(hcl _ _).trans (HRA.out p x hx)
     have rb:=(hcl _ _).trans (HRB.out p y hy)
     have hza:=HZA.out (by omega)
     have hzb:=HZB.out (by omega)
     have hca:=HCA.out (by omega)
     have hcb:=HCB.out (by omega)
     subst hza
     subst hzb
     have hm1:decide ((p:Int)<min (a.length:Int) (b.length:Int))=true:=by simp;omega
     clear hx hy HRA HRB HZA HZB HCA HCB HQ HB2 HX2 hcl fg zg fr zr
     by_cases hxy:x=y
     · have HP:=h_ (HM.out.1 hxy)
       subst hxy
       clear HM
       go_wp2_with fail
       go_quiet (fail)
       go_wp2_with fail
       go_roundw
       case rel=>exact⟨p+1,HP.out,by go_num,HH.out,HBR.out _⟩
       case measure=>simp [intOf];omega
     · have HP:=h_ (HM.out.2 hxy)
       have hne:¬ ((x:Int)=(y:Int)):=by omega
       clear HM
       go_wp2_with fail
       go_quiet (fail)
       go_wp2_with fail
       go_meet
       exact⟨by rw [←HP.out],HH.out,HBR.out _⟩
   · have HP:=h_ (zfH hp (by omega))
     have hm1:decide ((p:Int)<min (a.length:Int) (b.length:Int))=false:=by simp;omega
     clear HRA HRB HZA HZB HCA HCB HQ HB2 HX2 hcl fg zg fr zr
     go_wp2_with fail
     go_quiet (fail)
     go_wp2_with fail
     go_meet
     exact⟨by rw [←HP.out],HH.out,HBR.out _⟩
 case rest =>
  obtain⟨rfl,hh,hbr⟩:=hcut
  have HP:=zaf a b
  have HBC:=h_ hbr
  have HXD:=h_ (show wc.heap[w.heap.size]? =_∧wc.heap[w.heap.size+1]? =_ from by rw [hh];exact HX2.out)
  have hcl2:∀ g j,wc.cell? ⟨g,j,none⟩=w2.cell? ⟨g,j,none⟩:=fun g j=>by simp [fR,hh]
  have hfz2:∀ g j,wc.frozen? ⟨g,j,none⟩=w2.frozen? ⟨g,j,none⟩:=fun g j=>by simp [fQ,hh]
  have gg:∀ j,wc.cell? ⟨w.heap.size,j,none⟩=_:=fun j=>(hcl2 _ _).trans (fg j)
  have gz:∀ j,wc.frozen? ⟨w.heap.size,j,none⟩=false:=fun j=>(hfz2 _ _).trans (zg j)
  have gr:∀ j,wc.cell? ⟨w.heap.size+1,j,none⟩=_:=fun j=>(hcl2 _ _).trans (fr j)
  have gy:∀ j,wc.frozen? ⟨w.heap.size+1,j,none⟩=false:=fun j=>(hfz2 _ _).trans (zr j)
  have HRA2:=h_ (fun j x h=>(hcl2 _ _).trans (HRA.out j x h))
  have HRB2:=h_ (fun j x h=>(hcl2 _ _).trans (HRB.out j x h))
  clear fg zg fr zr HRA HRB hcl2 hfz2 hh hbr HB2 HX2
  obtain⟨wd,hwd⟩:∃ x,x=wc:=⟨_,rfl⟩
  subst hwd
  generalize hPP:alike a b=P at *
  go_upto_block 2 with fail
  go_cut [12] (fun s12 wx=>s12=.int .i64 (du a b P:Nat)∧wx.heap=wd.heap∧fJ w.heap.size w wx)
  case first =>
   go_wp2_with fail
   go_loopw [12] (fun i wr=>∃ s:Nat,s≤du a b P∧i=.int .i64 s∧wr.heap=wd.heap∧fJ w.heap.size w wr) (fun i _=>a.length-(intOf i).toNat)
   case atStart=>exact⟨0,by omega,rfl,rfl,HBC.out⟩
   case round =>
    obtain⟨s,hp,rfl,hh,hbr⟩:=hrel
    have HH:=h_ hh
    have HBR:=h_ (fun n=>fB hbr n)
    have hcl:∀ g j,wr.cell? ⟨g,j,none⟩=wd.cell? ⟨g,j,none⟩:=fun g j=>by simp [fR,hh]
    have hle:=zc0 a b P
    clear hh hbr
    by_cases hlt:s<a.length-P∧s<b.length-P
    · obtain⟨x,hx⟩:∃ x,a[a.length-1-s]? =some x:=⟨_,fE (by omega)⟩
      obtain⟨y,hy⟩:∃ y,b[b.length-1-s]? =some y:=⟨_,fE (by omega)⟩
      have HM:=h_ (zgl hp hlt.1 hlt.2 hx hy)
      have ra:=(hcl _ _).trans (HRA2.out _ x hx)
      have rb:=(hcl _ _).trans (HRB2.out _ y hy)
      have hza:=HZA.out (by omega)
      have hzb:=HZB.out (by omega)
      have hca:=HCA.out (by omega)
      have hcb:=HCB.out (by omega)
      subst hza
      subst hzb
      have hm1:decide ((s:Int)<min (a.length:Int) (b.length:Int)-(P:Int))=true:=by simp;omega
      obtain⟨i1,hi1⟩:∃ i:Nat,i=a.length-1-s:=⟨_,rfl⟩
      obtain⟨i2,hi2⟩:∃ i:Nat,i=b.length-1-s:=⟨_,rfl⟩
      have ha1:(a.length:Int)-1-(s:Int)=(i1:Int):=by omega
      have ha2:(b.length:Int)-1-(s:Int)=(i2:Int):=by omega
      have hb1:i1<a.length:=by omega
      have hb2:i2<b.length:=by omega
      rw [←hi1] at ra
      rw [←hi2] at rb
      clear hx hy HRA2 HRB2 HZA HZB HCA HCB HQ HBC hcl gg gz gr gy hi1 hi2
      by_cases hxy:x=y
      · have HP2:=h_ (HM.out.1 hxy)
        subst hxy
        clear HM
        go_wp2_with fail
        go_quiet (fail)
        go_wp2_with fail
        go_roundw
        case rel=>exact⟨s+1,HP2.out,by go_num,HH.out,HBR.out _⟩
        case measure=>simp [intOf];omega
      · have HP2:=h_ (HM.out.2 hxy)
        have hne:¬ ((x:Int)=(y:Int)):=by omega
        clear HM
        go_wp2_with fail
        go_quiet (fail)
        go_wp2_with fail
        go_meet
        exact⟨by rw [←HP2.out],HH.out,HBR.out _⟩
    · have HP2:=h_ (zhY hp (by omega))
      have hm1:decide ((s:Int)<min (a.length:Int) (b.length:Int)-(P:Int))=false:=by simp;omega
      clear HRA2 HRB2 HZA HZB HCA HCB HQ HBC hcl gg gz gr gy
      go_wp2_with fail
      go_quiet (fail)
      go_wp2_with fail
      go_meet
      exact⟨by rw [←HP2.out],HH.out,HBR.out _⟩
  case rest =>
   obtain⟨rfl,hh,hbr⟩:=hcut
   have HZ2:=zc0 a b P
   have HBE:=h_ hbr
   have HXC:=h_ (show wc.heap[w.heap.size]? =_∧wc.heap[w.heap.size+1]? =_ from by rw [hh];exact HXD.out)
   have hcl2:∀ g j,wc.cell? ⟨g,j,none⟩=wd.cell? ⟨g,j,none⟩:=fun g j=>by simp [fR,hh]
   have hfz2:∀ g j,wc.frozen? ⟨g,j,none⟩=wd.frozen? ⟨g,j,none⟩:=fun g j=>by simp [fQ,hh]
   have eg:∀ j,wc.cell? ⟨w.heap.size,j,none⟩=_:=fun j=>(hcl2 _ _).trans (gg j)
   have ez:∀ j,wc.frozen? ⟨w.heap.size,j,none⟩=false:=fun j=>(hfz2 _ _).trans (gz j)
   have er:∀ j,wc.cell? ⟨w.heap.size+1,j,none⟩=_:=fun j=>(hcl2 _ _).trans (gr j)
   have ey:∀ j,wc.frozen? ⟨w.heap.size+1,j,none⟩=false:=fun j=>(hfz2 _ _).trans (gy j)
   clear gg gz gr gy HRA2 HRB2 hcl2 hfz2 hh hbr HBC HZA HZB HCA HCB HXD
   generalize hSS:du a b P=S at *
   generalize a.length=n at *
   generalize b.length=m at *
   have h64:(n:Int)≤20000000000000∧(m:Int)≤20000000000000∧(S:Int)≤n∧(S:Int)≤m∧(P:Int)≤n:=by omega
   obtain⟨f1,hf1⟩:∃ f1,f1=(if (n:Int)-S≤frm then frm+((m:Int)-n) else if (P:Int)≤frm then (m:Int)-S else frm):=⟨_,rfl⟩
   obtain⟨t1,ht1⟩:∃ t1,t1=(if til≤(P:Int) then til else if (n:Int)-S<til then til+((m:Int)-n) else (P:Int)):=⟨_,rfl⟩
   have HF:=h_ (HQ.out f1 t1 (by unfold dB;rw [←hf1,←ht1]))
   have HF1:=h_ hf1
   have HT1:=h_ ht1
   clear hf1 ht1 HQ
   go_upto_block 4 with fail
   go_cut [] (fun wx=>wx.heap[w.heap.size]? =some (.cells #[fH .i64 id,.int .i64 ev,.int .i64 f1,.int .i64 til,.string au,.string tx,.bool dn,.bool false] 52 (0,0))∧wx.heap[w.heap.size+1]? =some (.cells #[fH .i64 0,.int .i64 0,.int .i64 0,.int .i64 0,.string ⟨#[]⟩,.string ⟨#[]⟩,.bool false,.bool false] 52 (0,0))∧fJ w.heap.size w wx)
   case first =>
    rcases(by omega:(n:Int)-S≤frm∨frm<(n:Int)-S) with hA|hA
    · have hv:=HF1.out
      rw [if_pos hA] at hv
      have HV:=h_ hv
      clear hv
      go_wp2_with fail
      go_meet
      refine⟨by rw [HV.out];exact ft _ _ _ _ _ _ HXC.out.1,(fM _ _ _ _ (by simp only;omega)).trans HXC.out.2,fL HBE.out (by simp only;omega) _⟩
    · rcases(by omega:(P:Int)≤frm∨frm<(P:Int)) with hB|hB
      · have hv:=HF1.out
        rw [if_neg (fU.2 hA),if_pos hB] at hv
        have HV:=h_ hv
        clear hv
        go_wp2_with fail
        go_meet
        refine⟨by rw [HV.out];exact ft _ _ _ _ _ _ HXC.out.1,(fM _ _ _ _ (by simp only;omega)).trans HXC.out.2,fL HBE.out (by simp only;omega) _⟩
      · have hv:=HF1.out
        rw [if_neg (fU.2 hA),if_neg (fU.2 hB)] at hv
        have HV:=h_ hv
        clear hv
        go_wp2_with fail
        go_meet
        exact⟨by rw [HV.out];exact HXC.out.1,HXC.out.2,HBE.out⟩
   case rest =>
    clear eg ez er ey HXC HBE
    obtain⟨r1,r2,hbr⟩:=hcut
    have eg:∀ j,wc.cell? ⟨w.heap.size,j,none⟩=_:=fun j=>fp _ _ j _ 52 (0,0) r1
    have ez:∀ j,wc.frozen? ⟨w.heap.size,j,none⟩=false:=fun j=>by simp [fQ,r1]
    have er:∀ j,wc.cell? ⟨w.heap.size+1,j,none⟩=_:=fun j=>fp _ _ j _ 52 (0,0) r2
    have ey:∀ j,wc.frozen? ⟨w.heap.size+1,j,none⟩=false:=fun j=>by simp [fQ,r2]
    have HXC:=h_ (And.intro r1 r2)
    have HBE:=h_ hbr
    clear r1 r2 hbr
    go_upto_block 5 with fail
    go_cut [] (fun wx=>wx.heap[w.heap.size]? =some (.cells #[fH .i64 id,.int .i64 ev,.int .i64 f1,.int .i64 t1,.string au,.string tx,.bool dn,.bool false] 52 (0,0))∧wx.heap[w.heap.size+1]? =some (.cells #[fH .i64 0,.int .i64 0,.int .i64 0,.int .i64 0,.string ⟨#[]⟩,.string ⟨#[]⟩,.bool false,.bool false] 52 (0,0))∧fJ w.heap.size w wx)
    case first =>
     rcases(by omega:til≤(P:Int)∨(P:Int)<til) with hT|hT
     · have hv:=HT1.out
       rw [if_pos hT] at hv
       have HV:=h_ hv
       clear hv
       go_wp2_with fail
       go_meet
       exact⟨by rw [HV.out];exact HXC.out.1,HXC.out.2,HBE.out⟩
     · rcases(by omega:(n:Int)-S<til∨til≤(n:Int)-S) with hU|hU
       · have hv:=HT1.out
         rw [if_neg (fU.2 hT),if_pos hU] at hv
         have HV:=h_ hv
         clear hv
         go_wp2_with fail
         go_meet
         refine⟨by rw [HV.out];exact ft _ _ _ _ _ _ HXC.out.1,(fM _ _ _ _ (by simp only;omega)).trans HXC.out.2,fL HBE.out (by simp only;omega) _⟩
       · have hv:=HT1.out
         rw [if_neg (fU.2 hT),if_neg (Int.not_lt.2 hU)] at hv
         have HV:=h_ hv
         clear hv
         go_wp2_with fail
         go_meet
         refine⟨by rw [HV.out];exact ft _ _ _ _ _ _ HXC.out.1,(fM _ _ _ _ (by simp only;omega)).trans HXC.out.2,fL HBE.out (by simp only;omega) _⟩
    case rest =>
     clear eg ez er ey HXC HBE
     obtain⟨r1,r2,hbr⟩:=hcut
     have eg:∀ j,wc.cell? ⟨w.heap.size,j,none⟩=_:=fun j=>fp _ _ j _ 52 (0,0) r1
     have ez:∀ j,wc.frozen? ⟨w.heap.size,j,none⟩=false:=fun j=>by simp [fQ,r1]
     have er:∀ j,wc.cell? ⟨w.heap.size+1,j,none⟩=_:=fun j=>fp _ _ j _ 52 (0,0) r2
     have ey:∀ j,wc.frozen? ⟨w.heap.size+1,j,none⟩=false:=fun j=>by simp [fQ,r2]
     have HXC:=h_ (And.intro r1 r2)
     have HBE:=h_ hbr
     clear r1 r2 hbr
     rcases(by omega:t1≤f1∨f1<t1) with hle|hle
     · go_wp2_with fail
       refine bodyPost_ret (v:=.agg #[fH .i64 id,.int .i64 ev,.int .i64 0,.int .i64 0,.string au,.string tx,.bool dn,.bool true]) (by simp [results,Tryz.results202,go_sem,er]) rfl ?_
       refine(HF.out _ ?_).1 hle
       repeat refine fL ?_ (by simp only;omega) _
       exact HBE.out
     · go_wp2_with fail
       refine bodyPost_ret (v:=.agg #[fH .i64 id,.int .i64 ev,.int .i64 f1,.int .i64 t1,.string au,.string tx,.bool dn,.bool false]) (by simp [results,Tryz.results202,go_sem,er]) rfl ?_
       refine(HF.out _ ?_).2 (by first|exact hle|exact fU.2 hle)
       repeat refine fL ?_ (by simp only;omega) _
       exact HBE.out
end Go.Proofs.YtnlnmbcaongehaaGreatDoor
