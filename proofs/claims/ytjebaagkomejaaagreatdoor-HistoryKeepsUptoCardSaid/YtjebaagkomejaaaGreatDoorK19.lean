/- document.Follow: a comment moved from one text to another. document.Remove: a document without an event. edit.join: a document with two events joined. -/
import Derived.Lib.BufferRead
import Derived.Test.YtjebaagkomejaaaGreatDoorK15
import Derived.Test.YtjebaagkomejaaaGreatDoorK16
set_option linter.unusedVariables false
set_option linter.unusedSimpArgs false
set_option maxRecDepth 100000
set_option maxHeartbeats 12800000
open Go.Lib renaming hid→h_
open Go renaming World→Sj,heap_alloc_last→Sk,Value→Sl
open Go.RowKit renaming Below→Sm
open Go.RowKit.Below renaming heap_alloc→Sn,refl→Sp,heap_setCell→Sq
open Go.World renaming ownsRow_nil→Sr,size_alloc→Ss,iterPos→St
open Go.Value renaming int→Su,slice→Sv
open List renaming getElem?_eq_some_iff→Sw,mem_of_mem_take→Sx,mem_of_mem_drop→Sy,mem_of_getElem?→Sz,length_append→SA,flatMap_cons→SB,mem_append→SC,set_set→SD
open Nat renaming le_refl→SF
open Go.Value.slice renaming injEq→SG
open Go.Lib renaming byteCells→SH,runeCells→SI
namespace Go.Proofs.YtjebaagkomejaaaGreatDoor
open Go.RowKit
theorem zq (w:Sj)(xs ys:Array Sl)(T T':TypeId)(wx:Sj)(h:Sm (w.heap.size+2) ((w.alloc (.cells xs T)).alloc (.cells ys T')) wx) :
 wx.heap[w.heap.size]? =some (.cells xs T (0,0))∧wx.heap[w.heap.size+1]? =some (.cells ys T' (0,0)):=by
 refine⟨?_,?_⟩
 · rw [h.block _ (by omega),Sn _ _ _ (by simp)]
   exact Sk w _
 · rw [h.block _ (by omega)]
   have:=Sk (w.alloc (.cells xs T)) (.cells ys T')
   rwa [Ss] at this
theorem rX {w:Sj} {B:Nat} {v:Sl} {xs:List Nat} (h:w.ownsRow B 21 1 v xs.length (xs.map fun n:Nat=>Su .i32 (n:Int))):∃ g c z,v=.slice z xs.length c∧(0<xs.length→z=some ⟨g,0,none⟩)∧(0<xs.length→xs.length≤c)∧∀ (j x:Nat),xs[j]? =some x→w.cell? ⟨g,j,none⟩=some (.int .i32 (x:Int)):=by
 rcases h.2 with⟨rfl,h0⟩|⟨g,cap,cur,rfl,hB,hc,hnc,r⟩
 · refine⟨0,0,none,by rw [h0],fun hp=>by omega,fun hp=>by omega,fun j x hx=>?_⟩
   have:=(Sw.1 hx).1
   omega
 · refine⟨g,cap,_,rfl,fun _=>rfl,fun _=>hnc,fun j x hx=>?_⟩
   rw [h.cellAt j (by have:=(Sw.1 hx).1;omega)]
   simp [hx]
theorem JL (w:Sj)(o o':Obj):Sm w.heap.size w ((w.alloc o).alloc o'):=((Sp _ _).alloc (SF _) _).alloc (by simp) _
theorem kO (c:Cm)(a b:List Nat):nl c a b=(let q:=f_ a.length b.length (alike a b) (fN a b (alike a b)) c.frm c.til;if q.2≤q.1 then { c with frm:=0,til:=0,lost:=true } else { c with frm:=q.1,til:=q.2 }):=rfl
theorem o_ (w:Sj)(ds zd:Array Sl):((w.alloc (.cells ds 27)).alloc (.cells zd 27)).heap[w.heap.size]? =some (.cells ds 27 (0,0))∧((w.alloc (.cells ds 27)).alloc (.cells zd 27)).heap[w.heap.size+1]? =some (.cells zd 27 (0,0)):=by
 refine⟨(heap_alloc_old _ _ (by simp)).trans (Sk _ _),?_⟩
 have:=Sk (w.alloc (.cells ds 27)) (.cells zd 27)
 rw [Ss] at this
 exact this
theorem uO {id:Int} {x:Cm} (h:¬ x.ev=id):dQ id x=x:=if_neg h
theorem xM {id:Int} {x:Cm} (h:x.ev=id):dQ id x={ x with frm:=0,til:=0,lost:=true }:=if_pos h
theorem dK.skip {α:Type} {f:α→α} {xs zs:List α} {k:Nat} {x:α} (h:dK f xs zs k)(hx:xs[k]? =some x)(hf:f x=x):dK f xs zs (k+1):=by
 refine⟨h.1,fun i=>?_⟩
 rw [h.2 i]
 by_cases hi:i<k
 · rw [if_pos hi,if_pos (by omega)]
 · rw [if_neg hi]
   by_cases he:i=k
   · subst he
     rw [hx,if_pos (by omega)]
     show some x=some (f x)
     rw [hf]
   · rw [if_neg (by omega)]
theorem D4 {id:Int} {d:Doc} {w7 wr:Sj} {B j cb cp:Nat} {zs:List Cm} {y:Cm} (hup:dK (dQ id) d.cM zs j)(how:wr.ownsRow B 102 8 (.slice (some ⟨cb,0,none⟩) d.cM.length cp) d.cM.length (zs.flatMap Cm.enc))(hkp:Kept (fun b=>bp d.ca d.cM b) w7 wr)
 (hx:d.cM[j]? =some y) (he:d.ca=some ⟨cb,0,none⟩) (hq:y.ev=id) :
 dK (dQ id) d.cM (zs.set j (dQ id y)) (j+1)∧(((wr.setCell ⟨cb,j*8+2,none⟩ (.int .i64 0)).setCell ⟨cb,j*8+3,none⟩ (.int .i64 0)).setCell ⟨cb,j*8+7,none⟩ (.bool true)).ownsRow B 102 8 (.slice (some ⟨cb,0,none⟩) d.cM.length cp) d.cM.length ((zs.set j (dQ id y)).flatMap Cm.enc) ∧
  Kept (fun b=>bp d.ca d.cM b) w7 (((wr.setCell ⟨cb,j*8+2,none⟩ (.int .i64 0)).setCell ⟨cb,j*8+3,none⟩ (.int .i64 0)).setCell ⟨cb,j*8+7,none⟩ (.bool true)):=by
 have hj:j<d.cM.length:=(Sw.1 hx).1
 have hz:=hup.at_ hx
 have hjz:j<zs.length:=by rw [hup.1];exact hj
 have hs:bp d.ca d.cM cb:=⟨fun e=>by rw [e] at hj;simp at hj,⟨cb,0,none⟩,he,rfl⟩
 have h1:=fH (enc:=Cm.enc) (y:={ y with frm:=0 }) (v:=.int .i64 0) (j:=2) (fun _=>rfl) how hz rfl (by decide)
 have h2:=fH (enc:=Cm.enc) (k:=j) (x:={ y with frm:=0 }) (y:={ y with frm:=0,til:=0 }) (v:=.int .i64 0) (j:=3) (fun _=>rfl) h1 (by simp [hjz]) rfl (by decide)
 have h3:=fH (enc:=Cm.enc) (k:=j) (x:={ y with frm:=0,til:=0 }) (y:={ y with frm:=0,til:=0,lost:=true }) (v:=.bool true) (j:=7) (fun _=>rfl) h2 (by simp [hjz]) rfl (by decide)
 rw [SD,SD] at h3
 refine⟨hup.step hx,?_,((hkp.setCell (.inr hs) _).setCell (.inr hs) _).setCell (.inr hs) _⟩
 rw [xM hq]
 exact h3
theorem Ge (d:Doc)(k eb cap:Nat)(he:d.ea=some ⟨eb,0,none⟩∧d.ec=cap)(hk:k<d.eV.length):d.enc.toArray.setIfInBounds 6 (.slice (some ⟨eb,0,none⟩) (d.eV.length-1) cap)=({ d with eV:=bI d.eV k }:Doc).enc.toArray:=by
 obtain⟨h1,h2⟩:=he
 simp [Doc.enc,h1,h2,jj _ _ hk]
theorem Gd {d:Doc} {id:Int} {k eb cap n:Nat} {w5:Sj} (hl:d.lies w5)(hu:∀ b,d.uses b→n≤b)(hap:d.apart)(he:d.ea=some ⟨eb,0,none⟩∧d.ec=cap)(hk:k<d.eV.length)(w6 w7 w8 w9:Sj)
 (hS:ah 7 Ev.enc Flat w6 (some ⟨eb,0,none⟩) (bI d.eV k)) (k6:Kept (fun b=>b=eb) w5 w6) (g:Nat) (hg:g<n) (k7:Kept (fun b=>b=g) w6 w7) (k8:Kept (fun b=>bp d.ca d.cM b) w7 w8) (o8:d.cM≠[]→∃ B,w8.ownsRow B 102 8 (.slice d.ca d.cM.length d.cc) d.cM.length ((d.cM.map (dQ id)).flatMap Cm.enc)) (g':Nat) (hg':g'<n) (k9:Kept (fun b=>b=g') w8 w9) :
 ({ d with eV:=bI d.eV k,cM:=d.cM.map (dQ id) }:Doc).lies w9∧∀ b,({ d with eV:=bI d.eV k,cM:=d.cM.map (dQ id) }:Doc).uses b→n≤b:=by
 obtain⟨t,t1,t2,t3,t4⟩:=hap
 have s6:=k6.size
 have s7:=k7.size
 have s8:=k8.size
 have s9:=k9.size
 have Jl:bp d.ea d.eV eb:=⟨fun e=>by rw [e] at hk;simp at hk,⟨eb,0,none⟩,he.1,rfl⟩
 have htb:=t2 eb Jl
 have hmem:∀ x∈bI d.eV k,x∈d.eV:=fun x hx=>by
  unfold bI at hx
  rcases SC.1 hx with h|h
  · exact Sx h
  · exact Sy h
 have hne:∀ b,d.uses b→b≠g∧b≠g':=fun b h=>by have:=hu b h;omega
 have hev:∀ b,gi (some ⟨eb,0,none⟩) (bI d.eV k) b→gi d.ea d.eV b:=fun b h=>by
  rcases h with⟨_,h2⟩|⟨x,hx,h⟩
  · obtain⟨a,ha,hb⟩:=h2
    obtain rfl:=Option.some.inj ha
    exact .inl ⟨fun e=>by rw [e] at hk;simp at hk,⟨eb,0,none⟩,he.1,hb⟩
  · exact .inr ⟨x,hmem x hx,h⟩
 have qv:∀ b,({ d with eV:=bI d.eV k,cM:=d.cM.map (dQ id) }:Doc).uses b→d.uses b:=fun b h=>by
  rcases h with h|h|⟨h1,h2⟩
  · exact .inl h
  · exact .inr (.inl (hev b (he.1▸h)))
  · exact .inr (.inr ⟨fun e=>h1 (by show d.cM.map _=[];rw [e];rfl),h2⟩)
 refine⟨⟨?_,?_,?_⟩,fun b h=>hu b (qv b h)⟩
 · refine ah.frame hl.1 (by omega) (fun b hb=>?_) (fun _ _ _=>trivial)
   have h1:=aP hl.1 hb
   have h2:=hne b (.inl hb)
   have:=t1 b hb
   rw [k9.block b (by omega) h2.2,k8.block b (by omega) (fun q=>by have:=t4 b q;omega),k7.block b (by omega) h2.1,k6.block b h1 (fun e=>by rw [e] at this;omega)]
 · have yj:dy w6 (some ⟨eb,0,none⟩) (bI d.eV k):=by
    rcases hS with h|⟨b,o,ha,hb,hx⟩
    · exact .inl h
    · refine .inr ⟨b,o,ha,hb,fun i x h=>⟨(hx i x h).1,?_⟩⟩
      have hxm:=hmem x (Sz h)
      have hxl:x.lies w5:=gh hl.2.1 hxm
      exact Ev.frame hxl s6 fun b hb=>k6.block b (Ev.uses_lt hxl hb) (fun e=>by have:=t3 x hxm b hb;rw [e] at this;omega)
   show dy w9 d.ea (bI d.eV k)
   rw [he.1]
   refine dy.frame yj (by omega) fun b hb=>?_
   have h1:=ej yj hb
   have hb2:=hev b hb
   have h2:=hne b (.inr (.inl hb2))
   rw [k9.block b (by omega) h2.2,k8.block b (by omega) (fun q=>by
    have:=t4 b q
    rcases hb2 with h|⟨x,hx,h⟩
    · have:=t2 b h;omega
    · have:=t3 x hx b h;omega),k7.block b (by omega) h2.1]
 · by_cases hc0:d.cM=[]
   · exact .inl (show d.cM.map _=[] by rw [hc0];rfl)
   obtain⟨B,o8'⟩:=o8 hc0
   have o8'':w8.ownsRow B 102 8 (.slice d.ca (d.cM.map (dQ id)).length d.cc) (d.cM.map (dQ id)).length ((d.cM.map (dQ id)).flatMap Cm.enc):=by rw [List.length_map];exact o8'
   obtain⟨a',c',he',hS'⟩:=aA (k:=8) (enc:=Cm.enc) (Ok:=Flat) (fun _=>rfl) o8'' (fun _ _=>trivial)
   simp only [SG] at he'
   obtain⟨rfl,_,rfl⟩:=he'
   show ah 8 Cm.enc Flat w9 d.ca (d.cM.map (dQ id))
   refine ah.frame hS' (by omega) (fun b hb=>?_) (fun _ _ _=>trivial)
   have hb':bp d.ca d.cM b:=⟨fun e=>hb.1 (by rw [e];rfl),hb.2⟩
   have h1:=aP hS' hb
   rw [k9.block b h1 (hne b (.inr (.inr hb'))).2]
theorem BO {d d':Doc} {id:Int} {k:Nat} {x:Ev} (h0:a_ d=0)(hc:d'.c=d.c)(hx:d.eV[k]? =some x)(hf:aT d.c.eV id=some x.c) :
 br d.c id=(0,⟨d'.hd,d'.rG,(bI d'.eV k).map Ev.c,d'.cM.map (dQ id)⟩):=by
 have h1:cErr d.c=0:=(bA d).symm.trans h0
 have hok:=iy h1
 have hid:x.c.id=id:=by
  have:=List.find?_some hf
  simpa [evAt] using this
 have hk:d.c.eV[k]? =some x.c:=by show(d.eV.map Ev.c)[k]? =_;rw [List.getElem?_map,hx];rfl
 have hfl:=nn hok.ids k x.c hk
 unfold br
 rw [if_neg (fun h=>h h1),hf,if_neg (by simp)]
 have e1:(bI d'.eV k).map Ev.c=bI d.c.eV k:=by
  have:d'.eV.map Ev.c=d.c.eV:=congrArg DocC.eV hc
  rw [←this];unfold bI;simp [List.map_take,List.map_drop]
 have e2:d'.hd=d.c.hd:=congrArg DocC.hd hc
 have e3:d'.rG=d.c.rG:=congrArg DocC.rG hc
 have e4:d'.cM=d.c.cM:=congrArg DocC.cM hc
 rw [e1,e2,e3,e4,←hfl,hid]
theorem zL {d D:Doc} {k:Int} (hf:d.fits)(h:D.c=(br d.c k).2)(h0:(br d.c k).1=0):D.fits:=by
 have hc:=Doc.fits.c (n:=4000000) hf hf.2.2.2.2.2.2.1 hf.2.2.2.2.2.2.2.2.1 hf.2.2.2.2.2.2.2.2.2.2
 obtain⟨q1,q2,q3,q4,q5,q6,q7⟩:=hc
 have:D.c.fits 4000000:=by
  rw [h]
  unfold br at h0 ⊢
  split at h0
  · rename_i hn;exact absurd h0 hn
  · rename_i hn
    rw [if_neg hn]
    split at h0
    · cases h0
    · rename_i hn2
      rw [if_neg hn2]
      refine⟨q1,q2,q3,fun x hx=>q4 x (List.mem_filter.1 hx).1,Nat.le_trans (List.length_filter_le _ _) q5,fun c hc=>?_,by simpa using q7⟩
      obtain⟨c0,hc0,rfl⟩:=List.mem_map.1 hc
      have:=q6 c0 hc0
      unfold dQ
      split
      · exact⟨this.1,this.2.1,by unfold i64;simp,by unfold i64;simp,this.2.2.2.2⟩
      · exact this
 exact this.doc (SF _)
theorem sC {a b y:Ev} (ha:a.fits)(hb:b.fits)(h:bS a.c b.c=0)(hy:y.c=og a.c b.c):y.fits:=by
 rw [←Ev.fits_c,hy]
 have h1:=(Ev.fits_c a).2 ha
 have h2:=(Ev.fits_c b).2 hb
 obtain⟨p1,p2,p3,p4,p5,p6,p7,p8,p9⟩:=h1
 obtain⟨r1,r2,r3,r4,r5,r6,r7,r8,r9⟩:=h2
 have hl:a.c.rows.length+b.c.rows.length≤4:=by
  unfold bS at h
  split at h
  · cases h
  · split at h
    · cases h
    · omega
 refine⟨p1,?_,?_,p4,p5,p6,p7,?_,?_⟩
 · show i64 (min a.c.inn b.c.inn)
   unfold i64 at *;omega
 · show i64 (max a.c.out b.c.out)
   unfold i64 at *;omega
 · intro r hr
   rcases SC.1 hr with hr|hr
   · exact p8 r hr
   · exact r8 r hr
 · show(a.c.rows++b.c.rows).length≤_
   rw [SA];omega
theorem jM (n i j:Int)(w:Sj):Calls Tryz.prog 136 #[.int .i64 n,.int .i64 i,.int .i64 j] w fun e w'=>e=.returned (.tuple #[.int .i64 (limA n i),.int .i64 (limB n i j)])∧w'=w:=by
 go_enter Tryz.func136,Tryz.ntmps136
 go_wp2_with fail
 refine bodyPost_ret (v:=.tuple #[.int .i64 (limA n i),.int .i64 (limB n i j)]) (by simp [results,Tryz.results136,go_sem,limA,limB]) rfl ?_
 exact⟨rfl,rfl⟩
def chars (s:ByteArray):List Nat:=if bw s=true then runes s else []
def je (s:ByteArray)(w:Sj)(e:Ending)(w':Sj):Prop:=∃ v,e=.returned v∧w'.ownsRow w.heap.size 21 1 v (chars s).length ((chars s).map fun n:Nat=>Su .i32 (n:Int))∧Sm w.heap.size w w'
theorem kT {w:Sj} {B C e k n:Nat} {v:Sl} {xs:List Sl} (h:w.ownsRow C e k v n xs)(hB:B≤C):w.ownsRow B e k v n xs :=
 ⟨h.1,h.2.imp id fun⟨g,cap,cur,q1,q2,q3⟩=>⟨g,cap,cur,q1,by omega,q3⟩⟩
theorem vB (s:ByteArray)(w:Sj)(hs:s.size≤4000000)(hE:Env w):Calls Tryz.prog 225 #[.string s] w (je s w):=by
 obtain⟨i0,hi,hz0,hz1,hz2⟩:=info_parts Tryz.info21m
 have HI:=h_ hi;have J0:=h_ hz0;have J1:=h_ hz1;have J2:=h_ hz2
 clear hi hz0 hz1 hz2
 have nN:=h_ (dJ s w hs hE)
 have fQ:=h_ (fun(w':Sj) (h:bw s=false) (hb:Sm w.heap.size w w')=>(show je s w (.returned (.slice none 0 0)) w' from⟨_,rfl,by unfold chars;rw [if_neg (by rw [h];exact Bool.false_ne_true)];exact Sr _ _ _ _,hb⟩))
 have HQ:=h_ (fun(v:Sl) (xs:List Nat) (w1 w':Sj) (hv:bw s=true) (hw:w.heap.size≤w1.heap.size) (he:xs=runes s) (ho:w'.ownsRow (w1.heap.size+1) 21 1 v xs.length (xs.map fun n:Nat=>Su .i32 (n:Int))) (hb:Sm w.heap.size w w')=>(show je s w (.returned v) w' from⟨v,rfl,by unfold chars;rw [if_pos hv];subst he;exact kT ho (by omega),hb⟩))
 generalize je s w=Q at *
 clear hE
 go_enter Tryz.func225,Tryz.ntmps225
 go_wp2_with fail
 refine nN.out.mono ?_
 rintro e w1 ⟨rfl,hb1⟩
 have hs1:=hb1.size
 clear nN
 have HB1:=h_ hb1
 generalize bw s=V at *
 cases V with
 | false =>
   have HF:=h_ (fQ.out w1 rfl hb1)
   clear HQ fQ hb1
   go_wp2_with fail
   exact HF.out
 | true =>
   clear hb1 fQ
   go_wp2_with fail
   go_loopw [3] (fun v wr=>kt s w1 v wr) (fun _ wr=>s.size-wr.iterPos w1.heap.size)
   case atStart=>exact⟨0,s.size,[],rfl,by omega,by simp,by simp,Sr _ _ _ _,Sj.iter_heap w1 s 0,(Sp _ _).alloc (SF _) _⟩
   case round =>
    obtain⟨pos,b,xs,hp,hb,hkp,hks,hown,hit,hbe⟩:=hrel
    have hpos:=h_ (show wr.iterPos w1.heap.size=pos by simp [St,hit])
    by_cases hlt:pos<s.size
    · obtain⟨c,rfl,hn⟩:=ia s b pos hlt hb
      have hwd:=width_pos s pos hlt
      have hle:=decode_le s pos
      have hnx:∀ ty,(Instr.next (.pointer (some ⟨w1.heap.size,0,none⟩)) true ty).run Tryz.prog wr=_:=fun ty=>Lib.run_next_any_at wr w1.heap.size s pos ty hit hlt
      rw [hn] at hp
      have HP:=h_ hp
      generalize (Utf8.decode s pos).1=x at *
      generalize (Utf8.decode s pos).2=d at *
      have hgl:w1.heap.size<wr.heap.size:=(Array.getElem?_eq_some_iff.1 hit).1
      have hown2:=ownsRow_iterAt hown (show w1.heap.size<w1.heap.size+1 by omega) s (pos+d)
      have HI2:=h_ (Lib.iterAt_heap wr w1.heap.size s pos (pos+d) hit)
      have hsz:(wr.iterAt w1.heap.size s (pos+d)).heap.size=wr.heap.size:=Lib.iterAt_size _ _ _ _
      have pJ:=h_ (Lib.below_iterAt hbe (SF _) s (pos+d))
      have wU:=h_ (fun j hj=>(hown.lt j hj).1)
      clear hown hn hit hbe hp
      go_wp2_with (at_builtin;refine aX _ _ rfl (.tmp 14) (.tmp 16) 203 rfl (w1.heap.size+1) 21 i0 _ 1 4 Tryz.underlying203 HI.out J0.out J1.out J2.out rfl (by decide) _ _ _ rfl hown2 _ rfl (by simp [hsz]) rfl ?h1 ?h63 ?hb ?hbase ?_)
      case h1=>first|rfl|(intro u hu;simp at hu;subst hu;rfl)
      case h63=>unfold maxLen;omega
      case hb=>omega
      case hbase=>omega
      intro v' w2 hown' hgrow
      have Ho:w2.heap[w1.heap.size]? =some (.stringIter s (pos+d)):=by
       rw [hgrow.block w1.heap.size (by simp;omega) (fun h=>by have:=wU.out w1.heap.size h.symm;omega),Sn _ _ _ (by omega)]
       exact HI2.out
      have R:kt s w1 v' w2:=⟨pos+d,c,xs++[x],by rw [List.append_assoc];exact HP.out,by omega,by simp;omega,by simp;omega,by simpa using hown',Ho,(pJ.out.alloc (by omega) _).grown hgrow (by simp;omega) (fun j hj=>by have:=wU.out j hj;omega)⟩
      have Au:w2.iterPos w1.heap.size=pos+d:=by simp [St,Ho]
      clear hown' hgrow hown2
      go_wp2_with fail
      go_roundw
      case rel=>exact R
      case measure=>rw [Au,hpos.out];omega
    · have hnx:∀ ty,(Instr.next (.pointer (some ⟨w1.heap.size,0,none⟩)) true ty).run Tryz.prog wr=_:=fun ty=>Lib.run_next_end_at wr w1.heap.size s pos ty hit hlt
      rw [gK s b pos hlt,List.append_nil] at hp
      have HF:=h_ (HQ.out u3 xs w1 wr (by first|rfl|trivial) hs1 hp hown (HB1.out.trans (hbe.mono hs1)))
      clear hown hit hbe hp HQ HB1
      go_wp2_with fail
      exact HF.out
def bU (l:List Nat):List UInt8:=l.flatMap fun(r:Nat)=>Lib.encodeRune r
theorem lH (l:List Nat):(bU l).length≤4*l.length:=by
 induction l with
 | nil=>simp [bU]
 | cons r l ih =>
   have:=(Lib.runeCells_le r).2
   rw [Lib.runeCells_length] at this
   simp only [bU,SB,SA,List.length_cons] at ih ⊢
   omega
theorem oL (l:List Nat)(k r:Nat)(h:l[k]? =some r):SH (bU (l.take (k+1)))=SH (bU (l.take k))++SI r:=by
 rw [List.take_add_one,h,←Lib.byteCells_encodeRune]
 simp [bU,SH]
def jU (w:Sj)(a:Option Addr)(l:List Nat):Prop:=ah 1 (fun n:Nat=>[Su .i32 (n:Int)]) Flat w a l
theorem jU.later {w w':Sj} {a:Option Addr} {l:List Nat} (h:jU w a l)(hb:Sm w.heap.size w w'):jU w' a l:=ah.keeps Flat.keeps w w' a l hb h
def vJ (l:List Nat)(w:Sj)(k:Nat)(v:Sl)(wr:Sj):Prop:=wr.ownsRow w.heap.size 5 1 v (bU (l.take k)).length (SH (bU (l.take k)))∧Sm w.heap.size w wr
theorem vJ.step {l:List Nat} {w wr w1 w2:Sj} {k r:Nat} {v v':Sl} {o:Obj} (h:vJ l w k v wr)(hr:l[k]? =some r)(hb:Sm wr.heap.size wr w1)(ho:w2.ownsRow w.heap.size 5 1 v' ((bU (l.take k)).length+(SI r).length) (SH (bU (l.take k))++SI r))(hg:(w1.alloc o).grownBy w2 v.ownBlock):vJ l w (k+1) v' w2:=by
 obtain⟨h1,h2⟩:=h
 have hs:=hb.size
 have hs2:=h2.size
 refine⟨?_,((h2.trans (hb.mono hs2)).alloc (by omega) o).grown hg (by simp;omega) (fun j hj=>(h1.lt j hj).1)⟩
 have e:=oL l k r hr
 rw [←e] at ho
 have hl:(bU (l.take (k+1))).length=(bU (l.take k)).length+(SI r).length:=by
  have:=congrArg List.length e
  simpa [SH] using this
 rw [hl]
 exact ho
theorem of_string {w:Sj} {B n:Nat} {v:Sl} {l:List UInt8} (h:w.ownsRow B 5 1 v l.length (SH l)):(convert 230 9 v).run Tryz.prog w=.ok (.string ⟨l.toArray⟩) w:=by
 rcases h.2 with⟨rfl,h0⟩|⟨g,cap,cur,rfl,_,hg,_,_,_,htk⟩
 · obtain rfl:=List.length_eq_zero_iff.1 h0
   exact Lib.run_convert_nil_bytes w 230 9 5 0 Tryz.underlying230 Tryz.underlying5 Tryz.underlying9
 · refine run_convert_bytes_back w 230 9 5 ⟨g,0,none⟩ cap l Tryz.underlying230 Tryz.underlying5 Tryz.underlying9 ?_
   exact Lib.bytes_of_row hg (by simpa using htk)
theorem qQ (a:Option Addr)(cap:Nat)(l:List Nat)(w:Sj)(h:jU w a l)(hl:l.length≤4000000)(hv:∀ r∈l,r≤2147483647∧0≤idx r):Calls Tryz.prog 226 #[.slice a l.length cap] w fun e w'=>e=.returned (.string (fM l))∧Sm w.heap.size w w':=by
 have HL:=h_ h
 have HV:=h_ hv
 have H0:=h_ (show vJ l w 0 (.slice none 0 0) w from⟨Sr _ _ _ _,Sp _ _⟩)
 have HQ:=h_ (fun(v:Sl) (wr:Sj) (h:vJ l w l.length v wr)=>(show(convert 230 9 v).run Tryz.prog wr=.ok (.string (fM l)) wr∧Sm w.heap.size w wr from by
  have h1:=h.1
  rw [List.take_length] at h1
  exact⟨of_string (n:=0) h1,h.2⟩))
 clear h hv
 go_enter Tryz.func226,Tryz.ntmps226
 go_wp2_with fail
 go_loopw [3,8] (fun v i wr=>∃ k:Nat,k≤l.length∧i=.int .i64 k∧vJ l w k v wr) (fun _ i _=>l.length-(intOf i).toNat)
 case atStart=>exact⟨0,by omega,rfl,H0.out⟩
 case round =>
  clear H0
  obtain⟨k,hk,rfl,hrel⟩:=hrel
  by_cases hlt:k<l.length
  · obtain⟨b,off,r,rfl,hbl,hx,hc,_⟩:=ah.at_ (HL.out.later hrel.2) hlt
    have hc0:wr.cell? ⟨b,off+k,none⟩=some (.int .i32 (r:Int)):=by
     have:=hc 0 _ rfl
     simpa using this
    have LR:=HV.out r (Sz hx)
    have O2:=h_ (fun w1=>jN (r:Int) w1 (by omega) (by omega))
    have hrl:(bU (l.take k)).length≤16000000:=by
     have:=lH (l.take k)
     have h2:(l.take k).length≤k:=List.length_take_le _ _
     omega
    have Jh:=hrel.2.size
    have Nc:=h_ (fun(w1:Sj) (hb:Sm wr.heap.size wr w1)=>Tryz.utf8_AppendRune w.heap.size u3 (bU (l.take k)).length (SH (bU (l.take k))) (r:Int) (by omega) (by omega) w1 (aI hrel.1 hb) (by omega) (by have:=hb.size;omega))
    have HST:=h_ (fun(w1 w2:Sj) (v':Sl) (o:Obj) (hb:Sm wr.heap.size wr w1) (ho:w2.ownsRow w.heap.size 5 1 v' ((bU (l.take k)).length+(SI r).length) (SH (bU (l.take k))++SI r)) (hg:(w1.alloc o).grownBy w2 u3.ownBlock)=>vJ.step hrel hx hb ho hg)
    clear hrel hx hc
    have hi0:=LR.2
    clear LR
    generalize idx (r:Int)=I at *
    go_wp2_with fail
    refine(O2.out _).mono ?_
    rintro e w1 ⟨rfl,hb1⟩
    go_wp2_with fail
    refine(Nc.out _ hb1).mono ?_
    rintro e w2 ⟨v',rfl,ho,o,hg⟩
    have R:=HST.out _ _ _ _ hb1 ho hg
    clear ho hg hb1 HST Nc
    go_wp2_with fail
    go_roundw
    case rel=>exact⟨k+1,by omega,by go_num,R⟩
    case measure=>simp [intOf];omega
  · obtain rfl:k=l.length:=by omega
    obtain⟨hcv,hbe⟩:=HQ.out _ _ hrel
    clear hrel HL HV
    go_wp2_with fail
    go_ret
    exact⟨rfl,hbe⟩
theorem lf (s:ByteArray):∀ b pos r,r∈c_ s b pos→r≤1114111
 | 0,pos,r,h=>by simp [c_] at h
 | b+1,pos,r,h=>by
   unfold c_ at h
   split at h
   · rcases List.mem_cons.1 h with rfl|h
     · exact decode_le s pos
     · exact lf s b _ r h
   · simp at h
theorem AP {α:Type} (f:α→Sl)(l:List α):(l.flatMap fun n=>[f n])=l.map f:=by
 induction l with
 | nil=>rfl
 | cons x l ih=>rw [SB,ih];rfl
theorem Eh (n:Nat)(i j:Int):∃ p q:Nat,p≤q∧q≤n∧limA n i=p∧limB n i j=q:=by
 refine⟨(limA n i).toNat,(limB n i j).toNat,?_,?_,?_,?_⟩<;>(simp only [limA,limB];omega)
theorem tA {w:Sj} {g p q:Nat} {l:List Nat} (h:jU w (some ⟨g,0,none⟩) l):jU w (some ⟨g,p,none⟩) ((l.take q).drop p):=by
 have h1:=ah.drop (ah.take h q) p
 rwa [Nat.zero_add] at h1
theorem kp (s:ByteArray)(i j:Int)(w:Sj)(hs:s.size≤4000000)(hE:Env w):Calls Tryz.prog 189 #[.string s,.int .i64 i,.int .i64 j] w fun e w'=>e=.returned (.string (dO s i j))∧Sm w.heap.size w w':=by
 have tY:=h_ (vB s w hs hE)
 have hcl:(chars s).length≤4000000:=by
  unfold chars
  split
  · have:(runes s).length≤s.size:=eC s s.size 0
    omega
  · simp
 have hcv:∀ r∈chars s,r≤2147483647∧0≤idx r:=by
  unfold chars
  split
  · rename_i hv
    intro r hr
    unfold bw at hv
    rw [Bool.and_eq_true,List.all_eq_true] at hv
    exact⟨by have:=lf s _ _ r hr;omega,by simpa using hv.2 r hr⟩
  · intro r hr;simp at hr
 have hsl:dO s i j=fM (((chars s).take (limB (chars s).length i j).toNat).drop (limA (chars s).length i).toNat):=rfl
 obtain⟨p,q,hpq,NL,hp,hq⟩:=Eh (chars s).length i j
 rw [hp,hq] at hsl
 simp only [Int.toNat_natCast] at hsl
 have M7:=h_ (show je s w=fun e w'=>∃ v,e=.returned v∧w'.ownsRow w.heap.size 21 1 v (chars s).length ((chars s).map fun n:Nat=>Su .i32 (n:Int))∧Sm w.heap.size w w' from rfl)
 rw [M7.out] at tY
 generalize dO s i j=R at *
 generalize chars s=l at *
 subst hsl
 have hp':min (max i 0) (l.length:Int)=(p:Int):=hp
 have hq':min (max j (p:Int)) (l.length:Int)=(q:Int):=by rw [←hp];exact hq
 have F3:=h_ (fun(w1:Sj) (a:Option Addr) (c:Nat) (h:jU w1 a ((l.take q).drop p))=>qQ a c ((l.take q).drop p) w1 h (by simp;omega) (fun r hr=>hcv r (Sx (Sy hr))))
 have pH:=h_ (show((l.take q).drop p).length=q-p from by simp;omega)
 generalize fM ((l.take q).drop p)=R at *
 clear hE hcv hp hq M7
 go_enter Tryz.func189,Tryz.ntmps189
 go_wp2_with fail
 refine tY.out.mono ?_
 rintro e w1 ⟨v,rfl,hown,hb1⟩
 have hS:=aA (k:=1) (enc:=fun n:Nat=>[Su .i32 (n:Int)]) (Ok:=Flat) (xs:=l) (fun _=>rfl) (by rw [AP];exact hown) (fun _ _=>trivial)
 obtain⟨a,c,rfl,hS⟩:=hS
 have HOW:=h_ hown
 have HB1:=h_ hb1
 have Jv:=h_ hS
 clear hown hS hb1 tY
 rcases HOW.out.2 with⟨h0,hn⟩|⟨g,cap,cur,h0,_,_,hnc,_⟩
 · simp only [SG] at h0
   obtain⟨rfl,hl0,rfl⟩:=h0
   obtain rfl:p=0:=by omega
   obtain rfl:q=0:=by omega
   have HO:=h_ (F3.out w1 none 0 (.inl (by simp)))
   rw [pH.out] at HO
   clear HOW Jv F3 pH hpq NL
   have e1:min (max i 0) (0:Int)=0:=by omega
   have e2:min (max j 0) (0:Int)=0:=by omega
   rw [hn] at hp' hq' ⊢
   clear hp' hq' hl0 hn
   go_wp2_with fail
   refine HO.out.mono ?_
   rintro e w2 ⟨rfl,hb2⟩
   have hbe:=HB1.out.trans (hb2.mono HB1.out.size)
   go_wp2_with fail
   go_ret
   exact⟨rfl,hbe⟩
 · simp only [SG] at h0
   obtain⟨rfl,_,rfl⟩:=h0
   have hqc:q≤c:=by omega
   by_cases hpc:p=c
   · subst hpc
     obtain rfl:q=p:=by omega
     have HO:=h_ (F3.out w1 (some ⟨g,0,none⟩) 0 (.inl (by simp)))
     rw [pH.out,Nat.sub_self] at HO
     clear HOW Jv F3 pH
     go_wp2_with fail
     refine HO.out.mono ?_
     rintro e w2 ⟨rfl,hb2⟩
     have hbe:=HB1.out.trans (hb2.mono HB1.out.size)
     go_wp2_with fail
     go_ret
     exact⟨rfl,hbe⟩
   · have HO:=h_ (F3.out w1 (some ⟨g,p,none⟩) (c-p) (tA Jv.out))
     rw [pH.out] at HO
     clear HOW Jv F3 pH
     go_wp2_with fail
     refine HO.out.mono ?_
     rintro e w2 ⟨rfl,hb2⟩
     have hbe:=HB1.out.trans (hb2.mono HB1.out.size)
     go_wp2_with fail
     go_ret
     exact⟨rfl,hbe⟩
def gF (l:List Run)(w:Sj)(k:Nat)(wr:Sj):Prop:=∃ av cv,wr.heap[w.heap.size+1]? =some (.cells #[.slice av (cN (l.take k)).length cv] 75 (0,0))∧wr.ownsRow (w.heap.size+2) 77 5 (.slice av (cN (l.take k)).length cv) (cN (l.take k)).length ((cN (l.take k)).flatMap Run.enc)∧wr.heap[w.heap.size]? =some (.cells #[.slice none 0 0] 75 (0,0))∧Sm w.heap.size w wr
def qZ (l:List Run)(w:Sj)(e:Ending)(w':Sj):Prop:=∃ r:Row,e=.returned (.agg r.enc.toArray)∧r.runs=cN l∧w'.ownsRow w.heap.size 77 5 (.slice r.at_ r.runs.length r.cap) r.runs.length (r.runs.flatMap Run.enc)∧Sm w.heap.size w w'
theorem gF.below {l:List Run} {w wr w1:Sj} {k:Nat} (h:gF l w k wr)(hb:Sm wr.heap.size wr w1):gF l w k w1:=by
 obtain⟨av,cv,h1,h2,h3,h4⟩:=h
 exact⟨av,cv,(hb.block _ (aR h1)).trans h1,aI h2 hb,(hb.block _ (aR h3)).trans h3,h4.trans (hb.mono h4.size)⟩
theorem zY {zs zs':List Run} {w wr w2 w3:Sj} {av:Option Addr} {cv:Nat} {v':Sl} {cs:Array Sl} {x:Run} (hcs:cs.toList=x.enc)(hz:zs'=zs++[x])(h1:wr.heap[w.heap.size+1]? =some (.cells #[.slice av zs.length cv] 75 (0,0)))(h2:wr.ownsRow (w.heap.size+2) 77 5 (.slice av zs.length cv) zs.length (zs.flatMap Run.enc))(h3:wr.heap[w.heap.size]? =some (.cells #[.slice none 0 0] 75 (0,0)))(h4:Sm w.heap.size w wr)(hb:Sm wr.heap.size wr w2)
 (hown:w3.ownsRow (w.heap.size+2) 77 5 v' (zs.length+1) (zs.flatMap Run.enc++cs.toList)) (hg:(w2.alloc (.cells cs 77)).grownBy w3 (Sv av zs.length cv).ownBlock) :
 w3.heap[w.heap.size+1]? =some (.cells #[.slice av zs.length cv] 75 (0,0))∧w3.ownsRow (w.heap.size+2) 77 5 v' zs'.length (zs'.flatMap Run.enc)∧w3.heap[w.heap.size]? =some (.cells #[.slice none 0 0] 75 (0,0))∧Sm w.heap.size w w3:=by
 have hs:=hb.size
 have hs4:=h4.size
 have l1:=aR h1
 have l3:=aR h3
 have hlt:∀ b,(Sv av zs.length cv).ownBlock=some b→w.heap.size+2≤b:=fun b e=>(h2.lt b e).1
 refine⟨?_,?_,?_,((h4.trans (hb.mono hs4)).alloc (by omega) _).grown hg (by simp;omega) (fun j hj=>by have:=hlt j hj;omega)⟩
 · rw [hg.block _ (by simp;omega) (fun e=>by have:=hlt _ e.symm;omega),Sn _ _ _ (by omega)]
   exact(hb.block _ l1).trans h1
 · rw [hz]
   rw [hcs] at hown
   simpa using hown
 · rw [hg.block _ (by simp;omega) (fun e=>by have:=hlt _ e.symm;omega),Sn _ _ _ (by omega)]
   exact(hb.block _ l3).trans h3
theorem wo {l:List Run} {w w3:Sj} {k n:Nat} {av av':Option Addr} {cv cv' m:Nat} (h1:w3.heap[w.heap.size+1]? =some (.cells #[.slice av m cv] 75 (0,0)))(h2:w3.ownsRow (w.heap.size+2) 77 5 (.slice av' n cv') (cN (l.take (k+1))).length ((cN (l.take (k+1))).flatMap Run.enc))(h3:w3.heap[w.heap.size]? =some (.cells #[.slice none 0 0] 75 (0,0)))(h4:Sm w.heap.size w w3) :
 gF l w (k+1) (w3.setCell ⟨w.heap.size+1,0,none⟩ (.slice av' n cv')):=by
 have hn:n=(cN (l.take (k+1))).length:=by
  rcases h2.2 with⟨e,h⟩|⟨_,_,_,e,_⟩
  · simp only [SG] at e;omega
  · simp only [SG] at e;omega
 subst hn
 refine⟨av',cv',?_,aB h2 fun b e=>Sq _ _ _ _ (by have:=(h2.lt b e).1;simp;omega),(Sq _ _ _ _ (by simp)).trans h3,h4.setCell (by simp) _⟩
 exact heap_setCell_same w3 (w.heap.size+1) 0 _ 75 _ h1
theorem lq (t:ByteArray):t.toList.isEmpty=decide (t.size=0):=by
 rw [←jK t]
 cases t.toList<;>simp
end Go.Proofs.YtjebaagkomejaaaGreatDoor
