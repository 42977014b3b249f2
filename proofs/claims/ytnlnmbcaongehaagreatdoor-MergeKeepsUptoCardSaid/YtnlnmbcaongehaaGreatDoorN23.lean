/- merge.renamed: a copy of the document with new IDs. -/
import Derived.Test.YtnlnmbcaongehaaGreatDoorN22
set_option linter.unusedVariables false
set_option linter.unusedSimpArgs false
set_option maxRecDepth 100000
set_option maxHeartbeats 12800000
open Go.Lib renaming hid→h_
open Go renaming cell_of_row→Su,World→Sv,Ending→Sw,Value→Sx,wpList_store_row→Sy
open Go.Value renaming ownBlock→Sz,int→SA
open Go.Proofs.Tryz renaming prog→SB,underlying27→SC,ntmps126→SD,func126→SE
open Go.Instr renaming lookup→SF
open List renaming getElem?_eq_some_iff→SG,flatMap_cons→SH,getElem?_eq_getElem→SI,mem_map→SJ,mem_of_getElem?→SK,getElem?_set→SL,length_map→SM
open Go.Value.slice renaming injEq→SN
namespace Go.Proofs.YtnlnmbcaongehaaGreatDoor
open Go.RowKit
theorem yf {w:Sv} {g j:Nat} {v:Sx} (hc:w.cell? ⟨g,j,none⟩=some v):(w.setCell ⟨g,j,none⟩ v).heap[g]? =w.heap[g]?:=by
 cases hg:w.heap[g]? with
 | none=>simp [Sv.cell?,hg] at hc
 | some o =>
   cases o with
   | cells cur T fr =>
     have hj:cur[j]? =some v:=by rw [Su w g j cur T fr hg] at hc;exact hc
     have:cur.setIfInBounds j v=cur:=by
      apply Array.ext_getElem?
      intro i
      rw [Array.getElem?_setIfInBounds]
      split
      · rename_i e
        subst e
        split
        · exact hj.symm
        · rename_i hn
          exact absurd (Array.getElem?_eq_some_iff.1 hj).1 hn
      · rfl
     unfold Sv.setCell
     show(w.heap.modify g _)[g]? =_
     rw [Array.getElem?_modify,if_pos rfl,hg]
     simp [this]
   | _=>simp [Sv.cell?,hg] at hc
def kD (g j:Nat)(v:Sx)(w:Sv)(e:Sw)(w':Sv):Prop:=e=.returned (.tuple #[])∧Kept (fun k=>k=g) w w'∧w'.heap[g]? =(w.setCell ⟨g,j,none⟩ v).heap[g]?
theorem ni (g j gb mb n:Nat)(F:Int→Option Int)(z:Int)(w:Sv)(hz:i64 z)(hc:w.cell? ⟨g,j,none⟩=some (.int .i64 z))(hf:w.frozen? ⟨g,j,none⟩=false)(hb:w.cell? ⟨gb,0,none⟩=some (.map (some mb)))(hM:VMap w mb n (fun z=>(F z).map (SA .i64))) :
 Calls SB 126 #[.pointer (some ⟨g,j,none⟩),.pointer (some ⟨gb,0,none⟩)] w (kD g j (.int .i64 ((F z).getD z)) w):=by
 have hl0:∀ q,(SF 137 (.map (some mb)) (.int .i64 z) true).run SB (w.drewN q)=.ok (.tuple #[((F z).map (SA .i64)).getD (.int .i64 0),.bool ((F z).map (SA .i64)).isSome]) (w.drewN q):=fun q=>by
  have:=(hM.drewN q).look Tryz.underlying137 (RW _) hz
  simpa using this
 have HSN:=h_ (yf hc)
 cases hF:F z with
 | none =>
   rw [hF] at hl0
   have hl:∀ q,(SF 137 (.map (some mb)) (.int .i64 z) true).run SB (w.drewN q)=.ok (.tuple #[.int .i64 0,.bool false]) (w.drewN q):=hl0
   have hl1:(SF 137 (.map (some mb)) (.int .i64 z) true).run SB w.drew=.ok (.tuple #[.int .i64 0,.bool false]) w.drew:=hl 1
   clear hM hl0 hF
   have HQ:=h_ (fun q=>(show kD g j (.int .i64 ((none:Option Int).getD z)) w (.returned (.tuple #[])) (w.drewN q) from⟨rfl,Kept.of_below (below_drewN (Below.refl _ _) _),HSN.out.symm⟩))
   generalize kD g j (.int .i64 ((none:Option Int).getD z)) w=Q at *
   go_enter SE,SD
   go_wp2_with fail
   go_quiet (fail)
   go_wp2_with fail
   go_end0
   exact HQ.out _
 | some v =>
   rw [hF] at hl0
   have hl:∀ q,(SF 137 (.map (some mb)) (.int .i64 z) true).run SB (w.drewN q)=.ok (.tuple #[.int .i64 v,.bool true]) (w.drewN q):=hl0
   have hl1:(SF 137 (.map (some mb)) (.int .i64 z) true).run SB w.drew=.ok (.tuple #[.int .i64 v,.bool true]) w.drew:=hl 1
   clear hM hl0 hF
   have HQ:=h_ (fun(w':Sv) (h1:w'.heap=(w.setCell ⟨g,j,none⟩ (.int .i64 v)).heap) (h2:w'.os=w.os∧w'.tape=w.tape∧w'.output=w.output)=>(show kD g j (.int .i64 ((some v).getD z)) w (.returned (.tuple #[])) w' from⟨rfl,⟨h2.1,h2.2.1,h2.2.2,by rw [h1];simp,fun k _ hn=>by rw [h1];exact Below.heap_setCell _ _ _ _ hn⟩,by rw [h1];rfl⟩))
   generalize kD g j (.int .i64 ((some v).getD z)) w=Q at *
   go_enter SE,SD
   go_wp2_with fail
   go_quiet (fail)
   go_wp2_with fail
   go_end0
   exact HQ.out _ rfl ⟨rfl,rfl,rfl⟩
theorem zy {α:Type} {K:Nat} {enc:α→List Sx} (hk:∀ x,(enc x).length=K) {x y:α} {j:Nat} {v:Sx} (hy:enc y=(enc x).set j v)(hj:j<K):∀ (zs:List α)(k:Nat),zs[k]? =some x→(zs.set k y).flatMap enc=(zs.flatMap enc).set (k*K+j) v
 | [],k,h=>by simp at h
 | z::l,0,h=>by
   obtain rfl:z=x:=by simpa using h
   rw [List.set_cons_zero,SH,SH,hy,Nat.zero_mul,Nat.zero_add,List.set_append_left _ _ (by rw [hk];exact hj)]
 | z::l,k+1,h=>by
   have ih:=zy hk hy hj l k (by simpa using h)
   rw [List.set_cons_succ,SH,SH,ih,List.set_append_right _ _ (by rw [hk,Nat.succ_mul];omega),hk]
   congr 2
   rw [Nat.succ_mul];omega
def rk (r:Int→Int)(x:Ev):Ev:={ x with id:=r x.id }
def oS (r:Int→Int)(x:Cm):Cm:={ x with id:=r x.id,ev:=r x.ev }
def mx {α:Type} (f:α→α)(xs zs:List α)(k:Nat):Prop:=zs.length=xs.length∧∀ i,zs[i]? =(xs[i]?).map (if i<k then f else id)
theorem mx.start {α:Type} (f:α→α)(xs:List α):mx f xs xs 0:=⟨rfl,fun i=>by rw [if_neg (by omega)];simp⟩
theorem mx.step {α:Type} {f:α→α} {xs zs:List α} {k:Nat} {x:α} (h:mx f xs zs k)(hx:xs[k]? =some x):mx f xs (zs.set k (f x)) (k+1):=by
 refine⟨by simpa using h.1,fun i=>?_⟩
 have hk:k<zs.length:=by rw [h.1];exact(SG.1 hx).1
 rw [SL]
 split
 · rename_i e
   subst e
   rw [hx,if_pos (by omega)]
   simp [hk]
 · rename_i e
   rw [h.2 i]
   by_cases hi:i<k
   · rw [if_pos hi,if_pos (by omega)]
   · rw [if_neg hi,if_neg (by omega)]
theorem mx.at_ {α:Type} {f:α→α} {xs zs:List α} {k:Nat} {x:α} (h:mx f xs zs k)(hx:xs[k]? =some x):zs[k]? =some x:=by
 rw [h.2 k,hx,if_neg (by omega)]
 rfl
theorem mx.all {α:Type} {f:α→α} {xs zs:List α} (h:mx f xs zs xs.length):zs=xs.map f:=by
 apply List.ext_getElem?
 intro i
 rw [h.2 i,List.getElem?_map]
 by_cases hi:i<xs.length
 · rw [if_pos hi]
 · rw [if_neg hi,List.getElem?_eq_none (by omega)]
   rfl
theorem Ca {α:Type} {K T B g cap n k j:Nat} {enc:α→List Sx} (hk:∀ x,(enc x).length=K) {w w':Sv} {zs:List α} {x y:α} {v:Sx} {e:Sw} (h:w.ownsRow B T K (.slice (some ⟨g,0,none⟩) n cap) n (zs.flatMap enc))(hx:zs[k]? =some x)(hy:enc y=(enc x).set j v)(hj:j<K)(hp:kD g (k*K+j) v w e w') :
 w'.ownsRow B T K (.slice (some ⟨g,0,none⟩) n cap) n ((zs.set k y).flatMap enc):=by
 rw [zy hk hy hj zs k hx]
 refine ah (h.stored (k*K+j) v).1 fun b hb=>?_
 obtain rfl:g=b:=by simpa [Sz] using hb
 exact hp.2.2
def renD (r:Int→Int)(d:Doc):Doc:={ d with eV:=d.eV.map (rk r),cM:=d.cM.map (oS r) }
theorem IF (r:Int→Int)(d:Doc):(renD r d).enc.toArray=d.enc.toArray:=by simp [renD,Doc.enc]
theorem N9 (r:Int→Int)(d:Doc):(renD r d).c=eP r d.c:=by
 simp only [renD,Doc.c,eP,Doc.hd,List.map_map]
 rfl
theorem Fu {r:Int→Int} {d:Doc} {b:Nat} (h:(renD r d).uses b):d.uses b:=by
 rcases h with h|(⟨h1,h2⟩|⟨x,hx,h⟩)|⟨h1,h2⟩
 · exact .inl h
 · exact .inr (.inl (.inl ⟨fun e=>h1 (by show d.eV.map _=[];rw [e];rfl),h2⟩))
 · obtain⟨y,hy,rfl⟩:=SJ.1 hx
   exact .inr (.inl (.inr ⟨y,hy,h⟩))
 · exact .inr (.inr ⟨fun e=>h1 (by show d.cM.map _=[];rw [e];rfl),h2⟩)
theorem Lt {r:Int→Int} {d:Doc} {w w5 w6 w8 w9:Sv} {B:Nat} (hl:d.lies w5)(hu:∀ b,d.uses b→w.heap.size+3≤b)(hap:d.apart)
 (k6:Kept (fun b=>d_ d.ea d.eV b) w5 w6) (o6:w6.ownsRow B 50 7 (.slice d.ea d.eV.length d.ec) d.eV.length ((d.eV.map (rk r)).flatMap Ev.enc)) (k8:Kept (fun b=>d_ d.ca d.cM b) w6 w8) (o8:d.cM≠[]→w8.ownsRow B 52 8 (.slice d.ca d.cM.length d.cc) d.cM.length ((d.cM.map (oS r)).flatMap Cm.enc))
 (k9:Kept (fun b=>b=w.heap.size+1+1) w8 w9) (hb:Below w.heap.size w w9):xK (eP r d.c) w (.returned (.agg d.enc.toArray)) w9:=by
 obtain⟨t,t1,t2,t3,t4⟩:=hap
 have s6:=k6.size
 have s8:=k8.size
 have s9:=k9.size
 refine⟨renD r d,by rw [IF],N9 r d,⟨?_,?_,?_⟩,fun b hb=>Nat.le_trans (by omega) (hu b (Fu hb)),hb⟩
 · refine af.frame hl.1 (by omega) (fun b hb=>?_) (fun _ _ _=>trivial)
   have h1:=bL hl.1 hb
   have h2:=hu b (.inl hb)
   rw [k9.block b (by omega) (by omega),k8.block b (by omega) (fun q=>by have:=t1 b hb;have:=t4 b q;omega),k6.block b h1 (fun q=>by have:=t1 b hb;have:=t2 b q;omega)]
 · have o6':w6.ownsRow B 50 7 (.slice d.ea (d.eV.map (rk r)).length d.ec) (d.eV.map (rk r)).length ((d.eV.map (rk r)).flatMap Ev.enc):=by rw [SM];exact o6
   obtain⟨a',c',he,hS⟩:=ay (k:=7) (enc:=Ev.enc) (Ok:=Ev.lies) (fun _=>rfl) o6' (fun z hz=>by
    obtain⟨x,hx,rfl⟩:=SJ.1 hz
    have hxl:x.lies w5:=nD hl.2.1 hx
    show ft w6 x.at_ x.rows
    exact Ev.frame hxl s6 fun b hb=>k6.block b (Ev.uses_lt hxl hb) (fun q=>by have:=t3 x hx b hb;have:=t2 b q;omega))
   simp only [SN] at he
   obtain⟨rfl,_,rfl⟩:=he
   show kJ w9 d.ea (d.eV.map (rk r))
   refine kJ.frame hS (by omega) fun b hb=>?_
   have hb':C6 d.ea d.eV b:=by
    rcases hb with⟨h1,h2⟩|⟨x,hx,h⟩
    · exact .inl ⟨fun e=>h1 (by rw [e];rfl),h2⟩
    · obtain⟨y,hy,rfl⟩:=SJ.1 hx
      exact .inr ⟨y,hy,h⟩
   have h1:=zB hS hb
   have h2:=hu b (.inr (.inl hb'))
   rw [k9.block b (by omega) (by omega),k8.block b h1 (fun q=>by
    have:=t4 b q
    rcases hb' with h|⟨x,hx,h⟩
    · have:=t2 b h;omega
    · have:=t3 x hx b h;omega)]
 · by_cases hc0:d.cM=[]
   · exact .inl (show d.cM.map _=[] by rw [hc0];rfl)
   have o8':w8.ownsRow B 52 8 (.slice d.ca (d.cM.map (oS r)).length d.cc) (d.cM.map (oS r)).length ((d.cM.map (oS r)).flatMap Cm.enc):=by rw [SM];exact o8 hc0
   obtain⟨a',c',he,hS⟩:=ay (k:=8) (enc:=Cm.enc) (Ok:=Flat) (fun _=>rfl) o8' (fun _ _=>trivial)
   simp only [SN] at he
   obtain⟨rfl,_,rfl⟩:=he
   show af 8 Cm.enc Flat w9 d.ca (d.cM.map (oS r))
   refine af.frame hS (by omega) (fun b hb=>?_) (fun _ _ _=>trivial)
   have hb':d_ d.ca d.cM b:=⟨fun e=>hb.1 (by rw [e];rfl),hb.2⟩
   have h1:=bL hS hb
   have h2:=hu b (.inr (.inr hb'))
   rw [k9.block b h1 (by omega)]
theorem CI {P:Program} {ops:Array Oper} {rest:List Oper} {op:Oper} {a:Act} {w:Sv} {Q:Exit→Act→Sv→Prop} (ty:TypeId)(x:Operand)(ho:op.op=.load ty x)
 (b o:Nat) (hx:a.eval x=.pointer (some ⟨b,o,none⟩)) (cs:List Sx) (d:TypeDesc) (hc:w.rangeAt b o cs) (hu:P.underlying ty=some d) (hd:d.isRow=true) (hi:(P.info? ty).map (·.size)=some cs.length) (hw:Region.wanted op (yielded ops a.tmps)=true)
 (h:wpList P ops Q rest (a.put op.dst (.agg cs.toArray)) w):wpList P ops Q (op::rest) a w :=
 BigFrame.wpList_want hw fun _ hK=>wp_load_mid ty x ho b o hx cs d hc hu hd hi (hK _ _ h)
theorem ku {w:Sv} {g:Nat} {l:List Sx} {t:TypeId} (h:w.heap[g]? =some (.cells l.toArray t (0,0))):w.rangeAt g 0 l:=fun j v hv=>by
 rw [Su _ _ (0+j) _ t (0,0) h]
 simpa using hv
theorem yV (w:Sv)(g:Nat)(cs:Array Sx):Kept (fun b=>b=g) w (w.setRow g cs):=⟨rfl,rfl,rfl,by rw [size_setRow];exact Nat.le_refl _,fun k _ hn=>bD _ _ _ _ hn⟩
theorem Bn {r:Int→Int} {d:Doc} {w5 wr w7:Sv} {B k eb cap:Nat} {zs:List Ev} {x:Ev} {e:Sw} (hup:mx (rk r) d.eV zs k)(how:wr.ownsRow B 50 7 (.slice (some ⟨eb,0,none⟩) d.eV.length cap) d.eV.length (zs.flatMap Ev.enc))(hkp:Kept (fun b=>d_ d.ea d.eV b) w5 wr)
 (hx:d.eV[k]? =some x) (he:d.ea=some ⟨eb,0,none⟩) (hp:kD eb (k*7) (.int .i64 (r x.id)) wr e w7) :
 mx (rk r) d.eV (zs.set k (rk r x)) (k+1)∧w7.ownsRow B 50 7 (.slice (some ⟨eb,0,none⟩) d.eV.length cap) d.eV.length ((zs.set k (rk r x)).flatMap Ev.enc)∧Kept (fun b=>d_ d.ea d.eV b) w5 w7:=by
 have hx2:=hup.at_ hx
 have hk:k<d.eV.length:=(SG.1 hx).1
 refine⟨hup.step hx,Ca (K:=7) (enc:=Ev.enc) (j:=0) (x:=x) (v:=.int .i64 (r x.id)) (e:=e) (fun _=>rfl) how hx2 rfl (by decide) hp,hkp.trans hp.2.1 fun i _ e=>⟨fun h=>?_,⟨eb,0,none⟩,he,?_⟩⟩
 · rw [h] at hk;simp at hk
 · have e':i=eb:=e
   exact e'.symm
theorem vh {r:Int→Int} {d:Doc} {wr w7:Sv} {B k cb cap:Nat} {zs:List Cm} {x:Cm} {e:Sw} (hup:mx (oS r) d.cM zs k)(how:wr.ownsRow B 52 8 (.slice (some ⟨cb,0,none⟩) d.cM.length cap) d.cM.length (zs.flatMap Cm.enc))
 (hx:d.cM[k]? =some x) (hp:kD cb (k*8) (.int .i64 (r x.id)) wr e w7) :
 w7.ownsRow B 52 8 (.slice (some ⟨cb,0,none⟩) d.cM.length cap) d.cM.length ((zs.set k ({ x with id:=r x.id }:Cm)).flatMap Cm.enc)∧(zs.set k ({ x with id:=r x.id }:Cm))[k]? =some ({ x with id:=r x.id }:Cm):=by
 have hx2:=hup.at_ hx
 refine⟨Ca (K:=8) (enc:=Cm.enc) (j:=0) (x:=x) (v:=.int .i64 (r x.id)) (e:=e) (fun _=>rfl) how hx2 rfl (by decide) hp,?_⟩
 rw [SL,if_pos rfl,if_pos (SG.1 hx2).1]
theorem Bo {r:Int→Int} {d:Doc} {w6 wr w7 w8:Sv} {B k cb cap:Nat} {zs:List Cm} {x:Cm} {e e2:Sw} (hup:mx (oS r) d.cM zs k)(how:wr.ownsRow B 52 8 (.slice (some ⟨cb,0,none⟩) d.cM.length cap) d.cM.length (zs.flatMap Cm.enc))(hkp:Kept (fun b=>d_ d.ca d.cM b) w6 wr)
 (hx:d.cM[k]? =some x) (he:d.ca=some ⟨cb,0,none⟩) (hp:kD cb (k*8) (.int .i64 (r x.id)) wr e w7) (hp2:kD cb (k*8+1) (.int .i64 (r x.ev)) w7 e2 w8) :
 mx (oS r) d.cM (zs.set k (oS r x)) (k+1)∧w8.ownsRow B 52 8 (.slice (some ⟨cb,0,none⟩) d.cM.length cap) d.cM.length ((zs.set k (oS r x)).flatMap Cm.enc)∧Kept (fun b=>d_ d.ca d.cM b) w6 w8:=by
 have hk:k<d.cM.length:=(SG.1 hx).1
 obtain⟨h7,hz⟩:=vh hup how hx hp
 have h8:=Ca (K:=8) (enc:=Cm.enc) (j:=1) (x:=({ x with id:=r x.id }:Cm)) (y:=oS r x) (v:=.int .i64 (r x.ev)) (e:=e2) (fun _=>rfl) h7 hz rfl (by decide) hp2
 rw [List.set_set] at h8
 have hs:∀ i,i=cb→d_ d.ca d.cM i:=fun i e'=>⟨fun h=>by rw [h] at hk;simp at hk,⟨cb,0,none⟩,he,e'.symm⟩
 exact⟨hup.step hx,h8,(hkp.trans hp.2.1 fun i _ e=>hs i e).trans hp2.2.1 fun i _ e=>hs i e⟩
theorem wu (d:Doc)(mb n:Nat)(F:Int→Option Int)(w:Sv)(hd:d.lies w)(hf:d.fits)(hM:VMap w mb n (fun z=>(F z).map (SA .i64))) :
 Calls SB 76 #[.agg d.enc.toArray,.map (some mb)] w (xK (eP (fun z=>(F z).getD z) d.c) w):=by
 have qX:=h_ (fun(w1:Sv) (h:Below w.heap.size w w1)=>td d w1 (Doc.later hd h) hf)
 have Qt:=h_ (fun(d':Doc) (h:d'.c=d.c)=>xj h hf)
 have HM:=h_ hM
 have hml:=hM.lt
 have mf:=h_ (N7 w d.enc.toArray #[.map (some mb)] #[Sx.string ⟨#[]⟩,.string ⟨#[]⟩,.int .u8 0,.bool false,.int .i64 0,.slice none 0 0,.slice none 0 0,.slice none 0 0])
 have hb3:∀ o1 o2 o3:Obj,Below w.heap.size w (((w.alloc o1).alloc o2).alloc o3):=fun o1 o2 o3=>(((Below.refl _ _).alloc (Nat.le_refl _) _).alloc (by simp) _).alloc (by simp;try omega) _
 have Mh:∀ o1 o2 o3:Obj,(((w.alloc o1).alloc o2).alloc o3).heap.size=w.heap.size+3:=fun o1 o2 o3=>by simp
 have aA:=h_ (fun(d':Doc) (hc:d'.c=d.c) (w5 w6 w8 w9:Sv) (B:Nat) h1 h2 h3 h4 h5 h6 h7 h8 h9=>(show xK (eP (fun z=>(F z).getD z) d.c) w (.returned (.agg d'.enc.toArray)) w9 from hc▸Lt (d:=d') (w5:=w5) (w6:=w6) (w8:=w8) (w9:=w9) (B:=B) h1 h2 h3 h4 h5 h6 h7 h8 h9))
 generalize xK (eP (fun z=>(F z).getD z) d.c) w=Q at *
 clear hd hf hM
 go_enter Tryz.func76,Tryz.ntmps76
 have hr0:=ku mf.out.1
 go_wp2_with (refine CI 27 (.tmp 2) rfl w.heap.size 0 rfl d.enc _ hr0 SC rfl aQ (by rfl) ?_)
 refine(qX.out _ (hb3 _ _ _)).mono ?_
 rintro e w4 ⟨d',rfl,hc',hl',hu',hb4,hap,hoe,hoc⟩
 rw [Mh] at hb4 hu' hoe hoc
 have bn:=Qt.out d' hc'
 have MB:Below w.heap.size w w4:=(hb3 _ _ _).trans (hb4.mono (by omega))
 have h0:=(hb4.block w.heap.size (by omega)).trans mf.out.1
 have h1:=(hb4.block (w.heap.size+1) (by omega)).trans mf.out.2.1
 have h2:=(hb4.block (w.heap.size+1+1) (by omega)).trans mf.out.2.2
 have hs4:w.heap.size+3≤w4.heap.size:=by have:=hb4.size;rw [Mh] at this;exact this
 have hle:d'.eV.length≤4000000:=bn.2.2.2.2.2.2.2.2.1
 have hlc:d'.cM.length≤4000000:=bn.2.2.2.2.2.2.2.2.2.2
 have Hn:=h_ bn.2.2.2.2.2.2.2.1
 have JX:=h_ bn.2.2.2.2.2.2.2.2.2.1
 go_upto_region 2 with(refine Sy rfl 27 (.tmp 2) (.tmp 9) rfl w.heap.size d'.enc.toArray rfl rfl 27 _ h0 aQ rfl (pR _ _ _ _ _ _ _ _ _ _ _ _ _ _) ?_)
 have hk5:Kept (fun b=>b=w.heap.size) w4 (w4.setRow w.heap.size d'.enc.toArray):=yV w4 w.heap.size d'.enc.toArray
 have r0:=setRow_heap w4 w.heap.size _ d'.enc.toArray 27 (0,0) h0
 generalize w4.setRow w.heap.size d'.enc.toArray=w5 at *
 have hs5:=hk5.size
 have hl5:d'.lies w5:=Doc.frame hl' hs5 fun b hb=>hk5.block b (Doc.uses_lt hl' hb) (by have:=hu' b hb;omega)
 have oe5:=ah hoe fun b q=>hk5.block b (hoe.lt b q).2 (by have:=(hoe.lt b q).1;omega)
 have oc5:=ah hoc fun b q=>hk5.block b (hoc.lt b q).2 (by have:=(hoc.lt b q).1;omega)
 have m5:=(hk5.block (w.heap.size+1) (by omega) (by omega)).trans h1
 have z5:=(hk5.block (w.heap.size+1+1) (by omega) (by omega)).trans h2
 have hM4:=HM.out.below MB hml
 have KE:=hM4.kept (hk5.block mb hM4.lt (by omega))
 have hb5:Below w.heap.size w w5:=MB.trans (hk5.below (by omega) fun k hk e=>by omega)
 have FIN:=h_ (aA.out d' hc')
 have If:=h_ hl5
 have HU:=h_ hu'
 have Im:=h_ hap
 have OC5:=h_ oc5
 have R0:=h_ r0;have M5:=h_ m5;have Z5:=h_ z5;have EM:=h_ KE;have uS:=h_ hb5
 have c6:w5.cell? ⟨w.heap.size,6,none⟩=some (.slice d'.ea d'.eV.length d'.ec):=Su _ _ 6 _ 27 (0,0) r0
 have ll:=h_ (And.intro (mx.start (rk fun z=>(F z).getD z) d'.eV) (And.intro oe5 (Kept.refl (fun b=>d_ d'.ea d'.eV b) w5)))
 have hw3:w.heap.size+3≤w5.heap.size:=by omega
 clear hk5 r0 hl5 oe5 oc5 m5 z5 hM4 KE hb5 h0 h1 h2 hb4 hl' hu' hc' bn hb3 Mh qX Qt HM mf aA hap hoe hoc MB hr0 hs4 hs5
 go_wp2_with fail
 go_loopw [14] (fun i wr=>∃ (k:Nat) (zs:List Ev),k≤d'.eV.length∧i=.int .i64 k∧mx (rk fun z=>(F z).getD z) d'.eV zs k∧wr.ownsRow (w.heap.size+3) 50 7 (.slice d'.ea d'.eV.length d'.ec) d'.eV.length (zs.flatMap Ev.enc)∧Kept (fun b=>d_ d'.ea d'.eV b) w5 wr) (fun i _=>d'.eV.length-(intOf i).toNat)
 case atStart=>exact⟨0,d'.eV,by omega,rfl,ll.out.1,ll.out.2.1,ll.out.2.2⟩
 case round =>
  clear ll c6
  obtain⟨k,zs,hk,rfl,hup,how,hkp⟩:=hrel
  have hnu:∀ b,b<w.heap.size+3→¬ d_ d'.ea d'.eV b:=fun b hb q=>by have:=HU.out b (.inr (.inl (.inl q)));omega
  have hs:=hkp.size
  have b0:=(hkp.block w.heap.size (by omega) (hnu _ (by omega))).trans R0.out
  have b1:=(hkp.block (w.heap.size+1) (by omega) (hnu _ (by omega))).trans M5.out
  have c6:wr.cell? ⟨w.heap.size,6,none⟩=some (.slice d'.ea d'.eV.length d'.ec):=Su _ _ 6 _ 27 (0,0) b0
  by_cases hlt:k<d'.eV.length
  · have hx:d'.eV[k]? =some d'.eV[k]:=SI hlt
    generalize d'.eV[k]=x at hx
    obtain⟨eb,cap,he⟩:=kZ how (by omega)
    have he1:d'.ea=some ⟨eb,0,none⟩:=by simp only [SN] at he;exact he.1
    have hft:=Hn.out x (SK hx)
    have ET:=hup.at_ hx
    rw [he] at how c6
    have hlz:zs.length=d'.eV.length:=hup.1
    have hcell:wr.cell? ⟨eb,k*7,none⟩=some (.int .i64 x.id):=by
     rw [how.cellAt (k*7) (by omega)]
     exact lP Ev.enc 7 (fun _=>rfl) zs k x 0 _ ET rfl
    have hcap:d'.eV.length≤cap:=by
     rcases how.2 with⟨h0,_⟩|⟨g',cap',cur,h0,_,_,hnc,_⟩
     · simp at h0
     · simp only [SN] at h0
       obtain⟨_,_,rfl⟩:=h0
       exact hnc
    have hue:∀ b,eb=b→d_ d'.ea d'.eV b:=fun b e=>⟨fun h=>by rw [h] at hlt;simp at hlt,⟨eb,0,none⟩,he1,e⟩
    have HC:=h_ (ni eb (k*7) (w.heap.size+1) mb n F x.id wr hft.1 hcell (how.frozenAt _) (by rw [Su _ _ 0 _ 137 (0,0) b1];rfl) (EM.out.kept (hkp.block mb EM.out.lt (hnu _ (by omega)))))
    have HN:=h_ (fun(e:Sw) (w7:Sv) (hp:kD eb (k*7) (.int .i64 ((F x.id).getD x.id)) wr e w7)=>Bn (r:=fun z=>(F z).getD z) hup how hkp hx he1 hp)
    rw [←he] at HN
    clear b0 b1 hcell hft ET how hup hkp hx hue hnu he he1
    go_wp2_with fail
    refine HC.out.mono ?_
    intro e w7 hp
    have HE:=h_ (HN.out e w7 hp)
    obtain rfl:=hp.1
    clear hp HN HC
    go_wp2_with fail
    go_roundw
    case rel=>exact⟨k+1,_,by omega,by go_num,HE.out⟩
    case measure=>simp [intOf];omega
  · obtain rfl:k=d'.eV.length:=by omega
    obtain rfl:=hup.all
    have OE6:=h_ how
    have Ql:=h_ hkp
    have hnc:∀ b,d_ d'.ca d'.cM b→¬ d_ d'.ea d'.eV b:=fun b h1 h2=>by
     obtain⟨t,t1,t2,t3,t4⟩:=Im.out
     have:=t2 b h2
     have:=t4 b h1
     omega
    have oc6:d'.cM≠[]→wr.ownsRow (w.heap.size+3) 52 8 (.slice d'.ca d'.cM.length d'.cc) d'.cM.length (d'.cM.flatMap Cm.enc):=fun hc0=>by
     refine ah OC5.out fun b q=>hkp.block b (OC5.out.lt b q).2 (hnc b ⟨hc0,?_⟩)
     cases My:d'.ca with
     | none=>rw [My] at q;simp [Sz] at q
     | some ad=>rw [My] at q;exact⟨ad,rfl,by simpa [Sz] using q⟩
    have m6:=b1
    have KD:=EM.out.kept (hkp.block mb EM.out.lt (hnu _ (by omega)))
    have z6:=(hkp.block (w.heap.size+1+1) (by omega) (hnu _ (by omega))).trans Z5.out
    have B0:=h_ b0;have M6:=h_ m6;have RJ:=h_ KD;have Z6:=h_ z6
    have HR1:=h_ (And.intro (mx.start (oS fun z=>(F z).getD z) d'.cM) (And.intro oc6 (Kept.refl (fun b=>d_ d'.ca d'.cM b) wr)))
    have c7:wr.cell? ⟨w.heap.size,7,none⟩=some (.slice d'.ca d'.cM.length d'.cc):=Su _ _ 7 _ 27 (0,0) b0
    have O8:Below w.heap.size w wr:=uS.out.trans (hkp.below (by omega) fun b hb=>hnu b (by omega))
    have QK:=h_ O8
    have hw36:w.heap.size+3≤wr.heap.size:=by omega
    have NY:=h_ (fun b (hb:b<w.heap.size+3)=>(show ¬ d_ d'.ca d'.cM b from fun q=>by have:=HU.out b (.inr (.inr q));omega))
    clear hup how hkp hnc oc6 m6 KD z6 b0 b1 c6 hnu O8 hs hlt hk
    generalize wr=w6 at *
    go_wp2_with fail
    go_loopw [28] (fun i wr=>∃ (k:Nat) (zs:List Cm),k≤d'.cM.length∧i=.int .i64 k∧mx (oS fun z=>(F z).getD z) d'.cM zs k∧(d'.cM≠[]→wr.ownsRow (w.heap.size+3) 52 8 (.slice d'.ca d'.cM.length d'.cc) d'.cM.length (zs.flatMap Cm.enc))∧Kept (fun b=>d_ d'.ca d'.cM b) w6 wr) (fun i _=>d'.cM.length-(intOf i).toNat)
    case atStart=>exact⟨0,d'.cM,by omega,rfl,HR1.out.1,HR1.out.2.1,HR1.out.2.2⟩
    case round =>
     clear HR1 c7
     obtain⟨k,zs,hk,rfl,hup,how,hkp⟩:=hrel
     have hs:=hkp.size
     have b0:=(hkp.block w.heap.size (by omega) (NY.out _ (by omega))).trans B0.out
     have b1:=(hkp.block (w.heap.size+1) (by omega) (NY.out _ (by omega))).trans M6.out
     have c7:wr.cell? ⟨w.heap.size,7,none⟩=some (.slice d'.ca d'.cM.length d'.cc):=Su _ _ 7 _ 27 (0,0) b0
     have Pm:=RJ.out.kept (hkp.block mb RJ.out.lt (NY.out _ (by omega)))
     by_cases hlt:k<d'.cM.length
     · have hx:d'.cM[k]? =some d'.cM[k]:=SI hlt
       generalize d'.cM[k]=x at hx
       replace how:=how (fun h=>by rw [h] at hlt;simp at hlt)
       obtain⟨cb,cap,he⟩:=kZ how (by omega)
       have he1:d'.ca=some ⟨cb,0,none⟩:=by simp only [SN] at he;exact he.1
       have hft:=JX.out x (SK hx)
       have ET:=hup.at_ hx
       rw [he] at how c7
       have hlz:zs.length=d'.cM.length:=hup.1
       have hcell:wr.cell? ⟨cb,k*8,none⟩=some (.int .i64 x.id):=by
        rw [how.cellAt (k*8) (by omega)]
        exact lP Cm.enc 8 (fun _=>rfl) zs k x 0 _ ET rfl
       have hcap:d'.cM.length≤cap:=by
        rcases how.2 with⟨h0,_⟩|⟨g',cap',cur,h0,_,_,hnc,_⟩
        · simp at h0
        · simp only [SN] at h0
          obtain⟨_,_,rfl⟩:=h0
          exact hnc
       have hcb:w.heap.size+3≤cb:=(how.lt cb rfl).1
       have hmbl:=RJ.out.lt
       have HC:=h_ (ni cb (k*8) (w.heap.size+1) mb n F x.id wr hft.1 hcell (how.frozenAt _) (by rw [Su _ _ 0 _ 137 (0,0) b1];rfl) Pm)
       have rP:=h_ (fun(e:Sw) (w7:Sv) (hp:kD cb (k*8) (.int .i64 ((F x.id).getD x.id)) wr e w7)=>(show(∀ j,w7.cell? ⟨w.heap.size,j,none⟩=wr.cell? ⟨w.heap.size,j,none⟩)∧Calls SB 126 #[.pointer (some ⟨cb,k*8+1,none⟩),.pointer (some ⟨w.heap.size+1,0,none⟩)] w7 (kD cb (k*8+1) (.int .i64 ((F x.ev).getD x.ev)) w7) from by
        obtain⟨h7,Kn⟩:=vh (r:=fun z=>(F z).getD z) hup how hx hp
        have hl7:(zs.set k ({ x with id:=(F x.id).getD x.id }:Cm)).length=d'.cM.length:=by simpa using hlz
        refine⟨fun j=>Sv.cell?_of_block (w:=wr) (hp.2.1.block w.heap.size (by omega) (fun e=>by have e':w.heap.size=cb:=e;omega)),ni cb (k*8+1) (w.heap.size+1) mb n F x.ev w7 hft.2.1 ?_ (h7.frozenAt _) ?_ (Pm.kept (hp.2.1.block mb Pm.lt (fun e=>by have e':mb=cb:=e;omega)))⟩
        · rw [h7.cellAt (k*8+1) (by omega)]
          exact lP Cm.enc 8 (fun _=>rfl) _ k _ 1 _ Kn rfl
        · rw [Sv.cell?_of_block (w:=wr) (hp.2.1.block (w.heap.size+1) (by omega) (fun e=>by have e':w.heap.size+1=cb:=e;omega)),Su _ _ 0 _ 137 (0,0) b1]
          rfl))
       have HN:=h_ (fun(e:Sw) (w7:Sv) (hp:kD cb (k*8) (.int .i64 ((F x.id).getD x.id)) wr e w7) (e2:Sw) (w8:Sv) (hp2:kD cb (k*8+1) (.int .i64 ((F x.ev).getD x.ev)) w7 e2 w8)=>Bo (r:=fun z=>(F z).getD z) hup how hkp hx he1 hp hp2)
       rw [←he] at HN
       clear b0 b1 hcell hft ET how hup hkp hx he he1 Pm
       go_wp2_with fail
       refine HC.out.mono ?_
       intro e w7 hp
       have HP:=h_ hp
       obtain⟨k7,mH⟩:=rP.out e w7 hp
       have QG:=h_ mH
       have c72:w7.cell? ⟨w.heap.size,7,none⟩=_:=(k7 7).trans c7
       obtain rfl:=hp.1
       clear hp rP HC c7 k7 mH
       go_wp2_with fail
       refine QG.out.mono ?_
       intro e w8 hp2
       have HE:=h_ (HN.out _ w7 HP.out e w8 hp2)
       obtain rfl:=hp2.1
       clear hp2 HN QG HP c72
       go_wp2_with fail
       go_roundw
       case rel=>exact⟨k+1,_,by omega,by go_num,HE.out.1,fun _=>HE.out.2.1,HE.out.2.2⟩
       case measure=>simp [intOf];omega
     · obtain rfl:k=d'.cM.length:=by omega
       obtain rfl:=hup.all
       have Rg:=ku b0
       have z8:=(hkp.block (w.heap.size+1+1) (by omega) (NY.out _ (by omega))).trans Z6.out
       have HF:=h_ (fun(w9:Sv) (qJ:Kept (fun b=>b=w.heap.size+1+1) wr w9)=>FIN.out w5 w6 wr w9 (w.heap.size+3) If.out (fun b hb=>HU.out b hb) Im.out Ql.out OE6.out hkp how qJ ((QK.out.trans (hkp.below (by omega) fun b hb=>NY.out b (by omega))).trans (qJ.below (by omega) fun b hb e=>by omega)))
       have r9:=setRow_heap wr (w.heap.size+1+1) _ d'.enc.toArray 27 (0,0) z8
       have HF9:=h_ (HF.out (wr.setRow (w.heap.size+1+1) d'.enc.toArray) (yV _ _ _))
       clear FIN If Im OE6 Ql QK hkp how HF EM RJ M6 M5 Z5 Z6 B0 R0 uS OC5 NY HU JX Hn c7 Pm b1 hup
       go_wp2_with (first|(refine CI 27 (.tmp 2) rfl w.heap.size 0 rfl d'.enc _ Rg SC rfl aQ (by rfl) ?_)|(refine Sy rfl 27 (.tmp 4) (.tmp 46) rfl (w.heap.size+1+1) d'.enc.toArray rfl rfl 27 _ z8 aQ rfl (pR _ _ _ _ _ _ _ _ _ _ _ _ _ _) ?_))
       generalize wr.setRow (w.heap.size+1+1) d'.enc.toArray=w9 at *
       obtain⟨dt,dl,dr,dd,dla,dra,drc,dregs,dea,dec,devs,dca,dcc,dcms⟩:=d'
       simp only [Doc.enc] at r9 HF9
       have fin4:∀ j,w9.cell? ⟨w.heap.size+1+1,j,none⟩=_:=fun j=>Su _ _ j _ 27 (0,0) r9
       refine bodyPost_ret (v:=.agg #[.string dt,.string dl,.int .u8 dr,.bool dd,.int .i64 dla,.slice dra dregs.length drc,.slice dea devs.length dec,.slice dca dcms.length dcc]) (by simp [results,Tryz.results76,go_sem,fin4]) rfl ?_
       exact HF9.out
end Go.Proofs.YtnlnmbcaongehaaGreatDoor
