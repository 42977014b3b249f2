/- The contract of the reference's Sort: copies of events, in order. (printed by gen_refsort.py) -/
import Derived.Test.YtnlnmbcaongehaaGreatDoorA09
set_option linter.unusedVariables false
set_option linter.unusedSimpArgs false
set_option maxRecDepth 100000
set_option maxHeartbeats 12800000
open Go.Lib renaming hid→h_
open Go renaming World→e_,Value→fb,below_drewN→fe
open List renaming take_append_drop→ff,mem_cons→fg,getElem?_eq_getElem→fh,pairwise_append→fi,flatMap_append→fj,map_toArray→fk,length_take→fm,mem_append→fo,map_cons→fp,map_nil→fq
open Nat renaming le_trans→fr,le_refl→ft,not_le→fu,zero_add→fw,not_lt→fx,add_zero→fy
open Go.RowKit.Below renaming heap_alloc→fz,refl→fA
open Option.some renaming inj→fB
open Go.RowKit renaming Below→fC
open Go.Value renaming ownBlock→fD,int→fE
open Go.World renaming ownsRow_nil→fF,drewN→fG
open Go.Proofs.Tryz renaming underlying24→fH
namespace Go.Proofs.YtnlnmbcaongehaaGreatDoor
open Go.RowKit
theorem zbh {P:Program} {ops:Array Oper} {o:Oper} {a:Act} {w:e_} {K:Act→e_→Prop} {Q:Exit→Act→e_→Prop} {E:Prop} (hgd:o.guard=none)(s x:Operand)(t:TypeId)
 (ho:o.op=.call { callee:=.builtin .append,args:=#[s,x],argTypes:=#[t,t] })
 (base:Nat) (e:TypeId) (i:TypeInfo) (z:fb) (size bytes:Nat) (ht:P.underlying t=some (.slice e)) (hi:P.info? e=some i) (hz:i.zero=some z)
 (hsize:i.size=size) (hby:i.bytes=bytes) (hzs:z.cells.size=size) (hsz:0<size)
 (v:fb) (n:Nat) (xs:List fb) (hs:a.eval s=v) (hown:w.ownsRow base e size v n xs)
 (src:fb) (m:Nat) (news:List fb) (hx:a.eval x=src) (hsrc:Src w src m news) (hl:news.length=m*size) (h1:∀ u∈news,u.oneCell'=true)
 (h63:n+m≤maxLen) (hbytes:(n+m)*bytes≤140737488355328) (hbase:base≤w.heap.size)
 (h:∀ v' w',w'.ownsRow base e size v' (n+m) (xs++news)→w.grownBy w' v.ownBlock→(v'.ownBlock=v.ownBlock∨v'.ownBlock=some w.heap.size)→K (a.put o.dst v') w') :
 if Region.wanted o (yielded ops a.tmps)=true then Oper.wp P o a w K Q else E:=by
 have hw:Region.wanted o (yielded ops a.tmps)=true:=by simp [Region.wanted,hgd]
 rw [if_pos hw]
 rcases hsrc with⟨hn,rfl,rfl⟩|⟨ad,c,hn,hc⟩
 · subst hn
   have hr:=run_append_owned_none (P:=P) w base t o.type e i size ht hi v n xs hown
   unfold Oper.wp execOp
   simp only [ho,resolve,invoke,builtin,Sem.run_bind,Sem.run_pure,Result.andThen_ok,fk,fp,fq,hs,hx,hr]
   exact h v w (by simpa using hown) ⟨rfl,rfl,rfl,ft _,fun _ _ _=>rfl⟩ (.inl rfl)
 · obtain⟨v',w',hrun,h2,h3,_,h5⟩:=run_append_own_at (P:=P) w base t o.type e i z size bytes ht hi hz hsize hby hzs hsz v n xs hown ad m c news hl hc h1 h63 hbytes hbase
   unfold Oper.wp execOp
   simp only [ho,resolve,invoke,builtin,Sem.run_bind,Sem.run_pure,Result.andThen_ok,fk,fp,fq,hs,hx,hn,hrun]
   exact h v' w' h2 h3 h5
theorem zdH {w w3:e_} {cs:Array fb} {row:Option Nat} (h:(w.alloc (.cells cs 50)).grownBy w3 row)(g:Nat)(hg:row=none∧g=w.heap.size):Src w3 (.slice (some ⟨g,0,none⟩) 1 1) 1 cs.toList:=by
 obtain⟨rfl,rfl⟩:=hg
 refine .inr ⟨_,_,rfl,fun j u hu=>?_⟩
 have h0:=zb1 w cs 50 j u hu
 rw [Addr.add_lit] at h0 ⊢
 exact h.cell h0 (by simp)
theorem zfG {y:Ev} {w1 w2:e_} {v1 v2:fb} {o:Obj} (hl:y.lies w1)(hne:∀ b,y.uses b→v1.ownBlock=some b→False)(hg:(w1.alloc o).grownBy w2 v1.ownBlock)(hat:v2.ownBlock=v1.ownBlock∨v2.ownBlock=some (w1.heap.size+1)):y.lies w2∧∀ b,y.uses b→v2.ownBlock≠some b:=by
 refine⟨Ev.frame hl (by have:=hg.size;simp at this;omega) fun b hu=>?_,fun b hu e=>?_⟩
 · have:=Ev.uses_lt hl hu
   exact(hg.block b (by simp;omega) (fun e=>hne b hu e.symm)).trans (fz w1 o b this)
 · have:=Ev.uses_lt hl hu
   rcases hat with h|h
   · exact hne b hu (h▸e)
   · rw [h] at e
     obtain rfl:=fB e
     omega
theorem zfF {y:Ev} {w1 w2:e_} {v1 v2:fb} (hl:y.lies w1)(hne:∀ b,y.uses b→v1.ownBlock=some b→False)(hg:w1.grownBy w2 v1.ownBlock)(hat:v2.ownBlock=v1.ownBlock∨v2.ownBlock=some w1.heap.size):y.lies w2∧∀ b,y.uses b→v2.ownBlock≠some b:=by
 refine⟨Ev.frame hl hg.size fun b hu=>hg.block b (Ev.uses_lt hl hu) (fun e=>hne b hu e.symm),fun b hu e=>?_⟩
 have:=Ev.uses_lt hl hu
 rcases hat with h|h
 · exact hne b hu (h▸e)
 · rw [h] at e
   obtain rfl:=fB e
   omega
theorem zko (zs:List Ev):∀ u∈zs.flatMap Ev.enc,u.oneCell'=true:=by
 intro u hu
 obtain⟨z,_,hz⟩:=List.mem_flatMap.1 hu
 exact Ev.one z u hz
def zfD (w:e_)(v:fb)(zs:List Ev)(wr:e_):Prop:=wr.ownsRow w.heap.size 50 7 v zs.length (zs.flatMap Ev.enc)∧(∀ z∈zs,z.lies wr∧∀ b,z.uses b→w.heap.size≤b)∧fC w.heap.size w wr
theorem zlU {w w5 w8 w10:e_} {B9 k:Nat} {v2 v3:fb} {zs:List Ev} {y:Ev} {cs:List fb} (hb5:fC w.heap.size w w5)(hzs:∀ z∈zs,z.lies w5∧∀ b,z.uses b→w.heap.size≤b)(hb8:fC w5.heap.size w5 w8)(h9:w5.heap.size≤B9)(hyu:∀ b,y.uses b→w5.heap.size≤b)(hyl:y.lies w8)(hne:∀ b,y.uses b→v2.ownBlock≠some b)
 (hk:k≤zs.length) (hcs:cs=y.enc) (ho2:w8.ownsRow B9 50 7 v2 (0+k+1) ([]++(zs.take k).flatMap Ev.enc++cs)) (hg:w8.grownBy w10 v2.ownBlock) (hown:w10.ownsRow B9 50 7 v3 (0+k+1+(zs.length-k)) ([]++(zs.take k).flatMap Ev.enc++cs++(zs.drop k).flatMap Ev.enc)) :
 zfD w v3 (bo zs k y) w10∧fC w5.heap.size w5 w10:=by
 subst hcs
 have hw5:=hb5.size
 have hb10:fC w5.heap.size w5 w10:=hb8.grown hg hb8.size (fun j hj=>fr h9 (ho2.lt j hj).1)
 refine⟨⟨?_,fun z hz=>?_,hb5.trans (hb10.mono hw5)⟩,hb10⟩
 · rw [cT zs k y hk,dr]
   have:=aU hown (fr hw5 h9)
   rw [show 0+k+1+(zs.length-k)=zs.length+1 by omega] at this
   simpa using this
 · unfold bo at hz
   have hz':z∈zs∨z=y:=by
    rcases fo.1 hz with h|h
    · rcases fo.1 h with h|h
      · exact .inl (List.mem_of_mem_take h)
      · exact .inr (by simpa using h)
    · exact .inl (List.mem_of_mem_drop h)
   rcases hz' with h|rfl
   · have hzl:=hzs z h
     exact⟨Ev.frame hzl.1 hb10.size fun b hu=>hb10.block b (Ev.uses_lt hzl.1 hu),hzl.2⟩
   · exact⟨Ev.frame hyl hg.size fun b hu=>hg.block b (Ev.uses_lt hyl hu) (fun e=>hne b hu e.symm),fun b hu=>fr hw5 (hyu b hu)⟩
theorem one7 (a b c:Int)(s:ByteArray)(k:Int)(p:ByteArray)(ad:Option Addr)(n m:Nat):∀ u∈[fE .i64 a,.int .i64 b,.int .i64 c,.string s,.int .u8 k,.string p,.slice ad n m],u.oneCell'=true:=by
 intro u hu
 simp only [fg,List.not_mem_nil,or_false] at hu
 rcases hu with rfl|rfl|rfl|rfl|rfl|rfl|rfl<;>rfl
theorem zlr {w:e_} {b cap k:Nat} {zs:List Ev} (h:bK w (some ⟨b,0,none⟩) zs):Src w (.slice (some ⟨b,0,none⟩) k cap) k ((zs.take k).flatMap Ev.enc):=by
 refine .inr ⟨_,_,rfl,fun j u hu=>?_⟩
 rw [Addr.add_lit]
 refine cn (Ok:=Ev.lies) (k:=7) (enc:=Ev.enc) (fun _=>rfl) h j u ?_
 rw [←ff k zs,fj,List.getElem?_append_left (List.getElem?_eq_some_iff.1 hu).1]
 exact hu
theorem zkj {w:e_} {b cap k:Nat} {zs:List Ev} (h:bK w (some ⟨b,0,none⟩) zs)(hk:k≤zs.length):Src w (.slice (some ⟨b,k*7,none⟩) (zs.length-k) (cap-k)) (zs.length-k) ((zs.drop k).flatMap Ev.enc):=by
 refine .inr ⟨_,_,rfl,fun j u hu=>?_⟩
 rw [Addr.add_lit]
 have:=cn (Ok:=Ev.lies) (k:=7) (enc:=Ev.enc) (fun _=>rfl) h (k*7+j) u (by
  rw [←ff k zs,fj,List.getElem?_append_right (by rw [aC Ev.enc 7 (fun _=>rfl)];simp;omega)]
  rw [aC Ev.enc 7 (fun _=>rfl),fm,Nat.min_eq_left hk,Nat.add_sub_cancel_left]
  simpa using hu)
 simpa using this
def zgz (xs:List Ev)(w:e_)(q:Nat)(v:fb)(wr:e_):Prop:=∃ zs:List Ev,zs.length=q∧zfD w v zs wr∧(zs.map Ev.c).Perm ((xs.take q).map Ev.c)∧(zs.map Ev.c).Pairwise fun x y=>evLe x y=true
def zew (xs:List Ev)(w:e_)(e:Ending)(w':e_):Prop:=∃ v zs,e=.returned v∧zfD w v zs w'∧(zs.map Ev.c).Perm (xs.map Ev.c)∧(zs.map Ev.c).Pairwise fun x y=>evLe x y=true
def Above (zs:List Ev)(x:Ev)(k:Nat):Prop:=∀ z∈zs.drop k,dh x z=true
theorem zlk {x z:Ev} (h:dh x z=true):evLe x.c z.c=true:=by
 have:=(zf4 x z).1 h
 simp only [EvC.lt] at this
 simp only [evLe,decide_eq_true_eq]
 omega
theorem zll {x z:Ev} (h:dh x z=false):evLe z.c x.c=true:=by
 have:¬ x.c.lt z.c:=fun h'=>by rw [(zf4 x z).2 h'] at h;cases h
 simp only [EvC.lt] at this
 simp only [evLe,decide_eq_true_eq]
 omega
theorem zjA {a b c:EvC} (h:evLe a b=true)(h':evLe b c=true):evLe a c=true:=by
 simp only [evLe,decide_eq_true_eq] at *
 omega
theorem zjn {zs:List Ev} {x y:Ev} {k:Nat} (hs:(zs.map Ev.c).Pairwise fun x y=>evLe x y=true)(hy:y.c=x.c)(hA:Above zs x k)(hB:∀ z,0<k→zs[k-1]? =some z→dh x z=false)(hk:k≤zs.length):((bo zs k y).map Ev.c).Pairwise fun x y=>evLe x y=true:=by
 rw [List.pairwise_map] at hs ⊢
 have h12:=hs
 rw [←ff k zs,fi] at h12
 obtain⟨h1,h2,h3⟩:=h12
 have hle:∀ a∈zs.take k,evLe a.c x.c=true:=by
  intro a ha
  obtain⟨i,hi,rfl⟩:=List.getElem_of_mem ha
  simp only [fm] at hi
  have hk1:k-1<zs.length:=by omega
  have hz:=zll (hB zs[k-1] (by omega) (fh hk1))
  rw [List.getElem_take]
  by_cases he:i=k-1
  · subst he
    exact hz
  · rw [List.pairwise_iff_getElem] at hs
    exact zjA (hs i (k-1) (by omega) hk1 (by omega)) hz
 unfold bo
 rw [List.append_assoc,fi]
 refine⟨h1,List.pairwise_cons.2 ⟨fun b hb=>?_,h2⟩,fun a ha b hb=>?_⟩
 · rw [hy]
   exact zlk (hA b hb)
 · rcases fg.1 hb with rfl|hb
   · rw [hy]
     exact hle a ha
   · exact h3 a ha b hb
theorem zjV {xs zs:List Ev} {w wr:e_} {q k:Nat} {x y:Ev} {v:fb} (hx:xs[q]? =some x)(hl:zs.length=q)(hp:(zs.map Ev.c).Perm ((xs.take q).map Ev.c))(hs:(zs.map Ev.c).Pairwise fun x y=>evLe x y=true)(hy:y.c=x.c)(hA:Above zs x k)(hB:∀ z,0<k→zs[k-1]? =some z→dh x z=false)(hk:k≤zs.length)(h:zfD w v (bo zs k y) wr):zgz xs w (q+1) v wr:=by
 refine⟨bo zs k y,by rw [cT zs k y hk,hl],h,?_,zjn hs hy hA hB hk⟩
 rw [List.take_add_one,hx,zhm,hy]
 refine(zfq _ _ _).trans ?_
 rw [List.map_append]
 exact List.Perm.append_right _ hp
theorem zbH (a:Option Addr)(cap:Nat)(xs:List Ev)(w:e_)(h:bK w a xs)(hf:∀ x∈xs,x.rows.length≤4000000∧∀ r∈x.rows,r.runs.length≤4000000)(hl:xs.length≤4000001) :
 Calls Tryz.prog 191 #[.slice a xs.length cap] w (zew xs w):=by
 have HX:=h_ h
 have HF:=h_ hf
 have HQ:=h_ (fun(v:fb) (w':e_) (h:zgz xs w xs.length v w')=>(show zew xs w (.returned v) w' from by
  obtain⟨zs,h1,h2,h3,h4⟩:=h
  rw [List.take_length] at h3
  exact⟨v,zs,rfl,h2,h3,h4⟩))
 obtain⟨j0,hj,hy0,hy1,hy2⟩:=info_parts Tryz.info50
 have JI:=h_ hj;have J0:=h_ hy0;have J1:=h_ hy1;have J2:=h_ hy2
 generalize zew xs w=Q at *
 clear hj hy0 hy1 hy2 h hf
 go_enter Tryz.func191,Tryz.ntmps191
 go_wp2_with fail
 go_loopw [3,10] (fun v i wr=>∃ q:Nat,q≤xs.length∧i=.int .i64 q∧zgz xs w q v wr) (fun _ i _=>xs.length-(intOf i).toNat)
 case atStart=>exact⟨0,by omega,rfl,[],rfl,⟨fF _ _ _ _,fun z hz=>by simp at hz,fA _ _⟩,by simp,by simp⟩
 case round =>
  obtain⟨q,hq,rfl,zs,hzl,⟨hown,hzs,hbw⟩,hzp,hzo⟩:=hrel
  by_cases hlt:q<xs.length
  · obtain⟨b0,off,x,rfl,hbl,hxk,hc,hok⟩:=(HX.out.later hbw).at_ hlt
    have hfx:=HF.out x (List.mem_of_getElem? hxk)
    have d0:=hc 0 _ rfl;have d1:=hc 1 _ rfl;have d2:=hc 2 _ rfl;have d3:=hc 3 _ rfl;have d4:=hc 4 _ rfl;have d5:=hc 5 _ rfl;have d6:=hc 6 _ rfl
    have HNX0:=h_ (fun(k:Nat) (y:Ev) (v:fb) (wz:e_) hy hA hB hk h=>zjV (w:=w) (v:=v) (wr:=wz) (k:=k) (y:=y) hxk hzl hzp hzo hy hA hB hk h)
    obtain⟨w5,hw5⟩:∃ w5,w5=wr.alloc (.cells x.enc.toArray 50):=⟨_,rfl⟩
    have HW5:=h_ hw5
    have hwr:fC wr.heap.size wr w5:=hw5▸(fA _ _).alloc (ft _) _
    have hk5:w5.heap[wr.heap.size]? =some (.cells x.enc.toArray 50 (0,0)):=hw5▸heap_alloc_last wr _
    have hl5:wr.heap.size<w5.heap.size:=by rw [hw5];simp
    have bx:∀ (w':e_),fC w5.heap.size w5 w'→∀ (j:Nat),w'.cell? ⟨wr.heap.size,j,none⟩=x.enc.toArray[j]?:=fun w' h j=>cell_of_row _ _ j _ 50 (0,0) ((h.block _ hl5).trans hk5)
    have b00:fC w5.heap.size w5 w5:=fA _ _
    have hbw5:fC w.heap.size w w5:=hbw.trans (hwr.mono hbw.size)
    have hown5:=aM hown hwr
    have hzs5:∀ z∈zs,z.lies w5∧∀ b,z.uses b→w.heap.size≤b:=fun z hz=>⟨Ev.keeps _ _ _ hwr (hzs z hz).1,(hzs z hz).2⟩
    have HCL:=h_ (fun(w1:e_) (h:fC w5.heap.size w5 w1)=>cH x w1 (Ev.keeps _ _ _ (hwr.trans (h.mono (Nat.le_of_lt hl5))) hok) hfx.2 hfx.1)
    have HLS:=h_ (fun(z:Ev) (w1:e_) (h:fC w5.heap.size w5 w1)=>(zbK x z w1).mono (fun e w' (p:e=.returned (.bool (dh x z))∧fC w1.heap.size w1 w')=>(show e=.returned (.bool (dh x z))∧fC w5.heap.size w5 w' from⟨p.1,h.trans (p.2.mono h.size)⟩)))
    have HW5S:=h_ hbw5.size
    have HFI5:=h_ (fun(k:Nat) (hk:k≤zs.length) (hA:Above zs x k) (hB:∀ z,0<k→zs[k-1]? =some z→dh x z=false) (B9:Nat) (y:Ev) (v2 v3:fb) (w8 w10:e_) (cs:List fb) hb8 h9 (hyc:y.c=x.c) hyu hyl hne hcs ho2 hg hown=>(show zgz xs w (q+1) v3 w10∧fC w5.heap.size w5 w10 from by
     have h:=zlU (w:=w) (w5:=w5) (zs:=zs) (v3:=v3) (w10:=w10) (B9:=B9) (k:=k) (y:=y) (v2:=v2) (w8:=w8) (cs:=cs) hbw5 hzs5 hb8 h9 hyu hyl hne hk hcs ho2 hg hown
     exact⟨HNX0.out k y v3 w10 hyc hA hB hk h.1,h.2⟩))
    have hAN:Above zs x zs.length:=fun z hz=>by rw [List.drop_length] at hz;simp at hz
    have hAS:∀ k z,zs[k]? =some z→dh x z=true→Above zs x (k+1)→Above zs x k:=fun k z hz hl hA y hy=>by
     rw [aZ zs k z hz] at hy
     rcases fg.1 hy with rfl|hy
     · exact hl
     · exact hA y hy
    have HAN:=h_ hAN
    have HAS:=h_ hAS
    clear hw5 hk5 hl5 hfx hok hxk hc hown hzs hzp hzo HNX0 hAN hAS
    have HZL:=h_ hzl
    generalize dh x=LX at *
    generalize Above zs x=AB at *
    generalize x.c=xc0 at *
    obtain⟨xid,xinn,xout,xreg,xkind,xsp,xa,xc,xrows⟩:=x
    simp only [Ev.enc,fy] at *
    rcases hown5.2 with⟨rfl,h0⟩|⟨b,cap',cur,rfl,hb',hg',hcap,hmax,_⟩
    · obtain rfl:zs=[]:=List.eq_nil_of_length_eq_zero h0
      have HS1:=h_ (fun(w1:e_) (h:fC w5.heap.size w5 w1)=>(show Src w1 (.slice none 0 0) 0 [] from .inl ⟨rfl,rfl,rfl⟩))
      have HS3:=HS1
      obtain⟨zt,hzt⟩:∃ zt:List fb,zt=[]:=⟨_,rfl⟩
      obtain⟨zd,hzd⟩:∃ zd:List fb,zd=[]:=⟨_,rfl⟩
      have HNXT:=h_ (fun(B9:Nat) (y:Ev) (v2 v3:fb) (w8 w10:e_) (cs:List fb) hb8 h9 (hyc:y.c=xc0) hyu hyl hne hcs (ho2:w8.ownsRow B9 50 7 v2 (0+0+1) ([]++zt++cs)) hg (hown:w10.ownsRow B9 50 7 v3 (0+0+1+(0-0)) ([]++zt++cs++zd))=>HFI5.out 0 (ft _) HAN.out (fun z h=>absurd h (Nat.lt_irrefl _)) B9 y v2 v3 w8 w10 cs hb8 h9 hyc hyu hyl hne hcs (by rw [hzt] at ho2;exact ho2) hg (by rw [hzt,hzd] at hown;exact hown))
      rw [←hzt] at HS1
      rw [←hzd] at HS3
      have L1:=h_ (show zt.length=0*7 from by rw [hzt];rfl)
      have L3:=h_ (show zd.length=(0-0)*7 from by rw [hzd];rfl)
      have O1:=h_ (show ∀ u∈zt,u.oneCell'=true from by rw [hzt];simp)
      have O3:=h_ (show ∀ u∈zd,u.oneCell'=true from by rw [hzd];simp)
      have M1:=h_ (show 0+0≤maxLen by unfold maxLen;omega)
      have M2:=h_ (show 0+0+1≤maxLen by unfold maxLen;omega)
      have M3:=h_ (show 0+0+1+(0-0)≤maxLen by unfold maxLen;omega)
      clear hzt hzd hown5 hzs5 HFI5 HAN HAS HLS HZL h0 hzl
      go_wp2_with fail
      rw [←HW5.out]
      clear d0 d1 d2 d3 d4 d5 d6
      refine wp_loop_rounds 1 ?_
      rw [rounds_succ]
      go_wp2_with fail
      go_quiet (fail)
      go_wp2_with fail
      generalize hw9:fG w5 _=w9
      have h9:fC w5.heap.size w5 w9:=hw9▸fe b00 _
      clear hw9
      have hD:fC w5.heap.size w5 w9.drew:=h9.drew
      have HD9:=h_ (show w9.heap.size≤w9.drew.heap.size from ft _)
      have HW9:=h_ h9.size
      clear h9
      go_region_held3 (fun w'=>fC w5.heap.size w5 w') (first|with_reducible assumption|with_reducible exact hD|exact hb7.alloc hb7.size _|exact hbc.alloc hbc.size _|fail) (first
       | (refine cG rfl (.tmp 37) (.tmp 40) 24 rfl w9.heap.size 50 j0 _ 7 88 fH JI.out J0.out J1.out J2.out rfl (by decide) v2 (0+0+1) ([]++zt++(#[fE .i64 yid,.int .i64 yinn,.int .i64 yout,.string yreg,.int .u8 ykind,.string ysp,.slice ya yrows.length yc]:Array fb).toList) (by go_simp) HO2.out (.slice none 0 0) (0-0) zd (by go_simp) (HS3.out _ hb8) L3.out O3.out M3.out (by omega) HB8.out ?_;intro v3 w10 hown3 hgrow3;have HF:=h_ (HNXT.out w9.heap.size ⟨yid,yinn,yout,yreg,ykind,ysp,ya,yc,yrows⟩ v2 v3 w8 w10 _ hb8 HW9.out HYC.out HYU.out HY8.out.1 HY8.out.2 rfl HO2.out hgrow3 hown3);have hb10:fC w5.heap.size w5 w10:=HF.out.2;obtain⟨a3,cc3,hv3⟩:=aS hown3;clear hown3 hgrow3;subst hv3)
       | (refine dx w7 #[fE .i64 yid,.int .i64 yinn,.int .i64 yout,.string yreg,.int .u8 ykind,.string ysp,.slice ya yrows.length yc] rfl (.tmp 33) (.tmp 36) 24 rfl w9.heap.size 50 j0 _ 7 88 fH JI.out J0.out J1.out J2.out rfl (by decide) v1 (0+0) ([]++zt) (by go_simp) HO1C.out w7.heap.size (by go_simp) rfl rfl (one7 _ _ _ _ _ _ _ _ _) M2.out (by omega) HB9.out ?_;intro v2 w8 hown2 hgrow2 hat2;have HO2:=h_ hown2;have hb8:fC w5.heap.size w5 w8:=(hb7.alloc hb7.size _).grown hgrow2 (hb7.alloc hb7.size _).size (fun j hj=>fr HW9.out (HO1C.out.lt j hj).1);have HY8:=h_ (zfG HYL.out HNE.out hgrow2 hat2);have HB8:=h_ (show w9.heap.size≤w8.heap.size from by have h1:=hgrow2.size;have h2:=HB9.out;simp at h1;omega);clear hown2 hgrow2 hat2)
       | (refine zbh rfl (.tmp 33) (.tmp 36) 24 rfl w9.heap.size 50 j0 _ 7 88 fH JI.out J0.out J1.out J2.out rfl (by decide) v1 (0+0) ([]++zt) (by go_simp) HO1C.out (.slice (some ⟨wC.heap.size,0,none⟩) 1 1) 1 (#[fE .i64 yid,.int .i64 yinn,.int .i64 yout,.string yreg,.int .u8 ykind,.string ysp,.slice ya yrows.length yc]:Array fb).toList (by go_simp) HSK.out rfl (one7 _ _ _ _ _ _ _ _ _) M2.out (by omega) HB9.out ?_;intro v2 w8 hown2 hgrow2 hat2;have HO2:=h_ hown2;have hb8:fC w5.heap.size w5 w8:=hbD.grown hgrow2 hbD.size (fun j hj=>fr HW9.out (HO1C.out.lt j hj).1);have HY8:=h_ (zfF HYL.out HNE.out hgrow2 hat2);have HB8:=h_ (fr HB9.out hgrow2.size);clear hown2 hgrow2 hat2)
       | (go_at_call 65;(with_reducible refine(HCL.out w6 hb6).mono ?_);rintro e w7 ⟨y,rfl,hyc,hyl,hyu,hbC⟩;have hb7:fC w5.heap.size w5 w7:=hb6.trans (hbC.mono hb6.size);have HYC:=h_ hyc;have HYU:=h_ (fun b hu=>fr hb6.size (hyu b hu));have HYL:=h_ hyl;have HNE:=h_ (fun b (hu:y.uses b) (e:v1.ownBlock=some b)=>(absurd (HO1.out.lt b e).2 (fx.2 (hyu b hu)):False));have HO1C:=h_ (aM HO1.out hbC);have HB9:=h_ (fr HG6.out hbC.size);obtain⟨yid,yinn,yout,yreg,ykind,ysp,ya,yc,yrows⟩:=y;simp only [Ev.enc];clear hyc hyu hyl hbC)
       | (refine cG rfl (.tmp 29) (.tmp 32) 24 rfl w9.heap.size 50 j0 _ 7 88 fH JI.out J0.out J1.out J2.out rfl (by decide) (.slice none 0 0) 0 [] (by go_simp) (fF _ _ _ _) (.slice none 0 0) 0 zt (by go_simp) (HS1.out _ hD) L1.out O1.out M1.out (by omega) HD9.out ?_;intro v1 w6 hown1 hgrow1;have hb6:fC w5.heap.size w5 w6:=hD.grown hgrow1 hD.size (by intro j hj;simp [fD] at hj);have HO1:=h_ hown1;have HG6:=h_ (show w9.heap.size≤w6.heap.size from hgrow1.size);clear hown1 hgrow1)
       | (refine cG rfl (.tmp 29) (.tmp 32) 24 rfl wC.heap.size 50 j0 _ 7 88 fH JI.out J0.out J1.out J2.out rfl (by decide) (.slice none 0 0) 0 [] (by go_simp) (fF _ _ _ _) (.slice none 0 0) 0 zt (by go_simp) (HS1.out _ hbc) L1.out O1.out M1.out (by omega) (ft _) ?_;intro v1 w7 hown1 hgrow1;have hb7:fC w5.heap.size w5 w7:=hbc.grown hgrow1 hbc.size (by intro j hj;simp [fD] at hj);have HNE:=h_ (fun b (hu:Ev.uses ⟨yid,yinn,yout,yreg,ykind,ysp,ya,yc,yrows⟩ b) (e:v1.ownBlock=some b)=>(absurd (hown1.lt b e).1 (fu.2 (HYT.out b hu)):False));have HO1C:=h_ (aU hown1 HBC.out);have HYL:=h_ (Ev.frame HYL0.out hgrow1.size (fun b hu=>hgrow1.block b (HYT.out b hu) (fun e=>by simp [fD] at e)));have HB9:=h_ (fr HBC.out hgrow1.size);clear hown1 hgrow1)
       | (refine cG rfl (.tmp 29) (.tmp 32) 24 rfl wC.heap.size 50 j0 _ 7 88 fH JI.out J0.out J1.out J2.out rfl (by decide) (.slice none 0 0) 0 [] (by go_simp) (fF _ _ _ _) (.slice none 0 0) 0 zt (by go_simp) (HS1.out _ (hbc.alloc hbc.size _)) L1.out O1.out M1.out (by omega) (by simp) ?_;intro v1 wD hown1 hgrow1;have hbD:fC w5.heap.size w5 wD:=(hbc.alloc hbc.size _).grown hgrow1 (hbc.alloc hbc.size _).size (by intro j hj;simp [fD] at hj);have HNE:=h_ (fun b (hu:Ev.uses ⟨yid,yinn,yout,yreg,ykind,ysp,ya,yc,yrows⟩ b) (e:v1.ownBlock=some b)=>(absurd (hown1.lt b e).1 (fu.2 (HYT.out b hu)):False));have HO1C:=h_ (aU hown1 HBC.out);have HSK:=h_ (zdH (w:=wC) hgrow1 wC.heap.size ⟨rfl,rfl⟩);have HYL:=h_ (Ev.frame HYL0.out (fr (by simp) hgrow1.size) (fun b hu=>(hgrow1.block b (by have:=HYT.out b hu;simp;omega) (fun e=>by simp [fD] at e)).trans (fz wC _ b (HYT.out b hu))));have HB9:=h_ (fr HBC.out (fr (by simp) hgrow1.size));clear hown1 hgrow1)
       | (go_at_call 65;(with_reducible refine(HCL.out _ hD).mono ?_);rintro e wC ⟨y,rfl,hyc,hyl,hyu,hbC⟩;have hbc:fC w5.heap.size w5 wC:=hD.trans (hbC.mono hD.size);have HYC:=h_ hyc;have HYU:=h_ (fun b hu=>fr hD.size (hyu b hu));have HYL0:=h_ hyl;have HYT:=h_ (fun b (hu:y.uses b)=>Ev.uses_lt hyl hu);have HBC:=h_ (show w9.heap.size≤wC.heap.size from fr HD9.out hbC.size);obtain⟨yid,yinn,yout,yreg,ykind,ysp,ya,yc,yrows⟩:=y;simp only [Ev.enc];clear hyc hyu hyl hbC))
      all_goals
       have HF1:=h_ HF.out.1
       clear HF
       go_wp2_with fail
       go_roundw
       case rel=>first|exact⟨q+1,by omega,by go_num,HF1.out⟩|exact⟨q+1,by omega,by go_num,by simpa only [fw] using HF1.out⟩
       case measure=>simp [intOf];omega
    · have HEV:=h_ (fun(w1:e_) (h:fC w5.heap.size w5 w1)=>(show bK w1 (some ⟨b,0,none⟩) zs from by
       obtain⟨a',c',he,hS⟩:=ax (k:=7) (enc:=Ev.enc) (Ok:=Ev.lies) (fun _=>rfl) hown5 (fun z hz=>(hzs5 z hz).1)
       simp only [fb.slice.injEq] at he
       obtain⟨rfl,_,rfl⟩:=he
       exact bK.later hS h))
      have hq4:zs.length≤4000000:=by omega
      clear hown5 hzs5 hb' hg' hzl
      go_wp2_with fail
      rw [←HW5.out]
      clear d0 d1 d2 d3 d4 d5 d6
      obtain⟨wo,rfl⟩:∃ wo:e_,wo=wr:=⟨_,rfl⟩
      go_loopw [6] (fun i wq=>∃ k:Nat,k≤zs.length∧i=.int .i64 k∧AB k∧fC w5.heap.size w5 wq) (fun i _=>(intOf i).toNat)
      case atStart=>exact⟨zs.length,ft _,rfl,HAN.out,b00⟩
      case round =>
       obtain⟨wq,rfl⟩:∃ wq:e_,wq=wr:=⟨_,rfl⟩
       obtain⟨k,hk,rfl,hA,hbq⟩:=hrel
       have FIN:=h_ (fun(hB:∀ z,0<k→zs[k-1]? =some z→LX z=false)=>HFI5.out k hk hA hB)
       have HS1:=h_ (fun(w1:e_) (h:fC w5.heap.size w5 w1)=>zlr (cap:=cap') (k:=k) (HEV.out w1 h))
       obtain⟨A,hAd,hsA⟩:∃ A:Addr,(if cap'=k then some (⟨b,0,none⟩:Addr) else some ⟨b,k*7,none⟩)=some A∧Hid (∀ w1,fC w5.heap.size w5 w1→Src w1 (.slice (some A) (zs.length-k) (cap'-k)) (zs.length-k) ((zs.drop k).flatMap Ev.enc)):=by
        by_cases hq:cap'=k
        · refine⟨⟨b,0,none⟩,by simp [hq],fun w1 h=>.inr ⟨_,_,rfl,fun j u hu=>?_⟩⟩
          rw [List.drop_eq_nil_of_le (by omega)] at hu
          simp at hu
        · exact⟨⟨b,k*7,none⟩,by simp [hq],fun w1 h=>zkj (HEV.out w1 h) hk⟩
       have HS3:=hsA
       clear hsA
       have L1:=h_ (show((zs.take k).flatMap Ev.enc).length=k*7 by rw [aC Ev.enc 7 (fun _=>rfl)];simp;omega)
       have L3:=h_ (show((zs.drop k).flatMap Ev.enc).length=(zs.length-k)*7 by rw [aC Ev.enc 7 (fun _=>rfl)];simp)
       have O1:=h_ (zko (zs.take k))
       have O3:=h_ (zko (zs.drop k))
       generalize (zs.take k).flatMap Ev.enc=zt at *
       generalize (zs.drop k).flatMap Ev.enc=zd at *
       have M1:=h_ (show 0+k≤maxLen by unfold maxLen;omega)
       have M2:=h_ (show 0+k+1≤maxLen by unfold maxLen;omega)
       have M3:=h_ (show 0+k+1+(zs.length-k)≤maxLen by unfold maxLen;omega)
       have hkc:k≤cap':=by omega
       have hkn:(k:Int)≤(zs.length:Int):=by omega
       by_cases hk0:0<k
       · obtain⟨z,hz⟩:∃ z,zs[k-1]? =some z:=⟨zs[k-1]'(by omega),fh _⟩
         have hk1:decide (0<k)=true:=by simpa using hk0
         obtain⟨b',off',z',he,_,hz',hcz,_⟩:=(HEV.out _ b00).at_ (show k-1<zs.length by omega)
         obtain rfl:z=z':=fB (hz.symm.trans hz')
         simp only [Option.some.injEq,Addr.mk.injEq,and_true] at he
         obtain⟨rfl,rfl⟩:=he
         have hblt:b<w5.heap.size:=by assumption
         have hp:∀ (w':e_),fC w5.heap.size w5 w'→∀ j u,z.enc[j]? =some u→w'.cell? ⟨b,(k-1)*7+j,none⟩=some u:=fun w' h j u hu=>by
          have h1:=hcz j u hu
          rw [fw] at h1
          exact(h.cell (p:=⟨b,(k-1)*7+j,none⟩) hblt).trans h1
         have hAK:LX z=true→AB (k-1):=fun hl=>HAS.out (k-1) z hz hl (by rw [Nat.sub_add_cancel hk0];exact hA)
         have HAK:=h_ hAK
         have HZK:=h_ hz
         have HLZ:=h_ (HLS.out z)
         generalize hLZ:LX z=LZ at *
         have HLV:=h_ hLZ
         obtain⟨zid,zinn,zout,zreg,zkind,zsp,za,zc,zrows⟩:=z
         have p0:=fun w' h=>hp w' h 0 _ rfl;have p1:=fun w' h=>hp w' h 1 _ rfl;have p2:=fun w' h=>hp w' h 2 _ rfl;have p3:=fun w' h=>hp w' h 3 _ rfl;have p4:=fun w' h=>hp w' h 4 _ rfl;have p5:=fun w' h=>hp w' h 5 _ rfl;have p6:=fun w' h=>hp w' h 6 _ rfl
         simp only [fy,Ev.enc] at p0 HLZ
         have hqd:fC w5.heap.size w5 wq.drew:=hbq.drew
         have hi0:1≤k:=hk0
         have hi1:(1:Int)≤(k:Int):=by omega
         have hi2:(k:Int)-1<(zs.length:Int):=by omega
         have hi3:IntKind.i64.wrap ((k:Int)-1)=(k:Int)-1:=IntWalk.i64_in _ (by omega)
         have hi4:((k:Int)-1).toNat=k-1:=by omega
         clear hcz hz hz' hp hA hAK hLZ HEV
         go_wp2_with fail
         go_region_held3 (fun w'=>fC w5.heap.size w5 w') (first|with_reducible assumption|with_reducible exact hqd|fail) (first|(go_at_call 101;((with_reducible refine(HLZ.out _ ?_).mono ?_);with_reducible assumption);rintro e w4 ⟨rfl,hb4⟩))
         all_goals
          cases LZ
          · have HNXT:=h_ (FIN.out (fun z h0 hz=>by rw [HZK.out] at hz;obtain rfl:=fB hz;exact HLV.out))
            have h9:=hb4
            clear FIN HAK p0 p1 p2 p3 p4 p5 p6 HLZ hqd hb4 hbq
            go_wp2_with fail
            generalize w4=w9 at *
            have hD:fC w5.heap.size w5 w9.drew:=h9.drew
            have HD9:=h_ (show w9.heap.size≤w9.drew.heap.size from ft _)
            have HW9:=h_ h9.size
            clear h9
            go_region_held3 (fun w'=>fC w5.heap.size w5 w') (first|with_reducible assumption|with_reducible exact hD|exact hb7.alloc hb7.size _|exact hbc.alloc hbc.size _|fail) (first
         | (refine cG rfl (.tmp 37) (.tmp 40) 24 rfl w9.heap.size 50 j0 _ 7 88 fH JI.out J0.out J1.out J2.out rfl (by decide) v2 (0+k+1) ([]++zt++(#[fE .i64 yid,.int .i64 yinn,.int .i64 yout,.string yreg,.int .u8 ykind,.string ysp,.slice ya yrows.length yc]:Array fb).toList) (by go_simp) HO2.out (.slice (some A) (zs.length-k) (cap'-k)) (zs.length-k) zd (by go_simp) (HS3.out _ hb8) L3.out O3.out M3.out (by omega) HB8.out ?_;intro v3 w10 hown3 hgrow3;have HF:=h_ (HNXT.out w9.heap.size ⟨yid,yinn,yout,yreg,ykind,ysp,ya,yc,yrows⟩ v2 v3 w8 w10 _ hb8 HW9.out HYC.out HYU.out HY8.out.1 HY8.out.2 rfl HO2.out hgrow3 hown3);have hb10:fC w5.heap.size w5 w10:=HF.out.2;obtain⟨a3,cc3,hv3⟩:=aS hown3;clear hown3 hgrow3;subst hv3)
         | (refine dx w7 #[fE .i64 yid,.int .i64 yinn,.int .i64 yout,.string yreg,.int .u8 ykind,.string ysp,.slice ya yrows.length yc] rfl (.tmp 33) (.tmp 36) 24 rfl w9.heap.size 50 j0 _ 7 88 fH JI.out J0.out J1.out J2.out rfl (by decide) v1 (0+k) ([]++zt) (by go_simp) HO1C.out w7.heap.size (by go_simp) rfl rfl (one7 _ _ _ _ _ _ _ _ _) M2.out (by omega) HB9.out ?_;intro v2 w8 hown2 hgrow2 hat2;have HO2:=h_ hown2;have hb8:fC w5.heap.size w5 w8:=(hb7.alloc hb7.size _).grown hgrow2 (hb7.alloc hb7.size _).size (fun j hj=>fr HW9.out (HO1C.out.lt j hj).1);have HY8:=h_ (zfG HYL.out HNE.out hgrow2 hat2);have HB8:=h_ (show w9.heap.size≤w8.heap.size from by have h1:=hgrow2.size;have h2:=HB9.out;simp at h1;omega);clear hown2 hgrow2 hat2)
         | (refine zbh rfl (.tmp 33) (.tmp 36) 24 rfl w9.heap.size 50 j0 _ 7 88 fH JI.out J0.out J1.out J2.out rfl (by decide) v1 (0+k) ([]++zt) (by go_simp) HO1C.out (.slice (some ⟨wC.heap.size,0,none⟩) 1 1) 1 (#[fE .i64 yid,.int .i64 yinn,.int .i64 yout,.string yreg,.int .u8 ykind,.string ysp,.slice ya yrows.length yc]:Array fb).toList (by go_simp) HSK.out rfl (one7 _ _ _ _ _ _ _ _ _) M2.out (by omega) HB9.out ?_;intro v2 w8 hown2 hgrow2 hat2;have HO2:=h_ hown2;have hb8:fC w5.heap.size w5 w8:=hbD.grown hgrow2 hbD.size (fun j hj=>fr HW9.out (HO1C.out.lt j hj).1);have HY8:=h_ (zfF HYL.out HNE.out hgrow2 hat2);have HB8:=h_ (fr HB9.out hgrow2.size);clear hown2 hgrow2 hat2)
         | (go_at_call 65;(with_reducible refine(HCL.out w6 hb6).mono ?_);rintro e w7 ⟨y,rfl,hyc,hyl,hyu,hbC⟩;have hb7:fC w5.heap.size w5 w7:=hb6.trans (hbC.mono hb6.size);have HYC:=h_ hyc;have HYU:=h_ (fun b hu=>fr hb6.size (hyu b hu));have HYL:=h_ hyl;have HNE:=h_ (fun b (hu:y.uses b) (e:v1.ownBlock=some b)=>(absurd (HO1.out.lt b e).2 (fx.2 (hyu b hu)):False));have HO1C:=h_ (aM HO1.out hbC);have HB9:=h_ (fr HG6.out hbC.size);obtain⟨yid,yinn,yout,yreg,ykind,ysp,ya,yc,yrows⟩:=y;simp only [Ev.enc];clear hyc hyu hyl hbC)
         | (refine cG rfl (.tmp 29) (.tmp 32) 24 rfl w9.heap.size 50 j0 _ 7 88 fH JI.out J0.out J1.out J2.out rfl (by decide) (.slice none 0 0) 0 [] (by go_simp) (fF _ _ _ _) (.slice (some ⟨b,0,none⟩) k cap') k zt (by go_simp) (HS1.out _ hD) L1.out O1.out M1.out (by omega) HD9.out ?_;intro v1 w6 hown1 hgrow1;have hb6:fC w5.heap.size w5 w6:=hD.grown hgrow1 hD.size (by intro j hj;simp [fD] at hj);have HO1:=h_ hown1;have HG6:=h_ (show w9.heap.size≤w6.heap.size from hgrow1.size);clear hown1 hgrow1)
         | (refine cG rfl (.tmp 29) (.tmp 32) 24 rfl wC.heap.size 50 j0 _ 7 88 fH JI.out J0.out J1.out J2.out rfl (by decide) (.slice none 0 0) 0 [] (by go_simp) (fF _ _ _ _) (.slice (some ⟨b,0,none⟩) k cap') k zt (by go_simp) (HS1.out _ hbc) L1.out O1.out M1.out (by omega) (ft _) ?_;intro v1 w7 hown1 hgrow1;have hb7:fC w5.heap.size w5 w7:=hbc.grown hgrow1 hbc.size (by intro j hj;simp [fD] at hj);have HNE:=h_ (fun b (hu:Ev.uses ⟨yid,yinn,yout,yreg,ykind,ysp,ya,yc,yrows⟩ b) (e:v1.ownBlock=some b)=>(absurd (hown1.lt b e).1 (fu.2 (HYT.out b hu)):False));have HO1C:=h_ (aU hown1 HBC.out);have HYL:=h_ (Ev.frame HYL0.out hgrow1.size (fun b hu=>hgrow1.block b (HYT.out b hu) (fun e=>by simp [fD] at e)));have HB9:=h_ (fr HBC.out hgrow1.size);clear hown1 hgrow1)
         | (refine cG rfl (.tmp 29) (.tmp 32) 24 rfl wC.heap.size 50 j0 _ 7 88 fH JI.out J0.out J1.out J2.out rfl (by decide) (.slice none 0 0) 0 [] (by go_simp) (fF _ _ _ _) (.slice (some ⟨b,0,none⟩) k cap') k zt (by go_simp) (HS1.out _ (hbc.alloc hbc.size _)) L1.out O1.out M1.out (by omega) (by simp) ?_;intro v1 wD hown1 hgrow1;have hbD:fC w5.heap.size w5 wD:=(hbc.alloc hbc.size _).grown hgrow1 (hbc.alloc hbc.size _).size (by intro j hj;simp [fD] at hj);have HNE:=h_ (fun b (hu:Ev.uses ⟨yid,yinn,yout,yreg,ykind,ysp,ya,yc,yrows⟩ b) (e:v1.ownBlock=some b)=>(absurd (hown1.lt b e).1 (fu.2 (HYT.out b hu)):False));have HO1C:=h_ (aU hown1 HBC.out);have HSK:=h_ (zdH (w:=wC) hgrow1 wC.heap.size ⟨rfl,rfl⟩);have HYL:=h_ (Ev.frame HYL0.out (fr (by simp) hgrow1.size) (fun b hu=>(hgrow1.block b (by have:=HYT.out b hu;simp;omega) (fun e=>by simp [fD] at e)).trans (fz wC _ b (HYT.out b hu))));have HB9:=h_ (fr HBC.out (fr (by simp) hgrow1.size));clear hown1 hgrow1)
         | (go_at_call 65;(with_reducible refine(HCL.out _ hD).mono ?_);rintro e wC ⟨y,rfl,hyc,hyl,hyu,hbC⟩;have hbc:fC w5.heap.size w5 wC:=hD.trans (hbC.mono hD.size);have HYC:=h_ hyc;have HYU:=h_ (fun b hu=>fr hD.size (hyu b hu));have HYL0:=h_ hyl;have HYT:=h_ (fun b (hu:y.uses b)=>Ev.uses_lt hyl hu);have HBC:=h_ (show w9.heap.size≤wC.heap.size from fr HD9.out hbC.size);obtain⟨yid,yinn,yout,yreg,ykind,ysp,ya,yc,yrows⟩:=y;simp only [Ev.enc];clear hyc hyu hyl hbC))
            all_goals
             have HF1:=h_ HF.out.1
             clear HF
             go_wp2_with fail
             go_roundw
             case rel=>first|exact⟨q+1,by omega,by go_num,HF1.out⟩|exact⟨q+1,by omega,by go_num,by simpa only [fw] using HF1.out⟩
             case measure=>simp [intOf];omega
          · have HAB:=h_ (HAK.out rfl)
            clear HAK p0 p1 p2 p3 p4 p5 p6 HLZ hqd FIN
            go_wp2_with fail
            go_roundw
            case rel=>exact⟨k-1,by omega,by go_num,HAB.out,hb4⟩
            case measure=>simp [intOf];omega
       · have hk1:decide (0<k)=false:=by simpa using hk0
         have HNXT:=h_ (FIN.out (fun z h0=>absurd h0 hk0))
         clear FIN hA HEV
         go_wp2_with fail
         go_quiet (fail)
         go_wp2_with fail
         generalize hw9:fG wq _=w9
         have h9:fC w5.heap.size w5 w9:=hw9▸fe hbq _
         clear hw9 hbq
         have hD:fC w5.heap.size w5 w9.drew:=h9.drew
         have HD9:=h_ (show w9.heap.size≤w9.drew.heap.size from ft _)
         have HW9:=h_ h9.size
         clear h9
         go_region_held3 (fun w'=>fC w5.heap.size w5 w') (first|with_reducible assumption|with_reducible exact hD|exact hb7.alloc hb7.size _|exact hbc.alloc hbc.size _|fail) (first
         | (refine cG rfl (.tmp 37) (.tmp 40) 24 rfl w9.heap.size 50 j0 _ 7 88 fH JI.out J0.out J1.out J2.out rfl (by decide) v2 (0+k+1) ([]++zt++(#[fE .i64 yid,.int .i64 yinn,.int .i64 yout,.string yreg,.int .u8 ykind,.string ysp,.slice ya yrows.length yc]:Array fb).toList) (by go_simp) HO2.out (.slice (some A) (zs.length-k) (cap'-k)) (zs.length-k) zd (by go_simp) (HS3.out _ hb8) L3.out O3.out M3.out (by omega) HB8.out ?_;intro v3 w10 hown3 hgrow3;have HF:=h_ (HNXT.out w9.heap.size ⟨yid,yinn,yout,yreg,ykind,ysp,ya,yc,yrows⟩ v2 v3 w8 w10 _ hb8 HW9.out HYC.out HYU.out HY8.out.1 HY8.out.2 rfl HO2.out hgrow3 hown3);have hb10:fC w5.heap.size w5 w10:=HF.out.2;obtain⟨a3,cc3,hv3⟩:=aS hown3;clear hown3 hgrow3;subst hv3)
         | (refine dx w7 #[fE .i64 yid,.int .i64 yinn,.int .i64 yout,.string yreg,.int .u8 ykind,.string ysp,.slice ya yrows.length yc] rfl (.tmp 33) (.tmp 36) 24 rfl w9.heap.size 50 j0 _ 7 88 fH JI.out J0.out J1.out J2.out rfl (by decide) v1 (0+k) ([]++zt) (by go_simp) HO1C.out w7.heap.size (by go_simp) rfl rfl (one7 _ _ _ _ _ _ _ _ _) M2.out (by omega) HB9.out ?_;intro v2 w8 hown2 hgrow2 hat2;have HO2:=h_ hown2;have hb8:fC w5.heap.size w5 w8:=(hb7.alloc hb7.size _).grown hgrow2 (hb7.alloc hb7.size _).size (fun j hj=>fr HW9.out (HO1C.out.lt j hj).1);have HY8:=h_ (zfG HYL.out HNE.out hgrow2 hat2);have HB8:=h_ (show w9.heap.size≤w8.heap.size from by have h1:=hgrow2.size;have h2:=HB9.out;simp at h1;omega);clear hown2 hgrow2 hat2)
         | (refine zbh rfl (.tmp 33) (.tmp 36) 24 rfl w9.heap.size 50 j0 _ 7 88 fH JI.out J0.out J1.out J2.out rfl (by decide) v1 (0+k) ([]++zt) (by go_simp) HO1C.out (.slice (some ⟨wC.heap.size,0,none⟩) 1 1) 1 (#[fE .i64 yid,.int .i64 yinn,.int .i64 yout,.string yreg,.int .u8 ykind,.string ysp,.slice ya yrows.length yc]:Array fb).toList (by go_simp) HSK.out rfl (one7 _ _ _ _ _ _ _ _ _) M2.out (by omega) HB9.out ?_;intro v2 w8 hown2 hgrow2 hat2;have HO2:=h_ hown2;have hb8:fC w5.heap.size w5 w8:=hbD.grown hgrow2 hbD.size (fun j hj=>fr HW9.out (HO1C.out.lt j hj).1);have HY8:=h_ (zfF HYL.out HNE.out hgrow2 hat2);have HB8:=h_ (fr HB9.out hgrow2.size);clear hown2 hgrow2 hat2)
         | (go_at_call 65;(with_reducible refine(HCL.out w6 hb6).mono ?_);rintro e w7 ⟨y,rfl,hyc,hyl,hyu,hbC⟩;have hb7:fC w5.heap.size w5 w7:=hb6.trans (hbC.mono hb6.size);have HYC:=h_ hyc;have HYU:=h_ (fun b hu=>fr hb6.size (hyu b hu));have HYL:=h_ hyl;have HNE:=h_ (fun b (hu:y.uses b) (e:v1.ownBlock=some b)=>(absurd (HO1.out.lt b e).2 (fx.2 (hyu b hu)):False));have HO1C:=h_ (aM HO1.out hbC);have HB9:=h_ (fr HG6.out hbC.size);obtain⟨yid,yinn,yout,yreg,ykind,ysp,ya,yc,yrows⟩:=y;simp only [Ev.enc];clear hyc hyu hyl hbC)
         | (refine cG rfl (.tmp 29) (.tmp 32) 24 rfl w9.heap.size 50 j0 _ 7 88 fH JI.out J0.out J1.out J2.out rfl (by decide) (.slice none 0 0) 0 [] (by go_simp) (fF _ _ _ _) (.slice (some ⟨b,0,none⟩) k cap') k zt (by go_simp) (HS1.out _ hD) L1.out O1.out M1.out (by omega) HD9.out ?_;intro v1 w6 hown1 hgrow1;have hb6:fC w5.heap.size w5 w6:=hD.grown hgrow1 hD.size (by intro j hj;simp [fD] at hj);have HO1:=h_ hown1;have HG6:=h_ (show w9.heap.size≤w6.heap.size from hgrow1.size);clear hown1 hgrow1)
         | (refine cG rfl (.tmp 29) (.tmp 32) 24 rfl wC.heap.size 50 j0 _ 7 88 fH JI.out J0.out J1.out J2.out rfl (by decide) (.slice none 0 0) 0 [] (by go_simp) (fF _ _ _ _) (.slice (some ⟨b,0,none⟩) k cap') k zt (by go_simp) (HS1.out _ hbc) L1.out O1.out M1.out (by omega) (ft _) ?_;intro v1 w7 hown1 hgrow1;have hb7:fC w5.heap.size w5 w7:=hbc.grown hgrow1 hbc.size (by intro j hj;simp [fD] at hj);have HNE:=h_ (fun b (hu:Ev.uses ⟨yid,yinn,yout,yreg,ykind,ysp,ya,yc,yrows⟩ b) (e:v1.ownBlock=some b)=>(absurd (hown1.lt b e).1 (fu.2 (HYT.out b hu)):False));have HO1C:=h_ (aU hown1 HBC.out);have HYL:=h_ (Ev.frame HYL0.out hgrow1.size (fun b hu=>hgrow1.block b (HYT.out b hu) (fun e=>by simp [fD] at e)));have HB9:=h_ (fr HBC.out hgrow1.size);clear hown1 hgrow1)
         | (refine cG rfl (.tmp 29) (.tmp 32) 24 rfl wC.heap.size 50 j0 _ 7 88 fH JI.out J0.out J1.out J2.out rfl (by decide) (.slice none 0 0) 0 [] (by go_simp) (fF _ _ _ _) (.slice (some ⟨b,0,none⟩) k cap') k zt (by go_simp) (HS1.out _ (hbc.alloc hbc.size _)) L1.out O1.out M1.out (by omega) (by simp) ?_;intro v1 wD hown1 hgrow1;have hbD:fC w5.heap.size w5 wD:=(hbc.alloc hbc.size _).grown hgrow1 (hbc.alloc hbc.size _).size (by intro j hj;simp [fD] at hj);have HNE:=h_ (fun b (hu:Ev.uses ⟨yid,yinn,yout,yreg,ykind,ysp,ya,yc,yrows⟩ b) (e:v1.ownBlock=some b)=>(absurd (hown1.lt b e).1 (fu.2 (HYT.out b hu)):False));have HO1C:=h_ (aU hown1 HBC.out);have HSK:=h_ (zdH (w:=wC) hgrow1 wC.heap.size ⟨rfl,rfl⟩);have HYL:=h_ (Ev.frame HYL0.out (fr (by simp) hgrow1.size) (fun b hu=>(hgrow1.block b (by have:=HYT.out b hu;simp;omega) (fun e=>by simp [fD] at e)).trans (fz wC _ b (HYT.out b hu))));have HB9:=h_ (fr HBC.out (fr (by simp) hgrow1.size));clear hown1 hgrow1)
         | (go_at_call 65;(with_reducible refine(HCL.out _ hD).mono ?_);rintro e wC ⟨y,rfl,hyc,hyl,hyu,hbC⟩;have hbc:fC w5.heap.size w5 wC:=hD.trans (hbC.mono hD.size);have HYC:=h_ hyc;have HYU:=h_ (fun b hu=>fr hD.size (hyu b hu));have HYL0:=h_ hyl;have HYT:=h_ (fun b (hu:y.uses b)=>Ev.uses_lt hyl hu);have HBC:=h_ (show w9.heap.size≤wC.heap.size from fr HD9.out hbC.size);obtain⟨yid,yinn,yout,yreg,ykind,ysp,ya,yc,yrows⟩:=y;simp only [Ev.enc];clear hyc hyu hyl hbC))
         all_goals
          have HF1:=h_ HF.out.1
          clear HF
          go_wp2_with fail
          go_roundw
          case rel=>first|exact⟨q+1,by omega,by go_num,HF1.out⟩|exact⟨q+1,by omega,by go_num,by simpa only [fw] using HF1.out⟩
          case measure=>simp [intOf];omega
  · obtain rfl:q=xs.length:=by omega
    have HFI:=h_ (HQ.out _ _ ⟨zs,hzl,⟨hown,hzs,hbw⟩,hzp,hzo⟩)
    obtain⟨va,vc,rfl⟩:=aS hown
    clear hown hzs hzp hzo HX HF
    go_wp2_with fail
    exact HFI.out
end Go.Proofs.YtnlnmbcaongehaaGreatDoor
