/- The stable sort at events: how two events compare, and the contract of slices.SortStableFunc with document.Sort's comparison. The error of a document hangs on its contents alone; what a document without an error holds. -/
import Derived.Test.YtnlnmbcaongehaaGreatDoorN07
set_option linter.unusedVariables false
set_option linter.unusedSimpArgs false
set_option maxRecDepth 100000
set_option maxHeartbeats 12800000
open Go.Lib renaming hid→h_
open Go.Proofs.Tryz renaming prog→Su,underlying24→Sv,underlying252→Sw,zeroValue252→Sx,zeroValue24→Sy,underlying4→Sz,underlying3→SA,underlying0→SB,zeroValue4→SC,zeroValue3→SD,zeroValue0→SE,sizeOf252→SF,sizeOf24→SG,isAgg252→SH,sizeOf4→SI,sizeOf3→SJ,sizeOf0→SK,isAgg24→SL,func277→SM,func247→SN,func185→SO,isAgg4→SQ,isAgg3→SR,isAgg0→SS
open Go.Lib renaming compareInt→SU,allEq→SV,toList_data→SW
open Go renaming World→SX,Value→SY,cell_of_row→SZ,frozen_of_row→S5,heap_alloc_last→S6,wp_at_zero→S7,wp_at_succ→S8,wp_loop_rounds→S9,rounds_succ→S_,Calls→Ta
open Go.Sort renaming alloc_eq_grow→Tb,putCells→Tc,heap_grow_old→Td,grow_grow→Te,mapBlock→Tf,putRow→Tg
open Go.Value renaming int→Th,string→Ti,agg→Tj
open List renaming getElem?_eq_getElem→Tk,flatMap_cons→Tl,getElem?_eq_some_iff→Tm,map_cons→Tn,pairwise_cons→To,eq_nil_of_length_eq_zero→Tp,map_append→Tq,pairwise_iff_getElem→Tr,mem_cons→Ts,mem_of_getElem?→Tt,flatMap_append→Tu,length_append→Tv,take_add_one→Tw,size_toArray→Tx,pairwise_map→Ty,getElem?_map→Tz
open List.Pairwise renaming nil→TA
open Nat renaming lt_of_lt_of_le→TC,le_refl→TD,le_trans→TE,zero_le→TF,mul_comm→TG
open Array renaming getElem?_eq_some_iff→TI,getElem?_eq_getElem→TJ,getElem?_toList→TK,getElem?_modify→TL
open Go.RowKit renaming Below→TM
open Go.RowKit.Below renaming heap_alloc→TN,refl→TO
namespace Go.Proofs.YtnlnmbcaongehaaGreatDoor
open Go.RowKit
theorem Tryz.stLay:xy Su:={
 mixed:=by kernel_rfl
 f299:=Tryz.func299
 f290:=Tryz.func290
 f278:=Tryz.func278
 f247:=SN
 f185:=SO
 ins:={ mixed:=by kernel_rfl,f20:=⟨Tryz.f277.name,by decide,SM.trans (congrArg some (by kernel_rfl))⟩,t0:=SB,a0:=SS,z0:=SK,v0:=SE,t3:=SA,a3:=SR,z3:=SJ,v3:=SD,t4:=Sz,a4:=SQ,z4:=SI,v4:=SC,t22:=Sv,a22:=SL,z22:=SG,v22:=Sy,t25:=Sw,a25:=SH,z25:=SF,v25:=Sx }
 t0:=SB
 a0:=SS
 z0:=SK
 v0:=SE
 t3:=SA
 a3:=SR
 z3:=SJ
 v3:=SD
 t4:=Sz
 a4:=SQ
 z4:=SI
 v4:=SC
 t24:=Sv
 a24:=SL
 z24:=SG
 v24:=Sy
 t238:=Tryz.underlying238
 a238:=Tryz.isAgg238
 z238:=Tryz.sizeOf238
 v238:=Tryz.zeroValue238
 t252:=Sw
 a252:=SH
 z252:=SF
 v252:=Sx }
def rD (x y:Ev):Int:=orL [SU x.inn y.inn,SU x.id y.id]
theorem Pt (w:SX)(o o' o'':Obj):∃ q os',(((w.alloc o).alloc o').alloc o'').drew=Sort.grow (w.drewN q) os':=⟨1,#[o,o',o''],by
 rw [Tb,Tb,Tb,Te,Te];rfl⟩
theorem wg (x y:Ev)(w:SX):Ta Su 186 (#[.agg x.enc.toArray,.agg y.enc.toArray]++#[]) w fun e w'=>e=.returned (.int .i64 (rD x y))∧∃ q os',w'=Sort.grow (w.drewN q) os':=by
 unfold rD
 obtain⟨id,inn,out,region,kind,speaker,a,cap,xs⟩:=x
 obtain⟨id',inn',out',region',kind',speaker',a',cap',xs'⟩:=y
 simp only [Ev.enc]
 rw [show(#[Tj [Th .i64 id,.int .i64 inn,.int .i64 out,.string region,.int .u8 kind,.string speaker,.slice a xs.length cap].toArray,.agg [Th .i64 id',.int .i64 inn',.int .i64 out',.string region',.int .u8 kind',.string speaker',.slice a' xs'.length cap'].toArray]++#[]:Array SY)=#[Tj [Th .i64 id,.int .i64 inn,.int .i64 out,.string region,.int .u8 kind,.string speaker,.slice a xs.length cap].toArray,.agg [Th .i64 id',.int .i64 inn',.int .i64 out',.string region',.int .u8 kind',.string speaker',.slice a' xs'.length cap'].toArray] by simp]
 have HC:=h_ (fun p q w=>Tryz.cmp_Compare_int p q w)
 have hc1:∀ (cs cs':Array SY) (j:Nat),((w.alloc (.cells cs 50)).alloc (.cells cs' 50)).cell? ⟨w.heap.size,j,none⟩=cs[j]?:=fun cs cs' j=>by
  rw [SX.cell?_alloc_lt _ _ _ (by simp),SZ _ _ j cs 50 (0,0) (S6 w _)]
 have hc2:∀ (cs cs':Array SY) (j:Nat),((w.alloc (.cells cs 50)).alloc (.cells cs' 50)).cell? ⟨w.heap.size+1,j,none⟩=cs'[j]?:=fun cs cs' j=>by
  rw [SZ _ _ j cs' 50 (0,0) (rL w _ _)]
 obtain⟨cs,hcs⟩:∃ cs:Array SY,cs=#[.int .i64 id,.int .i64 inn,.int .i64 out,.string region,.int .u8 kind,.string speaker,.slice a xs.length cap]:=⟨_,rfl⟩
 obtain⟨cs',hcs'⟩:∃ cs:Array SY,cs=#[.int .i64 id',.int .i64 inn',.int .i64 out',.string region',.int .u8 kind',.string speaker',.slice a' xs'.length cap']:=⟨_,rfl⟩
 have HG:=h_ (fun o=>Pt w (.cells cs 50) (.cells cs' 50) o)
 have e1:=(hc1 cs cs' 0).trans (show _=some (Th .i64 id) by rw [hcs];rfl)
 have e2:=(hc1 cs cs' 1).trans (show _=some (Th .i64 inn) by rw [hcs];rfl)
 have e3:=(hc2 cs cs' 0).trans (show _=some (Th .i64 id') by rw [hcs'];rfl)
 have e4:=(hc2 cs cs' 1).trans (show _=some (Th .i64 inn') by rw [hcs'];rfl)
 rw [hcs,hcs'] at e1 e2 e3 e4 HG
 generalize hW:(w.alloc (.cells #[.int .i64 id,.int .i64 inn,.int .i64 out,.string region,.int .u8 kind,.string speaker,.slice a xs.length cap] 50)).alloc (.cells #[.int .i64 id',.int .i64 inn',.int .i64 out',.string region',.int .u8 kind',.string speaker',.slice a' xs'.length cap'] 50)=W at *
 have HW:=h_ hW
 clear hW hc1 hc2 hcs hcs' cs cs'
 go_enter Tryz.func186,Tryz.ntmps186
 go_wp2_with fail
 rw [HW.out]
 refine wp_region_still_tail 12 (by kernel_rfl) (by kernel_rfl) ?_
 simp only [List.take_succ_cons,List.take_zero,List.drop_succ_cons,List.drop_zero]
 repeat still_step
 still_call (HC.out _ _ _)
 repeat still_step
 still_call (HC.out _ _ _)
 refine wpStill_nil ?_
 have HI:Hid (∀ w2:SX,Ints (w2.alloc (.cells #[.int .i64 (SU inn inn'),.int .i64 (SU id id')] 3)) (some ⟨w2.heap.size,0,none⟩) [SU inn inn',SU id id']):=h_ (fun w2=>by
  refine .inr ⟨w2.heap.size,0,rfl,by simp,fun i z hz=>⟨fun j v hv=>?_,trivial⟩⟩
  match j,hv with
  | 0,hv =>
    simp at hv
    subst hv
    rw [show 0+i*1+0=i by omega,SZ _ _ i _ 3 (0,0) (S6 w2 _)]
    match i,hz with
    | 0,hz=>simp at hz;subst hz;rfl
    | 1,hz=>simp at hz;subst hz;rfl)
 have HI2:Hid (Ints ((W.alloc (.cells #[.int .i64 (SU inn inn'),.int .i64 (SU id id')] 3)).drew) (some ⟨W.heap.size,0,none⟩) [SU inn inn',SU id id']):=h_ (HI.out W)
 go_wp2_with fail
 refine(CN _ _ [SU inn inn',SU id id'] _ HI2.out (by simp)).mono ?_
 rintro e w' ⟨rfl,rfl⟩
 go_wp2_with fail
 go_ret
 exact⟨rfl,HG.out _⟩
theorem Ly (p q:Int):orL [p,q]=if p=0 then q else p:=by
 simp only [orL]
 repeat' split
 all_goals simp_all
theorem qT (x y:Int):(SU x y=-1∧x<y)∨(SU x y=0∧x=y)∨(SU x y=1∧y<x):=by
 unfold SU
 repeat' split
 all_goals omega
theorem nf (x y:Ev):ltOf rD x y=decide (x.inn<y.inn∨(x.inn=y.inn∧x.id<y.id)):=by
 unfold ltOf rD
 rw [Ly]
 congr 1
 rcases qT x.inn y.inn with⟨h,h1⟩|⟨h,h1⟩|⟨h,h1⟩<;>rcases qT x.id y.id with⟨k,k1⟩|⟨k,k1⟩|⟨k,k1⟩<;>rw [h,k]<;>simp<;>omega
theorem GN:Sort.SWO (ltOf rD) where
 irrefl x:=by rw [nf];simp
 trans x y z h1 h2:=by rw [nf] at *;simp at *;omega
 ntrans x y z h1 h2:=by rw [nf] at *;simp at *;omega
theorem oR:∀ xs ys:List Row,xs.map Row.runs=ys.map Row.runs→iS xs=iS ys
 | [],[],_=>rfl
 | [],y::l,h=>by simp at h
 | x::l,[],h=>by simp at h
 | x::l,y::m,h=>by
   simp only [Tn,List.cons.injEq] at h
   rw [iS,iS,h.1,oR l m h.2]
theorem sy {xs ys:List Row} (h:xs.map Row.runs=ys.map Row.runs):e9 xs=e9 ys:=by
 have e:∀ zs:List Row,e9 zs=(zs.map Row.runs).map rowLen:=fun zs=>by unfold e9;rw [List.map_map];rfl
 rw [e,e,h]
theorem wO {α β:Type} {f:α→β} {xs ys:List α} (h:xs.map f=ys.map f):xs.length=ys.length:=by
 have:=congrArg List.length h
 simpa using this
theorem vw {x y:Ev} (h:x.c=y.c)(rG:List Reg):pk x rG=pk y rG:=by
 obtain⟨id,inn,out,reg,kind,sp,a,c,rows⟩:=x
 obtain⟨id',inn',out',reg',kind',sp',a',c',rows'⟩:=y
 simp only [Ev.c,EvC.mk.injEq] at h
 obtain⟨rfl,rfl,rfl,rfl,rfl,rfl,hr⟩:=h
 unfold pk mq Bl
 simp only [wO hr,oR _ _ hr,sy hr]
theorem D6 {x y x' y':Ev} (h:x.c=x'.c)(h':y.c=y'.c):tW x y=tW x' y':=by
 have h1:x.id=x'.id:=congrArg EvC.id h
 have h2:x.inn=x'.inn:=congrArg EvC.inn h
 have h3:y.id=y'.id:=congrArg EvC.id h'
 have h4:y.inn=y'.inn:=congrArg EvC.inn h'
 unfold tW
 rw [h1,h2,h3,h4]
theorem at_like {xs ys:List Ev} (h:xs.map Ev.c=ys.map Ev.c)(k:Nat):(xs[k]? =none∧ys[k]? =none)∨∃ x y,xs[k]? =some x∧ys[k]? =some y∧x.c=y.c:=by
 have e:(xs.map Ev.c)[k]? =(ys.map Ev.c)[k]?:=by rw [h]
 rw [Tz,Tz] at e
 cases hx:xs[k]? with
 | none =>
   rw [hx] at e
   cases hy:ys[k]? with
   | none=>exact .inl ⟨rfl,rfl⟩
   | some y=>rw [hy] at e;simp at e
 | some x =>
   rw [hx] at e
   cases hy:ys[k]? with
   | none=>rw [hy] at e;simp at e
   | some y =>
     rw [hy] at e
     exact .inr ⟨x,y,rfl,rfl,by simpa using e⟩
theorem oA {xs ys:List Ev} (h:xs.map Ev.c=ys.map Ev.c):∀ k,bE xs k=bE ys k
 | 0=>rfl
 | k+1=>by
   funext z
   have ih:=oA h k
   simp only [bE]
   rcases at_like h k with⟨h1,h2⟩|⟨x,y,h1,h2,h3⟩
   · rw [h1,h2,ih]
   · have hid:x.id=y.id:=congrArg EvC.id h3
     rw [h1,h2]
     simp only [hid,ih]
theorem B4 {xs ys:List Ev} (h:xs.map Ev.c=ys.map Ev.c)(k:Nat) {x y:Ev} (hxy:x.c=y.c):kW (bq xs k) x=kW (bq ys k) y:=by
 cases k with
 | zero=>rfl
 | succ k =>
   show kW xs[k]? x=kW ys[k]? y
   rcases at_like h k with⟨h1,h2⟩|⟨p,q,h1,h2,h3⟩
   · rw [h1,h2]
     rfl
   · rw [h1,h2]
     simp only [kW,D6 h3 hxy]
theorem vv {xs ys:List Ev} (h:xs.map Ev.c=ys.map Ev.c)(rG:List Reg)(last:Int):∀ n k,sU rG last xs k n=sU rG last ys k n
 | 0,k=>rfl
 | n+1,k=>by
   have ih:=vv h rG last n (k+1)
   rw [sU,sU]
   rcases at_like h k with⟨h1,h2⟩|⟨x,y,h1,h2,h3⟩
   · rw [h1,h2]
   · have hid:x.id=y.id:=congrArg EvC.id h3
     have he:je rG last (bE xs k) (bq xs k) x=je rG last (bE ys k) (bq ys k) y:=by
      unfold je
      rw [vw h3,hid,B4 h k h3,oA h k]
     rw [h1,h2]
     simp only [he,ih]
theorem Es {xs ys:List Row} (h:xs.map Row.runs=ys.map Row.runs):m_ xs=m_ ys:=by
 unfold m_
 rw [sy h,wO h]
theorem Ex {xs ys:List Ev} (h:xs.map Ev.c=ys.map Ev.c)(last:Int)(f:Int→Option Nat)(p:Option Cm)(c:Cm):jg last f xs p c=jg last f ys p c:=by
 have ha:ct last f xs c=ct last f ys c:=by
  unfold ct
  cases f c.ev with
  | none=>rfl
  | some i =>
    have:m_ ((xs[i]?.map Ev.rows).getD [])=m_ ((ys[i]?.map Ev.rows).getD []):=by
     rcases at_like h i with⟨h1,h2⟩|⟨x,y,h1,h2,h3⟩
     · rw [h1,h2]
     · rw [h1,h2]
       exact Es (congrArg EvC.rows h3)
    simp only [this]
 unfold jg
 rw [ha]
theorem qR {xs ys:List Ev} (h:xs.map Ev.c=ys.map Ev.c)(last:Int)(f:Int→Option Nat):∀ (cM:List Cm)(p:Option Cm),eU last f xs p cM=eU last f ys p cM
 | [],p=>rfl
 | c::l,p=>by rw [eU,eU,Ex h,qR h last f l]
theorem B6 {a b:Doc} (h:a.c=b.c):aL a=aL b:=by
 obtain⟨title,lang,rate,drop,last,ra,rc,rG,ea,ec,eV,ca,cc,cM⟩:=a
 obtain⟨title',lang',rate',drop',last',ra',rc',regs',ea',ec',evs',ca',cc',cms'⟩:=b
 simp only [Doc.c,Doc.hd,DocC.mk.injEq,Hd.mk.injEq] at h
 obtain⟨⟨rfl,rfl,rfl,rfl,rfl⟩,rfl,he,rfl⟩:=h
 have hl:=wO he
 have hc:kr last (bE eV eV.length) eV cM=kr last (bE evs' evs'.length) evs' cM:=by
  unfold kr
  rw [hl,oA he,qR he]
 have hr:gV rG last eV cM 0=gV rG last evs' cM 0:=by
  unfold gV
  rw [vv he,hc,hl]
 unfold aL
 simp only [hl,hr]
theorem run_eq {x y:Run} (h:mz x y=true):x=y:=by
 obtain⟨a,b,c,d,e⟩:=x
 obtain⟨a',b',c',d',e'⟩:=y
 simp only [mz,Bool.and_eq_true,beq_iff_eq] at h
 obtain⟨⟨h1,⟨rfl,rfl⟩,rfl⟩,h2⟩:=h
 obtain rfl:=qU h1
 obtain rfl:=qU h2
 rfl
theorem xv {α:Type} (eq:α→α→Bool)(h:∀ x y,eq x y=true→x=y):∀ xs ys:List α,SV eq xs ys=true→xs=ys
 | [],[],_=>rfl
 | [],y::l,h'=>by simp [SV] at h'
 | x::l,[],h'=>by simp [SV] at h'
 | x::l,y::m,h'=>by
   simp only [SV,Bool.and_eq_true] at h'
   rw [h x y h'.1,xv eq h l m h'.2]
def EvC.lt (x y:EvC):Prop:=x.inn<y.inn∨(x.inn=y.inn∧x.id<y.id)
structure ES (c:DocC):Prop where
 rG:c.rG.Pairwise fun x y=>baLt x.name y.name
 cM:c.cM.Pairwise fun x y=>x.id<y.id
 ids:c.eV.Pairwise fun x y=>x.id≠y.id
 ord:c.eV.Pairwise EvC.lt
theorem vz {a b c:ByteArray} (h:baLt a b)(h':baLt b c):baLt a c:=List.lt_trans h h'
theorem vC {a b:ByteArray} (h1:¬ baLt a b)(h2:¬ a=b):baLt b a:=xq h1 fun h=>h2 (qU (by rw [SW,SW,h]))
theorem qC:∀ (xs:List Reg)(p:Option ByteArray),fP p xs=0→(∀ q,p=some q→∀ x∈xs,baLt q x.name)∧xs.Pairwise fun x y=>baLt x.name y.name
 | [],p,_=>⟨fun q _ x hx=>by simp at hx,TA⟩
 | x::l,p,h=>by
   rw [fP] at h
   split at h
   · rename_i hne
     rw [h] at hne
     cases hne
   · rename_i hne
     have h0:iC p x=0:=by simpa using hne
     have ih:=qC l _ h
     have hx:=ih.1 x.name rfl
     refine⟨fun q hq y hy=>?_,To.2 ⟨hx,ih.2⟩⟩
     subst hq
     have Ri:baLt q x.name:=by
      unfold iC at h0
      split at h0
      · rename_i h1
        rw [h0] at h1
        cases h1
      · simp only at h0
        split at h0
        · cases h0
        · rename_i h2
          split at h0
          · cases h0
          · rename_i h3
            exact vC (fun h=>h3 ((Cd _ _).2 h)) (fun h=>h2 (by rw [h];simp))
     rcases Ts.1 hy with rfl|hy
     · exact Ri
     · exact vz Ri (hx y hy)
theorem tg (last:Int)(f:Int→Option Nat)(eV:List Ev):∀ (xs:List Cm)(p:Option Cm),eU last f eV p xs=0→(∀ q,p=some q→∀ x∈xs,q.id<x.id)∧xs.Pairwise fun x y=>x.id<y.id
 | [],p,_=>⟨fun q _ x hx=>by simp at hx,TA⟩
 | x::l,p,h=>by
   rw [eU] at h
   split at h
   · rename_i hne
     rw [h] at hne
     cases hne
   · rename_i hne
     have h0:jg last f eV p x=0:=by simpa using hne
     have ih:=tg last f eV l _ h
     have hx:=ih.1 x rfl
     refine⟨fun q hq y hy=>?_,To.2 ⟨hx,ih.2⟩⟩
     subst hq
     have Ri:q.id<x.id:=by
      unfold jg at h0
      split at h0
      · cases h0
      · split at h0
        · cases h0
        · rename_i h2
          simp only [ja,decide_eq_true_eq] at h2
          omega
     rcases Ts.1 hy with rfl|hy
     · exact Ri
     · have:=hx y hy
       omega
theorem od {α:Type} {R:α→α→Prop} (ht:∀ a b c,R a b→R b c→R a c):∀ xs:List α,(∀ k x y,xs[k]? =some x→xs[k+1]? =some y→R x y)→xs.Pairwise R
 | [],_=>TA
 | [x],_=>by simp
 | x::y::l,h=>by
   have ih:=od ht (y::l) fun k a b ha hb=>h (k+1) a b (by simpa using ha) (by simpa using hb)
   have hxy:=h 0 x y rfl rfl
   refine To.2 ⟨fun z hz=>?_,ih⟩
   rcases Ts.1 hz with rfl|hz
   · exact hxy
   · exact ht _ _ _ hxy (List.rel_of_pairwise_cons ih hz)
theorem zC (rG:List Reg)(last:Int)(eV:List Ev):∀ n k,sU rG last eV k n=0→∀ j x,k≤j→j<k+n→eV[j]? =some x→je rG last (bE eV j) (bq eV j) x=0
 | 0,k,_,j,x,h1,h2,_=>by omega
 | n+1,k,h,j,x,h1,h2,hx=>by
   rw [sU] at h
   have hk:k<eV.length:=by have:=(Tm.1 hx).1;omega
   rw [Tk hk] at h
   simp only at h
   split at h
   · rename_i hne
     rw [h] at hne
     cases hne
   · rename_i hne
     by_cases hj:j=k
     · subst hj
       rw [Tk hk] at hx
       obtain rfl:eV[j]=x:=by simpa using hx
       simpa using hne
     · exact zC rG last eV n (k+1) h j x (by omega) (by omega) hx
theorem oK {rG:List Reg} {last:Int} {f:Int→Option Nat} {prev:Option Ev} {x:Ev} (h:je rG last f prev x=0):pk x rG=0∧x.id≤last∧(f x.id).isSome=false∧kW prev x=false:=by
 rcases qN rG last f prev x _ rfl with⟨h1,h2⟩|⟨h1,⟨h2,h3⟩|⟨h2,⟨h3,h4⟩|⟨h3,⟨h4,h5⟩|⟨h4,h5⟩⟩⟩⟩
 · rw [←h2,h] at h1;cases h1
 · rw [h] at h3;cases h3
 · rw [h] at h4;cases h4
 · rw [h] at h5;cases h5
 · exact⟨h1,h2,h4,h3⟩
theorem kp {d:Doc} (h:aL d=0):lN d.title d.lang d.rate d.drop d.last=0∧kh d.rG=0∧d.eV.length≤400∧(∀ j x,d.eV[j]? =some x→je d.rG d.last (bE d.eV j) (bq d.eV j) x=0)∧kr d.last (bE d.eV d.eV.length) d.eV d.cM=0:=by
 unfold aL at h
 split at h
 · rename_i hne;rw [h] at hne;cases hne
 · rename_i hhd
   split at h
   · rename_i hne;rw [h] at hne;cases hne
   · rename_i hli
     split at h
     · cases h
     · rename_i h4
       unfold gV at h
       split at h
       · rename_i hne;rw [h] at hne;cases hne
       · rename_i hne
         refine⟨by simpa using hhd,by simpa using hli,by omega,fun j x hx=>?_,h⟩
         exact zC d.rG d.last d.eV _ 0 (by simpa using hne) j x (TF _) (by have:=(Tm.1 hx).1;omega) hx
theorem nG {d:Doc} (h:aL d=0):d.rG.length≤16∧d.eV.length≤400∧d.cM.length≤64:=by
 obtain⟨_,h2,h3,_,h5⟩:=kp h
 refine⟨?_,h3,?_⟩
 · unfold kh at h2
   split at h2
   · cases h2
   · omega
 · unfold kr at h5
   split at h5
   · cases h5
   · omega
theorem I3 (x y:Ev):tW x y=true↔x.c.lt y.c:=by
 show ltOf rD x y=true↔_
 rw [nf]
 simp [EvC.lt,Ev.c]
theorem zac {d:Doc} (h:aL d=0):ES d.c:=by
 obtain⟨_,h2,h3,h4,h5⟩:=kp h
 refine⟨?_,?_,?_,?_⟩
 · unfold kh at h2
   split at h2
   · cases h2
   · exact(qC _ _ h2).2
 · unfold kr at h5
   split at h5
   · cases h5
   · exact(tg _ _ _ _ _ h5).2
 · show(d.eV.map Ev.c).Pairwise _
   rw [Ty,Tr]
   intro i j hi hj hij he
   have:=(oK (h4 j _ (Tk hj))).2.2.1
   rw [wi d.eV j d.eV[j].id i d.eV[i] hij (Tk hi) he] at this
   cases this
 · show(d.eV.map Ev.c).Pairwise _
   rw [Ty]
   refine od (fun a b c h1 h2=>?_) _ fun k x y hx hy=>?_
   · simp only [EvC.lt] at *
     omega
   · have:=(oK (h4 (k+1) y hy)).2.2.2
     rw [bq,hx] at this
     simp only [kW,Bool.not_eq_false'] at this
     exact(I3 x y).1 this
def qe (ad t s:Bool):Int:=if (ad&&t)=true then 7 else if (!ad&&!t)=true then 6 else if (!ad&&!s)=true then 16 else 0
end Go.Proofs.YtnlnmbcaongehaaGreatDoor
namespace Go.Proofs.YtnlnmbcaongehaaGreatDoor
open Go.RowKit
section
variable {α:Type} [Inhabited α] {enc:α→List SY} {k:Nat} (hk:∀ x,(enc x).length=k)
include hk
theorem vr (hk0:0<k)(d:Array α)(t:Nat)(ht:t<d.size*k):(d.toList.flatMap enc)[t]? =some (Sort.flatK enc k d)[t]!:=by
 have hi:t / k<d.size:=Nat.div_lt_of_lt_mul (by rw [TG];exact ht)
 have hm:t % k<k:=Nat.mod_lt _ hk0
 have he:t / k*k+t % k=t:=by rw [TG];exact Nat.div_add_mod t k
 have hx:d.toList[t / k]? =some d[t / k]!:=by
  rw [getElem!_pos d (t / k) hi,TK,TJ hi]
 have hv:(enc d[t / k]!)[t % k]? =some (enc d[t / k]!)[t % k]!:=by
  rw [getElem!_pos _ (t % k) (by rw [hk];exact hm),Tk (by rw [hk];exact hm)]
 have:=lP enc k hk d.toList (t / k) _ (t % k) _ hx hv
 rw [he] at this
 rw [this,Sort.get_flatK enc k d t ht]
theorem BN (hk0:0<k) {w:SX} {base T g cap:Nat} {zs:List α} (h:w.ownsRow base T k (.slice (some ⟨g,0,none⟩) zs.length cap) zs.length (zs.flatMap enc)):Sort.HoldsK enc k w g 0 zs.toArray:=by
 intro t ht
 rw [Sort.size_flatK] at ht
 have ht':t<zs.length*k:=by simpa using ht
 refine⟨?_,?_⟩
 · rw [show 0+t=t by omega,h.cellAt t ht']
   exact vr hk hk0 zs.toArray t ht
 · rw [show 0+t=t by omega]
   exact h.frozenAt t
theorem yG (hk0:0<k) {w:SX} {base T g cap n q:Nat} {os:Array Obj} {zs:List α} {d':Array α} (h:w.ownsRow base T k (.slice (some ⟨g,0,none⟩) n cap) n (zs.flatMap enc))(hd:d'.size=n) :
 (sortWorldK enc k w g 0 q d' os).ownsRow base T k (.slice (some ⟨g,0,none⟩) n cap) n (d'.toList.flatMap enc):=by
 have hlen:(d'.toList.flatMap enc).length=n*k:=by rw [iW enc k hk];simp [hd]
 rcases h.2 with⟨e0,_⟩|⟨g',cap',cur,e0,hb,hg,hn,hm,hs,ht⟩
 · cases e0
 · injection e0 with e1 _ e3
   injection e1 with e1
   injection e1 with e1
   subst e1;subst e3
   have hgl:g<w.heap.size:=(TI.1 hg).1
   refine⟨hlen,.inr ⟨g,cap,Tc id 0 (Sort.flatK enc k d') cur,rfl,hb,?_,hn,hm,by simpa [Tc] using hs,?_⟩⟩
   · unfold sortWorldK Sort.putRowK
     rw [Td _ _ (by simpa using hgl)]
     simp [Tg,Tf,Sort.ahead,TL,hg,Sort.onCells]
   · apply List.ext_getElem?
     intro j
     rw [List.getElem?_take,TK]
     by_cases hj:j<n*k
     · have hjc:j<cur.size:=by
        rw [hs]
        exact TC hj (Nat.mul_le_mul_right k hn)
       simp only [if_pos hj,Tc,Array.getElem?_mapIdx,TJ hjc,Option.map_some]
       rw [if_pos ⟨TF _,by rw [Sort.size_flatK,hd];omega⟩,vr hk hk0 d' j (by rw [hd];exact hj)]
       rfl
     · rw [if_neg hj,List.getElem?_eq_none (by rw [hlen];omega)]
end
theorem qK {α:Type} [Inhabited α] (enc:α→List SY)(k:Nat)(w:SX)(g q b:Nat)(d':Array α)(os:Array Obj)(hb:b<w.heap.size)(hne:b≠g):(sortWorldK enc k w g 0 q d' os).heap[b]? =w.heap[b]?:=by
 unfold sortWorldK Sort.putRowK
 rw [Td _ _ (by simpa using hb)]
 simp only [Tg,Tf,TL]
 rw [if_neg (fun e=>hne e.symm)]
 rfl
theorem qp {α:Type} [Inhabited α] (enc:α→List SY)(k:Nat)(w:SX)(g q:Nat)(d':Array α)(os:Array Obj):w.heap.size≤(sortWorldK enc k w g 0 q d' os).heap.size:=by
 unfold sortWorldK Sort.putRowK
 simp
theorem Ev.deep:Deep Ev.lies Ev.uses:=⟨fun x w w' h hs hb=>Ev.frame h hs hb,fun x w b h hu=>Ev.uses_lt h hu⟩
abbrev tv:=iO 50 7 Ev.enc Ev.lies Ev.uses
def MY (B:Nat)(W0:SX)(v:SY)(zs:List Ev)(e:Ending)(w':SX):Prop :=
 e=.returned (.tuple #[])∧∃ ys,tv B W0 v ys w'∧ys.Perm zs∧ys.Pairwise (fun x y=>ltOf rD y x=false)
theorem Pw:∀ (x:Ev)(v:SY),v∈x.enc→v.oneCell'=true:=Ev.one
theorem I6 (w:SX)(fv:SY):Ta Su 277 #[.slice none 0 0,.int .i64 0,.int .i64 0,fv] w fun e w'=>e=.returned (.tuple #[])∧w=w':=by
 go_enter SM,Tryz.ntmps277
 go_wp2_with fail
 refine S9 1 ?_
 rw [S_]
 go_wp2_with fail
 go_end0
 exact⟨rfl,rfl⟩
theorem It (w:SX)(fv:SY):Ta Su 247 #[.slice none 0 0,.int .i64 0,fv] w fun e w'=>e=.returned (.tuple #[])∧w=w':=by
 have HI:=h_ (I6 w fv)
 go_enter SN,Tryz.ntmps247
 go_wp2_with fail
 refine S9 1 ?_
 rw [S_]
 go_wp2_with fail
 refine HI.out.mono ?_
 rintro e w1 ⟨rfl,rfl⟩
 go_wp2_with fail
 refine S9 1 ?_
 rw [S_]
 go_wp2_with fail
 go_end0
 exact⟨rfl,rfl⟩
theorem Bg (w:SX)(fv:SY):Ta Su 185 #[.slice none 0 0,fv] w fun e w'=>e=.returned (.tuple #[])∧w=w':=by
 have HI:=h_ (It w fv)
 go_enter SO,Tryz.ntmps185
 go_wp2_with fail
 refine HI.out.mono ?_
 rintro e w1 ⟨rfl,rfl⟩
 go_wp2_with fail
 go_end0
 exact⟨rfl,rfl⟩
theorem wb (B:Nat)(W0:SX)(v:SY)(zs:List Ev)(w:SX)(h:tv B W0 v zs w)(hl:zs.length≤4000000)(hB:B≤W0.heap.size) :
 Ta Su 185 #[v,.func (.func 186) #[] #[]] w (MY B W0 v zs):=by
 obtain⟨h1,h2,h3⟩:=h
 have hB1:B≤w.heap.size:=TE hB h3.size
 rcases h1.2 with⟨rfl,h0⟩|⟨g,cap,cur,rfl,hb,hg,_⟩
 · have hz:zs=[]:=Tp h0
   subst hz
   exact(Bg w _).mono fun e w' ⟨he,hw⟩=>⟨he,[],⟨hw▸h1,fun z hz=>by simp at hz,hw▸h3⟩,.nil,.nil⟩
 · have hgl:g<w.heap.size:=(TI.1 hg).1
   have hH:=BN (enc:=Ev.enc) (k:=7) (fun _=>rfl) (by decide) h1
   have hC:CmpLays Su 186 #[] Ev.enc 7 rD g 0 zs.toArray.size w:=fun m os dk _ x y=>wg x y _
   have R:RowK Ev.enc 7 w g 0 zs.toArray:=⟨fun _=>rfl,Pw,hH,hgl⟩
   have S:SWK Ev.enc 7 w g 0 zs.toArray w:=⟨0,#[],by unfold sortWorldK;rw [Sort.grow_empty];exact(Sort.putRowK_self Ev.enc 7 w g 0 zs.toArray hH).symm⟩
   have hcall:=ri Tryz.stLay 7 (fun w=>by kernel_rfl) (fun w=>by kernel_rfl) Ev.enc rD GN 186 #[] g 0 cap zs.toArray w (fun args w=>by kernel_rfl) hC R S (by simp;omega)
   simp only [Tx] at hcall
   refine hcall.mono fun e w' ⟨he,d',hd,⟨q,os,hw⟩,hp,hs⟩=>?_
   subst hw
   simp only [Tx] at hd
   have hperm:d'.toList.Perm zs:=by
    have hpp:=hp.2.2
    have e1:d'.extract 0 zs.length=d':=by rw [←hd];simp
    have e2:zs.toArray.extract 0 zs.length=zs.toArray:=by simp
    rw [e1,e2] at hpp
    simpa using hpp
   have hlen:d'.toList.length=zs.length:=by simpa using hd
   refine⟨he,d'.toList,⟨?_,fun z hz=>?_,?_⟩,hperm,?_⟩
   · rw [hlen]
     exact yG (enc:=Ev.enc) (k:=7) (fun _=>rfl) (by decide) h1 hd
   · obtain⟨hl,hu⟩:=h2 z (hperm.mem_iff.1 hz)
     refine⟨Ev.frame hl (qp ..) (fun b hb=>qK _ _ _ _ _ _ _ _ (Ev.uses_lt hl hb) (fun e=>(hu b hb).1 (by rw [e];rfl))),hu⟩
   · exact h3.trans ⟨rfl,rfl,rfl,qp ..,fun b hb'=>qK _ _ _ _ _ _ _ _ (TC hb' hB1) (by omega)⟩
   · rw [Tr]
     intro i j hi hj hij
     have hi':i<d'.size:=by simpa using hi
     have hj':j<d'.size:=by simpa using hj
     have:=hs i j (TF _) hij (by omega)
     rw [getElem!_pos d' i hi',getElem!_pos d' j hj'] at this
     simpa using this
def qh (xs:List Ev)(w:SX)(e:Ending)(w':SX):Prop :=
 ∃ v ys,e=.returned v∧tv w.heap.size w v ys w'∧(ys.map Ev.c).Perm (xs.map Ev.c)∧ys.Pairwise (fun x y=>ltOf rD y x=false)
def ma (xs:List Ev)(w:SX)(k:Nat)(v:SY)(wr:SX):Prop:=∃ zs,zs.length=k∧zs.map Ev.c=(xs.take k).map Ev.c∧tv w.heap.size w v zs wr
theorem iB {α:Type} (xs:List α)(k:Nat)(x:α)(h:xs[k]? =some x):xs.take (k+1)=xs.take k++[x]:=by
 rw [Tw,h]
 rfl
theorem ma.step {xs:List Ev} {w wr w1 w2:SX} {k:Nat} {v v':SY} {zs:List Ev} {x y:Ev} {cs:Array SY} (hx:xs[k]? =some x)(h1:zs.length=k)(h2:zs.map Ev.c=(xs.take k).map Ev.c)(h3:tv w.heap.size w v zs wr)(hb:TM wr.heap.size wr w1)(y_:y.c=x.c)(hyl:y.lies w1)(hyu:∀ b,y.uses b→wr.heap.size≤b)
 (hcs:cs.toList=y.enc) (hown:w2.ownsRow w.heap.size 50 7 v' (k+1) (zs.flatMap Ev.enc++cs.toList)) (hg:(w1.alloc (.cells cs 50)).grownBy w2 v.ownBlock) (hat:v'.ownBlock=v.ownBlock∨v'.ownBlock=some (w1.heap.size+1)):ma xs w (k+1) v' w2:=by
 subst h1
 refine⟨zs++[y],by simp,by rw [Tq,iB xs _ x hx,Tq,h2];simp [y_],?_⟩
 have h3':=iO.later Ev.deep h3 (TD _) hb
 refine iO.push Ev.deep h3' (TD _) hcs hown hg hat hyl (fun b hu=>⟨fun e=>?_,TE h3.2.2.size (hyu b hu)⟩)
 have:=(h3.1.lt b e).2
 have:=hyu b hu
 omega
theorem xk (a:Option Addr)(cap:Nat)(xs:List Ev)(w:SX)(h:kJ w a xs)(hf:∀ x∈xs,x.fits)(hl:xs.length≤4000000) :
 Ta Su 111 #[.slice a xs.length cap] w (qh xs w):=by
 have HX:=h_ h
 have HF:=h_ hf
 have HQ:=h_ (fun(v:SY) (ys zs:List Ev) (w':SX) (h1:tv w.heap.size w v ys w') (h2:ys.Perm zs) (h3:ys.Pairwise (fun x y=>ltOf rD y x=false)) (h4:zs.map Ev.c=(xs.take xs.length).map Ev.c)=>(show qh xs w (.returned v) w' from⟨v,ys,rfl,h1,by rw [List.take_length] at h4;rw [←h4];exact h2.map _,h3⟩))
 obtain⟨j0,hj,hy0,hy1,hy2⟩:=info_parts Tryz.info50
 have JI:=h_ hj;have J0:=h_ hy0;have J1:=h_ hy1;have J2:=h_ hy2
 generalize qh xs w=Q at *
 clear hj hy0 hy1 hy2 h hf
 go_enter Tryz.func111,Tryz.ntmps111
 go_wp2_with fail
 go_loopw [3,8] (fun v i wr=>∃ k:Nat,k≤xs.length∧i=.int .i64 k∧ma xs w k v wr) (fun _ i _=>xs.length-(intOf i).toNat)
 case atStart=>exact⟨0,by omega,rfl,[],rfl,rfl,iO.start (TO _ _)⟩
 case round =>
  obtain⟨k,hk,rfl,zs,hzl,hzc,hgr⟩:=hrel
  by_cases hlt:k<xs.length
  · have hb:=hgr.2.2
    obtain⟨b,off,x,rfl,hbl,hx,hc,hok⟩:=(HX.out.later hb).at_ hlt
    have hfx:=HF.out x (Tt hx)
    have hbs:=hb.size
    have HC:=h_ (fun o=>hJ x (wr.alloc o) (Ev.keeps _ _ _ ((TO _ _).alloc (TD _) o) hok) (fun r hr=>(hfx.2.2.2.2.2.2.2.1 r hr).2.1) hfx.2.2.2.2.2.2.2.2)
    have HST:=h_ (fun(w1 w2:SX) (v':SY) (y:Ev) (cs:Array SY) (hb:TM wr.heap.size wr w1) (y_:y.c=x.c) (hyl:y.lies w1) (hyu:∀ b,y.uses b→wr.heap.size≤b) (hcs:cs.toList=y.enc) (hown:w2.ownsRow w.heap.size 50 7 v' (k+1) (zs.flatMap Ev.enc++cs.toList)) (hg:(w1.alloc (.cells cs 50)).grownBy w2 u3.ownBlock) (hat:v'.ownBlock=u3.ownBlock∨v'.ownBlock=some (w1.heap.size+1))=>ma.step hx hzl hzc hgr hb y_ hyl hyu hcs hown hg hat)
    have hown0:=hgr.1
    rw [hzl] at hown0
    have HO:=h_ (fun(w1:SX) (hb:TM wr.heap.size wr w1)=>aH hown0 hb)
    obtain⟨zf,Ox⟩:∃ zf,zf=zs.flatMap Ev.enc:=⟨_,rfl⟩
    rw [←Ox] at HO HST
    have mg:=h_ (fun(o:Obj) (w1:SX) (h1:TM (wr.alloc o).heap.size (wr.alloc o) w1)=>(show TM wr.heap.size wr w1 from((TO _ _).alloc (TD _) _).trans (h1.mono (by simp))))
    have uO:=h_ (show x.c=x.c from rfl)
    generalize x.c=xc at HC HST
    have d0:=hc 0 _ rfl;have d1:=hc 1 _ rfl;have d2:=hc 2 _ rfl;have d3:=hc 3 _ rfl;have d4:=hc 4 _ rfl;have d5:=hc 5 _ rfl;have d6:=hc 6 _ rfl
    obtain⟨xid,xin,xout,xreg,xkind,xsp,xa,xcap,xrows⟩:=x
    simp only [Ev.enc,Nat.add_zero] at HC d0 d1 d2 d3 d4 d5 d6
    clear hc hx hok hgr hzc hzl hfx hown0 Ox uO hb
    go_wp2_with fail
    refine(HC.out _).mono ?_
    rintro e w1 ⟨y,rfl,y_,hyl,hyu,hyb⟩
    have hbw:=mg.out _ _ hyb
    have hs1:=hbw.size
    have xS:=h_ (HO.out _ hbw)
    have HY:=h_ (fun w2 v' cs=>HST.out w1 w2 v' y cs hbw y_ hyl (fun b hu=>by have:=hyu b hu;simp at this;omega))
    obtain⟨yid,yin,yout,yreg,ykind,ysp,ya,ycap,yrows⟩:=y
    simp only [Ev.enc] at HY ⊢
    clear y_ hyl hyu hyb hbw HC HO HST mg d0 d1 d2 d3 d4 d5 d6
    go_wp2_with (at_builtin;refine aI _ _ rfl (.tmp 12) (.tmp 15) 24 rfl w.heap.size 50 j0 _ 7 88 Sv JI.out J0.out J1.out J2.out rfl (by decide) _ _ _ rfl xS.out _ rfl rfl rfl ?h1 ?h63 ?hb ?hbase ?_)
    case h1=>first|exact⟨rfl,rfl,rfl,rfl,rfl,rfl,rfl⟩|(intro u hu;simp at hu;rcases hu with rfl|rfl|rfl|rfl|rfl|rfl|rfl<;>rfl)
    case h63=>unfold maxLen;omega
    case hb=>omega
    case hbase=>omega
    intro v' w2 hown' hgrow hat
    have R:=h_ (HY.out w2 v' _ rfl hown' hgrow hat)
    clear hown' hgrow hat
    go_wp2_with fail
    go_roundw
    case rel=>exact⟨k+1,by omega,by go_num,R.out⟩
    case measure=>simp [intOf];omega
  · obtain rfl:k=xs.length:=by omega
    have HS:=h_ (wb w.heap.size w u3 zs wr hgr (by omega) (TD _))
    obtain⟨av,cv,rfl,_⟩:=iO.slice (k:=7) (enc:=Ev.enc) (fun _=>rfl) hgr
    have HZ:=h_ hzc
    clear hgr hzc hzl
    go_wp2_with fail
    refine HS.out.mono ?_
    rintro e w1 ⟨rfl,ys,hg1,hp,hs⟩
    have ji:=h_ (HQ.out _ ys zs w1 hg1 hp hs HZ.out)
    clear hg1 hp hs HS
    go_wp2_with fail
    exact ji.out
end Go.Proofs.YtnlnmbcaongehaaGreatDoor
namespace Go.Proofs.YtnlnmbcaongehaaGreatDoor
open Go.RowKit
attribute [local go_sem ↓] S7 S8
def tD (err:Int)(c':DocC)(d:Doc)(g:Nat)(w:SX)(e:Ending)(w':SX):Prop :=
 e=.returned (.int .i64 err)∧∃ d':Doc,w'.heap[g]? =some (.cells d'.enc.toArray 27 (0,0))∧d'.c=c'∧d'.lies w'∧(∀ b,d'.uses b→b≠g∧(d.uses b∨w.heap.size≤b))∧w.grownBy w' (some g)
def Aside (w5:SX)(g:Nat)(w':SX):Prop:=∀ b,b<w5.heap.size→b≠g→w'.heap[b]? =w5.heap[b]?
structure uU (d:Doc)(g:Nat)(w:SX):Prop where
 cells:w.heap[g]? =some (.cells d.enc.toArray 27 (0,0))
 lies:d.lies w
 apart:∀ b,d.uses b→b≠g
theorem uU.below {d:Doc} {g:Nat} {w w':SX} (h:uU d g w)(hb:TM w.heap.size w w'):uU d g w' :=
 ⟨(hb.block g (TI.1 h.cells).1).trans h.cells,Doc.later h.lies hb,h.apart⟩
theorem uU.same {d:Doc} {g:Nat} {w w':SX} (h:uU d g w)(hb:TM w.heap.size w w')(err:Int):tD err d.c d g w (.returned (.int .i64 err)) w':=by
 have h':=h.below hb
 exact⟨rfl,d,h'.cells,rfl,h'.lies,fun b hu=>⟨h'.apart b hu,.inl hu⟩,⟨hb.os,hb.tape,hb.output,hb.size,fun k hk _=>hb.block k hk⟩⟩
def yI (c:Chg):Reg:=⟨c.name,c.nr.top,c.nr.aK,c.nr.left,c.nr.width,c.nr.align,c.nr.bottom⟩
end Go.Proofs.YtnlnmbcaongehaaGreatDoor
namespace Go.Proofs.YtnlnmbcaongehaaGreatDoor
open Go.RowKit
theorem tP {P:Program} {ops:Array Oper} {o:Oper} {a:Act} {K:Act→SX→Prop} {Q:Exit→Act→SX→Prop} {E:Prop} (w:SX)(cs:Array SY)(hgd:o.guard=none)(s x:Operand)(t:TypeId)
 (ho:o.op=.call { callee:=.builtin .append,args:=#[s,x],argTypes:=#[t,t] })
 (base:Nat) (e:TypeId) (i:TypeInfo) (z:SY) (size bytes:Nat) (ht:P.underlying t=some (.slice e)) (hi:P.info? e=some i) (hz:i.zero=some z)
 (hsize:i.size=size) (hby:i.bytes=bytes) (hzs:z.cells.size=size) (hsz:0<size)
 (v:SY) (n:Nat) (xs:List SY) (hs:a.eval s=v) (hown:w.ownsRow base e size v n xs) (g:Nat) (hx:a.eval x=.slice (some ⟨g,0,none⟩) 1 1) (hg:g=w.heap.size)
 (hcs:cs.size=size) (h1:∀ u∈cs.toList,u.oneCell'=true) (h63:n+1≤maxLen) (hbytes:(n+1)*bytes≤140737488355328) (hbase:base≤w.heap.size)
 (h:∀ v' w2,w2.ownsRow base e size v' (n+1) (xs++cs.toList)→(w.alloc (.cells cs e)).grownBy w2 v.ownBlock→(v'.ownBlock=v.ownBlock∨v'.ownBlock=some (w.heap.size+1))→K (a.put o.dst v') w2) :
 if Region.wanted o (yielded ops a.tmps)=true then Oper.wp P o a (w.alloc (.cells cs e)) K Q else E:=by
 have hw:Region.wanted o (yielded ops a.tmps)=true:=by simp [Region.wanted,hgd]
 rw [if_pos hw]
 subst hg
 obtain⟨v',w',hrun,h2,h3,_,h5⟩:=run_append_own_at (P:=P) (w.alloc (.cells cs e)) base t o.type e i z size bytes ht hi hz hsize hby hzs hsz v n xs (hown.alloc _) ⟨w.heap.size,0,none⟩ 1 1 cs.toList (by simpa using hcs) (nj w cs e) h1 h63 hbytes (by simp;omega)
 unfold Oper.wp execOp
 simp only [ho,resolve,invoke,builtin,Sem.run_bind,Sem.run_pure,Result.andThen_ok,List.map_toArray,Tn,List.map_nil,hs,hx,hrun]
 exact h v' w' h2 h3 (by simpa using h5)
end Go.Proofs.YtnlnmbcaongehaaGreatDoor
namespace Go.Proofs.YtnlnmbcaongehaaGreatDoor
open Go.RowKit
attribute [local go_sem ↓] S7 S8
def DRel (pre:List ChgC)(B:Nat)(W0:SX)(v:SY)(wr:SX):Prop:=∃ zs,H7 B W0 v zs wr∧zs.map Chg.c=pre
theorem DRel.below {pre:List ChgC} {B:Nat} {W0:SX} {v:SY} {wr:SX} (h:DRel pre B W0 v wr):TM B W0 wr:=h.choose_spec.1.2.2
theorem DRel.later {pre:List ChgC} {B:Nat} {W0:SX} {v:SY} {wr w1:SX} (h:DRel pre B W0 v wr)(hB:B≤W0.heap.size)(hb:TM wr.heap.size wr w1):DRel pre B W0 v w1 :=
 h.imp fun zs hz=>⟨iO.later Chg.deep hz.1 hB hb,hz.2⟩
theorem DRel.owns {pre:List ChgC} {B:Nat} {W0:SX} {v:SY} {wr:SX} (h:DRel pre B W0 v wr):∃ zs:List Chg,zs.length=pre.length∧wr.ownsRow B 54 59 v zs.length (zs.flatMap Chg.enc) ∧
 ∀ (y:Chg) (cs:Array SY) (v':SY) (w2:SX),cs.toList=y.enc→w2.ownsRow B 54 59 v' (zs.length+1) (zs.flatMap Chg.enc++cs.toList)→(wr.alloc (.cells cs 54)).grownBy w2 v.ownBlock→(v'.ownBlock=v.ownBlock∨v'.ownBlock=some (wr.heap.size+1))→y.lies wr→(∀ b,y.uses b→v.ownBlock≠some b∧B≤b)→B≤W0.heap.size→DRel (pre++[y.c]) B W0 v' w2:=by
 obtain⟨zs,hz,he⟩:=h
 refine⟨zs,by rw [←he,List.length_map],hz.1,fun y cs v' w2 hcs hown hg hat hy hu hB=>⟨zs++[y],iO.push Chg.deep hz hB hcs hown hg hat hy hu,by rw [Tq,he];rfl⟩⟩
def mu {β:Type} (enc:β→SY)(ks:List β)(a:Option Addr)(v:SY)(wr:SX):Prop:=af 1 (fun k=>[enc k]) Flat wr a ks∧∀ b,d_ a ks b→v.ownBlock≠some b
theorem mu.later {β:Type} {enc:β→SY} {ks:List β} {a:Option Addr} {v:SY} {wr w1:SX} (h:mu enc ks a v wr)(hb:TM wr.heap.size wr w1):mu enc ks a v w1:=⟨af.keeps Flat.keeps _ _ _ _ hb h.1,h.2⟩
theorem mu.push {β:Type} {enc:β→SY} {ks:List β} {a:Option Addr} {v v':SY} {w1 w2:SX} {cs:Array SY} (h:mu enc ks a v w1)(hg:(w1.alloc (.cells cs 54)).grownBy w2 v.ownBlock)(hat:v'.ownBlock=v.ownBlock∨v'.ownBlock=some (w1.heap.size+1)):mu enc ks a v' w2:=by
 have hs:w1.heap.size+1≤w2.heap.size:=by
  have:=hg.size
  simpa using this
 refine⟨af.frame h.1 (by omega) (fun b hu=>?_) (fun _ _ _=>trivial),fun b hu e=>?_⟩
 · rw [hg.block b (by have:=bL h.1 hu;simp;omega) (fun e=>h.2 b hu e.symm)]
   exact TN w1 _ b (bL h.1 hu)
 · rcases hat with e'|e'
   · exact h.2 b hu (e'▸e)
   · rw [e'] at e
     simp only [Option.some.injEq] at e
     have:=bL h.1 hu
     omega
theorem mu.of {β:Type} {enc:β→SY} {ks:List β} {kv:SY} {v:SY} {B K:Nat} {w1:SX} (ho:w1.ownsRow B K 1 kv ks.length (ks.map enc))(hv:∀ b,v.ownBlock=some b→b<B):∃ a c,kv=.slice a ks.length c∧mu enc ks a v w1:=by
 have e:ks.map enc=ks.flatMap (fun k=>[enc k]):=by
  clear ho
  induction ks with
  | nil=>rfl
  | cons x l ih=>rw [Tn,Tl,ih];rfl
 rw [e] at ho
 obtain⟨a,c,rfl,hS⟩:=ay (k:=1) (enc:=fun k=>[enc k]) (Ok:=Flat) (fun _=>rfl) ho (fun _ _=>trivial)
 refine⟨a,c,rfl,hS,fun b hu e=>?_⟩
 obtain⟨_,ad,rfl,rfl⟩:=hu
 have:=(ho.lt ad.block rfl).1
 have:=hv _ e
 omega
theorem DRel.lt {pre:List ChgC} {B:Nat} {W0:SX} {v:SY} {wr:SX} (h:DRel pre B W0 v wr):∀ b,v.ownBlock=some b→b<wr.heap.size:=fun b hb=>by
 obtain⟨zs,hz,_⟩:=h
 exact(hz.1.lt b hb).2
theorem DRel.slice {pre:List ChgC} {B:Nat} {W0:SX} {v:SY} {wr:SX} (h:DRel pre B W0 v wr):∃ a n c,v=.slice a n c:=by
 obtain⟨zs,hz,_⟩:=h
 obtain⟨a,c,rfl,_⟩:=iO.slice (k:=59) (enc:=Chg.enc) Chg.len hz
 exact⟨a,_,c,rfl⟩
theorem findD {α:Type} (p:α→Bool)(xs:List α)(z:α):((first p xs).map (·.1)).getD z=(xs.find? p).getD z:=by rw [show(first p xs).map (·.1)=xs.find? p from lh p xs 0]
theorem Ei {α:Type} (p:α→Bool)(xs:List α):(first p xs).isSome=(xs.find? p).isSome:=by rw [←show(first p xs).map (·.1)=xs.find? p from lh p xs 0];simp
theorem vu (r:Option (Reg × Nat)):∃ (x:Reg)(i:Int)(b:Bool),sS r=.tuple #[.agg x.enc.toArray,.int .i64 i,.bool b]∧x=(r.map (·.1)).getD aD∧b=r.isSome:=by
 cases r with
 | none=>exact⟨_,_,_,rfl,rfl,rfl⟩
 | some q=>exact⟨_,_,_,rfl,rfl,rfl⟩
theorem vt (r:Option (Ev × Nat)):∃ (x:Ev)(i:Int)(b:Bool),sR r=.tuple #[.agg x.enc.toArray,.int .i64 i,.bool b]∧x=(r.map (·.1)).getD aJ∧b=r.isSome:=by
 cases r with
 | none=>exact⟨_,_,_,rfl,rfl,rfl⟩
 | some q=>exact⟨_,_,_,rfl,rfl,rfl⟩
theorem vs (r:Option (Cm × Nat)):∃ (x:Cm)(i:Int)(b:Bool),sQ r=.tuple #[.agg x.enc.toArray,.int .i64 i,.bool b]∧x=(r.map (·.1)).getD aM∧b=r.isSome:=by
 cases r with
 | none=>exact⟨_,_,_,rfl,rfl,rfl⟩
 | some q=>exact⟨_,_,_,rfl,rfl,rfl⟩
structure HdAt (g:Nat)(x:Hd)(w:SX):Prop where
 lt:g<w.heap.size
 c0:w.cell? ⟨g,0,none⟩=some (.string x.title)
 c1:w.cell? ⟨g,1,none⟩=some (.string x.lang)
 c2:w.cell? ⟨g,2,none⟩=some (.int .u8 x.rate)
 c3:w.cell? ⟨g,3,none⟩=some (.bool x.drop)
 c4:w.cell? ⟨g,4,none⟩=some (.int .i64 x.last)
 z0:w.frozen? ⟨g,0,none⟩=false
 z1:w.frozen? ⟨g,1,none⟩=false
 z2:w.frozen? ⟨g,2,none⟩=false
 z3:w.frozen? ⟨g,3,none⟩=false
 z4:w.frozen? ⟨g,4,none⟩=false
def zhd:Array SY:=#[.string ⟨#[]⟩,.string ⟨#[]⟩,.int .u8 0,.bool false,.int .i64 0]
theorem HdAt.of {g:Nat} {w:SX} (h:w.heap[g]? =some (.cells zhd 41)):HdAt g aZ w :=
 ⟨(TI.1 h).1,SZ _ _ 0 zhd 41 (0,0) h,SZ _ _ 1 zhd 41 (0,0) h,SZ _ _ 2 zhd 41 (0,0) h,SZ _ _ 3 zhd 41 (0,0) h,SZ _ _ 4 zhd 41 (0,0) h,S5 _ _ 0 zhd 41 h,S5 _ _ 1 zhd 41 h,S5 _ _ 2 zhd 41 h,S5 _ _ 3 zhd 41 h,S5 _ _ 4 zhd 41 h⟩
theorem HdAt.later {g:Nat} {x:Hd} {w w':SX} (h:HdAt g x w)(hb:TM w.heap.size w w'):HdAt g x w':=by
 obtain⟨l,c0,c1,c2,c3,c4,z0,z1,z2,z3,z4⟩:=h
 exact⟨TC l hb.size,(hb.cell (p:=⟨g,0,none⟩) l).trans c0,(hb.cell (p:=⟨g,1,none⟩) l).trans c1,(hb.cell (p:=⟨g,2,none⟩) l).trans c2,(hb.cell (p:=⟨g,3,none⟩) l).trans c3,(hb.cell (p:=⟨g,4,none⟩) l).trans c4,(hb.frozen (p:=⟨g,0,none⟩) l).trans z0,(hb.frozen (p:=⟨g,1,none⟩) l).trans z1,(hb.frozen (p:=⟨g,2,none⟩) l).trans z2,(hb.frozen (p:=⟨g,3,none⟩) l).trans z3,(hb.frozen (p:=⟨g,4,none⟩) l).trans z4⟩
theorem nL {w:SX} {b:Nat} {o o':Obj} (h:w.heap[b]? =some o):(w.alloc o').heap[b]? =some o:=by rw [TN w o' b (TI.1 h).1,h]
theorem hbox {w w':SX} {g:Nat} (hb:TM (w.alloc (.cells zhd 41)).heap.size (w.alloc (.cells zhd 41)) w')(hg:g=w.heap.size):HdAt g aZ w':=by
 subst hg
 exact .of ((hb.block w.heap.size (by simp)).trans (S6 w _))
theorem O9 {w w':SX} {g g':Nat} (hb:TM ((w.alloc (.cells zhd 41)).alloc (.cells zhd 41)).heap.size ((w.alloc (.cells zhd 41)).alloc (.cells zhd 41)) w')(hg:g=w.heap.size)(hg':g'=w.heap.size+1):HdAt g aZ w'∧HdAt g' aZ w':=by
 subst hg
 subst hg'
 refine⟨.of ((hb.block w.heap.size (by simp;omega)).trans (nL (S6 w _))),.of ((hb.block (w.heap.size+1) (by simp)).trans ?_)⟩
 have:=S6 (w.alloc (.cells zhd 41)) (.cells zhd 41)
 rwa [SX.size_alloc] at this
theorem uW {α:Type} (xs:List α)(k:Nat)(x:α)(h:xs[k]? =some x):xs.take (k+1)=xs.take k++[x]:=by
 rw [Tw,h]
 rfl
theorem HdAt.set {g:Nat} {x:Hd} {wq:SX} (h:HdAt g aZ wq):HdAt g x (((((wq.setCell ⟨g,0,none⟩ (.string x.title)).setCell ⟨g,1,none⟩ (.string x.lang)).setCell ⟨g,2,none⟩ (.int .u8 x.rate)).setCell ⟨g,3,none⟩ (.bool x.drop)).setCell ⟨g,4,none⟩ (.int .i64 x.last)):=by
 obtain⟨l,c0,c1,c2,c3,c4,z0,z1,z2,z3,z4⟩:=h
 refine⟨?_,?_,?_,?_,?_,?_,?_,?_,?_,?_,?_⟩<;>simp [go_sem, *]
theorem HdAt.other {g g':Nat} {x y:Hd} {wq:SX} (hg:g≠g')(h:HdAt g x wq):HdAt g x (((((wq.setCell ⟨g',0,none⟩ (.string y.title)).setCell ⟨g',1,none⟩ (.string y.lang)).setCell ⟨g',2,none⟩ (.int .u8 y.rate)).setCell ⟨g',3,none⟩ (.bool y.drop)).setCell ⟨g',4,none⟩ (.int .i64 y.last)):=by
 obtain⟨l,c0,c1,c2,c3,c4,z0,z1,z2,z3,z4⟩:=h
 have hg':=Ne.symm hg
 refine⟨?_,?_,?_,?_,?_,?_,?_,?_,?_,?_,?_⟩<;>simp [go_sem, *]
theorem HdAt.alloc {g:Nat} {x:Hd} {wq:SX} (h:HdAt g x wq)(o:Obj):HdAt g x (wq.alloc o):=h.later ((TO _ _).alloc (TD _) _)
theorem HdAt.new {g:Nat} {x:Hd} {wq:SX} (hg:g=wq.heap.size):HdAt g x (wq.alloc (.cells #[.string x.title,.string x.lang,.int .u8 x.rate,.bool x.drop,.int .i64 x.last] 41)):=by
 subst hg
 have h:=S6 wq (.cells x.enc.toArray 41)
 exact⟨(TI.1 h).1,SZ _ _ 0 x.enc.toArray 41 (0,0) h,SZ _ _ 1 x.enc.toArray 41 (0,0) h,SZ _ _ 2 x.enc.toArray 41 (0,0) h,SZ _ _ 3 x.enc.toArray 41 (0,0) h,SZ _ _ 4 x.enc.toArray 41 (0,0) h,S5 _ _ 0 x.enc.toArray 41 h,S5 _ _ 1 x.enc.toArray 41 h,S5 _ _ 2 x.enc.toArray 41 h,S5 _ _ 3 x.enc.toArray 41 h,S5 _ _ 4 x.enc.toArray 41 h⟩
def LRel {β:Type} (pre:List ChgC)(f:β→List ChgC)(enc:β→SY)(ks:List β)(a:Option Addr)(B:Nat)(W0:SX)(k:Nat)(v:SY)(wr:SX):Prop :=
 DRel (pre++(ks.take k).flatMap f) B W0 v wr∧mu enc ks a v wr
theorem LRel.skip {β:Type} {pre:List ChgC} {f:β→List ChgC} {enc:β→SY} {ks:List β} {a:Option Addr} {B:Nat} {W0:SX} {k:Nat} {v:SY} {wr w1:SX} {x:β} (h:LRel pre f enc ks a B W0 k v wr)(hx:ks[k]? =some x)(hB:B≤W0.heap.size)(hb:TM wr.heap.size wr w1)(hf:f x=[]):LRel pre f enc ks a B W0 (k+1) v w1:=by
 refine⟨?_,h.2.later hb⟩
 rw [uW ks k x hx,Tu,Tl,hf]
 simpa using h.1.later hB hb
theorem sO {β:Type} (f:β→List ChgC)(hf:∀ x,(f x).length≤1):∀ ks:List β,(ks.flatMap f).length≤ks.length
 | []=>by simp
 | x::l=>by
   have:=sO f hf l
   have:=hf x
   rw [Tl,Tv,List.length_cons]
   omega
theorem LRel.push {β:Type} {pre:List ChgC} {f:β→List ChgC} {enc:β→SY} {ks:List β} {a:Option Addr} {B:Nat} {W0:SX} {k:Nat} {v:SY} {wr w1:SX} {x:β} (h:LRel pre f enc ks a B W0 k v wr)(hx:ks[k]? =some x)(hB:B≤W0.heap.size)(hb:TM wr.heap.size wr w1)(hf:∀ x,(f x).length≤1) :
 ∃ n xs,n≤pre.length+k∧w1.ownsRow B 54 59 v n xs∧∀ (y:Chg) (cs:Array SY) (v':SY) (w2:SX),f x=[y.c]→cs.toList=y.enc→w2.ownsRow B 54 59 v' (n+1) (xs++cs.toList)→(w1.alloc (.cells cs 54)).grownBy w2 v.ownBlock→(v'.ownBlock=v.ownBlock∨v'.ownBlock=some (w1.heap.size+1))→y.lies w1→(∀ b,y.uses b→wr.heap.size≤b)→LRel pre f enc ks a B W0 (k+1) v' w2:=by
 obtain⟨zs,hz,ho,hp⟩:=(h.1.later hB hb).owns
 refine⟨zs.length,zs.flatMap Chg.enc,?_,ho,fun y cs v' w2 hfx hcs hown hg hat hy hu=>⟨?_,(h.2.later hb).push hg hat⟩⟩
 · have h1:=sO f hf (ks.take k)
   have h2:(ks.take k).length≤k:=by rw [List.length_take];omega
   rw [hz,Tv]
   omega
 · have:=hp y cs v' w2 hcs hown hg hat hy (fun b hb'=>⟨fun e=>?_,?_⟩) hB
   · rw [uW ks k x hx,Tu,Tl,hfx,←List.append_assoc]
     simpa using this
   · have h1:=h.1.lt b e
     have h2:=hu b hb'
     omega
   · have h2:=hu b hb'
     have h3:=h.1.below.size
     omega
theorem GX (xs ys:List Reg)(k:ByteArray):bH xs ys k=if ((first (fun x:Reg=>x.name.toList==k.toList) xs).isSome != (first (fun x:Reg=>x.name.toList==k.toList) ys).isSome||!mD (((first (fun x:Reg=>x.name.toList==k.toList) xs).map (·.1)).getD aD) (((first (fun x:Reg=>x.name.toList==k.toList) ys).map (·.1)).getD aD))=true then
 [⟨2,0,k,!(first (fun x:Reg=>x.name.toList==k.toList) xs).isSome,!(first (fun x:Reg=>x.name.toList==k.toList) ys).isSome,aZ,aZ,((first (fun x:Reg=>x.name.toList==k.toList) xs).map (·.1)).getD aD,((first (fun x:Reg=>x.name.toList==k.toList) ys).map (·.1)).getD aD,bC,bC,aM,aM⟩] else []:=by
 rw [findD,findD,Ei,Ei]
 rfl
theorem Jz (xs ys:List Ev)(k:Int):kt xs ys k=if ((first (fun x:Ev=>x.id==k) xs).isSome != (first (fun x:Ev=>x.id==k) ys).isSome||!evEq (((first (fun x:Ev=>x.id==k) xs).map (·.1)).getD aJ) (((first (fun x:Ev=>x.id==k) ys).map (·.1)).getD aJ))=true then
 [⟨3,k,⟨#[]⟩,!(first (fun x:Ev=>x.id==k) xs).isSome,!(first (fun x:Ev=>x.id==k) ys).isSome,aZ,aZ,aD,aD,(((first (fun x:Ev=>x.id==k) xs).map (·.1)).getD aJ).c,(((first (fun x:Ev=>x.id==k) ys).map (·.1)).getD aJ).c,aM,aM⟩] else []:=by
 rw [findD,findD,Ei,Ei]
 rfl
theorem JA (xs ys:List Cm)(k:Int):ng xs ys k=if ((first (fun x:Cm=>x.id==k) xs).isSome != (first (fun x:Cm=>x.id==k) ys).isSome||!cmEq (((first (fun x:Cm=>x.id==k) xs).map (·.1)).getD aM) (((first (fun x:Cm=>x.id==k) ys).map (·.1)).getD aM))=true then
 [⟨4,k,⟨#[]⟩,!(first (fun x:Cm=>x.id==k) xs).isSome,!(first (fun x:Cm=>x.id==k) ys).isSome,aZ,aZ,aD,aD,bC,bC,((first (fun x:Cm=>x.id==k) xs).map (·.1)).getD aM,((first (fun x:Cm=>x.id==k) ys).map (·.1)).getD aM⟩] else []:=by
 rw [findD,findD,Ei,Ei]
 rfl
theorem ti (xs ys:List Reg)(k:ByteArray):(bH xs ys k).length≤1:=by unfold bH;split<;>simp
theorem Df (xs ys:List Ev)(k:Int):(kt xs ys k).length≤1:=by unfold kt;split<;>simp
theorem JB (xs ys:List Cm)(k:Int):(ng xs ys k).length≤1:=by unfold ng;split<;>simp
theorem vx (x y:Hd):(jn x y).length≤1:=by unfold jn;split<;>simp
theorem nC (y:Chg)(h1:y.oe=aJ)(h2:y.ne=aJ)(w:SX):y.lies w∧∀ b,¬ y.uses b:=by
 obtain⟨_,_,_,_,_,_,_,_,_,oe,ne,_,_⟩:=y
 simp only at h1 h2
 subst h1
 subst h2
 exact⟨⟨iA w,iA w⟩,fun b hu=>hu.elim (rQ b) (rQ b)⟩
def kE (w5:SX)(g1 g2:Nat)(w':SX):Prop:=w'.heap[g1]? =w5.heap[g1]?∧w'.heap[g2]? =w5.heap[g2]?
theorem kE.of {w5 w':SX} {g1 g2:Nat} (h1:g1<w5.heap.size)(h2:g2<w5.heap.size)(h:TM w5.heap.size w5 w'):kE w5 g1 g2 w':=⟨h.block _ h1,h.block _ h2⟩
theorem kE.grown {w5 w7 w8:SX} {g1 g2:Nat} {cs:Array SY} {row:Option Nat} (h:kE w5 g1 g2 w7)(h1:g1<w7.heap.size)(h2:g2<w7.heap.size)(hg:(w7.alloc (.cells cs 54)).grownBy w8 row)(hr:∀ b,row=some b→b<g1∧b<g2):kE w5 g1 g2 w8 :=
 ⟨by
  rw [hg.block g1 (by simp;omega) (fun e=>by have:=(hr g1 e.symm).1;omega),TN w7 _ g1 h1]
  exact h.1,by
  rw [hg.block g2 (by simp;omega) (fun e=>by have:=(hr g2 e.symm).2;omega),TN w7 _ g2 h2]
  exact h.2⟩
theorem C7 {w:SX} {a:Option Addr} {xs:List Ev} (h:kJ w a xs)(hf:∀ x∈xs,x.fits)(p:Ev→Bool):(∀ w1,TM w.heap.size w w1→(((first p xs).map (·.1)).getD aJ).lies w1)∧(((first p xs).map (·.1)).getD aJ).rows.length≤4000000∧∀ r∈(((first p xs).map (·.1)).getD aJ).rows,r.runs.length≤4000000:=by
 cases hfi:first p xs with
 | none=>exact⟨fun w1 _=>iA w1,by simp [aJ],fun r hr=>by simp [aJ] at hr⟩
 | some q =>
   obtain⟨x,k⟩:=q
   obtain⟨_,hk,_⟩:=pf p xs 0 x k hfi
   simp only [Nat.sub_zero] at hk
   have hx:=hf x (Tt hk)
   obtain⟨b,off,y,_,_,hy,_,hl⟩:=h.at_ (Tm.1 hk).1
   obtain rfl:x=y:=by rw [hk] at hy;exact Option.some.inj hy
   exact⟨fun w1 hb=>Ev.keeps _ _ _ hb hl,hx.2.2.2.2.2.2.2.2,fun r hr=>(hx.2.2.2.2.2.2.2.1 r hr).2.1⟩
theorem iG {α:Type} [Inhabited α] [DecidableEq α] (xs:List α)(n:Nat)(h:xs.length≤n):(Lib.compact xs).length≤n:=TE (Lib.compact_length_le xs) h
end Go.Proofs.YtnlnmbcaongehaaGreatDoor
namespace Go.Proofs.YtnlnmbcaongehaaGreatDoor
open Go.RowKit
attribute [local go_sem ↓] S7 S8
def FF (c:Chg):Cm:=⟨c.id,c.nc.ev,c.nc.frm,c.nc.til,c.nc.author,c.nc.text,c.nc.done,c.nc.lost⟩
end Go.Proofs.YtnlnmbcaongehaaGreatDoor
namespace Go.Proofs.YtnlnmbcaongehaaGreatDoor
open Go.RowKit
def encN (s:ByteArray):List SY:=[.string s]
abbrev Strs (w:SX)(a:Option Addr)(zs:List ByteArray):Prop:=af 1 encN Flat w a zs
theorem Da (zs:List ByteArray):zs.flatMap encN=zs.map Ti:=by
 induction zs with
 | nil=>rfl
 | cons z l ih=>rw [Tl,ih];rfl
theorem Strs.cells {w:SX} {b off:Nat} {zs:List ByteArray} (h:Strs w (some ⟨b,off,none⟩) zs):∀ (j:Nat)(u:SY),(zs.map Ti)[j]? =some u→w.cell? ⟨b,off+j,none⟩=some u:=by
 intro j u hu
 rw [←Da] at hu
 exact iJ (Ok:=Flat) (k:=1) (enc:=encN) (fun _=>rfl) h j u hu
def G8 (B:Nat)(w:SX)(v:SY)(zs:List ByteArray):Prop:=((v=.slice none 0 0∧zs=[])∨∃ b off cap,v=.slice (some ⟨b,off,none⟩) zs.length cap∧b<w.heap.size∧zs.length≤cap∧cap≤9223372036854775807∧Strs w (some ⟨b,off,none⟩) zs)∧∀ b,v.ownBlock=some b→B≤b
theorem G8.later {B:Nat} {w w':SX} {v:SY} {zs:List ByteArray} (h:G8 B w v zs)(hb:TM w.heap.size w w'):G8 B w' v zs:=by
 refine⟨?_,h.2⟩
 rcases h.1 with h|⟨b,off,cap,h1,h2,h3,h5,h4⟩
 · exact .inl h
 · exact .inr ⟨b,off,cap,h1,TC h2 hb.size,h3,h5,af.keeps Flat.keeps _ _ _ _ hb h4⟩
theorem G8.of_owns {w:SX} {B base:Nat} {v:SY} {zs:List ByteArray} (hB:B≤base)(h:w.ownsRow base 9 1 v zs.length (zs.map Ti)):G8 B w v zs:=by
 refine⟨?_,fun b hb=>TE hB (h.lt b hb).1⟩
 rw [←Da] at h
 obtain⟨a,c,he,hI⟩:=ay (k:=1) (enc:=encN) (Ok:=Flat) (fun _=>rfl) h (fun _ _=>trivial)
 rcases h.2 with⟨rfl,h0⟩|⟨g,cap,cur,rfl,hb,hg,hc,hm,_⟩
 · exact .inl ⟨rfl,Tp h0⟩
 · simp only [SY.slice.injEq] at he
   obtain⟨rfl,_,rfl⟩:=he
   exact .inr ⟨g,0,cap,rfl,(TI.1 hg).1,hc,by simp only [maxLen] at hm;omega,hI⟩
end Go.Proofs.YtnlnmbcaongehaaGreatDoor
namespace Go.Proofs.YtnlnmbcaongehaaGreatDoor
open Go.RowKit
attribute [local go_sem ↓] S7 S8
theorem zO {α β:Type} (f:β→β→Bool)(g:α→β):∀ xs ys:List α,SV (fun x y=>f (g x) (g y)) xs ys=SV f (xs.map g) (ys.map g)
 | [],[]=>rfl
 | [],_::_=>rfl
 | _::_,[]=>rfl
 | x::xs,y::ys=>by simp only [SV,Tn,zO f g xs ys]
def ob (x y:EvC):Bool:=x.id==y.id&&(x.inn==y.inn&&x.out==y.out)&&x.region.toList==y.region.toList&&x.kind==y.kind&&x.speaker.toList==y.speaker.toList&&SV (SV mz) x.rows y.rows
theorem GH (x y:Ev):evEq x y=ob x.c y.c:=by
 unfold evEq ob j8
 rw [show SV tQ x.rows y.rows=SV (SV mz) (x.rows.map Row.runs) (y.rows.map Row.runs) from zO (SV mz) Row.runs x.rows y.rows]
 rfl
end Go.Proofs.YtnlnmbcaongehaaGreatDoor
