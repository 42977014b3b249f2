/- The reference's region, FindComment, comment: the first element with a key. The contracts of the reference's Same and SameRows. The reference's Clone of rows and events, Same of events, and event. (printed by gen_refev.py) The contract of the reference's Diff. (printed by gen_refdiff.py) slices.Delete at regions, events and comments: one element of an own row is taken out. (printed by gen_delete.py) -/
import Derived.Test.YtnlnmbcaongehaaGreatDoorA03
import Derived.Test.YtnlnmbcaongehaaGreatDoorB10
set_option linter.unusedVariables false
set_option linter.unusedSimpArgs false
set_option maxRecDepth 100000
set_option maxHeartbeats 12800000
open Go.Lib renaming hid→h_
open Go renaming World→e_,cell_of_row→fb,heap_alloc_last→fe,bodyPost_ret→ff,Calls→fg,Value→fh,info_parts→fi
open Go.RowKit renaming Below→fj
open Go.Proofs.Tryz renaming prog→fk,ntmps50→fm,func50→fo,underlying25→fp,results52→fq,results49→fr,results47→ft,ntmps119→fu,ntmps64→fw,ntmps52→fx,ntmps49→fy,func119→fz,func64→fA,func52→fB,func49→fC
open Go.RowKit.Below renaming refl→fD,setCell→fE,heap_alloc→fF,heap_setCell→fG
open Go.World renaming frozen?→fH,size_alloc→fI
open Nat renaming le_refl→fJ,add_zero→fK,mul_one→fL
open List renaming drop_length→fM,getElem?_eq_some_iff→fN,mem_of_getElem?→fO
open Go.Lib renaming allEq→fP,allEq_len→fQ
open Bool renaming eq_false_or_eq_true→fR
namespace Go.Proofs.YtnlnmbcaongehaaGreatDoor
open Go.RowKit
def zd9:Option (Reg × Nat)→fh
 | some (x,_)=>.tuple #[.agg x.enc.toArray,.bool true]
 | none=>.tuple #[.agg aw.enc.toArray,.bool false]
def zcA (r:Option (Reg × Nat))(w:e_)(e:Ending)(w':e_):Prop:=e=.returned (zd9 r)∧fj w.heap.size w w'
theorem zeD {Ok:e_→Reg→Prop} (hK:Keeps Ok)(a:Option Addr)(cap:Nat)(xs:List Reg)(nk:ByteArray)(w:e_)(h:ab 7 Reg.enc Ok w a xs)(hl:xs.length≤8000000) :
 fg fk 47 #[.slice a xs.length cap,.string nk] w (zcA (first (fun x:Reg=>x.name.toList==nk.toList) xs) w):=by
 generalize hG:first (fun x:Reg=>x.name.toList==nk.toList) xs=G
 have H0:=h_ (show aF (fun x:Reg=>x.name.toList==nk.toList) (xs.drop 0) 0=G from hG)
 have HSL:=h_ (fun(w':e_) (hb:fj w.heap.size w w')=>ab.keeps hK _ _ _ _ hb h)
 have HQ:=h_ (fun(w':e_) (v:fh) (h:zd9 G=v) (hb:fj w.heap.size w w')=>(show zcA G w (.returned v) w' from⟨by rw [h],hb⟩))
 have HFR:=h_ (fun(p:Reg→Bool) (k:Nat) (x:Reg) (hx:xs[k]? =some x)=>eJ p xs k x hx)
 generalize zcA G w=Q at *
 obtain⟨zc,hzc⟩:∃ zc:Array fh,zc=#[.string ⟨#[]⟩,.int .i64 0,.int .i64 0,.int .i64 0,.int .i64 0,.int .u8 0,.bool false]:=⟨_,rfl⟩
 have HB0:=h_ (fun(w1:e_) (hb:fj (w.heap.size+1) (w.alloc (.cells zc 44)) w1)=>(show fj w.heap.size w w1 from aq hb))
 have HZ:=h_ (fun(w1:e_) (hb:fj (w.heap.size+1) (w.alloc (.cells zc 44)) w1)=>(show w1.heap[w.heap.size]? =some (.cells zc 44 (0,0)) by
  rw [hb.block _ (by omega)]
  exact fe w _))
 have hb00:fj (w.heap.size+1) (w.alloc (.cells zc 44)) (w.alloc (.cells zc 44)):=fD _ _
 have hsz:(w.alloc (.cells zc 44)).heap.size=w.heap.size+1:=fI _ _
 rw [hzc] at HB0 hb00 hsz HZ
 generalize hW0:w.alloc (.cells #[.string ⟨#[]⟩,.int .i64 0,.int .i64 0,.int .i64 0,.int .i64 0,.int .u8 0,.bool false] 44)=W0 at *
 have HW0:=h_ hW0
 have HSZ:=h_ hsz
 clear hW0 hsz hG h hzc zc
 go_enter Tryz.func47,Tryz.ntmps47
 go_wp2_with fail
 rw [HW0.out]
 go_loopw [10] (fun i wr=>∃ k:Nat,k≤xs.length∧i=.int .i64 k∧aF (fun x:Reg=>x.name.toList==nk.toList) (xs.drop k) k=G∧fj (w.heap.size+1) W0 wr) (fun i _=>xs.length-(intOf i).toNat)
 case atStart=>exact⟨0,by omega,rfl,H0.out,hb00⟩
 case round =>
  obtain⟨k,hk,rfl,hp,hb⟩:=hrel
  have hbs:w.heap.size+1≤wr.heap.size:=by have:=hb.size;rw [HSZ.out] at this;exact this
  have hz2:=HZ.out _ hb
  have HB1:=h_ hb
  have hz3:∀ o:Obj,(wr.alloc o).heap[w.heap.size]? =some (.cells #[.string ⟨#[]⟩,.int .i64 0,.int .i64 0,.int .i64 0,.int .i64 0,.int .u8 0,.bool false] 44 (0,0)):=fun o=>(fF wr o _ (by omega)).trans hz2
  have c2:∀ (o:Obj) (j:Nat),(wr.alloc o).cell? ⟨w.heap.size,j,none⟩=_:=fun o j=>fb _ _ j _ 44 (0,0) (hz3 o)
  have z2:∀ (o:Obj) (j:Nat),(wr.alloc o).frozen? ⟨w.heap.size,j,none⟩=false:=fun o j=>by simp [fH,hz3 o]
  have c3:∀ j,wr.cell? ⟨w.heap.size,j,none⟩=_:=fun j=>fb _ _ j _ 44 (0,0) hz2
  have z3:∀ j,wr.frozen? ⟨w.heap.size,j,none⟩=false:=fun j=>by simp [fH,hz2]
  clear hz2 hz3
  by_cases hlt:k<xs.length
  · obtain⟨b,off,x,rfl,hbl,hxk,hc,_⟩:=(HSL.out _ (HB0.out _ hb)).at_ hlt
    rw [HFR.out (fun x:Reg=>x.name.toList==nk.toList) k x hxk] at hp
    have d0:=hc 0 _ rfl;have d1:=hc 1 _ rfl;have d2:=hc 2 _ rfl;have d3:=hc 3 _ rfl;have d4:=hc 4 _ rfl;have d5:=hc 5 _ rfl;have d6:=hc 6 _ rfl
    obtain⟨nm,top,height,left,width,align,bottom⟩:=x
    simp only [fK] at d0 d1 d2 d3 d4 d5 d6 hp
    clear hc hxk
    cases hkq:(nm.toList==nk.toList)
    · rw [if_neg (by rw [hkq];decide)] at hp
      have HP:=h_ hp
      clear hp H0 c2 z2 c3 z3 hb
      go_wp2_with fail
      go_roundw
      case rel=>exact⟨k+1,by omega,by go_num,HP.out,HB1.out.alloc hbs _⟩
      case measure=>simp [intOf];omega
    · rw [if_pos hkq] at hp
      have HP:=h_ hp
      clear hp H0 hb c3 z3
      go_wp2_with fail
      refine ff (v:=.tuple #[.agg #[.string nm,.int .i64 top,.int .i64 height,.int .i64 left,.int .i64 width,.int .u8 align,.bool bottom],.bool true]) (by simp [results,ft,go_sem,c2]) rfl ?_
      refine HQ.out _ _ (by rw [←HP.out];rfl) ?_
      repeat refine fE ?_ (by simp only;omega) _
      exact HB0.out _ (HB1.out.alloc hbs _)
  · obtain rfl:k=xs.length:=by omega
    rw [fM,aF] at hp
    have HP:=h_ hp
    clear hp H0 hb c2 z2
    go_wp2_with fail
    refine ff (v:=.tuple #[.agg #[.string ⟨#[]⟩,.int .i64 0,.int .i64 0,.int .i64 0,.int .i64 0,.int .u8 0,.bool false],.bool false]) (by simp [results,ft,go_sem,c3]) rfl ?_
    refine HQ.out _ _ (by rw [←HP.out];rfl) ?_
    repeat refine fE ?_ (by simp only;omega) _
    exact HB0.out _ HB1.out
theorem zcO {α:Type} (p:α→Bool):∀ (xs:List α)(i:Nat),(bj p xs i=-1∧xs.find? p=none)∨∃ k x,bj p xs i=((i+k:Nat):Int)∧xs[k]? =some x∧xs.find? p=some x
 | [],i=>.inl ⟨rfl,rfl⟩
 | y::l,i=>by
   unfold bj
   rw [List.find?_cons]
   cases hp:p y
   · simp only [Bool.false_eq_true,if_false]
     rcases zcO p l (i+1) with⟨h1,h2⟩|⟨k,x,h1,h2,h3⟩
     · exact .inl ⟨h1,h2⟩
     · exact .inr ⟨k+1,x,by rw [h1];congr 1;omega,by simpa using h2,h3⟩
   · exact .inr ⟨0,y,by simp,rfl,rfl⟩
theorem zfl {α:Type} (p:α→Bool)(xs:List α):(posOf p xs=-1∧xs.find? p=none)∨∃ (k:Nat)(x:α),posOf p xs=(k:Int)∧xs[k]? =some x∧xs.find? p=some x:=by
 rcases zcO p xs 0 with h|⟨k,x,h1,h2⟩
 · exact .inl h
 · exact .inr ⟨k,x,by rw [posOf,h1];simp,h2⟩
def zhp (id:Int)(x:Cm):Bool:=x.id==id
theorem zdQ (d:Doc)(id:Int)(w:e_)(hr:zey w d.ca d.cms)(hl:d.cms.length≤4000000) :
 fg fk 105 #[.agg d.enc.toArray,.int .i64 id] w fun e w'=>e=.returned (.int .i64 (posOf (zhp id) d.cms))∧fj w.heap.size w w':=by
 obtain⟨title,lA,rate,drop,last,ra,rc,rG,ea,ec,evs,a,cc,xs⟩:=d
 simp only at hr hl
 simp only [Doc.enc]
 generalize hG:posOf (zhp id) xs=G
 have H0:=h_ (show bj (zhp id) (xs.drop 0) 0=G from hG)
 clear hG
 go_enter Tryz.func105,Tryz.ntmps105
 go_wp2_with fail
 go_loopw [10] (fun i wr=>∃ k:Nat,k≤xs.length∧i=.int .i64 k∧bj (zhp id) (xs.drop k) k=G∧fj w.heap.size w wr) (fun i _=>xs.length-(intOf i).toNat)
 case atStart=>exact⟨0,by omega,rfl,H0.out,(fD _ _).alloc (fJ _) _⟩
 case round =>
  obtain⟨k,hk,rfl,hp,hb⟩:=hrel
  by_cases hlt:k<xs.length
  · obtain⟨b,off,x,rfl,hbl,hx,hc,_⟩:=(hr.later hb).at_ hlt
    rw [zdU _ xs k x hx] at hp
    obtain⟨xid,ev,frm,til,au,tx,dn,lo⟩:=x
    have d0:=hc 0 _ rfl;have d1:=hc 1 _ rfl;have d2:=hc 2 _ rfl;have d3:=hc 3 _ rfl;have d4:=hc 4 _ rfl;have d5:=hc 5 _ rfl;have d6:=hc 6 _ rfl;have d7:=hc 7 _ rfl
    simp only [fK] at d0 d1 d2 d3 d4 d5 d6 d7
    have HB:=h_ (fun o=>hb.alloc hb.size o)
    by_cases ht:xid=id
    · subst ht
      rw [if_pos (by simp [zhp])] at hp
      have HP:=h_ hp
      clear hc hx hp H0
      go_wp2_with fail
      go_ret
      exact⟨ag HP.out,HB.out _⟩
    · have ht':(xid==id)=false:=by simpa using ht
      rw [if_neg (by simp [zhp,ht])] at hp
      have HP:=h_ hp
      clear hc hx hp H0 ht
      go_wp2_with fail
      go_roundw
      case rel=>exact⟨k+1,by omega,by go_num,HP.out,HB.out _⟩
      case measure=>simp [intOf];omega
  · obtain rfl:k=xs.length:=by omega
    rw [fM] at hp
    have HP:=h_ hp
    clear hp H0
    go_wp2_with fail
    go_ret
    exact⟨ag (by rw [←HP.out];rfl),hb⟩
def zl3:Option Cm→fh
 | some x=>.tuple #[.agg x.enc.toArray,.bool true]
 | none=>.tuple #[.agg aL.enc.toArray,.bool false]
theorem zem (d:Doc)(id:Int)(w:e_)(hr:zey w d.ca d.cms)(hl:d.cms.length≤4000000) :
 fg fk 52 #[.agg d.enc.toArray,.int .i64 id] w fun e w'=>e=.returned (zl3 (d.cms.find? (cmIs id)))∧fj w.heap.size w w':=by
 generalize hQ:(fun(e:Ending) (w':e_)=>e=.returned (zl3 (d.cms.find? (cmIs id)))∧fj w.heap.size w w')=Q
 generalize hcs:d.enc.toArray=cs
 have HB2:=h_ (fun(o o':Obj)=>(show fj w.heap.size w ((w.alloc o).alloc o') from((fD _ _).alloc (fJ _) _).alloc (by simp) _))
 have HB:=h_ (fun(o o':Obj) (w1:e_) (hb:fj ((w.alloc o).alloc o').heap.size ((w.alloc o).alloc o') w1)=>(show fj w.heap.size w w1 from(HB2.out o o').trans (hb.mono (by simp;omega))))
 have HK:=h_ (fun(o:Array fh) (w1:e_) (hb:fj ((w.alloc (.cells cs 27)).alloc (.cells o 52)).heap.size ((w.alloc (.cells cs 27)).alloc (.cells o 52)) w1)=>(show(w1.heap[w.heap.size]? =some (.cells cs 27 (0,0))∧w1.heap[w.heap.size+1]? =some (.cells o 52 (0,0))) by
  refine⟨?_,?_⟩
  · rw [hb.block _ (by simp;omega),fF _ _ _ (by simp)]
    exact fe w _
  · rw [hb.block _ (by simp)]
    have:=fe (w.alloc (.cells cs 27)) (.cells o 52)
    rwa [fI] at this))
 have HC:=h_ (fun(w1:e_) (h:fj w.heap.size w w1)=>zdQ d id w1 (hr.later h) hl)
 have hfd:=zfl (zhp id) d.cms
 rw [show zhp id=cmIs id from rfl] at hfd HC
 rcases hfd with⟨hp,hf⟩|⟨k,x,hp,hxk,hf⟩
 · rw [hp] at HC
   rw [hf] at hQ
   have HQ:=h_ (fun w' (hb:fj w.heap.size w w')=>show Q (.returned (.tuple #[.agg aL.enc.toArray,.bool false])) w' from hQ▸⟨rfl,hb⟩)
   clear hQ hp hf
   obtain⟨title,lA,rate,drop,last,ra,rc,rG,ea,ec,evs,a,cc,xs⟩:=d
   simp only [Doc.enc] at hcs HC
   simp only at hl
   clear hr
   go_enter fB,fx
   subst hcs
   go_wp2_with fail
   refine(HC.out _ (HB2.out _ _)).mono ?_
   rintro e w1 ⟨rfl,hb⟩
   obtain⟨hk1,hk2⟩:=HK.out _ _ hb
   have HBW:=h_ (HB.out _ _ _ hb)
   clear hb HC HB HK HB2
   have c2:∀ j,w1.cell? ⟨w.heap.size+1,j,none⟩=_:=fun j=>fb _ _ j _ 52 (0,0) hk2
   have z2:∀ j,w1.frozen? ⟨w.heap.size+1,j,none⟩=false:=fun j=>by simp [fH,hk2]
   clear hk1 hk2
   go_wp2_with fail
   refine ff (v:=.tuple #[.agg #[.int .i64 0,.int .i64 0,.int .i64 0,.int .i64 0,.string ⟨#[]⟩,.string ⟨#[]⟩,.bool false,.bool false],.bool false]) (by simp [results,fq,go_sem,c2]) rfl ?_
   refine HQ.out _ ?_
   repeat refine fE ?_ (by simp only;omega) _
   exact HBW.out
 · have hlt:k<d.cms.length:=(fN.1 hxk).1
   obtain⟨b,off,x',hea,hbl,hxk',hc,_⟩:=hr.at_ hlt
   obtain rfl:x=x':=by rw [hxk] at hxk';exact Option.some.inj hxk'
   have HD:=h_ (fun(w1:e_) (h:fj w.heap.size w w1) (j:Nat) (v:fh) (hv:x.enc[j]? =some v)=>(h.cell (p:=⟨b,off+k*8+j,none⟩) hbl).trans (hc j v hv))
   rw [hp] at HC
   rw [hf] at hQ
   have HQ:=h_ (fun w' (hb:fj w.heap.size w w')=>show Q (.returned (.tuple #[.agg x.enc.toArray,.bool true])) w' from hQ▸⟨rfl,hb⟩)
   clear hQ hp hf hxk hxk' hc
   obtain⟨title,lA,rate,drop,last,ra,rc,rG,ea,ec,evs,a,cc,xs⟩:=d
   simp only at hea hl hlt
   subst hea
   simp only [Doc.enc] at hcs HC
   clear hr
   obtain⟨xid,ev,frm,til,au,tx,dn,lo⟩:=x
   simp only [Cm.enc] at HD HQ
   go_enter fB,fx
   subst hcs
   go_wp2_with fail
   refine(HC.out _ (HB2.out _ _)).mono ?_
   rintro e w1 ⟨rfl,hb⟩
   obtain⟨hk1,hk2⟩:=HK.out _ _ hb
   have hbw:=HB.out _ _ _ hb
   have HBW:=h_ hbw
   have d0:=HD.out _ hbw 0 _ rfl;have d1:=HD.out _ hbw 1 _ rfl;have d2:=HD.out _ hbw 2 _ rfl;have d3:=HD.out _ hbw 3 _ rfl;have d4:=HD.out _ hbw 4 _ rfl;have d5:=HD.out _ hbw 5 _ rfl;have d6:=HD.out _ hbw 6 _ rfl;have d7:=HD.out _ hbw 7 _ rfl
   simp only [fK] at d0 d1 d2 d3 d4 d5 d6 d7
   clear hb hbw HC HB HK HB2 HD
   have c1:∀ j,w1.cell? ⟨w.heap.size,j,none⟩=_:=fun j=>fb _ _ j _ 27 (0,0) hk1
   have c2:∀ j,w1.cell? ⟨w.heap.size+1,j,none⟩=_:=fun j=>fb _ _ j _ 52 (0,0) hk2
   have z2:∀ j,w1.frozen? ⟨w.heap.size+1,j,none⟩=false:=fun j=>by simp [fH,hk2]
   clear hk1 hk2
   go_wp2_with fail
   refine ff (v:=.tuple #[.agg #[.int .i64 xid,.int .i64 ev,.int .i64 frm,.int .i64 til,.string au,.string tx,.bool dn,.bool lo],.bool true]) (by simp [results,fq,go_sem,c2]) rfl ?_
   refine HQ.out _ ?_
   repeat refine fE ?_ (by simp only;omega) _
   exact HBW.out
theorem zhS (a a':Option Addr)(n m c c':Nat)(w:e_)(h:¬ n=m):fg fk 119 #[.agg #[.slice a n c],.agg #[.slice a' m c']] w fun e w'=>e=.returned (.bool false)∧fj w.heap.size w w':=by
 have h1:(n != m)=true:=by simpa using h
 have h2:((n:Int) != (m:Int))=true:=by simp;omega
 have HB:=h_ (fun o o'=>(((fD _ _).alloc (fJ _) _).alloc (by simp) _:fj w.heap.size w ((w.alloc o).alloc o')))
 go_enter fz,fu
 go_wp2_with fail
 go_ret
 exact⟨rfl,HB.out _ _⟩
theorem zjc (a a':Option Addr)(c c':Nat)(xs ys:List Run)(w:e_)(h:Runs w a xs)(h':Runs w a' ys)(hl:xs.length≤4000000)(hn:xs.length=ys.length) :
 fg fk 119 #[.agg #[.slice a xs.length c],.agg #[.slice a' ys.length c']] w fun e w'=>e=.returned (.bool (fP eM xs ys))∧fj w.heap.size w w':=by
 generalize hG:fP eM xs ys=G
 have H0:=h_ (show fP eM (xs.drop 0) (ys.drop 0)=G from hG)
 have HNN:=h_ hn
 rw [←hn]
 clear hG hn
 have h1:((xs.length:Int) != (xs.length:Int))=false:=by simp
 generalize hds:#[fh.slice a xs.length c]=ds
 generalize hes:#[fh.slice a' xs.length c']=es
 have f0:=ah w ds es 78 78 0 (.slice a xs.length c) (by rw [←hds];rfl)
 have g0:=aj w ds es 78 78 0 (.slice a' xs.length c') (by rw [←hes];rfl)
 have HB:=h_ (fun(w1:e_) (h:fj (w.heap.size+2) ((w.alloc (.cells ds 78)).alloc (.cells es 78)) w1)=>aR h)
 have hb0:fj (w.heap.size+2) ((w.alloc (.cells ds 78)).alloc (.cells es 78)) ((w.alloc (.cells ds 78)).alloc (.cells es 78)):=fD _ _
 generalize hW0:(w.alloc (.cells ds 78)).alloc (.cells es 78)=W0 at *
 have HW0:=h_ hW0
 clear hW0
 go_enter fz,fu
 subst hds
 subst hes
 go_wp2_with fail
 rw [HW0.out]
 go_loopw [16] (fun i wr=>∃ k:Nat,k≤xs.length∧i=.int .i64 k∧fP eM (xs.drop k) (ys.drop k)=G∧fj (w.heap.size+2) W0 wr) (fun i _=>xs.length-(intOf i).toNat)
 case atStart=>exact⟨0,by omega,rfl,H0.out,hb0⟩
 case round =>
  obtain⟨k,hk,rfl,hp,hb⟩:=hrel
  by_cases hlt:k<xs.length
  · obtain⟨b,off,r,rfl,hbl,hx,hc,hok⟩:=(h.later (HB.out _ hb)).at_ hlt
    obtain⟨b',off',s,rfl,hbl',hy,hc',hok'⟩:=(h'.later (HB.out _ hb)).at_ (show k<ys.length by rw [←HNN.out];exact hlt)
    rw [zgx eM xs ys k r s hx hy] at hp
    have hne:=zgL r s
    have HP:=h_ hp
    have hltd:decide (k<xs.length)=true:=by simpa using hlt
    generalize eM r s=E at *
    obtain⟨t,cc,i,u,ru⟩:=r
    obtain⟨t2,cc2,i2,u2,ru2⟩:=s
    simp only [Run.enc] at hne
    have d0:=hc 0 _ rfl;have d1:=hc 1 _ rfl;have d2:=hc 2 _ rfl;have d3:=hc 3 _ rfl;have d4:=hc 4 _ rfl
    have e0:=hc' 0 _ rfl;have e1:=hc' 1 _ rfl;have e2:=hc' 2 _ rfl;have e3:=hc' 3 _ rfl;have e4:=hc' 4 _ rfl
    simp only [fK] at d0 d1 d2 d3 d4 e0 e1 e2 e3 e4
    clear hc hc' hp hx hy hok hok' H0
    have hlt2:(k:Int)<(xs.length:Int):=by omega
    cases E
    · go_wp2_with fail
      go_quiet (fail)
      go_wp2_with fail
      go_ret
      exact⟨by rw [←HP.out];rfl,HB.out _ (below_drewN hb _)⟩
    · go_wp2_with fail
      go_quiet (fail)
      go_wp2_with fail
      go_roundw
      case rel=>exact⟨k+1,by omega,by go_num,by rw [←HP.out];simp,below_drewN hb _⟩
      case measure=>simp [intOf];omega
  · obtain rfl:k=xs.length:=by omega
    have hp2:true=G:=by
     rw [←hp,fM,HNN.out,fM,zaN]
    have HP:=h_ hp2
    clear hp hp2 H0
    go_wp2_with fail
    go_ret
    exact⟨by rw [←HP.out];rfl,HB.out _ hb⟩
theorem zfQ (r s:Row)(w:e_)(h:r.lies w)(h':s.lies w)(hl:r.runs.length≤4000000) :
 fg fk 119 #[.agg r.enc.toArray,.agg s.enc.toArray] w fun e w'=>e=.returned (.bool (eN r s))∧fj w.heap.size w w':=by
 obtain⟨a,c,xs⟩:=r
 obtain⟨a',c',ys⟩:=s
 unfold eN
 simp only [Row.enc,Row.lies] at *
 by_cases hn:xs.length=ys.length
 · exact zjc a a' c c' xs ys w h h' hl hn
 · rw [fQ eM xs ys hn]
   exact zhS a a' _ _ c c' w hn
theorem zhT (a a':Option Addr)(n m c c':Nat)(w:e_)(h:¬ n=m):fg fk 64 #[.slice a n c,.slice a' m c'] w fun e w'=>e=.returned (.bool false)∧fj w.heap.size w w':=by
 have h1:(n != m)=true:=by simpa using h
 have h2:((n:Int) != (m:Int))=true:=by simp;omega
 go_enter fA,fw
 go_wp2_with fail
 go_ret
 exact⟨rfl,fD _ _⟩
theorem zjd (a a':Option Addr)(c c':Nat)(xs ys:List Row)(w:e_)(h:zaO w a xs)(h':zaO w a' ys)(hf:∀ r∈xs,r.runs.length≤4000000)(hl:xs.length≤4000000)(hn:xs.length=ys.length) :
 fg fk 64 #[.slice a xs.length c,.slice a' ys.length c'] w fun e w'=>e=.returned (.bool (fP eN xs ys))∧fj w.heap.size w w':=by
 have HT:=h_ (fun(w2 w3:e_) (h:fj w.heap.size w w2) (h3:fj w2.heap.size w2 w3)=>(h.trans (h3.mono h.size):fj w.heap.size w w3))
 generalize hG:fP eN xs ys=G
 have H0:=h_ (show fP eN (xs.drop 0) (ys.drop 0)=G from hG)
 have HNN:=h_ hn
 rw [←hn]
 clear hG hn
 have h1:((xs.length:Int) != (xs.length:Int))=false:=by simp
 go_enter fA,fw
 go_wp2_with fail
 go_loopw [13] (fun i wr=>∃ k:Nat,k≤xs.length∧i=.int .i64 k∧fP eN (xs.drop k) (ys.drop k)=G∧fj w.heap.size w wr) (fun i _=>xs.length-(intOf i).toNat)
 case atStart=>exact⟨0,by omega,rfl,H0.out,fD _ _⟩
 case round =>
  obtain⟨k,hk,rfl,hp,hb⟩:=hrel
  by_cases hlt:k<xs.length
  · obtain⟨b,off,r,rfl,hbl,hx,hc,hok⟩:=ab.at_ h hlt
    obtain⟨b',off',s,rfl,hbl',hy,hc',hok'⟩:=ab.at_ h' (show k<ys.length by rw [←HNN.out];exact hlt)
    have HC:=h_ (fun(w1:e_) (q:fj w.heap.size w w1)=>(zfQ r s w1 (Row.keeps _ _ _ q hok) (Row.keeps _ _ _ q hok') (hf r (fO hx))).mono (fun e w' (p:e=.returned (.bool (eN r s))∧fj w1.heap.size w1 w')=>(show e=.returned (.bool (eN r s))∧fj w.heap.size w w' from⟨p.1,HT.out _ _ q p.2⟩)))
    rw [zgx eN xs ys k r s hx hy] at hp
    have HP:=h_ hp
    have hltd:decide (k<xs.length)=true:=by simpa using hlt
    have q0:=fun(w1:e_) (q:fj w.heap.size w w1)=>(q.cell (p:=⟨b,off+k*1+0,none⟩) hbl).trans (hc 0 _ rfl)
    have q1:=fun(w1:e_) (q:fj w.heap.size w w1)=>(q.cell (p:=⟨b',off'+k*1+0,none⟩) hbl').trans (hc' 0 _ rfl)
    simp only [fK,fL] at q0 q1
    obtain⟨ra,rc,rr⟩:=r
    obtain⟨sa,sc,ss⟩:=s
    generalize eN ⟨ra,rc,rr⟩ ⟨sa,sc,ss⟩=E at *
    simp only [Row.enc] at HC q0 q1
    clear hc hc' hp hx hy hok hok' H0
    have hlt2:(k:Int)<(xs.length:Int):=by omega
    have hb0d:fj w.heap.size w wr.drew:=hb.drew
    cases E
    · go_wp2_with fail
      go_region_held3 (fun w'=>fj w.heap.size w w') (first|assumption|exact hb0d) (first|(go_at_call 119;((with_reducible refine(HC.out _ ?_).mono ?_);assumption);rintro e w4 ⟨rfl,hc4⟩))
      all_goals
       go_wp2_with fail
       go_ret
       exact⟨by rw [←HP.out];rfl,by assumption⟩
    · go_wp2_with fail
      go_region_held3 (fun w'=>fj w.heap.size w w') (first|assumption|exact hb0d) (first|(go_at_call 119;((with_reducible refine(HC.out _ ?_).mono ?_);assumption);rintro e w4 ⟨rfl,hc4⟩))
      all_goals
       go_wp2_with fail
       go_roundw
       case rel=>exact⟨k+1,by omega,by go_num,by rw [←HP.out];simp,by assumption⟩
       case measure=>simp [intOf];omega
  · obtain rfl:k=xs.length:=by omega
    have hp2:true=G:=by
     rw [←hp,fM,HNN.out,fM,zaN]
    have HP:=h_ hp2
    clear hp hp2 H0
    go_wp2_with fail
    go_ret
    exact⟨by rw [←HP.out];rfl,hb⟩
theorem zfR (a a':Option Addr)(c c':Nat)(xs ys:List Row)(w:e_)(h:zaO w a xs)(h':zaO w a' ys)(hf:∀ r∈xs,r.runs.length≤4000000)(hl:xs.length≤4000000) :
 fg fk 64 #[.slice a xs.length c,.slice a' ys.length c'] w fun e w'=>e=.returned (.bool (cP xs ys))∧fj w.heap.size w w':=by
 unfold cP
 by_cases hn:xs.length=ys.length
 · exact zjd a a' c c' xs ys w h h' hf hl hn
 · rw [fQ eN xs ys hn]
   exact zhT a a' _ _ c c' w hn
theorem zaC (x y:Ev)(w:e_)(h:x.lies w)(h':y.lies w)(hf:∀ r∈x.rows,r.runs.length≤4000000)(hl:x.rows.length≤4000000) :
 fg fk 50 #[.agg x.enc.toArray,.agg y.enc.toArray] w fun e w'=>e=.returned (.bool (evEq x y))∧fj w.heap.size w w':=by
 have hb2:∀ o o',fj w.heap.size w ((w.alloc o).alloc o'):=fun o o'=>((fD _ _).alloc (fJ _) _).alloc (by simp) _
 have HC:=h_ (fun o o'=>zfR x.at_ y.at_ x.cap y.cap x.rows y.rows ((w.alloc o).alloc o') (bM.later h (hb2 o o')) (bM.later h' (hb2 o o')) hf hl)
 have HB:=h_ (fun o o' w1 (h1:fj ((w.alloc o).alloc o').heap.size ((w.alloc o).alloc o') w1)=>(hb2 o o').trans (h1.mono (by simp;omega)))
 have HB0:=h_ hb2
 have hE:evEq x y=(x.id==y.id&&(x.inn==y.inn&&x.out==y.out)&&x.region.toList==y.region.toList&&x.kind==y.kind&&x.speaker.toList==y.speaker.toList&&cP x.rows y.rows):=rfl
 generalize hQ:(fun(e:Ending) (w':e_)=>e=.returned (.bool (evEq x y))∧fj w.heap.size w w')=Q
 generalize cP x.rows y.rows=G at HC hE
 obtain⟨id,inn,out,reg,kind,sp,xa,xc,xr⟩:=x
 obtain⟨id',inn',out',reg',kind',sp',ya,yc,yr⟩:=y
 simp only [Ev.enc] at *
 have hsp:=zfi inn out inn' out'
 rcases fR (id==id') with h1|h1
 rotate_left
 · rw [h1] at hE
   have HQ:=h_ (fun w' (hb:fj w.heap.size w w')=>show Q (.returned (.bool false)) w' from hQ▸⟨by rw [hE];rfl,hb⟩)
   clear hQ hE hb2 h h' hf hsp
   go_enter fo,fm
   go_wp2_with fail
   exact HQ.out _ (HB0.out _ _)
 rcases fR (inn==inn'&&out==out') with h2|h2
 rotate_left
 · rw [h1,h2] at hE
   rw [h2] at hsp
   have HQ:=h_ (fun w' (hb:fj w.heap.size w w')=>show Q (.returned (.bool false)) w' from hQ▸⟨by rw [hE];rfl,hb⟩)
   clear hQ hE hb2 h h' hf h2
   go_enter fo,fm
   go_wp2_with fail
   exact HQ.out _ (HB0.out _ _)
 rcases fR (reg.toList==reg'.toList) with h3|h3
 rotate_left
 · rw [h1,h2,h3] at hE
   rw [h2] at hsp
   have HQ:=h_ (fun w' (hb:fj w.heap.size w w')=>show Q (.returned (.bool false)) w' from hQ▸⟨by rw [hE];rfl,hb⟩)
   clear hQ hE hb2 h h' hf h2
   go_enter fo,fm
   go_wp2_with fail
   exact HQ.out _ (HB0.out _ _)
 rcases fR (kind==kind') with h4|h4
 rotate_left
 · rw [h1,h2,h3,h4] at hE
   rw [h2] at hsp
   have HQ:=h_ (fun w' (hb:fj w.heap.size w w')=>show Q (.returned (.bool false)) w' from hQ▸⟨by rw [hE];rfl,hb⟩)
   clear hQ hE hb2 h h' hf h2
   go_enter fo,fm
   go_wp2_with fail
   exact HQ.out _ (HB0.out _ _)
 rcases fR (sp.toList==sp'.toList) with h5|h5
 rotate_left
 · rw [h1,h2,h3,h4,h5] at hE
   rw [h2] at hsp
   have HQ:=h_ (fun w' (hb:fj w.heap.size w w')=>show Q (.returned (.bool false)) w' from hQ▸⟨by rw [hE];rfl,hb⟩)
   clear hQ hE hb2 h h' hf h2
   go_enter fo,fm
   go_wp2_with fail
   exact HQ.out _ (HB0.out _ _)
 rw [h1,h2,h3,h4,h5] at hE
 rw [h2] at hsp
 have HQ:=h_ (fun w' (hb:fj w.heap.size w w')=>show Q (.returned (.bool G)) w' from hQ▸⟨by rw [hE];rfl,hb⟩)
 clear hQ hE hb2 h h' hf h2
 go_enter fo,fm
 go_wp2_with fail
 refine(HC.out _ _).mono ?_
 rintro e w1 ⟨rfl,hb⟩
 have HBW:=h_ (HB.out _ _ _ hb)
 clear hb
 go_wp2_with fail
 exact HQ.out _ HBW.out
theorem eC.form {rows:List Row} {w wr:e_} {v:fh} {k:Nat} (h:eC rows w v k wr):∃ a n c,v=.slice a n c:=by
 obtain⟨zs,h1,h2,h3⟩:=h
 obtain⟨a,c,rfl,hS⟩:=cM.slice (k:=1) (enc:=Row.enc) (fun _=>rfl) h3
 exact⟨_,_,_,rfl⟩
theorem zbl (a:Option Addr)(cap:Nat)(rows:List Row)(w:e_)(h:bM w a rows)(hf:∀ r∈rows,r.runs.length≤4000000)(hl:rows.length≤4000000) :
 fg fk 120 #[.slice a rows.length cap] w (za0 rows w):=by
 have HR:=h_ (fun(w':e_) (hb:fj w.heap.size w w')=>bM.later h hb)
 have HD:=h_ (fun(wr:e_) (v:fh) (h:eC rows w v rows.length wr)=>h.done)
 have HF:=h_ hf
 have H0:=h_ (show eC rows w (.slice none 0 0) 0 w from⟨[],rfl,rfl,cM.start (fD _ _)⟩)
 obtain⟨j0,hj,hy0,hy1,hy2⟩:=fi Tryz.info75
 have JI:=h_ hj;have J0:=h_ hy0;have J1:=h_ hy1;have J2:=h_ hy2
 obtain⟨j0',hj',hy0',hy1',hy2'⟩:=fi Tryz.info78
 have KI:=h_ hj';have K0:=h_ hy0';have K1:=h_ hy1';have K2:=h_ hy2'
 clear h hf hj hy0 hy1 hy2 hj' hy0' hy1' hy2'
 generalize za0 rows w=Q at *
 go_enter Tryz.func120,Tryz.ntmps120
 go_wp2_with fail
 go_loopw [3,8] (fun v i wr=>∃ k:Nat,k≤rows.length∧i=.int .i64 k∧eC rows w v k wr) (fun _ i _=>rows.length-(intOf i).toNat)
 case atStart=>exact⟨0,by omega,rfl,H0.out⟩
 case round =>
  clear H0
  obtain⟨k,hk,rfl,hrel⟩:=hrel
  obtain⟨av,an,ac,rfl⟩:=hrel.form
  by_cases hlt:k<rows.length
  · have hbw:fj w.heap.size w wr:=by obtain⟨_,_,_,h⟩:=hrel;exact h.2.2
    obtain⟨b,off,r,rfl,hbl,hxk,hc,hok⟩:=(HR.out _ hbw).at_ hlt
    have d0:=hc 0 _ rfl
    simp only [fK,fL] at d0
    have HFR:=h_ (HF.out r (fO hxk))
    have HOK:=h_ (fun(o o':Obj)=>Row.keeps _ _ _ (((fD wr.heap.size wr).alloc (fJ _) o).alloc (by simp) o') hok)
    have HP:=h_ (fun(w1:e_) (a2:Option Addr) (c2:Nat) (hb:fj wr.heap.size wr w1) (hS:w1.ownsRow (wr.heap.size+1) 75 5 (.slice a2 r.runs.length c2) r.runs.length (r.runs.flatMap Run.enc))=>eC.push hrel hxk hb hS)
    have hln:=HFR.out
    obtain⟨ra,rc,rr⟩:=r
    simp only at HFR HOK HP hln
    have hws:=hbw.size
    clear hc hok hrel hbw hxk
    go_wp2_with (at_builtin;refine ai (enc:=Run.enc) (Ok:=Flat) _ rfl (.tmp 13) (.tmp 15) 76 rfl (wr.heap.size+1) 75 j0 _ 5 40 Tryz.underlying76 JI.out J0.out J1.out J2.out rfl (by decide) (fun _=>rfl) Run.one _ 0 [] rfl ?hrow ra rc rr rfl ?hsl ?h63 ?hb ?hbase ?_)
    case hrow =>
     have:=e_.ownsRow_made (base:=wr.heap.size+1) (e:=75) (size:=5) (wr.alloc (.cells #[.slice ra rr.length rc] 78)) #[] 0 (by simp) (Nat.zero_le _) (by simp)
     rw [fI] at this
     exact this
    case hsl=>exact HOK.out _ _
    case h63=>unfold maxLen;omega
    case hb=>omega
    try (case hbase=>simp)
    intro v1 w1 ho hg _
    have hb1:fj wr.heap.size wr w1:=(((fD _ _).alloc (fJ _) _).alloc (by simp) _).grown hg (by simp;omega) (fun j hj=>by simp [fh.ownBlock] at hj;omega)
    obtain⟨a2,c2,rfl⟩:∃ a2 c2,v1=.slice a2 rr.length c2:=by
     rcases ho.2 with⟨rfl,h0⟩|⟨g,cap,_,rfl,_⟩
     · exact⟨none,0,by rw [h0]⟩
     · exact⟨_,_,rfl⟩
    obtain⟨zs,hzl,hO,hfin⟩:=HP.out w1 a2 c2 hb1 ho
    have HFIN:=h_ hfin
    have hs1:w.heap.size≤w1.heap.size:=Nat.le_trans hws hb1.size
    clear ho hg hfin hb1 HP HOK d0 hzl
    generalize zs.flatMap Row.enc=zf at *
    go_wp2_with (at_builtin;refine ak _ _ rfl (.tmp 12) (.tmp 18) 48 rfl w.heap.size 78 j0' _ 1 24 Tryz.underlying48 KI.out K0.out K1.out K2.out rfl (by decide) _ _ _ rfl hO _ rfl rfl ?hsz2 ?h12 ?h632 ?hb2 ?hbase2 ?_)
    case hsz2=>rfl
    case h12=>first|(intro u hu;simp at hu;subst hu;rfl)|rfl
    case h632=>unfold maxLen;omega
    case hb2=>omega
    try (case hbase2=>omega)
    intro v2 w2 hown hgrow hat2
    have R:=h_ (HFIN.out v2 w2 hown hgrow hat2)
    clear hown hgrow hat2 HFIN hO
    go_wp2_with fail
    go_roundw
    case rel=>exact⟨k+1,by omega,by go_num,R.out⟩
    case measure=>simp [intOf];omega
  · obtain rfl:k=rows.length:=by omega
    have HN:=h_ hrel
    clear hrel
    go_wp2_with fail
    exact HD.out _ _ HN.out
theorem cH (x:Ev)(w:e_)(h:x.lies w)(hf:∀ r∈x.rows,r.runs.length≤4000000)(hl:x.rows.length≤4000000) :
 fg fk 65 #[.agg x.enc.toArray] w (zdc x.c w):=by
 generalize hcs:x.enc.toArray=cs
 have HC:=h_ (fun(o:Obj)=>zbl x.at_ x.cap x.rows ((w.alloc (.cells cs 50)).alloc o) (bM.later h (((fD _ _).alloc (fJ _) _).alloc (by simp) _)) hf hl)
 have HQ:=h_ (fun(a:Option Addr) (c:Nat) (rows:List Row) (w':e_) (e:rows.map Row.runs=x.rows.map Row.runs) (h:bM w' a rows) (hu:∀ b,zaz a rows b→w.heap.size≤b) (hb:fj w.heap.size w w')=>(show zdc x.c w (.returned (.agg #[.int .i64 x.id,.int .i64 x.inn,.int .i64 x.out,.string x.region,.int .u8 x.kind,.string x.speaker,.slice a rows.length c])) w' from
  ⟨⟨x.id,x.inn,x.out,x.region,x.kind,x.speaker,a,c,rows⟩,rfl,by simp only [Ev.c,e],h,hu,hb⟩))
 have HB:=h_ (fun(o o':Obj) (w1:e_) (hb:fj ((w.alloc o).alloc o').heap.size ((w.alloc o).alloc o') w1)=>(show fj w.heap.size w w1 from(((fD _ _).alloc (fJ _) _).alloc (by simp) _).trans (hb.mono (by simp;omega))))
 have HK:=h_ (fun(o:Array fh) (w1:e_) (hb:fj ((w.alloc (.cells cs 50)).alloc (.cells o 50)).heap.size ((w.alloc (.cells cs 50)).alloc (.cells o 50)) w1)=>(show(w1.heap[w.heap.size]? =some (.cells cs 50 (0,0))∧w1.heap[w.heap.size+1]? =some (.cells o 50 (0,0))) by
  refine⟨?_,?_⟩
  · rw [hb.block _ (by simp;omega),fF _ _ _ (by simp)]
    exact fe w _
  · rw [hb.block _ (by simp)]
    have:=fe (w.alloc (.cells cs 50)) (.cells o 50)
    rwa [fI] at this))
 obtain⟨id,inn,out,reg,kind,sp,a,c,rows⟩:=x
 simp only at *
 generalize zdc _ w=Q at *
 clear h hf
 simp only [Ev.enc] at hcs
 go_enter Tryz.func65,Tryz.ntmps65
 subst hcs
 go_wp2_with fail
 refine(HC.out _).mono ?_
 rintro e w1 ⟨a',c',rows',rfl,hr,hm,hu,hb⟩
 obtain⟨hk1,hk2⟩:=HK.out _ _ hb
 have HBW:=h_ (HB.out _ _ _ hb)
 have HR:=h_ hr
 have HM:=h_ hm
 have HU:=h_ hu
 clear hb hr hm hu HC HB HK
 have c1:∀ j,w1.cell? ⟨w.heap.size,j,none⟩=_:=fun j=>fb _ _ j _ 50 (0,0) hk1
 have c2:∀ j,w1.cell? ⟨w.heap.size+1,j,none⟩=_:=fun j=>fb _ _ j _ 50 (0,0) hk2
 have z1:∀ j,w1.frozen? ⟨w.heap.size,j,none⟩=false:=fun j=>by simp [fH,hk1]
 have z2:∀ j,w1.frozen? ⟨w.heap.size+1,j,none⟩=false:=fun j=>by simp [fH,hk2]
 clear hk1 hk2
 go_wp2_with fail
 refine ff (v:=.agg #[.int .i64 id,.int .i64 inn,.int .i64 out,.string reg,.int .u8 kind,.string sp,.slice a' rows'.length c']) (by simp [results,Tryz.results65,go_sem,c2]) rfl ?_
 have HF:=h_ (fun(b:Nat) (u u0 u1 u2 u3 u4 u5 u6:fh) (hb:w.heap.size+2≤b)=>(show((((((((w1.setCell ⟨w.heap.size,6,none⟩ u).setCell ⟨w.heap.size+1,0,none⟩ u0).setCell ⟨w.heap.size+1,1,none⟩ u1).setCell ⟨w.heap.size+1,2,none⟩ u2).setCell ⟨w.heap.size+1,3,none⟩ u3).setCell ⟨w.heap.size+1,4,none⟩ u4).setCell ⟨w.heap.size+1,5,none⟩ u5).setCell ⟨w.heap.size+1,6,none⟩ u6).heap[b]? =w1.heap[b]? by
  repeat rw [fG _ _ _ _ (by simp only;omega)]))
 have HUU:∀ b,zaz a' rows' b→w.heap.size+2≤b:=fun b hu=>by
  have:=HU.out b hu
  simp at this
  omega
 refine HQ.out _ _ _ _ HM.out (bM.frame HR.out (by simp) fun b hu=>HF.out b _ _ _ _ _ _ _ _ (HUU b hu)) (fun b hu=>by have:=HUU b hu;omega) ?_
 repeat refine fE ?_ (by simp only;omega) _
 exact HBW.out
def zmc (r:Option Ev)(w:e_)(e:Ending)(w':e_):Prop:=∃ y:Ev,e=.returned (.tuple #[.agg y.enc.toArray,.bool r.isSome])∧y.c=(r.getD aQ).c∧y.lies w'∧(∀ b,y.uses b→w.heap.size≤b)∧fj w.heap.size w w'
theorem zgc (d:Doc)(id:Int)(w:e_)(hr:bK w d.ea d.evs)(hl:d.evs.length≤4000000)(hf:∀ x∈d.evs,x.rows.length≤4000000∧∀ r∈x.rows,r.runs.length≤4000000) :
 fg fk 49 #[.agg d.enc.toArray,.int .i64 id] w (zmc (d.evs.find? (evIs id)) w):=by
 generalize hQ:zmc (d.evs.find? (evIs id)) w=Q
 generalize hcs:d.enc.toArray=cs
 have HB2:=h_ (fun(o o':Obj)=>(show fj w.heap.size w ((w.alloc o).alloc o') from((fD _ _).alloc (fJ _) _).alloc (by simp) _))
 have HB:=h_ (fun(o o':Obj) (w1:e_) (hb:fj ((w.alloc o).alloc o').heap.size ((w.alloc o).alloc o') w1)=>(show fj w.heap.size w w1 from(HB2.out o o').trans (hb.mono (by simp;omega))))
 have HK:=h_ (fun(o:Array fh) (w1:e_) (hb:fj ((w.alloc (.cells cs 27)).alloc (.cells o 50)).heap.size ((w.alloc (.cells cs 27)).alloc (.cells o 50)) w1)=>(show(w1.heap[w.heap.size]? =some (.cells cs 27 (0,0))∧w1.heap[w.heap.size+1]? =some (.cells o 50 (0,0))) by
  refine⟨?_,?_⟩
  · rw [hb.block _ (by simp;omega),fF _ _ _ (by simp)]
    exact fe w _
  · rw [hb.block _ (by simp)]
    have:=fe (w.alloc (.cells cs 27)) (.cells o 50)
    rwa [fI] at this))
 have HC:=h_ (fun(w1:e_) (h:fj w.heap.size w w1)=>cK d id w1 (hr.later h) hl)
 have hfd:=zfl (bl id) d.evs
 rw [show bl id=evIs id from rfl] at hfd HC
 rcases hfd with⟨hp,hfn⟩|⟨k,x,hp,hxk,hfn⟩
 · rw [hp] at HC
   rw [hfn] at hQ
   have HQ:=h_ (fun w' (hb:fj w.heap.size w w')=>show Q (.returned (.tuple #[.agg aQ.enc.toArray,.bool false])) w' from hQ▸⟨aQ,rfl,rfl,zaa _,fun b hu=>(zbf b hu).elim,hb⟩)
   clear hQ hp hfn hf
   obtain⟨title,lA,rate,drop,last,ra,rc,rG,ea,ec,evs,a,cc,xs⟩:=d
   simp only [Doc.enc] at hcs HC
   simp only at hl
   clear hr
   go_enter fC,fy
   subst hcs
   go_wp2_with fail
   refine(HC.out _ (HB2.out _ _)).mono ?_
   rintro e w1 ⟨rfl,hb⟩
   obtain⟨hk1,hk2⟩:=HK.out _ _ hb
   have HBW:=h_ (HB.out _ _ _ hb)
   clear hb HC HB HK HB2
   have c2:∀ j,w1.cell? ⟨w.heap.size+1,j,none⟩=_:=fun j=>fb _ _ j _ 50 (0,0) hk2
   have z2:∀ j,w1.frozen? ⟨w.heap.size+1,j,none⟩=false:=fun j=>by simp [fH,hk2]
   clear hk1 hk2
   go_wp2_with fail
   refine ff (v:=.tuple #[.agg #[.int .i64 0,.int .i64 0,.int .i64 0,.string ⟨#[]⟩,.int .u8 0,.string ⟨#[]⟩,.slice none 0 0],.bool false]) (by simp [results,fr,go_sem,c2]) rfl ?_
   refine HQ.out _ ?_
   repeat refine fE ?_ (by simp only;omega) _
   exact HBW.out
 · have hlt:k<d.evs.length:=(fN.1 hxk).1
   obtain⟨b,off,x',hea,hbl,hxk',hc,hlie⟩:=hr.at_ hlt
   obtain rfl:x=x':=by rw [hxk] at hxk';exact Option.some.inj hxk'
   have hfx:=hf x (fO hxk)
   have HD:=h_ (fun(w1:e_) (h:fj w.heap.size w w1) (j:Nat) (v:fh) (hv:x.enc[j]? =some v)=>(h.cell (p:=⟨b,off+k*7+j,none⟩) hbl).trans (hc j v hv))
   have HCL:=h_ (fun(w1:e_) (h:fj w.heap.size w w1)=>cH x w1 (Ev.keeps _ _ _ h hlie) hfx.2 hfx.1)
   rw [hp] at HC
   rw [hfn] at hQ
   have HQ:=h_ (fun(y:Ev) (w2 w':e_) (he:y.c=x.c) (hy:y.lies w2) (hu:∀ b,y.uses b→w.heap.size+2≤b) (hs:w2.heap.size≤w'.heap.size) (hk:∀ b,w.heap.size+2≤b→w'.heap[b]? =w2.heap[b]?) (hb:fj w.heap.size w w')=>show Q (.returned (.tuple #[.agg y.enc.toArray,.bool true])) w' from hQ▸⟨y,rfl,he,Ev.frame hy hs fun b h=>hk b (hu b h),fun b h=>by have:=hu b h;omega,hb⟩)
   clear hQ hp hfn hxk hxk' hc hlie hf hfx
   obtain⟨title,lA,rate,drop,last,ra,rc,rG,ea,ec,evs,a,cc,xs⟩:=d
   simp only at hea hl hlt
   subst hea
   simp only [Doc.enc] at hcs HC
   clear hr
   generalize x.c=XC at *
   obtain⟨xid,xin,xout,xreg,xkind,xsp,xa,xc,xrows⟩:=x
   simp only [Ev.enc] at HD HCL
   go_enter fC,fy
   subst hcs
   go_wp2_with fail
   refine(HC.out _ (HB2.out _ _)).mono ?_
   rintro e w1 ⟨rfl,hb⟩
   obtain⟨hk1,hk2⟩:=HK.out _ _ hb
   have hbw:=HB.out _ _ _ hb
   have HBW:=h_ hbw
   have hw1:w.heap.size+2≤w1.heap.size:=by have:=hb.size;simp at this;omega
   have d0:=HD.out _ hbw 0 _ rfl;have d1:=HD.out _ hbw 1 _ rfl;have d2:=HD.out _ hbw 2 _ rfl;have d3:=HD.out _ hbw 3 _ rfl;have d4:=HD.out _ hbw 4 _ rfl;have d5:=HD.out _ hbw 5 _ rfl;have d6:=HD.out _ hbw 6 _ rfl
   simp only [fK] at d0 d1 d2 d3 d4 d5 d6
   have HCL1:=h_ (HCL.out _ hbw)
   clear hb hbw HC HB HK HB2 HD HCL
   have HK2:=h_ (fun(w2:e_) (hb:fj w1.heap.size w1 w2)=>(hb.block (w.heap.size+1) (by omega)).trans hk2)
   have c1:∀ j,w1.cell? ⟨w.heap.size,j,none⟩=_:=fun j=>fb _ _ j _ 27 (0,0) hk1
   clear hk1 hk2
   go_wp2_with fail
   refine HCL1.out.mono ?_
   rintro e w2 ⟨y,rfl,hyc,hyl,hyu,hb2⟩
   have hk2:=HK2.out _ hb2
   have HY:=h_ (fun(w':e_)=>HQ.out y w2 w' hyc hyl (fun b hu=>by have:=hyu b hu;omega))
   have HBW2:=h_ (HBW.out.trans (hb2.mono (by omega)))
   clear hyc hyl hyu hb2 HK2 HQ HBW HCL1 c1 d0 d1 d2 d3 d4 d5 d6
   have c2:∀ j,w2.cell? ⟨w.heap.size+1,j,none⟩=_:=fun j=>fb _ _ j _ 50 (0,0) hk2
   have z2:∀ j,w2.frozen? ⟨w.heap.size+1,j,none⟩=false:=fun j=>by simp [fH,hk2]
   clear hk2
   obtain⟨yid,yin,yout,yreg,ykind,ysp,ya,yc,yrows⟩:=y
   simp only [Ev.enc] at HY ⊢
   go_wp2_with fail
   refine ff (v:=.tuple #[.agg #[.int .i64 yid,.int .i64 yin,.int .i64 yout,.string yreg,.int .u8 ykind,.string ysp,.slice ya yrows.length yc],.bool true]) (by simp [results,fr,go_sem,c2]) rfl ?_
   refine HY.out _ (by simp) (fun b hb=>?_) ?_
   · repeat rw [fG _ _ _ _ (by simp only;omega)]
   · repeat refine fE ?_ (by simp only;omega) _
     exact HBW2.out
end Go.Proofs.YtnlnmbcaongehaaGreatDoor
namespace Go.Proofs.YtnlnmbcaongehaaGreatDoor
open Go.RowKit
attribute [local go_sem ↓] Go.wp_at_zero Go.wp_at_succ
theorem zhH {α β:Type} (f:β→β→Bool)(g:α→β):∀ xs ys:List α,fP (fun x y=>f (g x) (g y)) xs ys=fP f (xs.map g) (ys.map g)
 | [],[]=>rfl
 | [],_::_=>rfl
 | _::_,[]=>rfl
 | x::xs,y::ys=>by simp only [fP,List.map_cons,zhH f g xs ys]
def zgf (x y:EvC):Bool:=x.id==y.id&&(x.inn==y.inn&&x.out==y.out)&&x.region.toList==y.region.toList&&x.kind==y.kind&&x.speaker.toList==y.speaker.toList&&fP (fP eM) x.rows y.rows
theorem zkr (x y:Ev):evEq x y=zgf x.c y.c:=by
 unfold evEq zgf cP
 rw [show fP eN x.rows y.rows=fP (fP eM) (x.rows.map Row.runs) (y.rows.map Row.runs) from zhH (fP eM) Row.runs x.rows y.rows]
 rfl
end Go.Proofs.YtnlnmbcaongehaaGreatDoor
namespace Go.Proofs.YtnlnmbcaongehaaGreatDoor
open Go.RowKit
theorem zhP (w:e_)(g o c:Nat)(ty:TypeId)(hc:∀ j,j<8→(w.cell? ⟨g,o+j,none⟩).isSome=true)(hf:∀ j,j<8→w.frozen? ⟨g,o+j,none⟩=false) :
 (Builtin.clear_ #[25] ty #[.slice (some ⟨g,o,none⟩) 1 c]).run fk w=.ok (.tuple #[]) (w.setCells g o [.int .i64 0,.int .i64 0,.int .i64 0,.int .i64 0,.string ⟨#[]⟩,.string ⟨#[]⟩,.bool false,.bool false]):=by
 have hz:(zeroValue 52).run fk w=.ok (.agg #[.int .i64 0,.int .i64 0,.int .i64 0,.int .i64 0,.string ⟨#[]⟩,.string ⟨#[]⟩,.bool false,.bool false]) w:=by kernel_rfl
 have hst:=run_storeCells_cells (P:=fk) g o [.int .i64 0,.int .i64 0,.int .i64 0,.int .i64 0,.string ⟨#[]⟩,.string ⟨#[]⟩,.bool false,.bool false] 0 w (by simpa using hc) (by simpa using hf) (by intro v hv;simp at hv;rcases hv with rfl|rfl|rfl|rfl|rfl|rfl|rfl|rfl<;>rfl)
 have hzc:(Builtin.zeroCells (fh.agg #[.int .i64 0,.int .i64 0,.int .i64 0,.int .i64 0,.string ⟨#[]⟩,.string ⟨#[]⟩,.bool false,.bool false]).cells 1).toList=[.int .i64 0,.int .i64 0,.int .i64 0,.int .i64 0,.string ⟨#[]⟩,.string ⟨#[]⟩,.bool false,.bool false]:=by kernel_rfl
 simp only [fK] at hst
 simp [Builtin.clear_,run_underlying fp,hz,hzc,hst]
theorem zeU (base g cap k:Nat)(xs:List Cm)(w:e_)(h:w.ownsRow base 52 8 (.slice (some ⟨g,0,none⟩) xs.length cap) xs.length (xs.flatMap Cm.enc))(hk:k<xs.length)(hl:xs.length≤4000000) :
 fg fk 189 #[.slice (some ⟨g,0,none⟩) xs.length cap,.int .i64 k,.int .i64 ((k:Int)+1)] w fun e w'=>e=.returned (.slice (some ⟨g,0,none⟩) (xs.length-1) cap)∧ab 8 Cm.enc Flat w' (some ⟨g,0,none⟩) (br xs k)∧fj base w w':=by
 have hcap:xs.length≤cap∧cap≤maxLen:=by
  rcases h.2 with⟨h',_⟩|⟨g',cap',cur,h',_,hg,h1,h2,h3,_⟩
  · simp at h'
  · simp only [fh.slice.injEq,Option.some.injEq,Addr.mk.injEq,and_true,true_and] at h'
    obtain⟨rfl,rfl⟩:=h'
    exact⟨h1,h2⟩
 have hm:cap≤9223372036854775807:=by have:=hcap.2;simp only [maxLen] at this;omega
 have hc1:=hcap.1
 obtain⟨j0,hj,hy0,hy1,hy2⟩:=fi Tryz.info52
 have hlen:=aC Cm.enc 8 (fun _=>rfl) (xs.drop (k+1))
 rw [List.length_drop] at hlen
 have hcell:∀ t,t<xs.length*8→(w.cell? ⟨g,t,none⟩).isSome=true:=fun t ht=>by
  rw [h.cellAt t ht,List.getElem?_eq_getElem (by rw [h.1];omega)];rfl
 have hsrc:∀ t u,((xs.drop (k+1)).flatMap Cm.enc)[t]? =some u→w.cell? ⟨g,(k+1)*8+t,none⟩=some u:=fun t u hu=>by
  have ht:=(fN.1 hu).1
  rw [h.cellAt ((k+1)*8+t) (by omega)]
  have e:xs.flatMap Cm.enc=(xs.take (k+1)).flatMap Cm.enc++(xs.drop (k+1)).flatMap Cm.enc:=by rw [←List.flatMap_append,List.take_append_drop]
  have l1:=aC Cm.enc 8 (fun _=>rfl) (xs.take (k+1))
  rw [List.length_take,Nat.min_eq_left (by omega)] at l1
  rw [e,List.getElem?_append_right (by omega),←hu]
  congr 1
  omega
 obtain⟨A,hA,hsA⟩:∃ A:Addr,(if cap=k+1 then some (⟨g,0,none⟩:Addr) else some ⟨g,(k+1)*8,none⟩)=some A∧Hid (∀ t u,((xs.drop (k+1)).flatMap Cm.enc)[t]? =some u→w.drew.cell? (A.add t)=some u):=by
  by_cases hq:cap=k+1
  · refine⟨⟨g,0,none⟩,by simp [hq],fun t u hu=>?_⟩
    have:=(fN.1 hu).1
    omega
  · refine⟨⟨g,(k+1)*8,none⟩,by simp [hq],fun t u hu=>?_⟩
    rw [Addr.add_lit]
    exact hsrc t u hu
 have s1:=h_ (show((xs.drop (k+1)).flatMap Cm.enc).length=(xs.length-(k+1))*8 from hlen)
 have s2:=h_ (bP Cm.one (xs.drop (k+1)))
 have s3:=h_ (show ∀ t,t<((xs.drop (k+1)).flatMap Cm.enc).length→(w.drew.cell? ⟨g,0+k*8+t,none⟩).isSome=true∧w.drew.frozen? ⟨g,0+k*8+t,none⟩=false from fun t ht=>⟨hcell _ (by omega),h.frozenAt _⟩)
 obtain⟨W1,hW1⟩:∃ W1,W1=w.drew.setCells g (0+k*8) ((xs.drop (k+1)).flatMap Cm.enc):=⟨_,rfl⟩
 have hcl:∀ ty,(Builtin.clear_ #[25] ty #[.slice (some ⟨g,(xs.length-1)*8,none⟩) 1 (cap-(xs.length-1))]).run fk W1=.ok (.tuple #[]) (W1.setCells g ((xs.length-1)*8) [.int .i64 0,.int .i64 0,.int .i64 0,.int .i64 0,.string ⟨#[]⟩,.string ⟨#[]⟩,.bool false,.bool false]):=fun ty=>zhP W1 g _ _ ty (fun j hj=>by
  rw [hW1]
  refine Lib.isSome_setCells g _ _ _ _ ?_
  exact hcell _ (by omega)) (fun j hj=>by rw [hW1,e_.frozen?_setCells];exact h.frozenAt _)
 have hdone:=zbq (enc:=Cm.enc) (fun _=>rfl) (w:=w.drew) (k:=k) (e_.ownsRow.drew h) hk [.int .i64 0,.int .i64 0,.int .i64 0,.int .i64 0,.string ⟨#[]⟩,.string ⟨#[]⟩,.bool false,.bool false] rfl
 rw [show k*8=0+k*8 by omega,←hW1] at hdone
 have HD:=h_ hdone
 have HW:=h_ hW1
 have JI:=h_ hj;have J1:=h_ hy1
 have HB0:=h_ ((fD base w).drew)
 clear hdone hW1 hj hy0 hy1 hy2 hlen hcell hsrc h hcap
 generalize (xs.drop (k+1)).flatMap Cm.enc=news at *
 generalize br xs k=ds at *
 have mixed:fk.follows Departure.mixedOrders=true:=by kernel_rfl
 obtain⟨m,hm1⟩:∃ m,xs.length=k+1+m:=⟨xs.length-(k+1),by omega⟩
 generalize xs.length=n at *
 have e1:n-(k+1)=m:=by omega
 have e2:n-1=k+m:=by omega
 have e3:n-(k+m)=1:=by omega
 rw [e1] at s1
 rw [e2] at hcl HD ⊢
 have hk0:(0:Int)≤(k:Int)+1:=by omega
 have hk1:(k:Int)+1≤(n:Int):=by omega
 have hkmn:k+m≤n:=by omega
 have hkmi:(k:Int)+(m:Int)≤(n:Int):=by omega
 have hkm0:(0:Int)≤(k:Int)+(m:Int):=by omega
 have hnc:n≤cap:=hc1
 have HM1:=h_ hm1
 clear hm1
 have hic:k≤cap:=by omega
 have hjc:k+1≤cap:=by omega
 have hkm:k+m≤cap:=by omega
 have hkm2:¬ cap=k+m:=by omega
 have hcm:cap≤maxLen:=by unfold maxLen;omega
 go_enter Tryz.func189,Tryz.ntmps189
 go_wp2_with fail
 go_region_law_o (refine step_append_room rfl (.tmp 22) (.tmp 25) 25 rfl 52 j0 8 fp JI.out J1.out g 0 k cap (by simp [Act.eval,Act.put]) A m (cap-(k+1)) news (by simp [Act.eval,Act.put]) s1.out hsA.out s2.out (by omega) s3.out ?_;rw [←HW.out])
 go_wp2_with fail
 go_ret
 exact⟨rfl,HD.out.1,HB0.out.trans HD.out.2⟩
end Go.Proofs.YtnlnmbcaongehaaGreatDoor
