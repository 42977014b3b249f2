/- The reference's Clone of rows and events, Same of events, and event. The contract of diff.apply, section by section. The plain law of MergeKeeps: what one side alone has changed is in the merged document as on that side. -/
import Derived.Test.YtjebaagkomejaaaGreatDoorH12
import Derived.Test.YtjebaagkomejaaaGreatDoorH13
set_option linter.unusedVariables false
set_option linter.unusedSimpArgs false
set_option maxRecDepth 100000
set_option maxHeartbeats 12800000
open Go.Lib renaming hid→h_
open Go renaming World→Sh,cell_of_row→Si,heap_alloc_last→Sj,Value→Sk,wp_at_zero→Sl,wp_at_succ→Sm
open List renaming getElem?_eq_getElem→Sn,cons_append→Sp,take_of_length_le→Sq,mem_of_getElem?→Sr,set_cons_succ→Ss,getElem?_eq_some_iff→St,nil_append→Su,set_cons_zero→Sv,pairwise_cons→Sw,setIfInBounds_toArray→Sx,getLast?_eq_getElem?→Sy,eq_nil_or_concat→Sz,take_add_one→SA,getElem?_map→SB,take_length→SC,mem_map→SD
open Go.RowKit renaming Below→SF
open Go.RowKit.Below renaming heap_setCell→SG,setCell→SH,refl→SI
open Go.World renaming frozen?→SJ,setCells→SK
namespace Go.Proofs.YtjebaagkomejaaaGreatDoor
open Go.RowKit
theorem Row.deep:Deep Row.lies Row.uses:=⟨fun x w w' h hs hb=>Row.frame h hs hb,fun x w b h hu=>Row.uses_lt h hu⟩
end Go.Proofs.YtjebaagkomejaaaGreatDoor
namespace Go.Proofs.YtjebaagkomejaaaGreatDoor
open Go.RowKit
attribute [local go_sem ↓] Sl Sm
def Aside (w5:Sh)(g:Nat)(w':Sh):Prop:=∀ b,b<w5.heap.size→b≠g→w'.heap[b]? =w5.heap[b]?
end Go.Proofs.YtjebaagkomejaaaGreatDoor
namespace Go.Proofs.YtjebaagkomejaaaGreatDoor
open Go.RowKit
theorem ve {t:DocC} (h:cErr t=0):∀ e∈t.eV,e.id≤t.hd.last:=by
 intro e he
 have hp:=kl (d:=t.rep) h
 obtain⟨j,hj⟩:=List.mem_iff_getElem?.1 he
 have:=hp.2.2.2.1 j e.rep (by simp [DocC.rep,hj])
 exact(iC this).2.1
theorem eh {P:Program} {ops:Array Oper} {rest:List Oper} {op:Oper} {a:Act} {w:Sh} {Q:Exit→Act→Sh→Prop} (x:Operand)(t:TypeId)(ho:op.op=.call { callee:=.builtin .len,args:=#[x],argTypes:=#[t] })
 (base:Option Addr) (n c:Nat) (hx:a.eval x=.slice base n c) (ht:P.underlying t=some (.slice (P.elem t))) (hw:Region.wanted op (yielded ops a.tmps)=true)
 (h:wpList P ops Q rest (a.put op.dst (.int .i64 n)) w):wpList P ops Q (op::rest) a w :=
 BigFrame.wpList_want hw fun K hK=>by
  have h2:=hK _ _ h
  obtain⟨dst,o,ty,pos,after,guard⟩:=op
  simp only at ho
  subst ho
  unfold Oper.wp
  rw [BigFrame.execOp_builtin,BigFrame.builtin_len]
  have e:#[x].map a.eval=#[Sk.slice base n c]:=by simp [hx]
  rw [show(#[x].map a.eval)=_ from e]
  simp only [Sem.run_bind,run_len_slice _ _ _ _ _ _ ht,Result.andThen_ok,Sem.run_pure]
  exact h2
def az:List Run→Nat
 | []=>0
 | x::l=>x.text.size+az l
theorem df:∀ a b:List Run,az (a++b)=az a+az b
 | [],b=>by simp [az]
 | x::a,b=>by rw [Sp,az,df a b,az];omega
theorem rq (l:List Run)(k:Nat)(x:Run)(h:l[k]? =some x):az (l.take (k+1))=az (l.take k)+x.text.size:=by
 rw [SA,h,df]
 simp [az]
theorem mj (l:List Run)(k:Nat):az (l.take k)≤az l:=by
 have h:=df (l.take k) (l.drop k)
 rw [List.take_append_drop] at h
 omega
theorem ik:∀ (l:List Run)(x:Run),x∈l→x.text.size≤az l
 | y::l,x,h=>by
   rcases List.mem_cons.1 h with rfl|h
   · rw [az];omega
   · have:=ik l x h
     rw [az];omega
theorem ml:∀ (l:List Run)(k:Nat)(x y:Run),l[k]? =some x→az (l.set k y)+x.text.size=az l+y.text.size
 | [],k,x,y,h=>by simp at h
 | z::l,0,x,y,h=>by
   obtain rfl:z=x:=by simpa using h
   rw [Sv,az,az];omega
 | z::l,k+1,x,y,h=>by
   have:=ml l k x y (by simpa using h)
   rw [Ss,az,az];omega
theorem kM (l:List Run)(k:Nat)(x:Run)(h:l[k]? =some x):cG (l.take (k+1))=dP (cG (l.take k)) x:=by
 unfold cG
 rw [SA,h,List.foldl_append]
 rfl
theorem vv {α:Type}:∀ (l:List α)(y:α),l≠[]→l.set (l.length-1) y=l.dropLast++[y]
 | [],y,h=>absurd rfl h
 | [x],y,_=>rfl
 | x::z::l,y,_=>by
   have:=vv (z::l) y (by simp)
   simp only [List.length_cons,Nat.add_sub_cancel] at this ⊢
   rw [Ss,this,List.dropLast_cons_cons,Sp]
theorem iW {out:List Run} {x:Run} (h:x.text.size=0):dP out x=out:=by unfold dP;rw [if_pos h]
theorem iv {x:Run} (h:¬ x.text.size=0):dP [] x=[]++[x]:=by unfold dP;rw [if_neg h];rfl
theorem iX {out:List Run} {x l:Run} (h:¬ x.text.size=0)(hl:out[out.length-1]? =some l)(ha:eB l x=true):dP out x=out.set (out.length-1) { l with text:=l.text++x.text }:=by
 have h0:out≠[]:=fun e=>by rw [e] at hl;simp at hl
 unfold dP
 rw [if_neg h,Sy,hl]
 show(if eB l x=true then _ else _)=_
 rw [if_pos ha,vv _ _ h0]
theorem iu {out:List Run} {x l:Run} (h:¬ x.text.size=0)(hl:out[out.length-1]? =some l)(ha:eB l x=false):dP out x=out++[x]:=by
 unfold dP
 rw [if_neg h,Sy,hl]
 show(if eB l x=true then _ else _)=_
 rw [if_neg (by rw [ha];exact Bool.false_ne_true)]
theorem ug (out:List Run)(x:Run):az (dP out x)=az out+x.text.size:=by
 by_cases h:x.text.size=0
 · rw [iW h,h];rfl
 · cases hl:out[out.length-1]? with
   | none =>
     have:out=[]:=by
      rcases Sz out with h|⟨a,b,rfl⟩
      · exact h
      · simp at hl
     subst this
     rw [iv h];simp [az]
   | some l =>
     cases ha:eB l x with
     | true =>
       rw [iX h hl ha]
       have:=ml out (out.length-1) l { l with text:=l.text++x.text } hl
       rw [ByteArray.size_append] at this
       omega
     | false=>rw [iu h hl ha,df];simp [az]
theorem uh (out:List Run)(x:Run):(dP out x).length≤out.length+1:=by
 by_cases h:x.text.size=0
 · rw [iW h];omega
 · cases hl:out[out.length-1]? with
   | none =>
     have:out=[]:=by
      rcases Sz out with h|⟨a,b,rfl⟩
      · exact h
      · simp at hl
     subst this
     rw [iv h];simp
   | some l =>
     cases ha:eB l x with
     | true=>rw [iX h hl ha];simp
     | false=>rw [iu h hl ha];simp
theorem gG (l:List Run):∀ k,(cG (l.take k)).length≤k
 | 0=>by simp [cG]
 | k+1=>by
   have ih:=gG l k
   by_cases h:k<l.length
   · rw [kM l k l[k] (Sn h)]
     have:=uh (cG (l.take k)) l[k]
     omega
   · rw [Sq (by omega)]
     rw [Sq (by omega)] at ih
     omega
theorem rY (l:List Run):(cG l).length≤l.length:=by
 have:=gG l l.length
 rwa [SC] at this
theorem gF (l:List Run):∀ k,az (cG (l.take k))=az (l.take k)
 | 0=>by simp [cG,az]
 | k+1=>by
   have ih:=gF l k
   by_cases h:k<l.length
   · rw [kM l k l[k] (Sn h),ug,ih,rq l k l[k] (Sn h)]
   · rw [Sq (by omega)]
     rw [Sq (by omega)] at ih
     exact ih
theorem iY (l:List Run):az (cG l)=az l:=by
 have:=gF l l.length
 rwa [SC] at this
end Go.Proofs.YtjebaagkomejaaaGreatDoor
namespace Go.Proofs.YtjebaagkomejaaaGreatDoor
open Go.RowKit
attribute [local go_sem ↓] Sl Sm
theorem i_ (d:Doc)(w:Sh)(hd:d.lies w)(hf:d.fits):Calls Tryz.prog 26 #[.agg d.enc.toArray] w (kE d.c w):=by
 have pr:=h_ (fun(zs:List Ev) (z:Ev) (j:Nat) (h:zs[j]? =some z) (e:zs.map Ev.c=d.eV.map Ev.c)=>(show z.rows.length≤4000000∧∀ r∈z.rows,r.runs.length≤4000000 from by
  have h1:(d.eV.map Ev.c)[j]? =some z.c:=by rw [←e,SB,h];rfl
  rw [SB] at h1
  obtain⟨x,hx,Em⟩:=Option.map_eq_some_iff.1 h1
  have hfx:=hf.2.2.2.2.2.2.2.1 x (Sr hx)
  have hr:x.rows.map Row.runs=z.rows.map Row.runs:=congrArg EvC.rows Em
  have hl:=congrArg List.length hr
  simp only [List.length_map] at hl
  refine⟨by have:=hfx.2.2.2.2.2.2.2.2;omega,fun r hr'=>?_⟩
  have:r.runs∈x.rows.map Row.runs:=by rw [hr];exact SD.2 ⟨r,hr',rfl⟩
  obtain⟨r0,h0,he⟩:=SD.1 this
  rw [←he]
  exact(hfx.2.2.2.2.2.2.2.1 r0 h0).2.1))
 have Na:=h_ (fun(w1:Sh) (h:SF w.heap.size w w1)=>oC d.ra d.rc d.rG w1 (hd.1.later h) hf.2.2.2.2.2.2.1)
 have jf:=h_ (fun(w1:Sh) (h:SF w.heap.size w w1)=>oA d.ca d.cc d.cM w1 (hd.2.2.later h) hf.2.2.2.2.2.2.2.2.2.2)
 have wB:=h_ (fun(w1:Sh) (h:SF w.heap.size w w1)=>oy d.ea d.ec d.eV w1 (hd.2.1.later h) hf.2.2.2.2.2.2.2.2.1)
 have yz:=h_ (fun(w1:Sh) (h:SF w.heap.size w w1)=>hd.2.1.later h)
 have HQ:=h_ (fun(d':Doc) (w':Sh) (h1:d'.c=d.c) (h2:d'.lies w') (h3:∀ b,d'.uses b→w.heap.size≤b) (h4:SF w.heap.size w w') (h5:Doc.apart d') h6 h7=>(show kE d.c w (.returned (.agg d'.enc.toArray)) w' from⟨d',rfl,h1,h2,h3,h4,h5,h6,h7⟩))
 have hel:=hf.2.2.2.2.2.2.2.2.1
 have bF:=h_ (fun(wc w5 wr w':Sh) (a1 a3:Option Addr) (c1 c3 g cap:Nat) hS1 nP hf1 hf3 hne hws hor hoc h45 hg hR hw' hb=>x_ (d:=d) (w:=w) (wc:=wc) (w5:=w5) (wr:=wr) (w':=w') (a1:=a1) (a3:=a3) (c1:=c1) (c3:=c3) (g:=g) (cap:=cap) hS1 nP hf1 hf3 hne hws hor hoc h45 hg hR hw' hb)
 have fI:=h_ (fun(wc w' w5:Sh) (a1 a2 a3:Option Addr) (c1 c2 c3:Nat) hS1 nP hf1 hf3 hne hor hoc hws hoe yB h0 hw' hb=>u_ (w5:=w5) (d:=d) (w:=w) (wc:=wc) (w':=w') (a1:=a1) (a2:=a2) (a3:=a3) (c1:=c1) (c2:=c2) (c3:=c3) hS1 nP hf1 hf3 hne hor hoc hws hoe yB h0 hw' hb)
 generalize kE d.c w=Q at *
 obtain⟨title,lA,rate,drop,last,ra,rc,rG,ea,ec,eV,ca,cc,cM⟩:=d
 simp only [Doc.enc] at *
 clear hd hf
 generalize hds:#[Sk.string title,.string lA,.int .u8 rate,.bool drop,.int .i64 last,.slice ra rG.length rc,.slice ea eV.length ec,.slice ca cM.length cc]=ds
 obtain⟨zd,hzd⟩:∃ zd:Array Sk,zd=#[.string ⟨#[]⟩,.string ⟨#[]⟩,.int .u8 0,.bool false,.int .i64 0,.slice none 0 0,.slice none 0 0,.slice none 0 0]:=⟨_,rfl⟩
 have f5:=dB w ds zd 27 27 5 (.slice ra rG.length rc) (by rw [←hds];rfl)
 have f6:=dB w ds zd 27 27 6 (.slice ea eV.length ec) (by rw [←hds];rfl)
 have f7:=dB w ds zd 27 27 7 (.slice ca cM.length cc) (by rw [←hds];rfl)
 have HB:=h_ (fun(w1:Sh) (h:SF (w.heap.size+2) ((w.alloc (.cells ds 27)).alloc (.cells zd 27)) w1)=>fH h)
 have hb0:SF (w.heap.size+2) ((w.alloc (.cells ds 27)).alloc (.cells zd 27)) ((w.alloc (.cells ds 27)).alloc (.cells zd 27)):=SI _ _
 have hsz:((w.alloc (.cells ds 27)).alloc (.cells zd 27)).heap.size=w.heap.size+2:=by simp
 have hk1:((w.alloc (.cells ds 27)).alloc (.cells zd 27)).heap[w.heap.size]? =some (.cells ds 27 (0,0)):=by
  rw [SF.heap_alloc _ _ _ (by simp)]
  exact Sj w _
 have hk2:((w.alloc (.cells ds 27)).alloc (.cells zd 27)).heap[w.heap.size+1]? =some (.cells zd 27 (0,0)):=by
  have:=Sj (w.alloc (.cells ds 27)) (.cells zd 27)
  rwa [Sh.size_alloc] at this
 rw [hzd] at f5 f6 f7 HB hb0 hsz hk1 hk2
 clear hzd zd
 generalize hW0:(w.alloc (.cells ds 27)).alloc (.cells #[.string ⟨#[]⟩,.string ⟨#[]⟩,.int .u8 0,.bool false,.int .i64 0,.slice none 0 0,.slice none 0 0,.slice none 0 0] 27)=W0 at *
 have HW0:=h_ hW0
 have dV:=h_ hsz
 have IT:=h_ hk1
 have JW:=h_ hk2
 have Pn:=h_ hds
 have HT0:=h_ (fun(w2 w3:Sh) (h:SF (w.heap.size+2) W0 w2) (h3:SF w2.heap.size w2 w3)=>(h.trans (h3.mono (by have:=h.size;rw [dV.out] at this;exact this)):SF (w.heap.size+2) W0 w3))
 have wo:=h_ (fun(w2:Sh) (h:SF (w.heap.size+2) W0 w2)=>(show w.heap.size+2≤w2.heap.size by have:=h.size;rw [dV.out] at this;exact this))
 have hbd:SF (w.heap.size+2) W0 W0.drew:=hb0.drew
 have zf:∀ (w':Sh),SF (w.heap.size+2) W0 w'→∀ (j:Nat),w'.frozen? ⟨w.heap.size,j,none⟩=false:=fun w' h j=>by simp [SJ,(h.block w.heap.size (by omega)).trans IT.out]
 clear hW0 hsz hk1 hk2
 go_enter Tryz.func26,Tryz.ntmps26
 subst hds
 go_upto_region 1 with fail
 rw [HW0.out]
 go_cut [] (fun wx=>∃ a1 c1 a3 c3,wx.heap[w.heap.size]? =some (.cells #[Sk.string title,.string lA,.int .u8 rate,.bool drop,.int .i64 last,.slice a1 rG.length c1,.slice ea eV.length ec,.slice a3 cM.length c3] 27 (0,0))∧wx.heap[w.heap.size+1]? =some (.cells #[.string ⟨#[]⟩,.string ⟨#[]⟩,.int .u8 0,.bool false,.int .i64 0,.slice none 0 0,.slice none 0 0,.slice none 0 0] 27 (0,0))∧ah 7 Reg.enc Flat wx a1 rG∧ah 8 Cm.enc Flat wx a3 cM∧(∀ ad,a1=some ad→w.heap.size+2≤ad.block)∧(∀ ad,a3=some ad→w.heap.size+2≤ad.block)∧(∀ x y,a1=some x→a3=some y→x.block≠y.block)∧wx.ownsRow (w.heap.size+2) 37 7 (.slice a1 rG.length c1) rG.length (rG.flatMap Reg.enc)∧wx.ownsRow (w.heap.size+2) 102 8 (.slice a3 cM.length c3) cM.length (cM.flatMap Cm.enc)∧SF w.heap.size w wx∧w.heap.size+2≤wx.heap.size)
 case first =>
  go_region_with (first
   | (go_at_call 68;refine(Na.out _ (HB.out _ hbd)).mono ?_;rintro e w1 ⟨v1,rfl,ho1,hb1⟩;have hc1:=HT0.out _ _ hbd hb1;obtain⟨a1,c1,rfl,hS1⟩:=aA (k:=7) (enc:=Reg.enc) (Ok:=Flat) (fun _=>rfl) ho1 (fun _ _=>trivial);have tB:=h_ (fun ad (e:a1=some ad)=>(ho1.lt ad.block (by rw [e];rfl)));have Ba:=h_ hS1;have Bx:=h_ ho1;clear ho1 hb1 hS1)
   | (go_at_call 69;refine(jf.out _ (HB.out _ hc1)).mono ?_;rintro e w3 ⟨v3,rfl,ho3,hb3⟩;have hc3:=HT0.out _ _ hc1 hb3;obtain⟨a3,c3,rfl,nP⟩:=aA (k:=8) (enc:=Cm.enc) (Ok:=Flat) (fun _=>rfl) ho3 (fun _ _=>trivial);have I_:=h_ (fun ad (e:a3=some ad)=>(ho3.lt ad.block (by rw [e];rfl)).1);have nQ:=h_ nP;have HB3:=h_ hb3;have Dx:=h_ ho3;clear ho3 hb3 nP))
  all_goals
   have hk3:=(hc3.block w.heap.size (by omega)).trans IT.out
   have hz3:=(hc3.block (w.heap.size+1) (by omega)).trans JW.out
   have hs0:=dV.out
   have IX:=h_ (fun(ad:Addr) (e:a1=some ad)=>(show w.heap.size+2≤ad.block from by rw [←hs0];exact(tB.out ad e).1))
   have IW:=h_ (fun(ad:Addr) (e:a3=some ad)=>(show w.heap.size+2≤ad.block from by have:=I_.out ad e;have:=wo.out _ hc1;omega))
   clear f5 f6 f7 zf
   go_wp2_with fail
   go_meet
   refine⟨a1,c1,a3,c3,?_,?_,oL (ah.keeps Flat.keeps _ _ _ _ HB3.out Ba.out) (fun ad e=>by have:=IX.out ad e;omega),oL nQ.out (fun ad e=>by have:=IW.out ad e;omega),IX.out,IW.out,(fun x y hx hy e=>by have h1:=(tB.out x hx).2;have h2:=I_.out y hy;omega),dK (aB (aJ Bx.out HB3.out) fun b q=>(by have h9:w.heap.size+2≤b:=by { rw [←hs0];exact(Bx.out.lt b q).1 };rw [SG _ _ _ _ (by simp only;omega),SG _ _ _ _ (by simp only;omega)])) (by rw [←hs0];exact Nat.le_refl _),dK (aB Dx.out fun b q=>(by have:=(Dx.out.lt b q).1;have:=wo.out _ hc1;rw [SG _ _ _ _ (by simp only;omega),SG _ _ _ _ (by simp only;omega)])) (wo.out _ hc1),SH (SH (HB.out _ hc3) (by dsimp only;omega) _) (by dsimp only;omega) _,by have:=wo.out _ hc3;simpa using this⟩
   · exact heap_setCell_same _ _ _ _ _ _ (heap_setCell_same _ _ _ _ _ _ hk3)
   · rw [SG _ _ _ _ (by simp),SG _ _ _ _ (by simp)]
     exact hz3
 case rest =>
  obtain⟨a1,c1,a3,c3,hk1,hk2,hS1,nP,hf1,hf3,hne,hor,hoc,hbw,hws⟩:=hcut
  clear hb0 hbd f5 f6 f7 zf IT JW HT0 wo
  have c0:∀ (j:Nat),wc.cell? ⟨w.heap.size,j,none⟩=_:=fun j=>Si _ _ j _ 27 (0,0) hk1
  have Jj:=h_ (wB.out _ hbw)
  have IT:=h_ hk1
  have JW:=h_ hk2
  have Ba:=h_ hS1
  have nQ:=h_ nP
  have tB:=h_ hf1
  have I_:=h_ hf3
  have MY:=h_ hne
  have MW:=h_ hoc
  have Dw:=h_ hor
  have bA:=h_ hbw
  clear hk1 hk2 hS1 nP hf1 hf3 hne hor hoc hbw wB Na jf
  go_wp2_with fail
  refine Jj.out.mono ?_
  rintro e w4 ⟨v4,rfl,vP,hb4⟩
  obtain⟨ae,ce,rfl⟩:∃ av cv,v4=.slice av eV.length cv:=by
   rcases vP.2 with⟨rfl,h0⟩|⟨g,cap,_,rfl,_⟩
   · exact⟨none,0,by rw [h0]⟩
   · exact⟨_,_,rfl⟩
  have hk4:=(hb4.block w.heap.size (by omega)).trans IT.out
  have c4:∀ (j:Nat),w4.cell? ⟨w.heap.size,j,none⟩=_:=fun j=>Si _ _ j _ 27 (0,0) hk4
  have z4:∀ (j:Nat),w4.frozen? ⟨w.heap.size,j,none⟩=false:=fun j=>by simp [SJ,hk4]
  obtain⟨w5,yB⟩:∃ w5,w5=w4.setCell ⟨w.heap.size,6,none⟩ (.slice ae eV.length ce):=⟨_,rfl⟩
  have OJ:=h_ yB
  have hk5:w5.heap[w.heap.size]? =some (.cells #[Sk.string title,.string lA,.int .u8 rate,.bool drop,.int .i64 last,.slice a1 rG.length c1,.slice ae eV.length ce,.slice a3 cM.length c3] 27 (0,0)):=yB▸heap_setCell_same _ _ _ _ _ _ hk4
  have L5:w5.heap[w.heap.size+1]? =some (.cells #[.string ⟨#[]⟩,.string ⟨#[]⟩,.int .u8 0,.bool false,.int .i64 0,.slice none 0 0,.slice none 0 0,.slice none 0 0] 27 (0,0)):=by
   rw [yB,SG _ _ _ _ (by simp),hb4.block _ (by omega)]
   exact JW.out
  have h45:wc.heap.size≤w5.heap.size∧∀ b,b<wc.heap.size→b≠w.heap.size→w5.heap[b]? =wc.heap[b]?:=by
   refine⟨by rw [yB];simpa using hb4.size,fun b h1 h2=>?_⟩
   rw [yB,SG _ _ _ _ (by simpa using h2),hb4.block b h1]
  have hb5:SF w.heap.size w w5:=by
   rw [yB]
   exact(bA.out.trans (hb4.mono bA.out.size)).setCell (by simp) _
  have c5:∀ (j:Nat),w5.cell? ⟨w.heap.size,j,none⟩=_:=fun j=>Si _ _ j _ 27 (0,0) hk5
  have EI:w5.ownsRow wc.heap.size 72 7 (.slice ae eV.length ce) eV.length (eV.flatMap Ev.enc):=by
   rw [yB]
   refine Sh.ownsRow.kept vP (row:=some w.heap.size) ⟨rfl,rfl,rfl,by simp,fun k _ hk=>SG _ _ _ _ (fun e=>hk (by simp [e]))⟩ (Classical.or_iff_not_imp_left.2 fun _ e=>?_)
   have:=(vP.lt _ e).1
   omega
  have FC:=h_ h45
  have iL:=h_ hb5
  have OR:=h_ hk5
  have FR:=h_ L5
  have hs5:=h45.1
  clear yB hk4 hb4 vP h45 hb5 hk5 L5 c0 Jj
  go_wp2_with fail
  rw [←OJ.out]
  have cz:∀ (w':Sh),w'.heap[w.heap.size+1]? =w5.heap[w.heap.size+1]?→∀ (j:Nat),w'.cell? ⟨w.heap.size+1,j,none⟩=_:=fun w' h j=>Si _ _ j _ 27 (0,0) (h.trans FR.out)
  have zz:∀ (w':Sh),w'.heap[w.heap.size+1]? =w5.heap[w.heap.size+1]?→∀ (j:Nat),w'.frozen? ⟨w.heap.size+1,j,none⟩=false:=fun w' h j=>by simp [SJ,h.trans FR.out]
  by_cases he:eV.length=0
  · obtain rfl:=List.eq_nil_of_length_eq_zero he
    have cz5:=cz w5 rfl
    have zz5:=zz w5 rfl
    have FY:=h_ EI
    clear cz zz EI c4 z4
    simp only [List.length_nil] at *
    refine wp_loop_rounds 1 ?_
    rw [rounds_succ]
    go_wp2_with fail
    refine bodyPost_ret (v:=.agg #[.string title,.string lA,.int .u8 rate,.bool drop,.int .i64 last,.slice a1 rG.length c1,.slice ae 0 ce,.slice a3 cM.length c3]) (by simp [results,Tryz.results26,go_sem,cz5]) rfl ?_
    refine fI.out wc _ w5 a1 ae a3 c1 ce c3 Ba.out nQ.out tB.out I_.out MY.out Dw.out MW.out hws FY.out (fun b h1 h2=>by repeat rw [SG _ _ _ _ (by simp only;omega)]) (by first|rfl|trivial) ⟨?_,fun b h1 h2=>?_⟩ ?_
    · simpa using FC.out.1
    · repeat rw [SG _ _ _ _ (by simp only;omega)]
      exact FC.out.2 b h1 (by omega)
    · repeat refine SH ?_ (by simp only;omega) _
      exact iL.out
  · obtain⟨g,cp,L_⟩:=dw EI (by omega)
    simp only [Sk.slice.injEq,true_and] at L_
    obtain⟨rfl,rfl⟩:=L_
    have hgl:=EI.lt g rfl
    have hgw:=hgl.1
    have hg5:=hgl.2
    have Iz:=h_ (show pB wc.heap.size eV g ce 0 w5 w5 from⟨eV,rfl,rfl,⟨EI.1,EI.2.imp id (fun⟨g,cap,cur,q1,q2,q3⟩=>⟨g,cap,cur,q1,by omega,q3⟩)⟩,fun j z hz=>⟨gu (yz.out w5 iL.out) (Sr hz),fun b hu=>⟨by
     have:=Ev.uses_lt (gu (yz.out w (SI _ _)) (Sr hz)) hu
     omega,fun h=>by omega⟩⟩,Nat.le_refl _,fun _ _ _=>rfl⟩)
    have O0:=h_ cz
    have OG:=h_ zz
    clear EI cz zz c4 z4 c5 hgl yz
    go_loopw [20] (fun i wr=>∃ k:Nat,k≤eV.length∧i=.int .i64 k∧pB wc.heap.size eV g ce k w5 wr∧SF w.heap.size w wr) (fun i _=>eV.length-(intOf i).toNat)
    case atStart=>exact⟨0,by omega,rfl,Iz.out,iL.out⟩
    case round =>
     clear Iz
     obtain⟨k,hk,rfl,hR,hbr⟩:=hrel
     have HRR:=h_ hR
     obtain⟨zs,z1,z2,z3,z4,z5,z6⟩:=hR
     have jT:=h_ hbr
     have hkr:=(z6 w.heap.size (by omega) (by omega)).trans OR.out
     by_cases hlt:k<eV.length
     · have qf:zs[k]? =some zs[k]:=Sn (by omega)
       generalize zs[k]=z at qf
       have hgr:g<wr.heap.size:=(z3.lt g rfl).2
       have dd:∀ (j:Nat) (v:Sk),z.enc[j]? =some v→wr.cell? ⟨g,k*7+j,none⟩=some v:=fun j v hv=>by
        have hj:j<7:=(St.1 hv).1
        rw [z3.cellAt (k*7+j) (by omega)]
        exact cD Ev.enc 7 (fun _=>rfl) zs k z j v qf hv
       have hfz:=pr.out zs z k qf z2
       have hzl:=(z4 k z qf).1
       obtain⟨xe,hxe⟩:∃ xe,xe=z.enc.toArray:=⟨_,rfl⟩
       have dq:=h_ (fun(w1:Sh) (h:SF wr.heap.size wr w1)=>kh z w1 (Ev.keeps _ _ _ h hzl) hfz.2 hfz.1)
       have HST:=h_ (fun(w1 w2:Sh) (y:Ev) hb fP hyl hyu hw=>pB.step (w1:=w1) (w2:=w2) (y:=y) qf z1 z2 z3 z4 z5 z6 (by omega) hb fP hyl hyu hw)
       have IY:=h_ (fun(w1:Sh) (h:SF wr.heap.size wr w1) (j:Nat)=>(aJ z3 h).frozenAt j)
       generalize z.c=zc at dq HST
       obtain⟨zid,zin,zout,zreg,zkind,zsp,za,zcp,zrows⟩:=z
       have d0:=dd 0 _ rfl;have d1:=dd 1 _ rfl;have d2:=dd 2 _ rfl;have d3:=dd 3 _ rfl;have d4:=dd 4 _ rfl;have d5:=dd 5 _ rfl;have d6:=dd 6 _ rfl
       simp only [Nat.add_zero] at d0
       simp only [Ev.enc] at dq
       clear dd qf hzl hfz z1 z2 z3 z4 z6 hxe xe hbr
       obtain⟨wa,Gz⟩:∃ wa,wa=wr.alloc (.cells #[.int .i64 zid,.int .i64 zin,.int .i64 zout,.string zreg,.int .u8 zkind,.string zsp,.slice za zrows.length zcp] 72):=⟨_,rfl⟩
       have OI:=h_ Gz
       have hra:SF wr.heap.size wr wa:=Gz▸(SI _ _).alloc (Nat.le_refl _) _
       have hka:wa.heap[wr.heap.size]? =some (.cells #[.int .i64 zid,.int .i64 zin,.int .i64 zout,.string zreg,.int .u8 zkind,.string zsp,.slice za zrows.length zcp] 72 (0,0)):=Gz▸Sj wr _
       have hla:wr.heap.size<wa.heap.size:=by rw [Gz];simp
       have cr:=fun(j:Nat)=>Si wr w.heap.size j _ 27 (0,0) hkr
       have ba:∀ (w':Sh),SF wa.heap.size wa w'→∀ (j:Nat),w'.cell? ⟨wr.heap.size,j,none⟩=_:=fun w' h j=>Si _ _ j _ 72 (0,0) ((h.block _ hla).trans hka)
       have bd:∀ (w':Sh),SF wa.heap.size wa w'→∀ (j:Nat),w'.cell? ⟨w.heap.size,j,none⟩=_:=fun w' h j=>Si _ _ j _ 27 (0,0) ((h.block w.heap.size (by omega)).trans ((hra.block w.heap.size (by omega)).trans hkr))
       have yo:=h_ hra
       have e0:=fun(w':Sh) (h:SF wa.heap.size wa w')=>(h.cell (p:=⟨g,k*7,none⟩) (by simp only;omega)).trans ((hra.cell (p:=⟨g,k*7,none⟩) hgr).trans d0)
       have e1:=fun(w':Sh) (h:SF wa.heap.size wa w')=>(h.cell (p:=⟨g,k*7+1,none⟩) (by simp only;omega)).trans ((hra.cell (p:=⟨g,k*7+1,none⟩) hgr).trans d1)
       have e2:=fun(w':Sh) (h:SF wa.heap.size wa w')=>(h.cell (p:=⟨g,k*7+2,none⟩) (by simp only;omega)).trans ((hra.cell (p:=⟨g,k*7+2,none⟩) hgr).trans d2)
       have e3:=fun(w':Sh) (h:SF wa.heap.size wa w')=>(h.cell (p:=⟨g,k*7+3,none⟩) (by simp only;omega)).trans ((hra.cell (p:=⟨g,k*7+3,none⟩) hgr).trans d3)
       have e4:=fun(w':Sh) (h:SF wa.heap.size wa w')=>(h.cell (p:=⟨g,k*7+4,none⟩) (by simp only;omega)).trans ((hra.cell (p:=⟨g,k*7+4,none⟩) hgr).trans d4)
       have e5:=fun(w':Sh) (h:SF wa.heap.size wa w')=>(h.cell (p:=⟨g,k*7+5,none⟩) (by simp only;omega)).trans ((hra.cell (p:=⟨g,k*7+5,none⟩) hgr).trans d5)
       have e6:=fun(w':Sh) (h:SF wa.heap.size wa w')=>(h.cell (p:=⟨g,k*7+6,none⟩) (by simp only;omega)).trans ((hra.cell (p:=⟨g,k*7+6,none⟩) hgr).trans d6)
       have ez:=fun(w':Sh) (h:SF wa.heap.size wa w') (j:Nat)=>IY.out w' (yo.out.trans (h.mono yo.out.size)) j
       have had:SF wa.heap.size wa wa.drew:=(SI _ _).drew
       clear Gz hka hkr hra
       go_upto_region 6 with fail
       rw [←OI.out]
       clear d0 d1 d2 d3 d4 d5 d6 cr
       go_region_with (go_at_call 71;refine(dq.out _ (yo.out.trans (had.mono yo.out.size))).mono ?_;rintro e w1 ⟨y,rfl,fP,hyl,hyu,hyb⟩;have hw1:SF wa.heap.size wa w1:=had.trans hyb;have HY:=h_ (And.intro fP (And.intro hyl hyu));clear fP hyl hyu hyb;obtain⟨yid,yin,yout,yreg,ykind,ysp,ya,ycp,yrows⟩:=y;simp only [Ev.enc])
       all_goals
        have hrw:=yo.out.trans (hw1.mono yo.out.size)
        have R:=h_ (HST.out w1 _ (⟨yid,yin,yout,yreg,ykind,ysp,ya,ycp,yrows⟩:Ev) hrw HY.out.1 HY.out.2.1 (fun b hu=>Nat.le_trans yo.out.size (HY.out.2.2 b hu)) rfl)
        have HRW:=h_ hrw
        clear HY HST dq IY hrw
        go_wp2_with fail
        go_roundw
        case rel =>
         refine⟨k+1,by omega,by go_num,R.out,?_⟩
         repeat refine SH ?_ (by simp only;omega) _
         exact jT.out.trans (HRW.out.mono jT.out.size)
        all_goals first|(simp [intOf];done)|(simp [intOf];omega)
     · obtain rfl:k=eV.length:=by omega
       have FO:=z6 (w.heap.size+1) (by omega) (by omega)
       have czr:=O0.out wr FO
       have zzr:=OG.out wr FO
       have cr:=fun(j:Nat)=>Si wr w.heap.size j _ 27 (0,0) hkr
       clear z1 z2 z3 z4 z6 hkr FO hbr
       go_wp2_with fail
       refine bodyPost_ret (v:=.agg #[.string title,.string lA,.int .u8 rate,.bool drop,.int .i64 last,.slice a1 rG.length c1,.slice (some ⟨g,0,none⟩) eV.length ce,.slice a3 cM.length c3]) (by simp [results,Tryz.results26,go_sem,czr]) rfl ?_
       refine bF.out wc w5 wr _ a1 a3 c1 c3 g ce Ba.out nQ.out tB.out I_.out MY.out hws Dw.out MW.out FC.out hgw HRR.out ⟨?_,fun b hb=>?_⟩ ?_
       · simp
       · repeat rw [SG _ _ _ _ (by simpa using hb)]
       · repeat refine SH ?_ (by simp only;omega) _
         exact jT.out
theorem dy (d:Doc)(w:Sh)(hd:d.lies w)(hf:d.fits):Calls Tryz.prog 26 #[.agg d.enc.toArray] w (De d.c w) :=
 (i_ d w hd hf).mono fun e w' ⟨d',h1,h2,h3,h4,h5,h6,h7,h8,h9,h10,_⟩=>⟨d',h1,h2,h3,h4,h5,h6,h7,h8,h9,h10⟩
theorem br (d:Doc)(w:Sh)(hd:d.lies w)(hf:d.fits):Calls Tryz.prog 26 #[.agg d.enc.toArray] w (Df d.c w) :=
 (dy d w hd hf).mono fun e w' ⟨d',h1,h2,h3,h4,h5,h6,h7,h8,_⟩=>⟨d',h1,h2,h3,h4,h5,h6,h7,h8⟩
end Go.Proofs.YtjebaagkomejaaaGreatDoor
namespace Go.Proofs.YtjebaagkomejaaaGreatDoor
open Go.RowKit
structure HsC where
 doc:DocC
 saved:DocC
 undo:List DocC
 redo:List DocC
def putH (h:HsC)(d:DocC):HsC:=⟨d,h.saved,if 16<h.undo.length+1 then (h.undo++[h.doc]).drop 1 else h.undo++[h.doc],[]⟩
def doH (h:HsC)(x:EdC):Int × HsC:=if (bU h.doc x).1=0 then (0,putH h (bU h.doc x).2) else ((bU h.doc x).1,h)
def eR (h:HsC)(d:DocC):Int × HsC:=if cErr d=0 then (0,putH h d) else (cErr d,h)
def fq (h:HsC):Int × HsC:=match h.undo.getLast? with
 | none=>(6,h)
 | some d=>(0,⟨d,h.saved,h.undo.dropLast,h.redo++[h.doc]⟩)
def gW (h:HsC):Int × HsC:=match h.redo.getLast? with
 | none=>(6,h)
 | some d=>(0,⟨d,h.saved,h.undo++[h.doc],h.redo.dropLast⟩)
def BF (h:HsC):HsC:={ h with saved:=h.doc }
def newH (d:DocC):HsC:=⟨d,d,[],[]⟩
structure Hs where
 doc:Doc
 saved:Doc
 ua:Option Addr
 uc:Nat
 undo:List Doc
 ra:Option Addr
 rc:Nat
 redo:List Doc
def Hs.uv (h:Hs):Sk:=.slice h.ua h.undo.length h.uc
def Hs.rv (h:Hs):Sk:=.slice h.ra h.redo.length h.rc
def Hs.enc (h:Hs):List Sk:=h.doc.enc++(h.saved.enc++[.slice h.ua h.undo.length h.uc,.slice h.ra h.redo.length h.rc])
def Hs.c (h:Hs):HsC:=⟨h.doc.c,h.saved.c,h.undo.map Doc.c,h.redo.map Doc.c⟩
def Hs.own (h:Hs)(b k:Nat):Prop:=k=b∨h.uv.ownBlock=some k∨h.rv.ownBlock=some k
def Hs.docs (h:Hs):List Doc:=h.doc::h.saved::(h.undo++h.redo)
def eC (S:Nat→Prop)(w:Sh)(d:Doc):Prop:=d.lies w∧d.fits∧∀ k,d.uses k→¬ S k
structure HsAt (b:Nat)(h:Hs)(w:Sh):Prop where
 at_:w.heap[b]? =some (.cells h.enc.toArray 82 (0,0))
 undo:w.ownsRow 0 27 8 (.slice h.ua h.undo.length h.uc) h.undo.length (h.undo.flatMap Doc.enc)
 redo:w.ownsRow 0 27 8 (.slice h.ra h.redo.length h.rc) h.redo.length (h.redo.flatMap Doc.enc)
 docs:∀ d∈h.docs,eC (h.own b) w d
 ub:∀ k,h.uv.ownBlock=some k→k≠b∧h.rv.ownBlock≠some k
 rb:h.rv.ownBlock≠some b
theorem eC.frame {S S':Nat→Prop} {w w':Sh} {d:Doc} (h:eC S w d)(hs:w.heap.size≤w'.heap.size)(hk:∀ k,d.uses k→w'.heap[k]? =w.heap[k]?)(hS:∀ k,k<w.heap.size→S' k→S k):eC S' w' d :=
 ⟨Doc.frame h.1 hs hk,h.2.1,fun k hu h2=>h.2.2 k hu (hS k (Doc.uses_lt h.1 hu) h2)⟩
theorem eC.keep {S S':Nat→Prop} {w w':Sh} {d:Doc} (h:eC S w d)(hk:Kept S w w')(hS:∀ k,k<w.heap.size→S' k→S k):eC S' w' d :=
 h.frame hk.size (fun k hu=>hk.block k (Doc.uses_lt h.1 hu) (h.2.2 k hu)) hS
theorem eC.later {S:Nat→Prop} {w w':Sh} {d:Doc} (h:eC S w d)(hb:SF w.heap.size w w'):eC S w' d :=
 h.frame hb.size (fun k hu=>hb.block k (Doc.uses_lt h.1 hu)) fun _ _ h=>h
theorem Doc.enc_len (d:Doc):d.enc.length=8:=rfl
theorem Hs.enc_len (h:Hs):h.enc.length=18:=rfl
theorem HsAt.frame {b:Nat} {h:Hs} {w w':Sh} (H:HsAt b h w)(hs:w.heap.size≤w'.heap.size)(hk:∀ k,h.own b k→w'.heap[k]? =w.heap[k]?)(hd:∀ d∈h.docs,∀ k,d.uses k→w'.heap[k]? =w.heap[k]?):HsAt b h w' :=
 ⟨(hk b (.inl rfl)).trans H.at_,aB H.undo fun k e=>hk k (.inr (.inl e)),aB H.redo fun k e=>hk k (.inr (.inr e)),fun d hm=>(H.docs d hm).frame hs (hd d hm) fun _ _ h=>h,H.ub,H.rb⟩
theorem dW {w:Sh} {g:Nat} {o:Obj} (h:w.heap[g]? =some o):g<w.heap.size:=(Array.getElem?_eq_some_iff.1 h).1
theorem HsAt.lt {b:Nat} {h:Hs} {w:Sh} (H:HsAt b h w) {k:Nat} (hk:h.own b k):k<w.heap.size:=by
 rcases hk with rfl|hk|hk
 · exact dW H.at_
 · exact(H.undo.lt k hk).2
 · exact(H.redo.lt k hk).2
theorem HsAt.later {b:Nat} {h:Hs} {w w':Sh} (H:HsAt b h w)(hb:SF w.heap.size w w'):HsAt b h w' :=
 H.frame hb.size (fun k hk=>hb.block k (H.lt hk)) fun d hm k hu=>hb.block k (Doc.uses_lt (H.docs d hm).1 hu)
theorem HsAt.off {b:Nat} {h:Hs} {w w':Sh} {S:Nat→Prop} (H:HsAt b h w)(hk:Kept S w w')(h1:∀ k,h.own b k→¬ S k)(h2:∀ d∈h.docs,∀ k,d.uses k→¬ S k):HsAt b h w' :=
 H.frame hk.size (fun k e=>hk.block k (H.lt e) (h1 k e)) fun d hm k hu=>hk.block k (Doc.uses_lt (H.docs d hm).1 hu) (h2 d hm k hu)
structure qM (N:Doc→Prop)(b:Nat)(h h':Hs)(w:Sh):Prop where
 own:∀ k,h'.own b k→h.own b k∨w.heap.size≤k
 docs:∀ d∈h'.docs,d∈h.docs∨N d
theorem qM.mono {N N':Doc→Prop} {b:Nat} {h h':Hs} {w:Sh} (s:qM N b h h' w)(q:∀ d,N d→N' d):qM N' b h h' w:=⟨s.own,fun d hd=>(s.docs d hd).imp id (q d)⟩
theorem qM.same {N:Doc→Prop} {b:Nat} {h:Hs} {w:Sh}:qM N b h h w:=⟨fun _ h=>.inl h,fun _ h=>.inl h⟩
def iI (w:Sh)(d:Doc):Prop:=∀ k,d.uses k→w.heap.size≤k
def dj (N:Doc→Prop)(c:HsC)(b:Nat)(h:Hs)(w w':Sh):Prop:=∃ h':Hs,HsAt b h' w'∧h'.c=c∧qM N b h h' w∧Kept (h.own b) w w'
def fp (c:HsC)(b:Nat)(h:Hs)(w w':Sh):Prop:=dj (iI w) c b h w w'
theorem fp.same {b:Nat} {h:Hs} {w w':Sh} (H:HsAt b h w)(hb:SF w.heap.size w w'):fp h.c b h w w':=⟨h,H.later hb,rfl,.same,Kept.of_below hb⟩
theorem HsAt.next {b:Nat} {h h':Hs} {w w':Sh} (H:HsAt b h w)(hk:Kept (h.own b) w w')(h1:w'.heap[b]? =some (.cells h'.enc.toArray 82 (0,0)))
 (h2:w'.ownsRow 0 27 8 (.slice h'.ua h'.undo.length h'.uc) h'.undo.length (h'.undo.flatMap Doc.enc)) (h3:w'.ownsRow 0 27 8 (.slice h'.ra h'.redo.length h'.rc) h'.redo.length (h'.redo.flatMap Doc.enc))
 (hub:∀ k,h'.uv.ownBlock=some k→k≠b∧h'.rv.ownBlock≠some k) (hrb:h'.rv.ownBlock≠some b) (hown:∀ k,h'.own b k→h.own b k∨w.heap.size≤k)
 (hd:∀ d∈h'.docs,d∈h.docs∨eC (h'.own b) w' d):HsAt b h' w' :=
 ⟨h1,h2,h3,fun d hm=>by
  rcases hd d hm with hm|hm
  · exact(H.docs d hm).keep hk fun k hlt ho=>(hown k ho).elim id fun h=>by omega
  · exact hm,hub,hrb⟩
theorem aT {w:Sh} {b:Nat} {h:Hs} (r:w.heap[b]? =some (.cells h.enc.toArray 82 (0,0))):w.rangeAt b 0 h.doc.enc∧w.rangeAt b 8 h.saved.enc∧w.cell? ⟨b,16,none⟩=some (.slice h.ua h.undo.length h.uc)∧w.cell? ⟨b,17,none⟩=some (.slice h.ra h.redo.length h.rc):=by
 refine⟨fun j v hv=>?_,fun j v hv=>?_,Si _ _ 16 _ 82 (0,0) r,Si _ _ 17 _ 82 (0,0) r⟩
 · have hj:j<8:=(St.1 hv).1
   rw [Si _ _ (0+j) _ 82 (0,0) r]
   obtain rfl|rfl|rfl|rfl|rfl|rfl|rfl|rfl:j=0∨j=1∨j=2∨j=3∨j=4∨j=5∨j=6∨j=7:=by omega
   all_goals exact hv
 · have hj:j<8:=(St.1 hv).1
   rw [Si _ _ (8+j) _ 82 (0,0) r]
   obtain rfl|rfl|rfl|rfl|rfl|rfl|rfl|rfl:j=0∨j=1∨j=2∨j=3∨j=4∨j=5∨j=6∨j=7:=by omega
   all_goals exact hv
theorem dI {w:Sh} {b:Nat} {h:Hs} (r:w.heap[b]? =some (.cells h.enc.toArray 82 (0,0)))(j:Nat):w.frozen? ⟨b,j,none⟩=false:=by simp [SJ,r]
theorem j_ {w:Sh} {b o:Nat} {h:Hs} (r:w.heap[b]? =some (.cells h.enc.toArray 82 (0,0)))(ho:o+8≤18):w.there b o 8:=fun j hj=>⟨by
 rw [Si _ _ (o+j) _ 82 (0,0) r]
 have:o+j<h.enc.length:=by rw [Hs.enc_len];omega
 simp [Sn this],dI r _⟩
theorem Ab {w:Sh} {b:Nat} {h:Hs} (r:w.heap[b]? =some (.cells h.enc.toArray 82 (0,0)))(a:Option Addr)(U:List Doc)(c:Nat):(w.setCell ⟨b,16,none⟩ (.slice a U.length c)).heap[b]? =some (.cells ({ h with ua:=a,uc:=c,undo:=U }:Hs).enc.toArray 82 (0,0)):=by
 rw [heap_setCell_same w b 16 _ 82 (.slice a U.length c) r];rfl
theorem uC {w:Sh} {b:Nat} {h:Hs} (r:w.heap[b]? =some (.cells h.enc.toArray 82 (0,0)))(a:Option Addr)(U:List Doc)(c:Nat):(w.setCell ⟨b,17,none⟩ (.slice a U.length c)).heap[b]? =some (.cells ({ h with ra:=a,rc:=c,redo:=U }:Hs).enc.toArray 82 (0,0)):=by
 rw [heap_setCell_same w b 17 _ 82 (.slice a U.length c) r];rfl
theorem Ew {w:Sh} {b:Nat} {h:Hs} (r:w.heap[b]? =some (.cells h.enc.toArray 82 (0,0)))(D:Doc):(w.setCells b 0 D.enc).heap[b]? =some (.cells ({ h with doc:=D }:Hs).enc.toArray 82 (0,0)):=by
 have r0:=heap_setCell_same w b 0 _ 82 (.string D.title) r
 have r1:=heap_setCell_same _ b 1 _ 82 (.string D.lA) r0
 have r2:=heap_setCell_same _ b 2 _ 82 (.int .u8 D.rate) r1
 have r3:=heap_setCell_same _ b 3 _ 82 (.bool D.drop) r2
 have r4:=heap_setCell_same _ b 4 _ 82 (.int .i64 D.last) r3
 have r5:=heap_setCell_same _ b 5 _ 82 (.slice D.ra D.rG.length D.rc) r4
 have r6:=heap_setCell_same _ b 6 _ 82 (.slice D.ea D.eV.length D.ec) r5
 have r7:=heap_setCell_same _ b 7 _ 82 (.slice D.ca D.cM.length D.cc) r6
 clear r r0 r1 r2 r3 r4 r5 r6
 simp only [Hs.enc,Doc.enc,Sp,Su,Sx,Sv,Ss] at r7
 simp only [Hs.enc,Doc.enc,Sp,Su,SK]
 exact r7
theorem Eu {w:Sh} {b:Nat} {h:Hs} (r:w.heap[b]? =some (.cells h.enc.toArray 82 (0,0)))(D:Doc):(w.setCells b 8 D.enc).heap[b]? =some (.cells ({ h with saved:=D }:Hs).enc.toArray 82 (0,0)):=by
 have r0:=heap_setCell_same w b 8 _ 82 (.string D.title) r
 have r1:=heap_setCell_same _ b 9 _ 82 (.string D.lA) r0
 have r2:=heap_setCell_same _ b 10 _ 82 (.int .u8 D.rate) r1
 have r3:=heap_setCell_same _ b 11 _ 82 (.bool D.drop) r2
 have r4:=heap_setCell_same _ b 12 _ 82 (.int .i64 D.last) r3
 have r5:=heap_setCell_same _ b 13 _ 82 (.slice D.ra D.rG.length D.rc) r4
 have r6:=heap_setCell_same _ b 14 _ 82 (.slice D.ea D.eV.length D.ec) r5
 have r7:=heap_setCell_same _ b 15 _ 82 (.slice D.ca D.cM.length D.cc) r6
 clear r r0 r1 r2 r3 r4 r5 r6
 simp only [Hs.enc,Doc.enc,Sp,Su,Sx,Sv,Ss] at r7
 simp only [Hs.enc,Doc.enc,Sp,Su,SK]
 exact r7
theorem eL {S:Nat→Prop} {b:Nat} (hb:S b):∀ (vs:List Sk)(o:Nat) {a w:Sh},Kept S a w→Kept S a (w.setCells b o vs)
 | [],_,_,_,h=>h
 | v::vs,o,a,w,h=>eL hb vs (o+1) (h.setCell (p:=⟨b,o,none⟩) (.inr hb) v)
theorem km (d:Doc):(d.enc.toArray.all (·.oneCell'))=true:=by simp [Doc.enc,Sk.oneCell']
theorem vW (f:Cm→Cm):∀ {l:List Cm} (_:l.Pairwise fun x y=>x.id<y.id)(k:Nat)(m:Cm),l[k]? =some m→l.map (fun c=>if c.id=m.id then f c else c)=l.set k (f m)
 | [],_,k,m,h=>by simp at h
 | a::l,hp,0,m,h=>by
   obtain rfl:a=m:=by simpa using h
   have h1:l.map (fun c=>if c.id=a.id then f c else c)=l:=by
    conv=>rhs;rw [←List.map_id l]
    refine List.map_congr_left fun x hx=>?_
    have:=(Sw.1 hp).1 x hx
    rw [if_neg (by omega)];rfl
   simp [h1]
 | a::l,hp,k+1,m,h=>by
   have hm:l[k]? =some m:=by simpa using h
   have h1:=(Sw.1 hp).1 m (Sr hm)
   have h3:=vW f (Sw.1 hp).2 k m hm
   rw [List.map_cons,if_neg (by omega),h3]
   rfl
theorem uZ {d:DocC} {id:Int} (h:bJ d id≠0):b_ d id=(bJ d id,aV):=by
 unfold b_
 unfold bJ at h ⊢
 by_cases h0:cErr d≠0
 · rw [if_pos h0,if_pos h0]
 · rw [if_neg h0] at h ⊢
   rw [if_neg h0]
   cases hc:cR d.cM id with
   | none=>simp
   | some x=>rw [hc] at h;simp at h
theorem sW {d:DocC} {id:Int} {x:Cm} (h0:cErr d=0)(hf:cR d.cM id=some x)(hd:x.done=true):b_ d id=(17,aV):=by
 unfold b_
 rw [if_neg (fun h=>h h0),hf]
 show(if x.done=true then _ else _)=_
 rw [if_pos hd]
theorem xX {d:DocC} {id:Int} {j:Nat} {x:Cm} (h0:cErr d=0)(hx:d.cM[j]? =some x)(hf:cR d.cM id=some x)(hd:x.done=false):b_ d id=(0,{ d with cM:=d.cM.set j { x with done:=true } }):=by
 have hid:x.id=id:=by
  have:=List.find?_some hf
  simpa [cmAt] using this
 have hfl:=vW (fun c=>{ c with done:=true }) (iF h0).cM j x hx
 unfold b_
 rw [if_neg (fun h=>h h0),hf]
 show(if x.done=true then _ else _)=_
 rw [if_neg (by rw [hd];exact Bool.false_ne_true),←hfl,hid]
end Go.Proofs.YtjebaagkomejaaaGreatDoor
