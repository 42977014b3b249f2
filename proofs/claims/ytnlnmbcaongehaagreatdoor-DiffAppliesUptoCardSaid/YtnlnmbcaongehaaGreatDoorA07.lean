/- The contract of diff.apply at a comment's change. (printed by gen_applycm.py out of ApplyReg's text) The contract of diff.apply at a header's change, and at a change that is none. (printed by gen_applyhd.py) -/
import Derived.Test.YtnlnmbcaongehaaGreatDoorB16
import Derived.Test.YtnlnmbcaongehaaGreatDoorA05
set_option linter.unusedVariables false
set_option linter.unusedSimpArgs false
set_option maxRecDepth 100000
set_option maxHeartbeats 12800000
open Go.Lib renaming hid→h_
open Go renaming heap_setCell_same→e_,World→fb,wpAnyH_take→fe,cell_of_row→ff,heap_alloc_last→fg,wpAnyH_ready→fh,wp_region_held_drew→fi,yieldsIf_load_mid→fj,wp_at_zero→fk,wp_at_succ→fm
open Go.RowKit renaming Below→fo
open Array renaming toArray_toList→fp,getElem?_eq_some_iff→fq
open Go.RowKit.Below renaming heap_setCell→fr,refl→ft,setCell→fu,alloc→fw
open Go.Proofs.Tryz renaming ntmps55→fx,func55→fy,prog→fz,underlying54→fA
open Go.World renaming size_alloc→fB,frozen?→fC
open Nat renaming le_refl→fD
open Go.Act renaming put→fE
open List renaming setIfInBounds_toArray→fF,getElem_cons_zero→fG,getElem_cons_succ→fH,getElem_toArray→fI,set_cons_zero→fJ,set_cons_succ→fK
open Go.AllReadyH renaming cons→fL,nil→fM
open Go.Value renaming string→fN
namespace Go.Proofs.YtnlnmbcaongehaaGreatDoor
open Go.RowKit
attribute [local go_sem ↓] fk fm
def dP (c:Chg):Cm:=⟨c.id,c.nc.ev,c.nc.frm,c.nc.til,c.nc.author,c.nc.text,c.nc.done,c.nc.lost⟩
def cX (cms:List Cm)(c:Chg):Int:=aB c.added (first (fun x:Cm=>x.id==c.id) cms).isSome (cmEq (((first (fun x:Cm=>x.id==c.id) cms).map (·.1)).getD aL) c.oc)
def zct (cms:List Cm)(c:Chg):Nat:=((first (fun x:Cm=>x.id==c.id) cms).map (·.2)).getD 0
def zbt (d:Doc)(c:Chg):DocC:=⟨d.hd,d.rG,d.evs.map Ev.c,if cX d.cms c=0 then aJ c.added c.gone (zct d.cms c) (fun y:Cm=>decide (y.id<(dP c).id)) d.cms (dP c) else d.cms⟩
theorem zl2 {d:Doc} {g:Nat} {w w1 w2:fb} {ys:List Cm} {a:Option Addr} {c':Nat} (hd:eB d g w)(hb:fo w.heap.size w w1)(hS:ab 8 Cm.enc Flat w1 a ys)(hf:∀ ad,a=some ad→w.heap.size≤ad.block)(hw:w2=w1.setCell ⟨g,7,none⟩ (.slice a ys.length c')) :
 aX 0 ⟨d.hd,d.rG,d.evs.map Ev.c,ys⟩ d g w (.returned (.int .i64 0)) w2:=by
 subst hw
 have hgw:g<w.heap.size:=(fq.1 hd.cells).1
 have h1:=hd.below hb
 have hsz:(w1.setCell ⟨g,7,none⟩ (.slice a ys.length c')).heap.size=w1.heap.size:=by simp
 have hfr:∀ b,b≠g→(w1.setCell ⟨g,7,none⟩ (.slice a ys.length c')).heap[b]? =w1.heap[b]?:=fun b h=>fr _ _ _ _ h
 refine⟨rfl,⟨d.title,d.lA,d.rate,d.drop,d.last,d.ra,d.rc,d.rG,d.ea,d.ec,d.evs,a,c',ys⟩,e_ _ _ _ _ _ _ h1.cells,rfl,⟨?_,?_,?_⟩,fun b hu=>?_,⟨hb.os,hb.tape,hb.output,by rw [hsz];exact hb.size,fun k hk hne=>?_⟩⟩
 · exact ab.frame h1.lies.1 (by omega) (fun b hu=>hfr b (hd.apart b (.inl hu))) (fun _ _ _=>trivial)
 · exact bK.frame h1.lies.2.1 (by omega) fun b hu=>hfr b (hd.apart b (.inr (.inl hu)))
 · refine ab.frame hS (by omega) (fun b hu=>hfr b ?_) (fun _ _ _=>trivial)
   obtain⟨_,ad,e,rfl⟩:=hu
   have:=hf ad e
   omega
 · rcases hu with hu|hu|⟨_,ad,e,rfl⟩
   · exact⟨hd.apart b (.inl hu),.inl (.inl hu)⟩
   · exact⟨hd.apart b (.inr (.inl hu)),.inl (.inr (.inl hu))⟩
   · have:=hf ad e
     exact⟨by omega,.inr this⟩
 · rw [hfr k (fun e=>hne (by rw [e])),hb.block k hk]
theorem zie (r:Option (Cm × Nat)):∃ (x:Cm)(i:Int)(b:Bool),zbO r=.tuple #[.agg x.enc.toArray,.int .i64 i,.bool b]∧x=(r.map (·.1)).getD aL∧b=r.isSome∧(b=true→i=((((r.map (·.2)).getD 0:Nat)):Int)):=by
 cases r with
 | none=>exact⟨_,_,_,rfl,rfl,rfl,fun h=>by cases h⟩
 | some q=>exact⟨_,_,_,rfl,rfl,rfl,fun _=>rfl⟩
theorem zgw (d:Doc)(g:Nat)(c:Chg)(w:fb)(hsec:c.sec=4)(hag:c.added=true→c.gone=false)(hd:eB d g w)(hl:d.cms.length≤4000000) :
 Calls fz 55 #[.pointer (some ⟨g,0,none⟩),.agg c.enc.toArray] w (aX (cX d.cms c) (zbt d c) d g w):=by
 have HERR:=h_ (fun(w':fb) (hb:fo w.heap.size w w') (h0:¬ cX d.cms c=0)=>(show aX (cX d.cms c) (zbt d c) d g w (.returned (.int .i64 (cX d.cms c))) w' from by
  have:=hd.same hb (cX d.cms c)
  unfold zbt
  rw [if_neg h0]
  exact this))
 obtain⟨x,i,there,hv,hx,ht,hi⟩:=zie (first (fun x:Cm=>x.id==c.id) d.cms)
 have HF:=h_ (fun(w1:fb) (h:fo w.heap.size w w1)=>(show Calls fz 43 #[.slice d.ca d.cms.length d.cc,.func (.func 42) #[] #[],.int .i64 c.id] w1 (fun e w'=>e=.returned (.tuple #[.agg x.enc.toArray,.int .i64 i,.bool there])∧fo w1.heap.size w1 w') from(dK Flat.keeps d.ca d.cc d.cms c.id w1 (hd.lies.2.2.later h) (by omega)).mono (fun e w' p=>⟨by rw [←hv];exact p.1,p.2⟩)))
 have hE:cX d.cms c=aB c.added there (cmEq x c.oc):=by rw [hx,ht];rfl
 have HAL:=h_ (fun(s:Bool) (w1:fb)=>zan c there s w1)
 have r1:=fun wx=>ziE x c.oc wx
 generalize hRE:cmEq x c.oc=RE at *
 generalize hERR:cX d.cms c=ERR at *
 generalize hPOST:aX ERR (zbt d c) d g w=Q at *
 have HSL:=h_ (fun(w1:fb) (h:fo w.heap.size w w1)=>hd.lies.2.2.later h)
 have hgw:g<w.heap.size:=(fq.1 hd.cells).1
 have HGC:=h_ (fun(w1:fb) (h:fo w.heap.size w w1)=>(h.block g hgw).trans hd.cells)
 have HCHG:=h_ (fun(w1:fb) (h:fo w.heap.size w w1) (h0:ERR=0)=>zeq d.ca d.cc d.cms c (zct d.cms c) i (dP c) w1 (hd.lies.2.2.later h) (fun ha=>by
  rw [h0] at hE
  have hth:there=true:=by
   cases there
   · rw [ha] at hE
     simp [aB] at hE
   · rfl
  refine⟨?_,hi hth⟩
  rw [hth] at ht
  unfold zct
  cases hf:first (fun x:Cm=>x.id==c.id) d.cms with
  | none=>rw [hf] at ht;cases ht
  | some q =>
    obtain⟨y,k⟩:=q
    obtain⟨_,hk,_⟩:=cq _ _ 0 y k hf
    simpa using (List.getElem?_eq_some_iff.1 hk).1) hag hl)
 have HFIN:=h_ (fun(w1 w2:fb) (a:Option Addr) (c':Nat) (h0:ERR=0) (hb:fo w.heap.size w w1) (hS:ab 8 Cm.enc Flat w1 a (aJ c.added c.gone (zct d.cms c) (fun y:Cm=>decide (y.id<(dP c).id)) d.cms (dP c))) (hf:∀ ad,a=some ad→w.heap.size≤ad.block) (hw:w2=w1.setCell ⟨g,7,none⟩ (.slice a (aJ c.added c.gone (zct d.cms c) (fun y:Cm=>decide (y.id<(dP c).id)) d.cms (dP c)).length c'))=>(show Q (.returned (.int .i64 0)) w2 from by
  have:=zl2 hd hb hS hf hw
  rw [←hPOST,h0]
  unfold zbt
  rw [if_pos (hERR.trans h0)]
  exact this))
 generalize aJ c.added c.gone (zct d.cms c) (fun y:Cm=>decide (y.id<(dP c).id)) d.cms (dP c)=YS at *
 have HEQ:=h_ hE
 clear hd hv hx ht hi hPOST hRE hERR hE
 obtain⟨sec,id,name,ad,gn,oh,nh,rg,nr,oe,ne,oc,nc⟩:=c
 simp only at hsec hag
 subst hsec
 obtain⟨title,lA,rate,drop,last,ra,rc,rG,ea,ec,evs,ca,cc,cms⟩:=d
 obtain⟨xcid,xev,xfrm,xtil,xau,xtx,xdn,xlo⟩:=x
 generalize hcl:Chg.enc _=cl at *
 have hsz59:cl.toArray.toList.length=59:=by rw [←hcl];rfl
 have hc0:cl.toArray[0]? =some (.int .u8 4):=by rw [←hcl];rfl
 have hc1:cl.toArray[1]? =some (.int .i64 id):=by rw [←hcl];rfl
 have hc3:cl.toArray[3]? =some (.bool ad):=by rw [←hcl];rfl
 have hc4:cl.toArray[4]? =some (.bool gn):=by rw [←hcl];rfl
 have hc43:cl.toArray[43]? =some (.int .i64 oc.id):=by rw [←hcl];rfl
 have hc44:cl.toArray[44]? =some (.int .i64 oc.ev):=by rw [←hcl];rfl
 have hc45:cl.toArray[45]? =some (.int .i64 oc.frm):=by rw [←hcl];rfl
 have hc46:cl.toArray[46]? =some (.int .i64 oc.til):=by rw [←hcl];rfl
 have hc47:cl.toArray[47]? =some (.string oc.author):=by rw [←hcl];rfl
 have hc48:cl.toArray[48]? =some (.string oc.text):=by rw [←hcl];rfl
 have hc49:cl.toArray[49]? =some (.bool oc.done):=by rw [←hcl];rfl
 have hc50:cl.toArray[50]? =some (.bool oc.lost):=by rw [←hcl];rfl
 have hc51:cl.toArray[51]? =some (.int .i64 nc.id):=by rw [←hcl];rfl
 have hc52:cl.toArray[52]? =some (.int .i64 nc.ev):=by rw [←hcl];rfl
 have hc53:cl.toArray[53]? =some (.int .i64 nc.frm):=by rw [←hcl];rfl
 have hc54:cl.toArray[54]? =some (.int .i64 nc.til):=by rw [←hcl];rfl
 have hc55:cl.toArray[55]? =some (.string nc.author):=by rw [←hcl];rfl
 have hc56:cl.toArray[56]? =some (.string nc.text):=by rw [←hcl];rfl
 have hc57:cl.toArray[57]? =some (.bool nc.done):=by rw [←hcl];rfl
 have hc58:cl.toArray[58]? =some (.bool nc.lost):=by rw [←hcl];rfl
 clear hcl
 obtain⟨cid3,ev3,frm3,til3,au3,tx3,dn3,lo3⟩:=oc
 obtain⟨cid4,ev4,frm4,til4,au4,tx4,dn4,lo4⟩:=nc
 obtain⟨cs,hcs⟩:∃ cs,cs=cl.toArray:=⟨_,rfl⟩
 rw [←hcs] at hc0 hc1 hc3 hc4 hc43 hc44 hc45 hc46 hc47 hc48 hc49 hc50 hc51 hc52 hc53 hc54 hc55 hc56 hc57 hc58 hsz59
 simp only [←hcs,dP,Doc.enc,Cm.enc] at *
 clear hcs
 have f0:=aa w cs 54 0 _ hc0
 have f1:=aa w cs 54 1 _ hc1
 have f3:=aa w cs 54 3 _ hc3
 have f4:=aa w cs 54 4 _ hc4
 have f43:=aa w cs 54 43 _ hc43
 have f44:=aa w cs 54 44 _ hc44
 have f45:=aa w cs 54 45 _ hc45
 have f46:=aa w cs 54 46 _ hc46
 have f47:=aa w cs 54 47 _ hc47
 have f48:=aa w cs 54 48 _ hc48
 have f49:=aa w cs 54 49 _ hc49
 have f50:=aa w cs 54 50 _ hc50
 have f51:=aa w cs 54 51 _ hc51
 have f52:=aa w cs 54 52 _ hc52
 have f53:=aa w cs 54 53 _ hc53
 have f54:=aa w cs 54 54 _ hc54
 have f55:=aa w cs 54 55 _ hc55
 have f56:=aa w cs 54 56 _ hc56
 have f57:=aa w cs 54 57 _ hc57
 have f58:=aa w cs 54 58 _ hc58
 have hb0:fo (w.heap.size+1) (w.alloc (.cells cs 54)) (w.alloc (.cells cs 54)):=ft _ _
 have hsz:(w.alloc (.cells cs 54)).heap.size=w.heap.size+1:=fB _ _
 have HB:=h_ (fun(w1:fb) (h:fo (w.heap.size+1) (w.alloc (.cells cs 54)) w1)=>aq h)
 have HRG:=h_ (fun(w1:fb) (h:fo (w.heap.size+1) (w.alloc (.cells cs 54)) w1)=>(show w1.rangeAt w.heap.size 0 cs.toList from fun j v hv=>by
  rw [Nat.zero_add,ff _ _ j cs 54 (0,0) ((h.block _ (by omega)).trans (fg w _))]
  simpa using hv))
 generalize hW0:w.alloc (.cells cs 54)=W0 at *
 have HW0:=h_ hW0
 have HSZ:=h_ hsz
 have HT0:=h_ (fun(w2 w3:fb) (h:fo (w.heap.size+1) W0 w2) (h3:fo w2.heap.size w2 w3)=>(h.trans (h3.mono (by have:=h.size;rw [HSZ.out] at this;exact this)):fo (w.heap.size+1) W0 w3))
 have HLT:=h_ (fun(w2:fb) (h:fo (w.heap.size+1) W0 w2)=>(show w.heap.size+1≤w2.heap.size by have:=h.size;rw [HSZ.out] at this;exact this))
 have bg:∀ (w':fb),fo (w.heap.size+1) W0 w'→∀ (j:Nat),w'.cell? ⟨g,j,none⟩=_:=fun w' h j=>ff _ _ j _ 27 (0,0) (HGC.out w' (HB.out _ h))
 have zg:∀ (w':fb),fo (w.heap.size+1) W0 w'→∀ (j:Nat),w'.frozen? ⟨g,j,none⟩=false:=fun w' h j=>by simp [fC,HGC.out w' (HB.out _ h)]
 have hbd:fo (w.heap.size+1) W0 W0.drew:=hb0.drew
 have HAD:=h_ (fun(o:Obj)=>((hb0.alloc (by rw [HSZ.out];exact fD _) o).drew:fo (w.heap.size+1) W0 (W0.alloc o).drew))
 have H59:=h_ hsz59
 clear hW0 hsz hsz59 hc0 hc1 hc3 hc4 hc43 hc44 hc45 hc46 hc47 hc48 hc49 hc50 hc51 hc52 hc53 hc54 hc55 hc56 hc57 hc58
 have HAG:=h_ hag
 clear hag
 cases ad
 case' true=>obtain rfl:gn=false:=HAG.out rfl
 all_goals
  go_enter fy,fx
  go_upto_region 1 with fail
  rw [HW0.out]
  go_upto_region 6 with fail
  go_cut [16,17,18] (fun s6 s7 s8 wx=>∃ gx,s6=.pointer (some ⟨gx,0,none⟩)∧s7=.int .i64 i∧s8=.bool there∧wx.heap[gx]? =some (.cells #[.int .i64 xcid,.int .i64 xev,.int .i64 xfrm,.int .i64 xtil,.string xau,.string xtx,.bool xdn,.bool xlo] 52 (0,0))∧w.heap.size+1≤gx∧fo (w.heap.size+1) W0 wx)
  case first =>
   have HF1:=h_ (fun(w1:fb) (h:fo (w.heap.size+1) W0 w1)=>(HF.out w1 (HB.out _ h)).mono (fun e w' p=>(show e=_∧fo (w.heap.size+1) W0 w'∧fo w1.heap.size w1 w' from⟨p.1,HT0.out _ _ h p.2,p.2⟩)))
   go_region_held3 (fun w'=>fo (w.heap.size+1) W0 w') (repeat (first|with_reducible assumption|with_reducible exact hbd|with_reducible exact HAD.out _|with_reducible refine fu ?_ (by dsimp only;first|omega|(have:=HSZ.out;simp;omega)|(have:=HLT.out _ hc3;simp;omega)) _|with_reducible refine fw ?_ (by first|exact HLT.out _ hc3|(rw [HSZ.out];exact fD _)) _)) (first
    | (go_at_call 43;(with_reducible refine(HF1.out _ ?_).mono ?_);(first|with_reducible assumption|with_reducible exact HAD.out _);rintro e w3 ⟨rfl,hc3,hr3⟩;(first|(with_reducible have hb3:=zf3 hr3;have HB3:=h_ hb3;clear hb3)|skip);(first|(have bx3:∀ (j:Nat),w3.cell? ⟨W0.heap.size,j,none⟩=_:=fun j=>ff _ _ j _ 52 (0,0) HB3.out;have zx3:∀ (j:Nat),w3.frozen? ⟨W0.heap.size,j,none⟩=false:=fun j=>by simp [fC,HB3.out])|skip);clear hr3))
   · go_wp2_with fail
     go_meet
     exact⟨_,rfl,rfl,rfl,fg w3 _,HLT.out _ hc3,fw hc3 (HLT.out _ hc3) _⟩
   · go_wp2_with fail
     go_meet
     refine⟨_,rfl,rfl,rfl,e_ _ _ _ _ _ _ (e_ _ _ _ _ _ _ (e_ _ _ _ _ _ _ (e_ _ _ _ _ _ _ (e_ _ _ _ _ _ _ (e_ _ _ _ _ _ _ (e_ _ _ _ _ _ _ (e_ _ _ _ _ _ _ HB3.out))))))),by rw [HSZ.out];exact fD _,?_⟩
     repeat refine fu ?_ (by rw [HSZ.out];exact fD _) _
     exact hc3
  case rest =>
   obtain⟨gx,rfl,rfl,rfl,hgx,hgb,hcw⟩:=hcut
   have hlx:=(fq.1 hgx).1
   have cx:∀ (w':fb),fo wc.heap.size wc w'→∀ (j:Nat),w'.cell? ⟨gx,j,none⟩=_:=fun w' h j=>ff _ _ j _ 52 (0,0) ((h.block gx hlx).trans hgx)
   have k0:=fun(w':fb) (h:fo wc.heap.size wc w')=>f0 w' (HT0.out _ _ hcw h)
   have k1:=fun(w':fb) (h:fo wc.heap.size wc w')=>f1 w' (HT0.out _ _ hcw h)
   have k3:=fun(w':fb) (h:fo wc.heap.size wc w')=>f3 w' (HT0.out _ _ hcw h)
   have k4:=fun(w':fb) (h:fo wc.heap.size wc w')=>f4 w' (HT0.out _ _ hcw h)
   have k43:=fun(w':fb) (h:fo wc.heap.size wc w')=>f43 w' (HT0.out _ _ hcw h)
   have k44:=fun(w':fb) (h:fo wc.heap.size wc w')=>f44 w' (HT0.out _ _ hcw h)
   have k45:=fun(w':fb) (h:fo wc.heap.size wc w')=>f45 w' (HT0.out _ _ hcw h)
   have k46:=fun(w':fb) (h:fo wc.heap.size wc w')=>f46 w' (HT0.out _ _ hcw h)
   have k47:=fun(w':fb) (h:fo wc.heap.size wc w')=>f47 w' (HT0.out _ _ hcw h)
   have k48:=fun(w':fb) (h:fo wc.heap.size wc w')=>f48 w' (HT0.out _ _ hcw h)
   have k49:=fun(w':fb) (h:fo wc.heap.size wc w')=>f49 w' (HT0.out _ _ hcw h)
   have k50:=fun(w':fb) (h:fo wc.heap.size wc w')=>f50 w' (HT0.out _ _ hcw h)
   have k51:=fun(w':fb) (h:fo wc.heap.size wc w')=>f51 w' (HT0.out _ _ hcw h)
   have k52:=fun(w':fb) (h:fo wc.heap.size wc w')=>f52 w' (HT0.out _ _ hcw h)
   have k53:=fun(w':fb) (h:fo wc.heap.size wc w')=>f53 w' (HT0.out _ _ hcw h)
   have k54:=fun(w':fb) (h:fo wc.heap.size wc w')=>f54 w' (HT0.out _ _ hcw h)
   have k55:=fun(w':fb) (h:fo wc.heap.size wc w')=>f55 w' (HT0.out _ _ hcw h)
   have k56:=fun(w':fb) (h:fo wc.heap.size wc w')=>f56 w' (HT0.out _ _ hcw h)
   have k57:=fun(w':fb) (h:fo wc.heap.size wc w')=>f57 w' (HT0.out _ _ hcw h)
   have k58:=fun(w':fb) (h:fo wc.heap.size wc w')=>f58 w' (HT0.out _ _ hcw h)
   have HAE:=h_ (fun(w1:fb)=>HAL.out RE w1)
   rw [←HEQ.out] at HAE
   have hwd:fo wc.heap.size wc wc.drew:=(ft _ _).drew
   have BG:=h_ bg
   have ZG:=h_ zg
   have HCW:=h_ hcw
   clear hgx bg zg hb0 hbd HAD HF HAL f0 f1 f3 f4 f43 f44 f45 f46 f47 f48 f49 f50 f51 f52 f53 f54 f55 f56 f57 f58
   go_upto_region 7 with fail
   refine fi (S:=fun w'=>fo wc.heap.size wc w') (by kernel_rfl) hwd (fun hHeld=>?_)
   refine fe (i:=0) (v:=.agg cs.toList.toArray) rfl (by kernel_rfl) (by kernel_rfl) (by kernel_rfl) (fun _ _ _ h=>h) (fj (by rfl) 54 (.tmp 3) rfl w.heap.size 0 rfl cs.toList _ (fun w h=>HRG.out w (HT0.out _ _ HCW.out h)) fA rfl (by rw [ef,H59.out])) (by assumption) ?_
   try simp only [fE,fI,fG,fH,fF,fJ,fK,fp]
   refine fe (i:=1) (v:=.bool there) rfl (by kernel_rfl) (by kernel_rfl) (by kernel_rfl) (fun _ _ _ h=>h) (.inl ⟨by rfl,fun w h=>by have h2:fo wc.heap.size wc w:=h;go_simp⟩) (by assumption) ?_
   try simp only [fE,fI,fG,fH,fF,fJ,fK,fp]
   refine fe (i:=2) (v:=.agg #[.int .i64 xcid,.int .i64 xev,.int .i64 xfrm,.int .i64 xtil,.string xau,.string xtx,.bool xdn,.bool xlo]) rfl (by kernel_rfl) (by kernel_rfl) (by kernel_rfl) (fun _ _ _ h=>h) (.inl ⟨by rfl,fun w h=>by have h2:fo wc.heap.size wc w:=h;go_simp⟩) (by assumption) ?_
   try simp only [fE,fI,fG,fH,fF,fJ,fK,fp]
   refine fe (i:=3) (v:=.pointer (some ⟨w.heap.size,43,none⟩)) rfl (by kernel_rfl) (by kernel_rfl) (by kernel_rfl) (fun _ _ _ h=>h) (.inl ⟨by rfl,fun w h=>by have h2:fo wc.heap.size wc w:=h;go_simp⟩) (by assumption) ?_
   try simp only [fE,fI,fG,fH,fF,fJ,fK,fp]
   refine fe (i:=4) (v:=.agg #[.int .i64 cid3,.int .i64 ev3,.int .i64 frm3,.int .i64 til3,.string au3,.string tx3,.bool dn3,.bool lo3]) rfl (by kernel_rfl) (by kernel_rfl) (by kernel_rfl) (fun _ _ _ h=>h) (.inl ⟨by rfl,fun w h=>by have h2:fo wc.heap.size wc w:=h;go_simp⟩) (by assumption) ?_
   try simp only [fE,fI,fG,fH,fF,fJ,fK,fp]
   refine fe (i:=5) (v:=.bool RE) rfl (by kernel_rfl) (by kernel_rfl) (by kernel_rfl) (fun _ _ _ h=>h) (.inl ⟨by rfl,fun w h=>by have h2:fo wc.heap.size wc w:=h;go_simp⟩) (by assumption) ?_
   try simp only [fE,fI,fG,fH,fF,fJ,fK,fp]
   refine fh (rs:=[6]) (by kernel_rfl) (by simp) ?_
   refine fL rfl (fun K hK=>?_) fM
   go_simp
   refine(HAE.out _).mono ?_
   rintro e w4 ⟨rfl,hb4⟩
   have hw4:fo wc.heap.size wc w4:=hwd.trans (hb4.mono hwd.size)
   clear hb4
   go_wp2_with fail
   refine hK.out _ _ hw4 (fun hHeld2=>?_)
   clear hK
   try simp only [fE,fI,fG,fH,fF,fJ,fK,fp]
   refine fe (i:=7) (v:=.int .i64 ERR) rfl (by kernel_rfl) (by kernel_rfl) (by kernel_rfl) (fun _ _ _ h=>h) (.inl ⟨by rfl,fun w h=>by have h2:fo wc.heap.size wc w:=h;go_simp⟩) (by assumption) ?_
   try simp only [fE,fI,fG,fH,fF,fJ,fK,fp]
   refine wpAnyH_done (by kernel_rfl) ?_ _
   by_cases h0:ERR=0
   · subst h0
     have hal4:∀ o,fo wc.heap.size wc (w4.alloc o):=fun o=>hw4.alloc hw4.size o
     go_wp2_with fail
     have hcw4:=HT0.out _ _ HCW.out hw4
     obtain⟨w5,hw5⟩:∃ w5,w5=w4.alloc (.cells #[.int .i64 id,.int .i64 ev4,.int .i64 frm4,.int .i64 til4,.string au4,.string tx4,.bool dn4,.bool lo4] 52):=⟨_,rfl⟩
     have hb5:fo (w.heap.size+1) W0 w5:=hw5▸hcw4.alloc (HLT.out _ hcw4) _
     have hsz5:w5.heap.size=w4.heap.size+1:=by rw [hw5];simp
     have hl4:=HLT.out _ hcw4
     have hky:w5.heap[w4.heap.size]? =some (.cells #[.int .i64 id,.int .i64 ev4,.int .i64 frm4,.int .i64 til4,.string au4,.string tx4,.bool dn4,.bool lo4] 52 (0,0)):=hw5▸fg w4 _
     have HSP:=h_ (fun(w':fb) (h:Aside w5 g w')=>(show ∀ b,b<w5.heap.size→b≠g→w'.heap[b]? =w5.heap[b]? from h))
     have cy:∀ (w':fb),Aside w5 g w'→∀ (j:Nat),w'.cell? ⟨w4.heap.size,j,none⟩=_:=fun w' h j=>ff _ _ j _ 52 (0,0) ((HSP.out w' h w4.heap.size (by omega) (by omega)).trans hky)
     have HRS:=h_ (fun(w':fb) (h:Aside w5 g w')=>(show w'.rangeAt w.heap.size 0 cs.toList from fun j v hv=>(fb.cell?_of_block (a:=⟨w.heap.size,0+j,none⟩) (HSP.out w' h w.heap.size (by omega) (by omega))).trans (HRG.out w5 hb5 j v hv)))
     have hd5:Aside w5 g w5.drew:=fun b _ _=>rfl
     have bg5:=BG.out w5.drew hb5.drew
     have HB5:=h_ hb5
     have HW5:=h_ hw5
     clear hky hw5 hcw4 hb5
     rw [←HW5.out]
     refine fi (S:=fun w'=>Aside w5 g w') (by kernel_rfl) hd5 (fun hHeld=>?_)
     refine fe (i:=0) (v:=.pointer (some ⟨g,0,none⟩)) rfl (by kernel_rfl) (by kernel_rfl) (by kernel_rfl) (fun _ _ _ h=>h) (.inl ⟨by rfl,fun w' h=>by have h2:Aside w5 g w':=h;go_simp⟩) (by assumption) ?_
     try simp only [fE,fI,fG,fH,fF,fJ,fK,fp]
     refine fe (i:=1) (v:=.pointer (some ⟨g,0,none⟩)) rfl (by kernel_rfl) (by kernel_rfl) (by kernel_rfl) (fun _ _ _ h=>h) (.inl ⟨by rfl,fun w' h=>by have h2:Aside w5 g w':=h;go_simp⟩) (by assumption) ?_
     try simp only [fE,fI,fG,fH,fF,fJ,fK,fp]
     refine fe (i:=2) (v:=.pointer (some ⟨g,0,none⟩)) rfl (by kernel_rfl) (by kernel_rfl) (by kernel_rfl) (fun _ _ _ h=>h) (.inl ⟨by rfl,fun w' h=>by have h2:Aside w5 g w':=h;go_simp⟩) (by assumption) ?_
     try simp only [fE,fI,fG,fH,fF,fJ,fK,fp]
     refine fe (i:=3) (v:=.pointer (some ⟨g,7,none⟩)) rfl (by kernel_rfl) (by kernel_rfl) (by kernel_rfl) (fun _ _ _ h=>h) (.inl ⟨by rfl,fun w' h=>by have h2:Aside w5 g w':=h;go_simp⟩) (by assumption) ?_
     try simp only [fE,fI,fG,fH,fF,fJ,fK,fp]
     refine fe (i:=5) (v:=.agg cs.toList.toArray) rfl (by kernel_rfl) (by kernel_rfl) (by kernel_rfl) (fun _ _ _ h=>h) (fj (by rfl) 54 (.tmp 3) rfl w.heap.size 0 rfl cs.toList _ (fun w h=>HRS.out w h) fA rfl (by rw [ef,H59.out])) (by assumption) ?_
     try simp only [fE,fI,fG,fH,fF,fJ,fK,fp]
     refine fe (i:=6) (v:=.int .i64 i) rfl (by kernel_rfl) (by kernel_rfl) (by kernel_rfl) (fun _ _ _ h=>h) (.inl ⟨by rfl,fun w' h=>by have h2:Aside w5 g w':=h;go_simp⟩) (by assumption) ?_
     try simp only [fE,fI,fG,fH,fF,fJ,fK,fp]
     refine fe (i:=7) (v:=.agg #[.int .i64 id,.int .i64 ev4,.int .i64 frm4,.int .i64 til4,.string au4,.string tx4,.bool dn4,.bool lo4]) rfl (by kernel_rfl) (by kernel_rfl) (by kernel_rfl) (fun _ _ _ h=>h) (.inl ⟨by rfl,fun w' h=>by have h2:Aside w5 g w':=h;go_simp⟩) (by assumption) ?_
     try simp only [fE,fI,fG,fH,fF,fJ,fK,fp]
     refine fh (rs:=[4]) (by kernel_rfl) (by simp) ?_
     refine fL rfl (fun K1 hK1=>?_) fM
     go_simp
     refine hK1.out _ _ hd5 (fun hHeld3=>?_)
     clear hK1
     try simp only [fE,fI,fG,fH,fF,fJ,fK,fp]
     refine fh (rs:=[8]) (by kernel_rfl) (by simp) ?_
     refine fL rfl (fun K2 hK2=>?_) fM
     go_simp
     refine(HCHG.out w5.drew (HB.out _ HB5.out.drew) (by first|rfl|trivial)).mono ?_
     rintro e w6 ⟨a6,c6,rfl,hS6,hf6,hb6⟩
     have h6:Aside w5 g w6:=fun b h1 _=>hb6.block b h1
     have hb06:=HT0.out _ _ HB5.out.drew hb6
     have bg6:=BG.out w6 hb06
     have zg6:=ZG.out w6 hb06
     have HFF:=h_ (fun w2 hw2=>HFIN.out w6 w2 a6 c6 (by first|rfl|trivial) (HB.out _ hb06) hS6 (fun ad e=>by have h1:=hf6 ad e;have h2:w5.heap.size≤ad.block:=h1;omega) hw2)
     have H6:=h_ (show Aside w5 g (w6.setCell ⟨g,7,none⟩ (.slice a6 YS.length c6)) from fun b h1 h2=>(fr _ _ _ b h2).trans (hb6.block b h1))
     clear hS6 hf6 hb6 bg5 HCHG HFIN hb06
     go_wp2_with fail
     refine hK2.out _ _ h6 (fun hHeld4=>?_)
     clear hK2
     try simp only [fE,fI,fG,fH,fF,fJ,fK,fp]
     refine fe (i:=9) (v:=.pointer (some ⟨g,0,none⟩)) rfl (by kernel_rfl) (by kernel_rfl) (by kernel_rfl) (fun _ _ _ h=>h) (.inl ⟨by rfl,fun w' h=>by have h2:Aside w5 g w':=h;go_simp⟩) (by assumption) ?_
     try simp only [fE,fI,fG,fH,fF,fJ,fK,fp]
     refine fe (i:=10) (v:=.pointer (some ⟨g,7,none⟩)) rfl (by kernel_rfl) (by kernel_rfl) (by kernel_rfl) (fun _ _ _ h=>h) (.inl ⟨by rfl,fun w' h=>by have h2:Aside w5 g w':=h;go_simp⟩) (by assumption) ?_
     try simp only [fE,fI,fG,fH,fF,fJ,fK,fp]
     refine fh (rs:=[11]) (by kernel_rfl) (by simp) ?_
     refine fL rfl (fun K3 hK3=>?_) fM
     go_simp
     refine hK3.out _ _ H6.out (fun hHeld5=>?_)
     clear hK3
     try simp only [fE,fI,fG,fH,fF,fJ,fK,fp]
     refine wpAnyH_done (by kernel_rfl) ?_ _
     go_wp2_with fail
     exact HFF.out _ rfl
   · have hne:(ERR != 0)=true:=by simpa using h0
     have HFE:=h_ (HERR.out _ (HB.out _ (HT0.out _ _ HCW.out hw4)) h0)
     clear HERR HFIN HCHG HEQ
     go_wp2_with fail
     exact HFE.out
end Go.Proofs.YtnlnmbcaongehaaGreatDoor
namespace Go.Proofs.YtnlnmbcaongehaaGreatDoor
open Go.RowKit
attribute [local go_sem ↓] fk fm
def zbu (h:Hd)(c:Chg):Int:=if hdEq h c.oh=true then 0 else 16
def zbs (d:Doc)(c:Chg):DocC:=⟨if hdEq d.hd c.oh=true then c.nh else d.hd,d.rG,d.evs.map Ev.c,d.cms⟩
theorem zmt {d:Doc} {g:Nat} {w w1 w2:fb} {h:Hd} (hd:eB d g w)(hb:fo w.heap.size w w1)(hh:w2.heap[g]? =some (.cells (⟨h.title,h.lA,h.rate,h.drop,h.last,d.ra,d.rc,d.rG,d.ea,d.ec,d.evs,d.ca,d.cc,d.cms⟩:Doc).enc.toArray 27 (0,0)))(hs:w1.heap.size≤w2.heap.size)(hfr:∀ b,b<w1.heap.size→b≠g→w2.heap[b]? =w1.heap[b]?)(ho:w2.os=w1.os∧w2.tape=w1.tape∧w2.output=w1.output) :
 aX 0 ⟨h,d.rG,d.evs.map Ev.c,d.cms⟩ d g w (.returned (.int .i64 0)) w2:=by
 have hgw:g<w.heap.size:=(fq.1 hd.cells).1
 have h1:=hd.below hb
 have hsz:=hb.size
 refine⟨rfl,⟨h.title,h.lA,h.rate,h.drop,h.last,d.ra,d.rc,d.rG,d.ea,d.ec,d.evs,d.ca,d.cc,d.cms⟩,hh,rfl,⟨?_,?_,?_⟩,fun b hu=>⟨hd.apart b hu,.inl hu⟩,⟨ho.1.trans hb.os,ho.2.1.trans hb.tape,ho.2.2.trans hb.output,by omega,fun k hk hne=>?_⟩⟩
 · exact ab.frame h1.lies.1 hs (fun b hu=>hfr b (bu h1.lies.1 hu) (hd.apart b (.inl hu))) (fun _ _ _=>trivial)
 · exact bK.frame h1.lies.2.1 hs fun b hu=>hfr b (zbT h1.lies.2.1 hu) (hd.apart b (.inr (.inl hu)))
 · exact ab.frame h1.lies.2.2 hs (fun b hu=>hfr b (bu h1.lies.2.2 hu) (hd.apart b (.inr (.inr hu)))) (fun _ _ _=>trivial)
 · rw [hfr k (by omega) (fun e=>hne (by rw [e])),hb.block k hk]
theorem zgv (d:Doc)(g:Nat)(c:Chg)(w:fb)(hsec:c.sec=1)(had:c.added=false)(hgn:c.gone=false)(hd:eB d g w) :
 Calls fz 55 #[.pointer (some ⟨g,0,none⟩),.agg c.enc.toArray] w (aX (zbu d.hd c) (zbs d c) d g w):=by
 have HE:=h_ (fun(w':fb) (hb:fo w.heap.size w w') (h0:hdEq d.hd c.oh=false)=>(show aX (zbu d.hd c) (zbs d c) d g w (.returned (.int .i64 16)) w' from by
  have:=hd.same hb 16
  unfold zbu zbs
  rw [h0]
  exact this))
 have HFIN:=h_ (fun(w1 w2:fb) (h0:hdEq d.hd c.oh=true) hb hh hs hfr ho=>(show aX (zbu d.hd c) (zbs d c) d g w (.returned (.int .i64 0)) w2 from by
  have:=zmt (d:=d) (g:=g) (w:=w) (w1:=w1) (w2:=w2) (h:=c.nh) hd hb hh hs hfr ho
  unfold zbu zbs
  rw [h0]
  exact this))
 generalize aX (zbu d.hd c) (zbs d c) d g w=Q at *
 have hgw:g<w.heap.size:=(fq.1 hd.cells).1
 have HHD:=h_ (fun(w1:fb)=>dt d w1)
 have r1:=fun wx=>zdw d.hd c.oh wx
 generalize hRE:hdEq d.hd c.oh=RE at *
 have HGC:=h_ (fun(w1:fb) (h:fo w.heap.size w w1)=>(h.block g hgw).trans hd.cells)
 clear hd hRE
 obtain⟨sec,id,name,ad,gn,oh,nh,rg,nr,oe,ne,oc,nc⟩:=c
 simp only at hsec had hgn
 subst hsec had hgn
 obtain⟨title,lA,rate,drop,last,ra,rc,rG,ea,ec,evs,ca,cc,cms⟩:=d
 generalize hcl:Chg.enc _=cl
 have hc0:cl.toArray[0]? =some (.int .u8 1):=by rw [←hcl];rfl
 have hc3:cl.toArray[3]? =some (.bool false):=by rw [←hcl];rfl
 have hc4:cl.toArray[4]? =some (.bool false):=by rw [←hcl];rfl
 have hc5:cl.toArray[5]? =some (.string oh.title):=by rw [←hcl];rfl
 have hc6:cl.toArray[6]? =some (.string oh.lA):=by rw [←hcl];rfl
 have hc7:cl.toArray[7]? =some (.int .u8 oh.rate):=by rw [←hcl];rfl
 have hc8:cl.toArray[8]? =some (.bool oh.drop):=by rw [←hcl];rfl
 have hc9:cl.toArray[9]? =some (.int .i64 oh.last):=by rw [←hcl];rfl
 have hc10:cl.toArray[10]? =some (.string nh.title):=by rw [←hcl];rfl
 have hc11:cl.toArray[11]? =some (.string nh.lA):=by rw [←hcl];rfl
 have hc12:cl.toArray[12]? =some (.int .u8 nh.rate):=by rw [←hcl];rfl
 have hc13:cl.toArray[13]? =some (.bool nh.drop):=by rw [←hcl];rfl
 have hc14:cl.toArray[14]? =some (.int .i64 nh.last):=by rw [←hcl];rfl
 have f0:=aa w cl.toArray 54 0 _ hc0
 have f3:=aa w cl.toArray 54 3 _ hc3
 have f4:=aa w cl.toArray 54 4 _ hc4
 have f5:=aa w cl.toArray 54 5 _ hc5
 have f6:=aa w cl.toArray 54 6 _ hc6
 have f7:=aa w cl.toArray 54 7 _ hc7
 have f8:=aa w cl.toArray 54 8 _ hc8
 have f9:=aa w cl.toArray 54 9 _ hc9
 have f10:=aa w cl.toArray 54 10 _ hc10
 have f11:=aa w cl.toArray 54 11 _ hc11
 have f12:=aa w cl.toArray 54 12 _ hc12
 have f13:=aa w cl.toArray 54 13 _ hc13
 have f14:=aa w cl.toArray 54 14 _ hc14
 clear hcl hc0 hc3 hc4 hc5 hc6 hc7 hc8 hc9 hc10 hc11 hc12 hc13 hc14
 simp only [Doc.enc,Doc.hd,Hd.enc] at *
 have hb0:fo (w.heap.size+1) (w.alloc (.cells cl.toArray 54)) (w.alloc (.cells cl.toArray 54)):=ft _ _
 have hs0:(w.alloc (.cells cl.toArray 54)).heap.size=w.heap.size+1:=fB _ _
 have HB:=h_ (fun(w1:fb) (h:fo (w.heap.size+1) (w.alloc (.cells cl.toArray 54)) w1)=>aq h)
 generalize hW0:w.alloc (.cells cl.toArray 54)=W0 at *
 have HW0:=h_ hW0
 have HSZ:=h_ hs0
 have HT0:=h_ (fun(w2 w3:fb) (h:fo (w.heap.size+1) W0 w2) (h3:fo w2.heap.size w2 w3)=>(h.trans (h3.mono (by have:=h.size;rw [HSZ.out] at this;exact this)):fo (w.heap.size+1) W0 w3))
 have HLT:=h_ (fun(w2:fb) (h:fo (w.heap.size+1) W0 w2)=>(show w.heap.size+1≤w2.heap.size by have:=h.size;rw [HSZ.out] at this;exact this))
 have bg:∀ (w':fb),fo (w.heap.size+1) W0 w'→∀ (j:Nat),w'.cell? ⟨g,j,none⟩=_:=fun w' h j=>ff _ _ j _ 27 (0,0) (HGC.out w' (HB.out _ h))
 have hbd:fo (w.heap.size+1) W0 W0.drew:=hb0.drew
 clear hW0 hs0
 go_enter fy,fx
 go_upto_region 1 with fail
 rw [HW0.out]
 go_upto_region 14 with fail
 go_cut [97] (fun s wx=>s=.bool (!RE)∧fo (w.heap.size+1) W0 wx)
 case first =>
  go_region_held3 (fun w'=>fo (w.heap.size+1) W0 w') (repeat (first|with_reducible assumption|with_reducible exact hbd)) (first
   | (go_at_call 33;(with_reducible refine(HHD.out _).mono ?_);rintro e w3 ⟨rfl,hb3⟩;have hc3:=HT0.out _ _ hbd hb3;clear hb3))
  all_goals
   go_wp2_with fail
   go_meet
   exact⟨rfl,hc3⟩
 case rest =>
  obtain⟨rfl,hcw⟩:=hcut
  have k:=hcw
  cases RE
  · have HX:=h_ (HE.out wc (HB.out _ hcw) rfl)
    clear HFIN HE bg f0 f3 f4 f5 f6 f7 f8 f9 f10 f11 f12 f13 f14
    go_wp2_with fail
    exact HX.out
  · clear HE
    have hgl:g<wc.heap.size:=by have:=HLT.out _ hcw;omega
    have q5:=(fo.heap_alloc wc (.cells #[fN nh.title,.string nh.lA,.int .u8 nh.rate,.bool nh.drop,.int .i64 nh.last] 41) g hgl).trans (HGC.out wc (HB.out _ hcw))
    have n5:=fg wc (.cells #[fN nh.title,.string nh.lA,.int .u8 nh.rate,.bool nh.drop,.int .i64 nh.last] 41)
    have hbw:fo wc.heap.size wc (wc.alloc (.cells #[fN nh.title,.string nh.lA,.int .u8 nh.rate,.bool nh.drop,.int .i64 nh.last] 41)):=(ft _ _).alloc (fD _) _
    have hsw:(wc.alloc (.cells #[fN nh.title,.string nh.lA,.int .u8 nh.rate,.bool nh.drop,.int .i64 nh.last] 41)).heap.size=wc.heap.size+1:=fB _ _
    go_upto_region 17 with fail
    generalize wc.alloc (.cells #[fN nh.title,.string nh.lA,.int .u8 nh.rate,.bool nh.drop,.int .i64 nh.last] 41)=w5 at *
    have e1:∀ (j:Nat),w5.cell? ⟨wc.heap.size,j,none⟩=(#[fN nh.title,.string nh.lA,.int .u8 nh.rate,.bool nh.drop,.int .i64 nh.last]:Array Value)[j]?:=fun j=>ff _ _ j _ 41 (0,0) n5
    have e2:∀ (j:Nat),w5.cell? ⟨g,j,none⟩=(#[fN title,.string lA,.int .u8 rate,.bool drop,.int .i64 last,.slice ra rG.length rc,.slice ea evs.length ec,.slice ca cms.length cc]:Array Value)[j]?:=fun j=>ff _ _ j _ 27 (0,0) q5
    have z2:∀ (j:Nat),w5.frozen? ⟨g,j,none⟩=false:=fun j=>by simp [fC,q5]
    have hne:¬ wc.heap.size=g:=by omega
    have hne':¬ g=wc.heap.size:=by omega
    have HQ5:=h_ q5
    have HBW:=h_ hbw
    have HCW:=h_ hcw
    clear q5 n5 hbw hcw bg k f0 f3 f4 f5 f6 f7 f8 f9 f10 f11 f12 f13 f14 hb0 hbd
    have HB5:=h_ ((HB.out _ HCW.out).trans (HBW.out.mono (HB.out _ HCW.out).size))
    go_region
    go_wp2_with fail
    refine HFIN.out w5 _ trivial HB5.out (e_ _ _ _ _ _ _ (e_ _ _ _ _ _ _ (e_ _ _ _ _ _ _ (e_ _ _ _ _ _ _ (e_ _ _ _ _ _ _ HQ5.out))))) (by simp) (fun b h1 h2=>?_) ⟨rfl,rfl,rfl⟩
    show((((((w5.setCell _ _).setCell _ _).setCell _ _).setCell _ _).setCell _ _)).heap[b]? =_
    rw [fr _ _ _ _ h2,fr _ _ _ _ h2,fr _ _ _ _ h2,fr _ _ _ _ h2,fr _ _ _ _ h2]
def zaY (c:Chg):Int:=if c.sec<1∨4<c.sec then 3 else if (c.added&&c.gone||(c.sec==1&&(c.added||c.gone)))=true then 1 else 0
theorem ze8 (d:Doc)(g:Nat)(c:Chg)(w:fb)(h0:0≤c.sec)(hE:zaY c≠0)(hd:eB d g w) :
 Calls fz 55 #[.pointer (some ⟨g,0,none⟩),.agg c.enc.toArray] w (aX (zaY c) d.c d g w):=by
 have HE:=h_ (fun(w':fb) (hb:fo w.heap.size w w')=>hd.same hb (zaY c))
 generalize hQ:aX (zaY c) d.c d g w=Q at *
 have hB:zaY c=if c.sec<1∨4<c.sec then 3 else if (c.added&&c.gone||(c.sec==1&&(c.added||c.gone)))=true then 1 else 0:=rfl
 generalize zaY c=E at *
 clear hd hQ
 obtain⟨sec,id,name,ad,gn,oh,nh,rg,nr,oe,ne,oc,nc⟩:=c
 simp only at hB h0
 generalize hcl:Chg.enc _=cl
 have hc0:cl.toArray[0]? =some (.int .u8 sec):=by rw [←hcl];rfl
 have hc3:cl.toArray[3]? =some (.bool ad):=by rw [←hcl];rfl
 have hc4:cl.toArray[4]? =some (.bool gn):=by rw [←hcl];rfl
 have f0:=aa w cl.toArray 54 0 _ hc0
 have f3:=aa w cl.toArray 54 3 _ hc3
 have f4:=aa w cl.toArray 54 4 _ hc4
 clear hcl hc0 hc3 hc4
 have hb0:fo (w.heap.size+1) (w.alloc (.cells cl.toArray 54)) (w.alloc (.cells cl.toArray 54)):=ft _ _
 have HX:=h_ (HE.out _ ((ft w.heap.size w).alloc (fD _) (.cells cl.toArray 54)))
 generalize hW0:w.alloc (.cells cl.toArray 54)=W0 at *
 have HW0:=h_ hW0
 clear hW0 HE
 have HB:=h_ hB
 clear hB
 by_cases s1:sec<1
 · have hx:E=3:=by rw [HB.out,if_pos (.inl s1)]
   subst hx
   go_enter fy,fx
   go_upto_region 1 with fail
   rw [HW0.out]
   go_wp2_with fail
   exact HX.out
 · by_cases s4:4<sec
   · have hx:E=3:=by rw [HB.out,if_pos (.inr s4)]
     subst hx
     go_enter fy,fx
     go_upto_region 1 with fail
     rw [HW0.out]
     go_wp2_with fail
     exact HX.out
   · have hb:(ad&&gn||(sec==1&&(ad||gn)))=true:=by
      rcases Bool.eq_false_or_eq_true (ad&&gn||(sec==1&&(ad||gn))) with h|h
      · exact h
      · exact absurd (by rw [HB.out,if_neg (fun h=>h.elim s1 s4),h];rfl) hE
     have hx:E=1:=by rw [HB.out,if_neg (fun h=>h.elim s1 s4),if_pos hb]
     subst hx
     cases ad<;>cases gn
     · simp at hb
     · obtain rfl:sec=1:=by simpa using hb
       clear hb s1 s4
       go_enter fy,fx
       go_upto_region 1 with fail
       rw [HW0.out]
       go_wp2_with fail
       exact HX.out
     · obtain rfl:sec=1:=by simpa using hb
       clear hb s1 s4
       go_enter fy,fx
       go_upto_region 1 with fail
       rw [HW0.out]
       go_wp2_with fail
       exact HX.out
     · clear hb
       go_enter fy,fx
       go_upto_region 1 with fail
       rw [HW0.out]
       go_wp2_with fail
       exact HX.out
end Go.Proofs.YtnlnmbcaongehaaGreatDoor
