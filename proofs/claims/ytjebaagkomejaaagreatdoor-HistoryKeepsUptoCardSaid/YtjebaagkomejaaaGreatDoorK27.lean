/- edit: commands in memory; within, unless, the bits of a command's fields, the errors of its text and of its rows. edit.regions: a document with its regions changed. history.clones and Clone. edit.Apply: its changes of one event. -/
import Derived.Test.YtjebaagkomejaaaGreatDoorK21
import Derived.Test.YtjebaagkomejaaaGreatDoorK22
set_option linter.unusedVariables false
set_option linter.unusedSimpArgs false
set_option maxRecDepth 100000
set_option maxHeartbeats 12800000
open Go.Lib renaming hid→h_
open Go renaming cell_of_row→Sj,World→Sk,bodyPost_end→Sl,Calls→Sm,heap_alloc_last→Sn,heap_alloc_old→Sp
open Go.World renaming frozen?→Sq,size_alloc→Sr
namespace Go.Proofs.YtjebaagkomejaaaGreatDoor
open Go.RowKit
theorem tl (x:Ed)(w:Sk)(hE:Env w)(hf:x.fits):Sm Tryz.prog 79 #[.agg x.enc.toArray] w fun e w'=>e=.returned (.int .i64 (dF x.c))∧Below w.heap.size w w':=by
 have i_:=h_ (fun(w1:Sk)=>eG x.text w1 hf.2.2.2.2.2.1)
 have nN:=h_ (fun(w1:Sk) (h:Below w.heap.size w w1)=>dJ x.text w1 hf.2.2.2.2.2.1 (hE.below h (Nat.le_refl _)))
 have hts:x.text.size≤4000000:=hf.2.2.2.2.2.1
 have HQ:=h_ (fun(q:Int) (hq:dF x.c=q) (w':Sk) (hb:Below w.heap.size w w')=>(show Ending.returned (.int .i64 q)=Ending.returned (.int .i64 (dF x.c))∧Below w.heap.size w w' from⟨by rw [hq],hb⟩))
 have hq0:dF x.c=if x.op=1 then (if x.text.size=0∨da x.text=true then 0 else 5) else if bw x.text=false then 10 else if x.op=17∧x.text.size=0 then 4 else if x.text.size≤400 then 0 else 9:=rfl
 have he:=wE x.text
 have HB:=h_ (CO w x.enc.toArray 40)
 have fW:Below w.heap.size w (w.alloc (.cells x.enc.toArray 40)):=(Below.refl _ _).alloc (Nat.le_refl _) _
 have hsA:w.heap.size+1≤(w.alloc (.cells x.enc.toArray 40)).heap.size:=by simp
 have fQ:=h_ hq0
 generalize dF x.c=G at *
 clear hE hf hq0
 go_enter Tryz.func79,Tryz.ntmps79
 go_upto_region 1 with fail
 have h0:=HB.out
 clear HB
 generalize w.alloc (.cells x.enc.toArray 40)=W at *
 have c0:W.cell? ⟨w.heap.size,0,none⟩=some (.int .u8 x.op):=Sj _ _ 0 _ 40 (0,0) h0
 have c14:W.cell? ⟨w.heap.size,14,none⟩=some (.string x.text):=Sj _ _ 14 _ 40 (0,0) h0
 have bE:=h_ fW
 have Jt:=h_ (nN.out W fW)
 clear h0 fW nN
 obtain⟨op,id,other,inn,out,frame,row,frm,til,kind,color,it,un,name,text,reg,at_,cap,rows⟩:=x
 simp only at *
 by_cases h1:op=1
 · subst h1
   have bD:=h_ (fQ.out.trans (if_pos rfl))
   by_cases h2:text.size=0
   · have he2:text.toList.isEmpty=true:=by rw [he];exact decide_eq_true h2
     have HF:=h_ (HQ.out 0 (bD.out.trans (if_pos (.inl h2))) W bE.out)
     clear HQ fQ bD he i_ Jt h2
     go_wp2_with fail
     refine(dq true 5 W).mono ?_
     rintro e w_ ⟨rfl,bm⟩
     rw [bm]
     clear bm w_
     go_wp2_with fail
     go_ret
     exact HF.out
   · have he2:text.toList.isEmpty=false:=by rw [he];exact decide_eq_false h2
     have HF:=h_ (fun(b:Bool) (hb:da text=b)=>HQ.out (if b=true then 0 else 5) (by
      rw [bD.out]
      cases b
      · rw [if_neg (fun h=>by rcases h with h|h;exact h2 h;rw [hb] at h;cases h)];rfl
      · rw [if_pos (.inr hb)];rfl) W bE.out)
     clear HQ fQ bD he Jt h2
     go_wp2_with fail
     refine(i_.out _).mono ?_
     rintro e w_ ⟨rfl,rfl⟩
     clear i_
     generalize da text=NB at *
     cases NB with
     | false =>
       have Bq:=h_ (HF.out false rfl)
       clear HF
       go_wp2_with fail
       refine(dq _ 5 W).mono ?_
       rintro e w_ ⟨rfl,bm⟩
       rw [bm]
       clear bm w_
       go_wp2_with fail
       go_ret
       exact Bq.out
     | true =>
       have Bq:=h_ (HF.out true rfl)
       clear HF
       go_wp2_with fail
       refine(dq _ 5 W).mono ?_
       rintro e w_ ⟨rfl,bm⟩
       rw [bm]
       clear bm w_
       go_wp2_with fail
       go_ret
       exact Bq.out
 · have h1':(op==1)=false:=by simpa using h1
   have bD:=h_ (fQ.out.trans (if_neg h1))
   clear fQ h1 i_
   go_wp2_with fail
   refine Jt.out.mono ?_
   rintro e w1 ⟨rfl,hb1⟩
   have d0:w1.cell? ⟨w.heap.size,0,none⟩=some (.int .u8 op):=(hb1.cell (p:=⟨w.heap.size,0,none⟩) (by simp only;omega)).trans c0
   have d14:w1.cell? ⟨w.heap.size,14,none⟩=some (.string text):=(hb1.cell (p:=⟨w.heap.size,14,none⟩) (by simp only;omega)).trans c14
   have hbe:=bE.out.trans (hb1.mono (by omega))
   clear Jt hb1 bE c0 c14
   generalize bw text=VB at *
   cases VB with
   | false =>
     have HF:=h_ (HQ.out 10 (bD.out.trans (if_pos (by first|rfl|trivial))) w1 hbe)
     clear HQ bD he
     go_wp2_with fail
     go_ret
     exact HF.out
   | true =>
     have jF:=h_ (bD.out.trans (if_neg (by intro h;first|cases h|exact absurd h (by decide))))
     clear bD
     by_cases h3:op=17∧text.size=0
     · obtain⟨rfl,h3⟩:=h3
       have he2:text.toList.isEmpty=true:=by rw [he];exact decide_eq_true h3
       have HF:=h_ (HQ.out 4 (jF.out.trans (if_pos ⟨rfl,h3⟩)) w1 hbe)
       clear HQ jF he h3
       go_wp2_with fail
       go_ret
       exact HF.out
     · have jW:=h_ (jF.out.trans (if_neg h3))
       clear jF
       have hcond:((op==17)&&text.toList.isEmpty)=false:=by
        rw [he,Bool.eq_false_iff]
        intro h
        rw [Bool.and_eq_true] at h
        exact h3 ⟨by simpa using h.1,by simpa using h.2⟩
       clear h3
       by_cases h5:text.size≤400
       · have HF:=h_ (HQ.out 0 (jW.out.trans (if_pos h5)) w1 hbe)
         have OE:(text.size:Int)≤400:=by omega
         clear HQ jW h5
         by_cases h4:op=17
         · subst h4
           have he2:text.toList.isEmpty=false:=by simpa using hcond
           clear hcond he
           go_wp2_with fail
           refine(dq _ 9 w1).mono ?_
           rintro e w_ ⟨rfl,bm⟩
           rw [bm]
           clear bm w_
           go_wp2_with fail
           go_ret
           exact HF.out
         · have h4':(op==17)=false:=by simpa using h4
           clear hcond he h4
           go_wp2_with fail
           refine(dq _ 9 w1).mono ?_
           rintro e w_ ⟨rfl,bm⟩
           rw [bm]
           clear bm w_
           go_wp2_with fail
           go_ret
           exact HF.out
       · have HF:=h_ (HQ.out 9 (jW.out.trans (if_neg h5)) w1 hbe)
         have OE:(400:Int)<(text.size:Int):=by omega
         clear HQ jW h5
         by_cases h4:op=17
         · subst h4
           have he2:text.toList.isEmpty=false:=by simpa using hcond
           clear hcond he
           go_wp2_with fail
           refine(dq _ 9 w1).mono ?_
           rintro e w_ ⟨rfl,bm⟩
           rw [bm]
           clear bm w_
           go_wp2_with fail
           go_ret
           exact HF.out
         · have h4':(op==17)=false:=by simpa using h4
           clear hcond he h4
           go_wp2_with fail
           refine(dq _ 9 w1).mono ?_
           rintro e w_ ⟨rfl,bm⟩
           rw [bm]
           clear bm w_
           go_wp2_with fail
           go_ret
           exact HF.out
theorem vZ (w:Sk)(ds es zd:Array Value):(((w.alloc (.cells ds 27)).alloc (.cells es 40)).alloc (.cells zd 27)).heap[w.heap.size]? =some (.cells ds 27 (0,0))∧(((w.alloc (.cells ds 27)).alloc (.cells es 40)).alloc (.cells zd 27)).heap[w.heap.size+1]? =some (.cells es 40 (0,0))∧(((w.alloc (.cells ds 27)).alloc (.cells es 40)).alloc (.cells zd 27)).heap[w.heap.size+1+1]? =some (.cells zd 27 (0,0)):=by
 refine⟨(Sp _ _ (by simp;try omega)).trans ((Sp _ _ (by simp)).trans (Sn _ _)),(Sp _ _ (by simp)).trans ?_,?_⟩
 · have:=Sn (w.alloc (.cells ds 27)) (.cells es 40)
   rw [Sr] at this
   exact this
 · have:=Sn ((w.alloc (.cells ds 27)).alloc (.cells es 40)) (.cells zd 27)
   rw [Sr,Sr] at this
   exact this
theorem Ia (x:Ed)(j:Nat)(v:Value)(h:x.reg.enc[j]? =some v):x.enc[15+j]? =some v:=by
 have hj:j<7:=(List.getElem?_eq_some_iff.1 h).1
 obtain rfl|rfl|rfl|rfl|rfl|rfl|rfl:j=0∨j=1∨j=2∨j=3∨j=4∨j=5∨j=6:=by omega
 all_goals exact h
theorem nv {w:Sk} {g:Nat} {x:Ed} (h:w.heap[g]? =some (.cells x.enc.toArray 40 (0,0))):w.rangeAt g 15 x.reg.enc:=fun j v hv=>by
 rw [Sj _ _ (15+j) _ 40 (0,0) h]
 simpa using Ia x j v hv
theorem pS:(Tryz.prog.info? 37).map (·.size)=some 7:=by kernel_rfl
theorem iX (a:Option Addr)(c:Nat)(w:Sk):Sm Tryz.prog 62 #[.slice a 0 c] w fun e w'=>e=.returned (.slice none 0 0)∧Below w.heap.size w w':=by
 have HQ:=h_ (fun(w':Sk) (h:Below w.heap.size w w')=>(show(fun(e:Ending) (w':Sk)=>e=.returned (.slice none 0 0)∧Below w.heap.size w w') (.returned (.slice none 0 0)) w' from⟨rfl,h⟩))
 generalize (fun(e:Ending) (w':Sk)=>e=.returned (.slice none 0 0)∧Below w.heap.size w w')=Q at *
 go_enter Tryz.func62,Tryz.ntmps62
 go_wp2_with fail
 go_loopw [3,8] (fun u v wr=>u=.slice none 0 0∧v=.int .i64 0∧wr=w) (fun _ _ _=>0)
 case atStart=>exact⟨rfl,rfl,rfl⟩
 case round =>
  obtain⟨rfl,rfl,rfl⟩:=hrel
  have HF:=h_ (HQ.out wr (Below.refl _ _))
  clear HQ
  go_wp2_with fail
  first
   | exact HF.out
   | (go_ret;exact HF.out)
theorem lU (w:Sk):Sm Tryz.prog 23 #[.pointer none] w fun e w'=>e=.returned (.pointer none)∧w'=w:=by
 go_enter Tryz.func23,Tryz.ntmps23
 go_wp2_with fail
 go_ret
 exact⟨rfl,rfl⟩
def nU (c:HsC)(w:Sk)(e:Ending)(w':Sk):Prop:=∃ (b:Nat) (h:Hs),e=.returned (.pointer (some ⟨b,0,none⟩))∧HsAt b h w'∧h.c=c∧(∀ k,h.own b k→w.heap.size≤k)∧(∀ d∈h.docs,kV w d)∧Below w.heap.size w w'
theorem uz (g gx:Nat)(x:Ed)(y:Ev)(w:Sk)(h1:w.heap[g]? =some (.cells y.enc.toArray 72 (0,0)))(h2:w.heap[gx]? =some (.cells x.enc.toArray 40 (0,0))) :
 Sm Tryz.prog 33 #[.pointer (some ⟨g,0,none⟩),.pointer (some ⟨gx,0,none⟩)] w fun e w'=>(∃ v,e=.returned v)∧w'.heap[g]? =some (.cells ({ y with inn:=x.inn,out:=x.out }:Ev).enc.toArray 72 (0,0))∧Kept (fun b=>b=g) w w':=by
 have q3:w.cell? ⟨gx,3,none⟩=some (.int .i64 x.inn):=Sj _ _ 3 _ 40 (0,0) h2
 have q4:w.cell? ⟨gx,4,none⟩=some (.int .i64 x.out):=Sj _ _ 4 _ 40 (0,0) h2
 have p1:w.cell? ⟨g,1,none⟩=some (.int .i64 y.inn):=Sj _ _ 1 _ 72 (0,0) h1
 have p2:w.cell? ⟨g,2,none⟩=some (.int .i64 y.out):=Sj _ _ 2 _ 72 (0,0) h1
 have fz:∀ j,w.frozen? ⟨g,j,none⟩=false:=fun j=>by simp [Sq,h1]
 have R:((w.setCell ⟨g,1,none⟩ (.int .i64 x.inn)).setCell ⟨g,2,none⟩ (.int .i64 x.out)).heap[g]? =some (.cells ({ y with inn:=x.inn,out:=x.out }:Ev).enc.toArray 72 (0,0)):=by
  rw [heap_setCell_same _ g 2 _ 72 (.int .i64 x.out) (heap_setCell_same w g 1 _ 72 (.int .i64 x.inn) h1)]
  simp [Ev.enc]
 have K:Kept (fun b=>b=g) w ((w.setCell ⟨g,1,none⟩ (.int .i64 x.inn)).setCell ⟨g,2,none⟩ (.int .i64 x.out)):=bG (bG (Kept.refl _ _) 1 _) 2 _
 go_enter Tryz.func33,Tryz.ntmps33
 go_wp2_with fail
 refine Sl (v:=.tuple #[]) (by simp [results,Tryz.results33,go_sem]) rfl ?_
 exact⟨⟨_,rfl⟩,R,K⟩
theorem uy (g gx:Nat)(x:Ed)(y:Ev)(w:Sk)(h1:w.heap[g]? =some (.cells y.enc.toArray 72 (0,0)))(h2:w.heap[gx]? =some (.cells x.enc.toArray 40 (0,0))) :
 Sm Tryz.prog 34 #[.pointer (some ⟨g,0,none⟩),.pointer (some ⟨gx,0,none⟩)] w fun e w'=>(∃ v,e=.returned v)∧w'.heap[g]? =some (.cells ({ y with at_:=x.at_,cap:=x.cap,rows:=x.rows }:Ev).enc.toArray 72 (0,0))∧Kept (fun b=>b=g) w w':=by
 have q22:w.cell? ⟨gx,22,none⟩=some (.slice x.at_ x.rows.length x.cap):=Sj _ _ 22 _ 40 (0,0) h2
 have p6:w.cell? ⟨g,6,none⟩=some (.slice y.at_ y.rows.length y.cap):=Sj _ _ 6 _ 72 (0,0) h1
 have fz:∀ j,w.frozen? ⟨g,j,none⟩=false:=fun j=>by simp [Sq,h1]
 have R:(w.setCell ⟨g,6,none⟩ (.slice x.at_ x.rows.length x.cap)).heap[g]? =some (.cells ({ y with at_:=x.at_,cap:=x.cap,rows:=x.rows }:Ev).enc.toArray 72 (0,0)):=by
  rw [heap_setCell_same w g 6 _ 72 (.slice x.at_ x.rows.length x.cap) h1]
  simp [Ev.enc]
 have K:Kept (fun b=>b=g) w (w.setCell ⟨g,6,none⟩ (.slice x.at_ x.rows.length x.cap)):=bG (Kept.refl _ _) 6 _
 go_enter Tryz.func34,Tryz.ntmps34
 go_wp2_with fail
 refine Sl (v:=.tuple #[]) (by simp [results,Tryz.results34,go_sem]) rfl ?_
 exact⟨⟨_,rfl⟩,R,K⟩
theorem ux (g gx:Nat)(x:Ed)(y:Ev)(w:Sk)(h1:w.heap[g]? =some (.cells y.enc.toArray 72 (0,0)))(h2:w.heap[gx]? =some (.cells x.enc.toArray 40 (0,0))) :
 Sm Tryz.prog 35 #[.pointer (some ⟨g,0,none⟩),.pointer (some ⟨gx,0,none⟩)] w fun e w'=>(∃ v,e=.returned v)∧w'.heap[g]? =some (.cells ({ y with region:=x.name }:Ev).enc.toArray 72 (0,0))∧Kept (fun b=>b=g) w w':=by
 have q13:w.cell? ⟨gx,13,none⟩=some (.string x.name):=Sj _ _ 13 _ 40 (0,0) h2
 have p3:w.cell? ⟨g,3,none⟩=some (.string y.region):=Sj _ _ 3 _ 72 (0,0) h1
 have fz:∀ j,w.frozen? ⟨g,j,none⟩=false:=fun j=>by simp [Sq,h1]
 have R:(w.setCell ⟨g,3,none⟩ (.string x.name)).heap[g]? =some (.cells ({ y with region:=x.name }:Ev).enc.toArray 72 (0,0)):=by
  rw [heap_setCell_same w g 3 _ 72 (.string x.name) h1]
  simp [Ev.enc]
 have K:Kept (fun b=>b=g) w (w.setCell ⟨g,3,none⟩ (.string x.name)):=bG (Kept.refl _ _) 3 _
 go_enter Tryz.func35,Tryz.ntmps35
 go_wp2_with fail
 refine Sl (v:=.tuple #[]) (by simp [results,Tryz.results35,go_sem]) rfl ?_
 exact⟨⟨_,rfl⟩,R,K⟩
theorem uw (g gx:Nat)(x:Ed)(y:Ev)(w:Sk)(h1:w.heap[g]? =some (.cells y.enc.toArray 72 (0,0)))(h2:w.heap[gx]? =some (.cells x.enc.toArray 40 (0,0))) :
 Sm Tryz.prog 36 #[.pointer (some ⟨g,0,none⟩),.pointer (some ⟨gx,0,none⟩)] w fun e w'=>(∃ v,e=.returned v)∧w'.heap[g]? =some (.cells ({ y with kind:=x.kind }:Ev).enc.toArray 72 (0,0))∧Kept (fun b=>b=g) w w':=by
 have q9:w.cell? ⟨gx,9,none⟩=some (.int .u8 x.kind):=Sj _ _ 9 _ 40 (0,0) h2
 have p4:w.cell? ⟨g,4,none⟩=some (.int .u8 y.kind):=Sj _ _ 4 _ 72 (0,0) h1
 have fz:∀ j,w.frozen? ⟨g,j,none⟩=false:=fun j=>by simp [Sq,h1]
 have R:(w.setCell ⟨g,4,none⟩ (.int .u8 x.kind)).heap[g]? =some (.cells ({ y with kind:=x.kind }:Ev).enc.toArray 72 (0,0)):=by
  rw [heap_setCell_same w g 4 _ 72 (.int .u8 x.kind) h1]
  simp [Ev.enc]
 have K:Kept (fun b=>b=g) w (w.setCell ⟨g,4,none⟩ (.int .u8 x.kind)):=bG (Kept.refl _ _) 4 _
 go_enter Tryz.func36,Tryz.ntmps36
 go_wp2_with fail
 refine Sl (v:=.tuple #[]) (by simp [results,Tryz.results36,go_sem]) rfl ?_
 exact⟨⟨_,rfl⟩,R,K⟩
theorem uu (g gx:Nat)(x:Ed)(y:Ev)(w:Sk)(h1:w.heap[g]? =some (.cells y.enc.toArray 72 (0,0)))(h2:w.heap[gx]? =some (.cells x.enc.toArray 40 (0,0))) :
 Sm Tryz.prog 37 #[.pointer (some ⟨g,0,none⟩),.pointer (some ⟨gx,0,none⟩)] w fun e w'=>(∃ v,e=.returned v)∧w'.heap[g]? =some (.cells ({ y with speaker:=x.name }:Ev).enc.toArray 72 (0,0))∧Kept (fun b=>b=g) w w':=by
 have q13:w.cell? ⟨gx,13,none⟩=some (.string x.name):=Sj _ _ 13 _ 40 (0,0) h2
 have p5:w.cell? ⟨g,5,none⟩=some (.string y.speaker):=Sj _ _ 5 _ 72 (0,0) h1
 have fz:∀ j,w.frozen? ⟨g,j,none⟩=false:=fun j=>by simp [Sq,h1]
 have R:(w.setCell ⟨g,5,none⟩ (.string x.name)).heap[g]? =some (.cells ({ y with speaker:=x.name }:Ev).enc.toArray 72 (0,0)):=by
  rw [heap_setCell_same w g 5 _ 72 (.string x.name) h1]
  simp [Ev.enc]
 have K:Kept (fun b=>b=g) w (w.setCell ⟨g,5,none⟩ (.string x.name)):=bG (Kept.refl _ _) 5 _
 go_enter Tryz.func37,Tryz.ntmps37
 go_wp2_with fail
 refine Sl (v:=.tuple #[]) (by simp [results,Tryz.results37,go_sem]) rfl ?_
 exact⟨⟨_,rfl⟩,R,K⟩
theorem j3 {f:EvC→Int × EvC} {B g:Nat} {y y2:Ev} {w w':Sk} (hf0:(f y.c)=(0,y2.c))(hB:B≤g)(hgw:g<w.heap.size)(hl:y2.lies w)(hu:∀ k,y2.uses k→k≠g)(hfit:y2.fits)(hr:w'.heap[g]? =some (.cells y2.enc.toArray 72 (0,0)))(hk:Kept (fun b=>b=g) w w'):cS f B g y w (.returned (.int .i64 0)) w':=by
 refine⟨y2,by rw [hf0],fun _=>⟨by rw [hf0],Ev.frame hl hk.size fun k h=>hk.block k (Ev.uses_lt hl h) (hu k h),hfit,hr⟩,hk.below (by omega) fun b hb e=>by omega⟩
theorem DZ (g3 gx:Nat)(x:Ed)(w:Sk)(hb3:w.heap[g3]? =some (.cells #[.func (.func 33) #[] #[.pointer (some ⟨gx,0,none⟩)]] 83 (0,0)))(hbx:w.heap[gx]? =some (.cells x.enc.toArray 40 (0,0)))(hxl:x.lies w)(hx:x.fits):fC 30 #[.pointer (some ⟨g3,0,none⟩)] (fun e=>(0,{ e with inn:=x.inn,out:=x.out })) w:=by
 intro g B y w1 hb hB hBg hyl hyu rE h hg rF hyp
 have hs:=hb.size
 have l3:=aR hb3
 have lx:=aR hbx
 have lg:=aR hg
 have c3:w1.cell? ⟨g3,0,none⟩=some (.func (.func 33) #[] #[.pointer (some ⟨gx,0,none⟩)]):=Sj _ _ 0 _ 83 (0,0) ((hb.block g3 l3).trans hb3)
 have HM:=h_ (uz g gx x y w1 hg ((hb.block gx lx).trans hbx))
 have HP:=h_ (fun(w':Sk) (hr:w'.heap[g]? =some (.cells ({ y with inn:=x.inn,out:=x.out }:Ev).enc.toArray 72 (0,0))) (hk:Kept (fun b=>b=g) w1 w')=>j3 (f:=fun e=>(0,{ e with inn:=x.inn,out:=x.out })) (B:=B) (y:=y) (y2:={ y with inn:=x.inn,out:=x.out }) rfl hBg lg (hyl) (fun k h=>(hyu k h).2) ⟨h.1,hx.2.1.2.2.1,hx.2.1.2.2.2.1,h.2.2.2⟩ hr hk)
 generalize cS (fun e=>(0,{ e with inn:=x.inn,out:=x.out })) B g y w1=Q at *
 show Sm Tryz.prog 30 #[.pointer (some ⟨g,0,none⟩),.pointer (some ⟨g3,0,none⟩)] w1 Q
 clear hyl hyu rE h hg rF hyp hb hb3 hbx hxl hx
 go_enter Tryz.func30,Tryz.ntmps30
 go_wp2_with fail
 refine HM.out.mono ?_
 rintro e w2 ⟨⟨v,rfl⟩,hr,hk⟩
 have HF:=h_ (HP.out w2 hr hk)
 clear HM HP hr hk
 go_wp2_with fail
 exact HF.out
theorem DY (g3 gx:Nat)(x:Ed)(w:Sk)(hb3:w.heap[g3]? =some (.cells #[.func (.func 34) #[] #[.pointer (some ⟨gx,0,none⟩)]] 83 (0,0)))(hbx:w.heap[gx]? =some (.cells x.enc.toArray 40 (0,0)))(hxl:x.lies w)(hx:x.fits):fC 30 #[.pointer (some ⟨g3,0,none⟩)] (fun e=>(0,{ e with rows:=x.rows.map Row.runs })) w:=by
 intro g B y w1 hb hB hBg hyl hyu rE h hg rF hyp
 have hs:=hb.size
 have l3:=aR hb3
 have lx:=aR hbx
 have lg:=aR hg
 have c3:w1.cell? ⟨g3,0,none⟩=some (.func (.func 34) #[] #[.pointer (some ⟨gx,0,none⟩)]):=Sj _ _ 0 _ 83 (0,0) ((hb.block g3 l3).trans hb3)
 have HM:=h_ (uy g gx x y w1 hg ((hb.block gx lx).trans hbx))
 have HP:=h_ (fun(w':Sk) (hr:w'.heap[g]? =some (.cells ({ y with at_:=x.at_,cap:=x.cap,rows:=x.rows }:Ev).enc.toArray 72 (0,0))) (hk:Kept (fun b=>b=g) w1 w')=>j3 (f:=fun e=>(0,{ e with rows:=x.rows.map Row.runs })) (B:=B) (y:=y) (y2:={ y with at_:=x.at_,cap:=x.cap,rows:=x.rows }) rfl hBg lg (Ed.later hxl hb) (fun k h=>by have:=gM hxl h;omega) ⟨h.1,h.2.1,h.2.2.1,h.2.2.2.1,h.2.2.2.2.1,h.2.2.2.2.2.1,h.2.2.2.2.2.2.1,hx.2.2.2.2.2.2.2.1,hx.2.2.2.2.2.2.2.2⟩ hr hk)
 generalize cS (fun e=>(0,{ e with rows:=x.rows.map Row.runs })) B g y w1=Q at *
 show Sm Tryz.prog 30 #[.pointer (some ⟨g,0,none⟩),.pointer (some ⟨g3,0,none⟩)] w1 Q
 clear hyl hyu rE h hg rF hyp hb hb3 hbx hxl hx
 go_enter Tryz.func30,Tryz.ntmps30
 go_wp2_with fail
 refine HM.out.mono ?_
 rintro e w2 ⟨⟨v,rfl⟩,hr,hk⟩
 have HF:=h_ (HP.out w2 hr hk)
 clear HM HP hr hk
 go_wp2_with fail
 exact HF.out
theorem DX (g3 gx:Nat)(x:Ed)(w:Sk)(hb3:w.heap[g3]? =some (.cells #[.func (.func 35) #[] #[.pointer (some ⟨gx,0,none⟩)]] 83 (0,0)))(hbx:w.heap[gx]? =some (.cells x.enc.toArray 40 (0,0)))(hxl:x.lies w)(hx:x.fits):fC 30 #[.pointer (some ⟨g3,0,none⟩)] (fun e=>(0,{ e with region:=x.name })) w:=by
 intro g B y w1 hb hB hBg hyl hyu rE h hg rF hyp
 have hs:=hb.size
 have l3:=aR hb3
 have lx:=aR hbx
 have lg:=aR hg
 have c3:w1.cell? ⟨g3,0,none⟩=some (.func (.func 35) #[] #[.pointer (some ⟨gx,0,none⟩)]):=Sj _ _ 0 _ 83 (0,0) ((hb.block g3 l3).trans hb3)
 have HM:=h_ (ux g gx x y w1 hg ((hb.block gx lx).trans hbx))
 have HP:=h_ (fun(w':Sk) (hr:w'.heap[g]? =some (.cells ({ y with region:=x.name }:Ev).enc.toArray 72 (0,0))) (hk:Kept (fun b=>b=g) w1 w')=>j3 (f:=fun e=>(0,{ e with region:=x.name })) (B:=B) (y:=y) (y2:={ y with region:=x.name }) rfl hBg lg (hyl) (fun k h=>(hyu k h).2) ⟨h.1,h.2.1,h.2.2.1,hx.2.2.2.2.1,h.2.2.2.2⟩ hr hk)
 generalize cS (fun e=>(0,{ e with region:=x.name })) B g y w1=Q at *
 show Sm Tryz.prog 30 #[.pointer (some ⟨g,0,none⟩),.pointer (some ⟨g3,0,none⟩)] w1 Q
 clear hyl hyu rE h hg rF hyp hb hb3 hbx hxl hx
 go_enter Tryz.func30,Tryz.ntmps30
 go_wp2_with fail
 refine HM.out.mono ?_
 rintro e w2 ⟨⟨v,rfl⟩,hr,hk⟩
 have HF:=h_ (HP.out w2 hr hk)
 clear HM HP hr hk
 go_wp2_with fail
 exact HF.out
theorem DW (g3 gx:Nat)(x:Ed)(w:Sk)(hb3:w.heap[g3]? =some (.cells #[.func (.func 36) #[] #[.pointer (some ⟨gx,0,none⟩)]] 83 (0,0)))(hbx:w.heap[gx]? =some (.cells x.enc.toArray 40 (0,0)))(hxl:x.lies w)(hx:x.fits):fC 30 #[.pointer (some ⟨g3,0,none⟩)] (fun e=>(0,{ e with kind:=x.kind })) w:=by
 intro g B y w1 hb hB hBg hyl hyu rE h hg rF hyp
 have hs:=hb.size
 have l3:=aR hb3
 have lx:=aR hbx
 have lg:=aR hg
 have c3:w1.cell? ⟨g3,0,none⟩=some (.func (.func 36) #[] #[.pointer (some ⟨gx,0,none⟩)]):=Sj _ _ 0 _ 83 (0,0) ((hb.block g3 l3).trans hb3)
 have HM:=h_ (uw g gx x y w1 hg ((hb.block gx lx).trans hbx))
 have HP:=h_ (fun(w':Sk) (hr:w'.heap[g]? =some (.cells ({ y with kind:=x.kind }:Ev).enc.toArray 72 (0,0))) (hk:Kept (fun b=>b=g) w1 w')=>j3 (f:=fun e=>(0,{ e with kind:=x.kind })) (B:=B) (y:=y) (y2:={ y with kind:=x.kind }) rfl hBg lg (hyl) (fun k h=>(hyu k h).2) ⟨h.1,h.2.1,h.2.2.1,h.2.2.2.1,hx.2.2.1.1,hx.2.2.1.2,h.2.2.2.2.2.2⟩ hr hk)
 generalize cS (fun e=>(0,{ e with kind:=x.kind })) B g y w1=Q at *
 show Sm Tryz.prog 30 #[.pointer (some ⟨g,0,none⟩),.pointer (some ⟨g3,0,none⟩)] w1 Q
 clear hyl hyu rE h hg rF hyp hb hb3 hbx hxl hx
 go_enter Tryz.func30,Tryz.ntmps30
 go_wp2_with fail
 refine HM.out.mono ?_
 rintro e w2 ⟨⟨v,rfl⟩,hr,hk⟩
 have HF:=h_ (HP.out w2 hr hk)
 clear HM HP hr hk
 go_wp2_with fail
 exact HF.out
theorem DV (g3 gx:Nat)(x:Ed)(w:Sk)(hb3:w.heap[g3]? =some (.cells #[.func (.func 37) #[] #[.pointer (some ⟨gx,0,none⟩)]] 83 (0,0)))(hbx:w.heap[gx]? =some (.cells x.enc.toArray 40 (0,0)))(hxl:x.lies w)(hx:x.fits):fC 30 #[.pointer (some ⟨g3,0,none⟩)] (fun e=>(0,{ e with speaker:=x.name })) w:=by
 intro g B y w1 hb hB hBg hyl hyu rE h hg rF hyp
 have hs:=hb.size
 have l3:=aR hb3
 have lx:=aR hbx
 have lg:=aR hg
 have c3:w1.cell? ⟨g3,0,none⟩=some (.func (.func 37) #[] #[.pointer (some ⟨gx,0,none⟩)]):=Sj _ _ 0 _ 83 (0,0) ((hb.block g3 l3).trans hb3)
 have HM:=h_ (uu g gx x y w1 hg ((hb.block gx lx).trans hbx))
 have HP:=h_ (fun(w':Sk) (hr:w'.heap[g]? =some (.cells ({ y with speaker:=x.name }:Ev).enc.toArray 72 (0,0))) (hk:Kept (fun b=>b=g) w1 w')=>j3 (f:=fun e=>(0,{ e with speaker:=x.name })) (B:=B) (y:=y) (y2:={ y with speaker:=x.name }) rfl hBg lg (hyl) (fun k h=>(hyu k h).2) ⟨h.1,h.2.1,h.2.2.1,h.2.2.2.1,h.2.2.2.2.1,h.2.2.2.2.2.1,hx.2.2.2.2.1,h.2.2.2.2.2.2.2⟩ hr hk)
 generalize cS (fun e=>(0,{ e with speaker:=x.name })) B g y w1=Q at *
 show Sm Tryz.prog 30 #[.pointer (some ⟨g,0,none⟩),.pointer (some ⟨g3,0,none⟩)] w1 Q
 clear hyl hyu rE h hg rF hyp hb hb3 hbx hxl hx
 go_enter Tryz.func30,Tryz.ntmps30
 go_wp2_with fail
 refine HM.out.mono ?_
 rintro e w2 ⟨⟨v,rfl⟩,hr,hk⟩
 have HF:=h_ (HP.out w2 hr hk)
 clear HM HP hr hk
 go_wp2_with fail
 exact HF.out
theorem wv (d:DocC)(e:EvC):(insertC d e).1=aQ d e:=by
 rw [qq]
 split
 · rfl
 · rename_i h;exact(Classical.not_not.1 h).symm
theorem yG (d:DocC)(id fr til:Int)(au tx:ByteArray):(fL d id fr til au tx).1=bN d id fr til au tx:=by
 unfold fL
 split
 · rfl
 · rename_i h;exact(Classical.not_not.1 h).symm
def wF (d:DocC)(x:EdC):Nat→Int × DocC
 | 1=>insertC d ⟨0,x.inn,x.out,x.name,x.kind,x.text,x.rows⟩
 | 2=>br d x.id
 | 3=>aF d x.id fun e=>(0,{ e with inn:=x.inn,out:=x.out })
 | 4=>aF d x.id fun e=>(0,{ e with rows:=x.rows })
 | 5=>aF d x.id fun e=>(0,{ e with region:=x.name })
 | 6=>aF d x.id fun e=>(0,{ e with kind:=x.kind })
 | 7=>aF d x.id fun e=>(0,{ e with speaker:=x.name })
 | 8=>aF d x.id (restyle x)
 | 9=>et d x
 | 10=>gR d x
 | 11=>dY d x.frame x.other
 | 15=>(0,{ d with hd:={ d.hd with title:=x.text } })
 | 16=>(0,{ d with hd:={ d.hd with lA:=x.name } })
 | 17=>fL d x.id x.frm x.til x.name x.text
 | 18=>bZ d x.id
 | 19=>bX d x.id
 | _=>fo d x
theorem qJ (d:DocC)(x:EdC):cj d x=if cErr d≠0 then (cErr d,aU) else if gE x≠0 then (gE x,aU) else wF d x x.op.toNat:=by
 unfold cj wF
 rfl
theorem BZ {x:EdC} (h:gE x=0):1≤x.op∧x.op≤19:=by
 unfold gE at h
 split at h
 · cases h
 · omega
theorem Gj {x:EdC} (h:gE x=0)(h8:x.op=8):0≤x.row:=by
 unfold gE at h
 split at h
 · cases h
 · split at h
   · cases h
   · split at h
     · cases h
     · rename_i hr
       have hr':kk x=true:=by simpa using hr
       unfold kk at hr'
       simp only [Bool.and_eq_true] at hr'
       have h4:=hr'.1.2
       have hh:el x 4=true:=by unfold el;rw [h8];rfl
       rw [hh] at h4
       have:inB x.row 0 3=true:=by simpa using h4
       unfold inB at this
       simp at this
       exact this.1
theorem hZ {d:DocC} {x:EdC} {r:Int × DocC} {q:Int} {n:Nat} (h:r=wF d x x.op.toNat)(e:x.op=q)(hq:q.toNat=n:=by rfl):r=wF d x n:=by rw [h,e,hq]
theorem ic {W:Sk} {g:Nat} {x:Ed} {q:Int} (r:W.heap[g]? =some (.cells x.enc.toArray 40 (0,0)))(e:x.op=q):W.cell? ⟨g,0,none⟩=some (.int .u8 q):=(Sj _ _ 0 _ 40 (0,0) r).trans (by
 show some (Value.int .u8 x.op)=_
 rw [e])
theorem apF {D:Doc} {c:DocC} {w v:Sk} (h1:D.c=c)(h2:D.lies v)(h3:∀ b,D.uses b→w.heap.size+3≤b)(h4:Below w.heap.size w v):D.c=c∧D.lies (v.setRow (w.heap.size+1+1) D.enc.toArray)∧(∀ b,D.uses b→w.heap.size≤b)∧Below w.heap.size w (v.setRow (w.heap.size+1+1) D.enc.toArray) :=
 ⟨h1,Doc.frame h2 (by rw [size_setRow];exact Nat.le_refl _) (fun b hb=>aK _ _ _ _ (by have:=h3 b hb;omega)),fun b hb=>by have:=h3 b hb;omega,below_setRow h4 (by omega) _⟩
end Go.Proofs.YtjebaagkomejaaaGreatDoor
