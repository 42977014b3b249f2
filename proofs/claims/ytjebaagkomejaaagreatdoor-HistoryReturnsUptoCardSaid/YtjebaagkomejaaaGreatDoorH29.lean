/- edit: commands in memory; within, unless, the bits of a command's fields, the errors of its text and of its rows. How the reading of a drawn command gives a command in memory. edit.Check: the error of a command by itself. -/
import Derived.Test.YtjebaagkomejaaaGreatDoorH28
import Derived.Test.YtjebaagkomejaaaGreatDoorH27
set_option linter.unusedVariables false
set_option linter.unusedSimpArgs false
set_option maxRecDepth 100000
set_option maxHeartbeats 12800000
open Go.Lib renaming hid→h_
open Go renaming World→Sh,cell_of_row→Si,wpList_store_row→Sj,setRow_heap→Sk,below_setRow→Sl
open Go.RowKit renaming Below→Sm
open Nat renaming le_refl→Sn,zero_le→Sp
open Bool renaming and_eq_true→Sq,and_assoc→Sr,and_true→Ss
open Go.DataW renaming trod_int→St,trod_struct→Su,trod_string→Sv,trod_bool→Sw
open List renaming getElem?_eq_some_iff→Sx,mem_or_eq_of_mem_set→Sy,mem_singleton→Sz,all_cons→SA,all_nil→SB
open Go.Value.slice renaming injEq→SC
namespace Go.Proofs.YtjebaagkomejaaaGreatDoor
open Go.RowKit
theorem sM (x:Ed)(w:Sh)(hE:Env w)(hf:x.fits):Calls Tryz.prog 79 #[.agg x.enc.toArray] w fun e w'=>e=.returned (.int .i64 (dJ x.c))∧Sm w.heap.size w w':=by
 have jd:=h_ (fun(w1:Sh)=>eK x.text w1 hf.2.2.2.2.2.1)
 have nG:=h_ (fun(w1:Sh) (h:Sm w.heap.size w w1)=>dM x.text w1 hf.2.2.2.2.2.1 (hE.below h (Sn _)))
 have hts:x.text.size≤4000000:=hf.2.2.2.2.2.1
 have HQ:=h_ (fun(q:Int) (hq:dJ x.c=q) (w':Sh) (hb:Sm w.heap.size w w')=>(show Ending.returned (.int .i64 q)=Ending.returned (.int .i64 (dJ x.c))∧Sm w.heap.size w w' from⟨by rw [hq],hb⟩))
 have hq0:dJ x.c=if x.op=1 then (if x.text.size=0∨c_ x.text=true then 0 else 5) else if bB x.text=false then 10 else if x.op=17∧x.text.size=0 then 4 else if x.text.size≤400 then 0 else 9:=rfl
 have he:=vT x.text
 have HB:=h_ (CL w x.enc.toArray 40)
 have gn:Sm w.heap.size w (w.alloc (.cells x.enc.toArray 40)):=(Sm.refl _ _).alloc (Sn _) _
 have hsA:w.heap.size+1≤(w.alloc (.cells x.enc.toArray 40)).heap.size:=by simp
 have fI:=h_ hq0
 generalize dJ x.c=G at *
 clear hE hf hq0
 go_enter Tryz.func79,Tryz.ntmps79
 go_upto_region 1 with fail
 have h0:=HB.out
 clear HB
 generalize w.alloc (.cells x.enc.toArray 40)=W at *
 have c0:W.cell? ⟨w.heap.size,0,none⟩=some (.int .u8 x.op):=Si _ _ 0 _ 40 (0,0) h0
 have c14:W.cell? ⟨w.heap.size,14,none⟩=some (.string x.text):=Si _ _ 14 _ 40 (0,0) h0
 have bA:=h_ gn
 have JP:=h_ (nG.out W gn)
 clear h0 gn nG
 obtain⟨op,id,other,inn,out,frame,row,frm,til,kind,color,it,un,name,text,reg,at_,cap,rows⟩:=x
 simp only at *
 by_cases h1:op=1
 · subst h1
   have bF:=h_ (fI.out.trans (if_pos rfl))
   by_cases h2:text.size=0
   · have he2:text.toList.isEmpty=true:=by rw [he];exact decide_eq_true h2
     have HF:=h_ (HQ.out 0 (bF.out.trans (if_pos (.inl h2))) W bA.out)
     clear HQ fI bF he jd JP h2
     go_wp2_with fail
     refine(du true 5 W).mono ?_
     rintro e w_ ⟨rfl,bn⟩
     rw [bn]
     clear bn w_
     go_wp2_with fail
     go_ret
     exact HF.out
   · have he2:text.toList.isEmpty=false:=by rw [he];exact decide_eq_false h2
     have HF:=h_ (fun(b:Bool) (hb:c_ text=b)=>HQ.out (if b=true then 0 else 5) (by
      rw [bF.out]
      cases b
      · rw [if_neg (fun h=>by rcases h with h|h;exact h2 h;rw [hb] at h;cases h)];rfl
      · rw [if_pos (.inr hb)];rfl) W bA.out)
     clear HQ fI bF he JP h2
     go_wp2_with fail
     refine(jd.out _).mono ?_
     rintro e w_ ⟨rfl,rfl⟩
     clear jd
     generalize c_ text=NB at *
     cases NB with
     | false =>
       have Bk:=h_ (HF.out false rfl)
       clear HF
       go_wp2_with fail
       refine(du _ 5 W).mono ?_
       rintro e w_ ⟨rfl,bn⟩
       rw [bn]
       clear bn w_
       go_wp2_with fail
       go_ret
       exact Bk.out
     | true =>
       have Bk:=h_ (HF.out true rfl)
       clear HF
       go_wp2_with fail
       refine(du _ 5 W).mono ?_
       rintro e w_ ⟨rfl,bn⟩
       rw [bn]
       clear bn w_
       go_wp2_with fail
       go_ret
       exact Bk.out
 · have h1':(op==1)=false:=by simpa using h1
   have bF:=h_ (fI.out.trans (if_neg h1))
   clear fI h1 jd
   go_wp2_with fail
   refine JP.out.mono ?_
   rintro e w1 ⟨rfl,hb1⟩
   have d0:w1.cell? ⟨w.heap.size,0,none⟩=some (.int .u8 op):=(hb1.cell (p:=⟨w.heap.size,0,none⟩) (by simp only;omega)).trans c0
   have d14:w1.cell? ⟨w.heap.size,14,none⟩=some (.string text):=(hb1.cell (p:=⟨w.heap.size,14,none⟩) (by simp only;omega)).trans c14
   have hbe:=bA.out.trans (hb1.mono (by omega))
   clear JP hb1 bA c0 c14
   generalize bB text=VB at *
   cases VB with
   | false =>
     have HF:=h_ (HQ.out 10 (bF.out.trans (if_pos (by first|rfl|trivial))) w1 hbe)
     clear HQ bF he
     go_wp2_with fail
     go_ret
     exact HF.out
   | true =>
     have kD:=h_ (bF.out.trans (if_neg (by intro h;first|cases h|exact absurd h (by decide))))
     clear bF
     by_cases h3:op=17∧text.size=0
     · obtain⟨rfl,h3⟩:=h3
       have he2:text.toList.isEmpty=true:=by rw [he];exact decide_eq_true h3
       have HF:=h_ (HQ.out 4 (kD.out.trans (if_pos ⟨rfl,h3⟩)) w1 hbe)
       clear HQ kD he h3
       go_wp2_with fail
       go_ret
       exact HF.out
     · have jU:=h_ (kD.out.trans (if_neg h3))
       clear kD
       have hcond:((op==17)&&text.toList.isEmpty)=false:=by
        rw [he,Bool.eq_false_iff]
        intro h
        rw [Sq] at h
        exact h3 ⟨by simpa using h.1,by simpa using h.2⟩
       clear h3
       by_cases h5:text.size≤400
       · have HF:=h_ (HQ.out 0 (jU.out.trans (if_pos h5)) w1 hbe)
         have Oz:(text.size:Int)≤400:=by omega
         clear HQ jU h5
         by_cases h4:op=17
         · subst h4
           have he2:text.toList.isEmpty=false:=by simpa using hcond
           clear hcond he
           go_wp2_with fail
           refine(du _ 9 w1).mono ?_
           rintro e w_ ⟨rfl,bn⟩
           rw [bn]
           clear bn w_
           go_wp2_with fail
           go_ret
           exact HF.out
         · have h4':(op==17)=false:=by simpa using h4
           clear hcond he h4
           go_wp2_with fail
           refine(du _ 9 w1).mono ?_
           rintro e w_ ⟨rfl,bn⟩
           rw [bn]
           clear bn w_
           go_wp2_with fail
           go_ret
           exact HF.out
       · have HF:=h_ (HQ.out 9 (jU.out.trans (if_neg h5)) w1 hbe)
         have Oz:(400:Int)<(text.size:Int):=by omega
         clear HQ jU h5
         by_cases h4:op=17
         · subst h4
           have he2:text.toList.isEmpty=false:=by simpa using hcond
           clear hcond he
           go_wp2_with fail
           refine(du _ 9 w1).mono ?_
           rintro e w_ ⟨rfl,bn⟩
           rw [bn]
           clear bn w_
           go_wp2_with fail
           go_ret
           exact HF.out
         · have h4':(op==17)=false:=by simpa using h4
           clear hcond he h4
           go_wp2_with fail
           refine(du _ 9 w1).mono ?_
           rintro e w_ ⟨rfl,bn⟩
           rw [bn]
           clear bn w_
           go_wp2_with fail
           go_ret
           exact HF.out
end Go.Proofs.YtjebaagkomejaaaGreatDoor
namespace Go.Proofs.YtjebaagkomejaaaGreatDoor
open Go.RowKit Go.ChangeShapes Go.WideShapes Go.Deep
theorem Gk {α:Type} {l:List α} (h:l.length=14):∃ a0 a1 a2 a3 a4 a5 a6 a7 a8 a9 a10 a11 a12 a13,l=[a0,a1,a2,a3,a4,a5,a6,a7,a8,a9,a10,a11,a12,a13]:=by
 obtain _|⟨a0,l⟩:=l
 · simp at h
 obtain _|⟨a1,l⟩:=l
 · simp at h
 obtain _|⟨a2,l⟩:=l
 · simp at h
 obtain _|⟨a3,l⟩:=l
 · simp at h
 obtain _|⟨a4,l⟩:=l
 · simp at h
 obtain _|⟨a5,l⟩:=l
 · simp at h
 obtain _|⟨a6,l⟩:=l
 · simp at h
 obtain _|⟨a7,l⟩:=l
 · simp at h
 obtain _|⟨a8,l⟩:=l
 · simp at h
 obtain _|⟨a9,l⟩:=l
 · simp at h
 obtain _|⟨a10,l⟩:=l
 · simp at h
 obtain _|⟨a11,l⟩:=l
 · simp at h
 obtain _|⟨a12,l⟩:=l
 · simp at h
 obtain _|⟨a13,l⟩:=l
 · simp at h
 obtain _|⟨b,l⟩:=l
 · exact⟨a0,a1,a2,a3,a4,a5,a6,a7,a8,a9,a10,a11,a12,a13,rfl⟩
 · simp at h
theorem Gi {α:Type} {l:List α} (h:l.length=23):∃ a0 a1 a2 a3 a4 a5 a6 a7 a8 a9 a10 a11 a12 a13 a14 a15 a16 a17 a18 a19 a20 a21 a22,l=[a0,a1,a2,a3,a4,a5,a6,a7,a8,a9,a10,a11,a12,a13,a14,a15,a16,a17,a18,a19,a20,a21,a22]:=by
 obtain _|⟨a0,l⟩:=l
 · simp at h
 obtain _|⟨a1,l⟩:=l
 · simp at h
 obtain _|⟨a2,l⟩:=l
 · simp at h
 obtain _|⟨a3,l⟩:=l
 · simp at h
 obtain _|⟨a4,l⟩:=l
 · simp at h
 obtain _|⟨a5,l⟩:=l
 · simp at h
 obtain _|⟨a6,l⟩:=l
 · simp at h
 obtain _|⟨a7,l⟩:=l
 · simp at h
 obtain _|⟨a8,l⟩:=l
 · simp at h
 obtain _|⟨a9,l⟩:=l
 · simp at h
 obtain _|⟨a10,l⟩:=l
 · simp at h
 obtain _|⟨a11,l⟩:=l
 · simp at h
 obtain _|⟨a12,l⟩:=l
 · simp at h
 obtain _|⟨a13,l⟩:=l
 · simp at h
 obtain _|⟨a14,l⟩:=l
 · simp at h
 obtain _|⟨a15,l⟩:=l
 · simp at h
 obtain _|⟨a16,l⟩:=l
 · simp at h
 obtain _|⟨a17,l⟩:=l
 · simp at h
 obtain _|⟨a18,l⟩:=l
 · simp at h
 obtain _|⟨a19,l⟩:=l
 · simp at h
 obtain _|⟨a20,l⟩:=l
 · simp at h
 obtain _|⟨a21,l⟩:=l
 · simp at h
 obtain _|⟨a22,l⟩:=l
 · simp at h
 obtain _|⟨b,l⟩:=l
 · exact⟨a0,a1,a2,a3,a4,a5,a6,a7,a8,a9,a10,a11,a12,a13,a14,a15,a16,a17,a18,a19,a20,a21,a22,rfl⟩
 · simp at h
theorem ce28:Tryz.prog.cellsOf 28=1:=by kernel_rfl
theorem ce40:Tryz.prog.cellsOf 40=23:=by kernel_rfl
section
variable {H:Type} {enc:TypeId × Value→H} {w:Sh} {base:Nat} {sp:Nat→Bool} {held:Bool}
theorem zv:Reads enc w base sp held 40 Ed.enc (fun w x=>x.lies w) Ed.fits (fun _=>0):=by
 intro fuel cs x h hb
 obtain⟨ys,n,rfl,hx,hlen,hyl,hf⟩:=Su Tryz.underlying40 h
 rw [ce40] at hlen
 obtain⟨v0,v1,v2,v3,v4,v5,v6,v7,v8,v9,v10,v11,v12,v13,v14,v15,v16,v17,v18,v19,v20,v21,v22,rfl⟩:=Gi hlen
 obtain⟨y0,y1,y2,y3,y4,y5,y6,y7,y8,y9,y10,y11,y12,y13,rfl⟩:=Gk hyl
 have g0:=hf 0 _ rfl;have g1:=hf 1 _ rfl;have g2:=hf 2 _ rfl;have g3:=hf 3 _ rfl;have g4:=hf 4 _ rfl;have g5:=hf 5 _ rfl;have g6:=hf 6 _ rfl;have g7:=hf 7 _ rfl;have g8:=hf 8 _ rfl;have g9:=hf 9 _ rfl;have g10:=hf 10 _ rfl;have g11:=hf 11 _ rfl;have g12:=hf 12 _ rfl;have g13:=hf 13 _ rfl
 simp [ce28,c2,c56,c3,c57,c83,c9,c101,c58] at g0 g1 g2 g3 g4 g5 g6 g7 g8 g9 g10 g11 g12 g13
 obtain⟨z0,e0,_,w0⟩:=St Tryz.underlying28 g0
 obtain⟨z1,e1,_,w1⟩:=St Tryz.underlying2 g1
 obtain⟨z2,e2,_,w2⟩:=St Tryz.underlying2 g2
 obtain⟨us,n',rfl,hx',hlen',zX,hf'⟩:=Su Tryz.underlying30 g3
 obtain⟨u0,u1,rfl⟩:=Gj zX
 have p0:=hf' 0 _ rfl;have p1:=hf' 1 _ rfl
 simp [c2] at p0 p1
 obtain⟨z3,e3,_,w3⟩:=St Tryz.underlying2 p0
 obtain⟨z4,e4,_,w4⟩:=St Tryz.underlying2 p1
 obtain⟨z5,e5,_,w5⟩:=St Tryz.underlying2 g4
 obtain⟨z6,e6,_,w6⟩:=St Tryz.underlying3 g5
 obtain⟨z7,e7,_,w7⟩:=St Tryz.underlying3 g6
 obtain⟨z8,e8,_,w8⟩:=St Tryz.underlying3 g7
 obtain⟨z9,e9,_,w9⟩:=St Tryz.underlying31 g8
 obtain⟨us2,n2,hn2,hx2,Ml,Kl,hf2⟩:=Su Tryz.underlying34 g9
 obtain⟨t0,t1,t2,rfl⟩:=D_ Kl
 have q0:=hf2 0 _ rfl;have q1:=hf2 1 _ rfl;have q2:=hf2 2 _ rfl
 simp [c81,c4] at q0 q1 q2
 obtain⟨z10,e10,_,w10⟩:=St Tryz.underlying32 q0
 obtain⟨z11,e11,_⟩:=Sw Tryz.underlying4 q1
 obtain⟨z12,e12,_⟩:=Sw Tryz.underlying4 q2
 obtain⟨s13,e13,r13,_⟩:=Sv Tryz.underlying9 g10
 obtain⟨Kb,e14,r14,_⟩:=Sv Tryz.underlying9 g11
 have k10:=ck hx (y:=y10) (by simp)
 have k11:=ck hx (y:=y11) (by simp)
 have k12:=ck hx (y:=y12) (by simp)
 have k13:=ck hx (y:=y13) (by simp)
 have l13:=dZ r13
 have l14:=dZ r14
 obtain⟨rg,e15,_,hrf,_⟩:=vC _ _ _ g12 (by omega)
 obtain⟨a,xs,cap,e22,hS,hF,hL,_⟩:=eI Tryz.underlying38 c88 (by decide) (fun _=>rfl) vB _ [v22] y13 g13 (by omega)
 obtain⟨rn,rt,rh,rl,rwd,ral,rbt⟩:=rg
 simp [Reg.enc] at e0 e1 e2 e3 e4 e5 e6 e7 e8 e9 e10 e11 e12 e13 e14 e15 e22
 obtain⟨i15,i16,i17,i18,i19,i20,i21⟩:=e15
 subst e0 e1 e2 e3 e4 e5 e6 e7 e8 e9 e10 e11 e12 e13 e14 i15 i16 i17 i18 i19 i20 i21 e22
 exact⟨⟨z0,z1,z2,z3,z4,z5,z6,z7,z8,z9,z10,z11,z12,s13,Kb,⟨rn,rt,rh,rl,rwd,ral,rbt⟩,a,cap,xs⟩,rfl,hS,⟨mh w0,⟨dS w1,dS w2,dS w3,dS w4,dS w5,dS w6,dS w7,dS w8⟩,mh w9,mh w10,by simp only;omega,by simp only;omega,hrf,hF,by simp only;omega⟩,Sp _⟩
end
end Go.Proofs.YtjebaagkomejaaaGreatDoor
namespace Go.Proofs.YtjebaagkomejaaaGreatDoor
open Go.RowKit
theorem nc (w:Sh):Calls Tryz.prog 72 #[] w fun e w'=>∃ g,e=.returned (.slice (some ⟨g,0,none⟩) 19 19)∧w.heap.size≤g∧g<w'.heap.size∧(∀ n:Nat,1≤n→n≤19→w'.cell? ⟨g,(n-1)*2+1,none⟩=some (.int .i64 (aN n)))∧Sm w.heap.size w w':=by
 go_enter Tryz.func72,Tryz.ntmps72
 go_wp2_with fail
 go_ret
 refine⟨w.heap.size,rfl,Sn _,by simp,fun n h1 h2=>?_,(Sm.refl _ _).alloc (Sn _) _⟩
 rw [Si _ _ _ _ 120 (0,0) (heap_alloc_last _ _)]
 obtain rfl|rfl|rfl|rfl|rfl|rfl|rfl|rfl|rfl|rfl|rfl|rfl|rfl|rfl|rfl|rfl|rfl|rfl|rfl:n=1∨n=2∨n=3∨n=4∨n=5∨n=6∨n=7∨n=8∨n=9∨n=10∨n=11∨n=12∨n=13∨n=14∨n=15∨n=16∨n=17∨n=18∨n=19:=by omega
 all_goals rfl
theorem yS:∀ n:Fin 20,∀ k:Fin 13,hasB (aN n.val) (2 ^ k.val:Nat)=(aN n.val).testBit k.val:=by decide +kernel
theorem xT (x:Ed)(n:Nat)(hn:x.op=(n:Int))(h1:1≤n)(h19:n≤19):gM x.c=if (gR x).all (okS (aN n))=false then 1 else if (eJ x).all (okR (aN n))=false then 2
 else if (hasB (aN n) 64&&(kindName x.kind).toList.isEmpty)=true then 3 else if (hasB (aN n) 128&&!decide (x.color≤6))=true then 12
 else if (hasB (aN n) 256&&!c_ x.name&&(!x.name.toList.isEmpty||!hasB (aN n) 4096))=true then 5
 else if hasB (aN n) 512=true∧dJ x.c≠0 then dJ x.c else if hasB (aN n) 1024=true then fo x.reg else if hasB (aN n) 2048=true then dx (x.rows.map Row.runs) else 0:=by
 have hb:∀ k (hk:k<13),hasB (aN n) ((2 ^ k:Nat):Int)=(aN n).testBit k:=fun k hk=>yS ⟨n,by omega⟩ ⟨k,hk⟩
 have b0:hasB (aN n) 1=(aN n).testBit 0:=hb 0 (by omega)
 have b1:hasB (aN n) 2=(aN n).testBit 1:=hb 1 (by omega)
 have b2:hasB (aN n) 4=(aN n).testBit 2:=hb 2 (by omega)
 have b3:hasB (aN n) 8=(aN n).testBit 3:=hb 3 (by omega)
 have b4:hasB (aN n) 16=(aN n).testBit 4:=hb 4 (by omega)
 have b5:hasB (aN n) 32=(aN n).testBit 5:=hb 5 (by omega)
 have b6:hasB (aN n) 64=(aN n).testBit 6:=hb 6 (by omega)
 have b7:hasB (aN n) 128=(aN n).testBit 7:=hb 7 (by omega)
 have b8:hasB (aN n) 256=(aN n).testBit 8:=hb 8 (by omega)
 have b9:hasB (aN n) 512=(aN n).testBit 9:=hb 9 (by omega)
 have b10:hasB (aN n) 1024=(aN n).testBit 10:=hb 10 (by omega)
 have b11:hasB (aN n) 2048=(aN n).testBit 11:=hb 11 (by omega)
 have b12:hasB (aN n) 4096=(aN n).testBit 12:=hb 12 (by omega)
 have hbf:∀ b:Bool,(b==false)=!b:=by decide
 have hu:aN x.op=aN (n:Int):=by rw [hn]
 have hh:∀ k,et x.c k=(aN (n:Int)).testBit k:=fun k=>by unfold et;show(aN x.op).testBit k=_;rw [hu]
 have hc:x.c.op=(n:Int):=hn
 have hspare:uQ x.c=(gR x).all (okS (aN n)):=by
  unfold uQ gR
  simp only [SA,SB,okS,hh]
  rw [←b0,←b1,←b2,←b3,←b4,←b5,←b6,←b7,←b8,←b9,←b10,←b11]
  have hr:x.c.rows.isEmpty=((x.rows.length:Int)==0):=by
   show(x.rows.map Row.runs).isEmpty=_
   cases x.rows with
   | nil=>rfl
   | cons a l=>simp;omega
  rw [hr]
  simp only [Ed.c,Sr,Ss,hbf]
 have Cn:kk x.c=(eJ x).all (okR (aN n)):=by
  unfold kk eJ
  simp only [SA,SB,okR,hh]
  rw [←b0,←b1,←b2,←b3,←b4,←b5]
  simp only [Ed.c,Sr,Ss]
  rfl
 unfold gM
 rw [if_neg (by rw [hc];omega),hspare,Cn]
 simp only [hh]
 rw [←b6,←b7,←b8,←b9,←b10,←b11,←b12]
 have c1:(hasB (aN n) 64=true∧(kindName x.c.kind).size=0)↔(hasB (aN n) 64&&(kindName x.kind).toList.isEmpty)=true:=by rw [vT];simp [Ed.c]
 have c2:(hasB (aN n) 128=true∧¬ x.c.color≤6)↔(hasB (aN n) 128&&!decide (x.color≤6))=true:=by simp [Ed.c]
 have c3:(hasB (aN n) 256=true∧c_ x.c.name=false∧(x.c.name.size≠0∨hasB (aN n) 4096=false))↔(hasB (aN n) 256&&!c_ x.name&&(!x.name.toList.isEmpty||!hasB (aN n) 4096))=true:=by rw [vT];simp [Ed.c,and_assoc]
 simp only [c1,c2,c3]
 rfl
theorem wrap_u8 {k:Nat} (h:k≤255):IntKind.u8.wrap (k:Int)=(k:Int):=by
 unfold IntKind.wrap
 simp [IntKind.bits,IntKind.signed]
 omega
theorem qA (d:Doc)(id:Int)(w:Sh)(hE:Env w)(hd:d.lies w)(hf:d.fits):Calls Tryz.prog 43 #[.agg d.enc.toArray,.int .i64 id] w (aS (b_ d.c id) w):=by
 have ew:=h_ (fun(w1:Sh) (h:Sm w.heap.size w w1)=>lI d id w1 (hE.below h (Sn _)) (Doc.later hd h) hf)
 have dq:=h_ (fun(w1:Sh) (h:Sm w.heap.size w w1)=>br d w1 (Doc.later hd h) hf)
 have bh:=h_ (fun(q:Int) (hq:b_ d.c id=(q,aV)) (w':Sh) (h:Sm w.heap.size w w')=>(show aS (b_ d.c id) w (.returned (.tuple #[.agg zeD,.int .i64 q])) w' from hq▸aS.zero q h))
 have cP:=h_ (fun(d':Doc) (h:d'.c=d.c)=>bp h hf)
 have cQ:=h_ (oT w d.enc.toArray zeD)
 have hb2:∀ o1 o2:Obj,Sm w.heap.size w ((w.alloc o1).alloc o2):=fun o1 o2=>((Sm.refl _ _).alloc (Sn _) _).alloc (by simp) _
 have hsz2:∀ o1 o2:Obj,((w.alloc o1).alloc o2).heap.size=w.heap.size+2:=fun o1 o2=>by simp
 have aZ:=h_ (And.intro hd hf)
 have bF:=h_ (fun(h:bJ d.c id≠0)=>uZ h)
 have kD:=h_ (fun(h:bJ d.c id=0)=>vX h)
 have jU:=h_ (fun(j:Nat) (x:Cm) (h0:cErr d.c=0) (hx:d.cM[j]? =some x) (h:cR d.cM id=some x) (hn:x.done=false)=>(show b_ d.c id=_ from xX h0 hx h hn))
 have tw:=h_ (fun(x:Cm) (h0:cErr d.c=0) (h:cR d.cM id=some x) (hn:x.done=true)=>(show b_ d.c id=_ from sW h0 h hn))
 generalize hR:b_ d.c id=R at *
 generalize hQ:aS R w=Q at bh ⊢
 clear hd hf hE
 generalize bJ d.c id=FE at *
 generalize gA d.c id=FI at *
 go_enter Tryz.func43,Tryz.ntmps43
 have hr0:=ai cQ.out.1
 go_wp2_with (refine aj 27 (.tmp 2) rfl w.heap.size 0 rfl d.enc _ hr0 Tryz.underlying27 rfl ag (by rfl) ?_)
 refine(ew.out _ (hb2 _ _)).mono ?_
 rintro e w2 ⟨rfl,hb1⟩
 rw [hsz2] at hb1
 have hbw2:Sm w.heap.size w w2:=(hb2 _ _).trans (hb1.mono (by omega))
 have r2:=(hb1.block w.heap.size (by omega)).trans cQ.out.1
 have z2:=(hb1.block (w.heap.size+1) (by omega)).trans cQ.out.2
 have hs2:w.heap.size+2≤w2.heap.size:=by have:=hb1.size;rw [hsz2] at this;exact this
 clear hb1 hr0 ew cQ hb2 hsz2
 have hr2:=ai r2
 have R2:=h_ r2
 have Z2:=h_ z2
 clear r2 z2
 by_cases h0:FE=0
 · subst h0
   obtain⟨hc0,j,x,rfl,hx,hfx⟩:=kD.out rfl
   have hx1:d.cM[j]? =some x:=hx
   have hjd:j<d.cM.length:=(Sx.1 hx1).1
   have hj0:(0:Int)≤(j:Int):=by omega
   obtain⟨b0,off,x',ha,_,hx2,hcx,_⟩:=ah.at_ (Doc.later aZ.out.1 hbw2).2.2 hjd
   rw [hx1] at hx2
   obtain rfl:=Option.some.inj hx2
   have hdn:w2.cell? ⟨b0,off+j*8+6,none⟩=some (.bool x.done):=hcx 6 _ rfl
   have c7:w2.cell? ⟨w.heap.size,7,none⟩=some (.slice (some ⟨b0,off,none⟩) d.cM.length d.cc):=by
    rw [←ha];exact Si _ _ 7 _ 27 (0,0) R2.out
   have NZ:d.cM.length≤4000000:=aZ.out.2.2.2.2.2.2.2.2.2.2.2
   have HX:=h_ hx1
   by_cases hdone:x.done=true
   · have nR:=h_ (tw.out x hc0 hfx hdone)
     rw [hdone] at hdn
     clear bF kD jU tw hx hfx hc0 hx1 hcx hx2 HX cP dq hr2 aZ ha
     have HE:=h_ (bh.out (17) nR.out (w2.setRow (w.heap.size+1) zeD) (Sl hbw2 (by omega) _))
     have z9:=Sk w2 (w.heap.size+1) _ zeD 27 (0,0) Z2.out
     clear nR bh
     go_wp2_with (refine Sj rfl 27 (.tmp 4) (.tmp 26) rfl (w.heap.size+1) zeD rfl rfl 27 _ Z2.out ag rfl aO ?_)
     generalize w2.setRow (w.heap.size+1) zeD=w9 at *
     exact aL Tryz.results43 rfl rfl z9 rfl HE.out
   · have hdone:x.done=false:=by simpa using hdone
     have nR:=h_ (jU.out j x hc0 hx1 hfx hdone)
     rw [hdone] at hdn
     clear bF kD jU tw hx hfx hc0 hx1 hcx hx2 bh aZ ha
     go_upto_region 6 with fail
     clear c7 hdn
     go_wp2_with (refine aj 27 (.tmp 2) rfl w.heap.size 0 rfl d.enc _ hr2 Tryz.underlying27 rfl ag (by rfl) ?_)
     refine(dq.out w2 hbw2).mono ?_
     rintro e w4 ⟨d',rfl,hc',hl',hu',hb4,hap,hoe,hoc⟩
     have eu:=cP.out d' hc'
     have bP:Sm w.heap.size w w4:=hbw2.trans (hb4.mono hbw2.size)
     have r4:=(hb4.block w.heap.size (by omega)).trans R2.out
     have z4:=(hb4.block (w.heap.size+1) (by omega)).trans Z2.out
     have hs4:w2.heap.size≤w4.heap.size:=hb4.size
     clear hr2 R2 Z2 dq hbw2 cP hb4
     go_upto_region 7 with(refine Sj rfl 27 (.tmp 2) (.tmp 29) rfl (w.heap.size) (d'.enc.toArray) rfl rfl 27 _ r4 ag rfl aO ?_)
     have hk5:Kept (fun b=>b=w.heap.size) w4 (w4.setRow w.heap.size d'.enc.toArray):=bj w4 w.heap.size d'.enc.toArray
     have r5:=Sk w4 w.heap.size _ d'.enc.toArray 27 (0,0) r4
     generalize w4.setRow w.heap.size d'.enc.toArray=w5 at *
     have hs5:=hk5.size
     have hl5:d'.lies w5:=Doc.frame hl' hs5 fun b hb=>hk5.block b (Doc.uses_lt hl' hb) (by have:=hu' b hb;omega)
     have oe5:=aB hoe fun b q=>hk5.block b (hoe.lt b q).2 (by have:=(hoe.lt b q).1;omega)
     have oc5:=aB hoc fun b q=>hk5.block b (hoc.lt b q).2 (by have:=(hoc.lt b q).1;omega)
     have z5:=(hk5.block (w.heap.size+1) (by omega) (by omega)).trans z4
     have hb5:Sm w.heap.size w w5:=bP.trans (hk5.below (by omega) fun k hk e=>by omega)
     clear hl' r4 z4 hk5 hoe hoc bP
     have hcm:d'.cM=d.cM:=congrArg DocC.cM hc'
     have uH:j<d'.cM.length:=by rw [hcm];exact hjd
     have hlc:d'.cM.length≤4000000:=eu.2.2.2.2.2.2.2.2.2.2
     have hne:d'.cM≠[]:=fun e=>by rw [e] at uH;simp at uH
     obtain⟨cb,cap,he⟩:=dw oc5 (by omega)
     have he1:d'.ca=some ⟨cb,0,none⟩∧d'.cc=cap:=by simp only [SC] at he;exact⟨he.1,he.2.2⟩
     rw [he] at oc5
     have hcb:=oc5.lt cb rfl
     have hcap:d'.cM.length≤cap:=by
      rcases oc5.2 with⟨h0,_⟩|⟨g',cap',cur,h0,_,_,hnc,_⟩
      · simp at h0
      · simp only [SC] at h0
        obtain⟨_,_,rfl⟩:=h0
        exact hnc
     have hxd:d'.cM[j]? =some x:=by rw [hcm];exact HX.out
     have c7:w5.cell? ⟨w.heap.size,7,none⟩=some (.slice (some ⟨cb,0,none⟩) d'.cM.length cap):=by
      rw [←he];exact Si _ _ 7 _ 27 (0,0) r5
     have hcell:w5.cell? ⟨cb,j*8+6,none⟩=some (.bool x.done):=by
      rw [oc5.cellAt (j*8+6) (by omega)]
      exact cD Cm.enc 8 (fun _=>rfl) d'.cM j x 6 _ hxd rfl
     have fz:=fun q=>oc5.frozenAt (j:=q)
     have ts:Kept (fun b=>b=cb) w5 (w5.setCell ⟨cb,j*8+6,none⟩ (.bool true)):=bH (Kept.refl _ _) _ _
     have o6:=fN (enc:=Cm.enc) (k:=j) (x:=x) (y:={ x with done:=true }) (v:=.bool true) (j:=6) (fun _=>rfl) oc5 hxd rfl (by decide)
     obtain⟨a',c',he',xL⟩:=aA (k:=8) (enc:=Cm.enc) (Ok:=Flat) (xs:=d'.cM.set j { x with done:=true }) (fun _=>rfl) (by simpa using o6) (fun _ _=>trivial)
     simp only [SC] at he'
     obtain⟨rfl, -,rfl⟩:=he'
     obtain⟨D2,hD2⟩:∃ D2:Doc,D2={ d' with cc:=cap,cM:=d'.cM.set j { x with done:=true } }:=⟨_,rfl⟩
     have hden:d'.enc.toArray=D2.enc.toArray:=by rw [hD2];simp [Doc.enc,he1.2]
     have lQ:=h_ (show D2.c={ d.c with cM:=d.cM.set j { x with done:=true } } from by
      rw [hD2,←hc',←hcm];rfl)
     have f_:=h_ (fun(w6 w9:Sh) hS k6 k9=>(show D2.lies w9∧∀ b,D2.uses b→w2.heap.size≤b from hD2▸Dq (cap:=cap) hl5 hu' hap he1.1 hne (w6:=w6) (w9:=w9) (ys:=d'.cM.set j { x with done:=true }) hS k6 k9))
     have iL:=h_ hb5
     have Z5:=h_ z5
     have R5:=h_ r5
     have Dt:=h_ xL
     have jr:=h_ ts
     have fZ:=h_ hden
     have Ce:w.heap.size+2≤w5.heap.size:=by omega
     clear hl5 oe5 oc5 z5 hb5 hap eu hu' hs4 hs5 he hD2 hc' hcm hjd HX o6 xL ts hden r5 hxd
     go_upto_region 8 with fail
     generalize w5.setCell ⟨cb,j*8+6,none⟩ (.bool true)=w6 at *
     have hs6:=jr.out.size
     have b6:w6.heap[w.heap.size]? =some (.cells D2.enc.toArray 27 (0,0)):=fZ.out▸(jr.out.block w.heap.size (by omega) (by omega)).trans R5.out
     clear fZ R5 c7 hcell fz
     have nN:=ai b6
     have z8:=(jr.out.block (w.heap.size+1) (by omega) (by omega)).trans Z5.out
     have r9:=Sk w6 (w.heap.size+1) _ D2.enc.toArray 27 (0,0) z8
     have fh:Kept (fun b=>b=w.heap.size+1) w6 (w6.setRow (w.heap.size+1) D2.enc.toArray):=bj _ _ _
     have kZ:=h_ (f_.out w6 (w6.setRow (w.heap.size+1) D2.enc.toArray) Dt.out jr.out (fh.mono fun i _ e=>by omega))
     have pz:=h_ (show Sm w.heap.size w (w6.setRow (w.heap.size+1) D2.enc.toArray) from(iL.out.trans (jr.out.below (by omega) fun b hb e=>by omega)).trans (fh.below (by omega) fun b hb e=>by omega))
     clear f_ Dt jr iL Z5 fh hs6 b6
     go_wp2_with (first|(refine aj 27 (.tmp 2) rfl w.heap.size 0 rfl D2.enc _ nN Tryz.underlying27 rfl ag (by rfl) ?_)|(refine Sj rfl 27 (.tmp 4) (.tmp 35) rfl (w.heap.size+1) (D2.enc.toArray) rfl rfl 27 _ z8 ag rfl aO ?_))
     generalize w6.setRow (w.heap.size+1) D2.enc.toArray=w9 at *
     have yq:=h_ (show Q (.returned (.tuple #[.agg D2.enc.toArray,.int .i64 0])) w9 from by
      rw [←hQ,nR.out]
      exact⟨D2,rfl,lQ.out,kZ.out.1,fun b hb=>Nat.le_trans (by omega) (kZ.out.2 b hb),pz.out⟩)
     clear kZ pz nR lQ
     exact aL Tryz.results43 rfl rfl r9 rfl yq.out
 · have hne:(FE != 0)=true:=by simpa using h0
   have hne2:(FE==0)=false:=by simpa using h0
   have HE:=h_ (bh.out (FE) (bF.out h0) (w2.setRow (w.heap.size+1) zeD) (Sl hbw2 (by omega) _))
   have z9:=Sk w2 (w.heap.size+1) _ zeD 27 (0,0) Z2.out
   clear bF kD jU tw cP dq bh hr2 aZ
   go_wp2_with (refine Sj rfl 27 (.tmp 4) (.tmp 26) rfl (w.heap.size+1) zeD rfl rfl 27 _ Z2.out ag rfl aO ?_)
   generalize w2.setRow (w.heap.size+1) zeD=w9 at *
   exact aL Tryz.results43 rfl rfl z9 rfl HE.out
theorem Tryz.info27:(Tryz.prog.info? 27).map (fun i=>(i.zero,i.size,i.bytes))=some (some (.agg #[.string ⟨#[]⟩,.string ⟨#[]⟩,.int .u8 0,.bool false,.int .i64 0,.slice none 0 0,.slice none 0 0,.slice none 0 0]),8,120):=by kernel_rfl
theorem pH {α:Type} {k:Nat} {enc:α→List Value} {Ok:Sh→α→Prop} {w:Sh} {b off:Nat} {xs:List α} (h:ah k enc Ok w (some ⟨b,off,none⟩) xs):ah k enc Ok w (some ⟨b,off+k,none⟩) (xs.drop 1):=by
 rcases h with h|⟨b',off',he,hlt,hc⟩
 · exact .inl (by rw [h];rfl)
 · simp only [Option.some.injEq,Addr.mk.injEq,and_true] at he
   obtain⟨rfl,rfl⟩:=he
   refine .inr ⟨b,off+k,rfl,hlt,fun i x hx=>?_⟩
   rw [List.getElem?_drop] at hx
   obtain⟨h1,h2⟩:=hc (1+i) x hx
   refine⟨fun j v hv=>?_,h2⟩
   have:=h1 j v hv
   rw [show off+k+i*k+j=off+(1+i)*k+j by rw [Nat.add_mul];omega]
   exact this
theorem lh {α:Type} {k:Nat} {enc:α→List Value} {Ok:Sh→α→Prop} {w:Sh} {a:Option Addr} {xs:List α} (m:Nat)(h:ah k enc Ok w a xs):ah k enc Ok w a (xs.take m):=by
 rcases h with h|⟨b',off',he,hlt,hc⟩
 · exact .inl (by rw [h];simp)
 · refine .inr ⟨b',off',he,hlt,fun i x hx=>hc i x ?_⟩
   rw [List.getElem?_take] at hx
   split at hx
   · exact hx
   · cases hx
theorem Gc (h:Hs)(D:Doc):putH h.c D.c=⟨D.c,h.saved.c,(if 16<h.undo.length+1 then (h.undo++[h.doc]).drop 1 else h.undo++[h.doc]).map Doc.c,[]⟩:=by
 unfold putH Hs.c
 simp only [List.length_map]
 split
 · simp [List.map_drop]
 · simp
theorem zI {x:EdC} {y:Ev} {B g i rb:Nat} {w1 w2 w3:Sh} {r q:Row} (hy1:restyle x y.c=(0,{ y.c with rows:=y.c.rows.set i q.runs })) (hr:y.rows[i]? =some r) (ha:y.at_=some ⟨rb,0,none⟩) (hl:y.lies w1) (qS:∀ r∈y.rows,r.fits) (hf:y.fits) (hq:q.fits) (hBg:B≤g) (hgw:g<w1.heap.size) (hBw:B≤w1.heap.size)
 (hu:∀ k,y.uses k→B≤k∧k≠g) (hg:w1.heap[g]? =some (.cells y.enc.toArray 72 (0,0))) (ho:w1.ownsRow B 75 1 (.slice y.at_ y.rows.length y.cap) y.rows.length (y.rows.flatMap Row.enc)) (hap:∀ r∈y.rows,∀ b,r.uses b→b≠rb)
 (h2:Sm w1.heap.size w1 w2) (hqo:w3.ownsRow w2.heap.size 77 5 (.slice q.at_ q.runs.length q.cap) q.runs.length (q.runs.flatMap Run.enc)) (h3:Sm w2.heap.size w2 w3) :
 cO (restyle x) B g y w1 (.returned (.int .i64 0)) (w3.setCell ⟨rb,i,none⟩ (.slice q.at_ q.runs.length q.cap)):=by
 have hs2:=h2.size
 have hs3:=h3.size
 have AE:Sm w1.heap.size w1 w3:=h2.trans (h3.mono (by omega))
 have hil:i<y.rows.length:=(Sx.1 hr).1
 have hne:y.rows≠[]:=fun e=>by rw [e] at hil;simp at hil
 have xz:y.uses rb:=.inl ⟨hne,⟨rb,0,none⟩,ha,rfl⟩
 have hrb:=Ev.uses_lt hl xz
 have KH:=hu rb xz
 have K:Kept (fun b=>b=rb) w3 (w3.setCell ⟨rb,i,none⟩ (.slice q.at_ q.runs.length q.cap)):=bH (Kept.refl _ _) _ _
 have ho3:w3.ownsRow B 75 1 (.slice y.at_ y.rows.length y.cap) y.rows.length (y.rows.flatMap Row.enc):=aJ ho AE
 rw [ha] at ho3
 have vP:=fN (K:=1) (enc:=Row.enc) (j:=0) (y:=q) (v:=.slice q.at_ q.runs.length q.cap) (fun _=>rfl) ho3 hr rfl (by decide)
 rw [show i*1+0=i by omega] at vP
 have GN:q.lies w3:=bZ.lies hqo
 have NK:∀ k,q.uses k→w2.heap.size≤k:=by
  rintro k ⟨hq1,ad,had,rfl⟩
  have:=(hqo.lt ad.block (by rw [had];rfl)).1
  exact this
 have NM:q.lies (w3.setCell ⟨rb,i,none⟩ (.slice q.at_ q.runs.length q.cap)):=Row.frame GN K.size fun k hk=>K.block k (Row.uses_lt GN hk) (by have:=NK k hk;omega)
 have hlen:(y.rows.set i q).length=y.rows.length:=List.length_set ..
 refine⟨{ y with rows:=y.rows.set i q },by rw [hy1],fun _=>⟨?_,?_,?_,?_⟩,?_⟩
 · rw [hy1]
   show(⟨y.id,y.inn,y.out,y.region,y.kind,y.speaker,(y.rows.set i q).map Row.runs⟩:EvC)=_
   rw [List.map_set];rfl
 · rw [←hlen] at vP
   obtain⟨a',c',he,hS⟩:=aA (k:=1) (enc:=Row.enc) (Ok:=Row.lies) (fun _=>rfl) vP (fun z hz=>by
    rcases Sy hz with h|h
    · have hzl:=Row.keeps _ _ _ AE (mu hl h)
      exact Row.frame hzl K.size fun k hk=>K.block k (Row.uses_lt hzl hk) (hap z h k hk)
    · rw [h];exact NM)
   simp only [SC] at he
   obtain⟨he,_,_⟩:=he
   show bN _ y.at_ (y.rows.set i q)
   rw [ha,he]
   exact hS
 · obtain⟨p1,p2,p3,p4,p5,p6,p7,p8,p9⟩:=hf
   refine⟨p1,p2,p3,p4,p5,p6,p7,fun z hz=>?_,by show(y.rows.set i q).length≤_;rw [hlen];exact p9⟩
   rcases Sy hz with h|h
   · exact p8 z h
   · rw [h];exact hq
 · rw [K.block g (by omega) (fun e=>KH.2 e.symm),AE.block g hgw,hg]
   show _=some (Obj.cells (#[Value.int .i64 y.id,.int .i64 y.inn,.int .i64 y.out,.string y.region,.int .u8 y.kind,.string y.speaker,.slice y.at_ (y.rows.set i q).length y.cap]) 72 (0,0))
   rw [hlen];rfl
 · exact(AE.mono hBw).trans (K.below (by omega) fun k hk e=>by omega)
theorem vL (d:DocC)(e:EvC):(insertC d e).1=aQ d e:=by
 rw [qd]
 split
 · rfl
 · rename_i h;exact(Classical.not_not.1 h).symm
theorem xY (d:DocC)(id fr til:Int)(au tx:ByteArray):(fT d id fr til au tx).1=bO d id fr til au tx:=by
 unfold fT
 split
 · rfl
 · rename_i h;exact(Classical.not_not.1 h).symm
def vU (d:DocC)(x:EdC):Nat→Int × DocC
 | 1=>insertC d ⟨0,x.inn,x.out,x.name,x.kind,x.text,x.rows⟩
 | 2=>bx d x.id
 | 3=>aF d x.id fun e=>(0,{ e with inn:=x.inn,out:=x.out })
 | 4=>aF d x.id fun e=>(0,{ e with rows:=x.rows })
 | 5=>aF d x.id fun e=>(0,{ e with region:=x.name })
 | 6=>aF d x.id fun e=>(0,{ e with kind:=x.kind })
 | 7=>aF d x.id fun e=>(0,{ e with speaker:=x.name })
 | 8=>aF d x.id (restyle x)
 | 9=>eA d x
 | 10=>gZ d x
 | 11=>d_ d x.frame x.other
 | 15=>(0,{ d with hd:={ d.hd with title:=x.text } })
 | 16=>(0,{ d with hd:={ d.hd with lA:=x.name } })
 | 17=>fT d x.id x.frm x.til x.name x.text
 | 18=>b_ d x.id
 | 19=>bY d x.id
 | _=>fu d x
theorem qu (d:DocC)(x:EdC):bU d x=if cErr d≠0 then (cErr d,aV) else if gM x≠0 then (gM x,aV) else vU d x x.op.toNat:=by
 unfold bU vU
 rfl
theorem BV {x:EdC} (h:gM x=0):1≤x.op∧x.op≤19:=by
 unfold gM at h
 split at h
 · cases h
 · omega
theorem Gd {x:EdC} (h:gM x=0)(h8:x.op=8):0≤x.row:=by
 unfold gM at h
 split at h
 · cases h
 · split at h
   · cases h
   · split at h
     · cases h
     · rename_i hr
       have hr':kk x=true:=by simpa using hr
       unfold kk at hr'
       simp only [Sq] at hr'
       have h4:=hr'.1.2
       have hh:et x 4=true:=by unfold et;rw [h8];rfl
       rw [hh] at h4
       have:inB x.row 0 3=true:=by simpa using h4
       unfold inB at this
       simp at this
       exact this.1
theorem il {d:DocC} {x:EdC} {r:Int × DocC} {q:Int} {n:Nat} (h:r=vU d x x.op.toNat)(e:x.op=q)(hq:q.toNat=n:=by rfl):r=vU d x n:=by rw [h,e,hq]
theorem ir {W:Sh} {g:Nat} {x:Ed} {q:Int} (r:W.heap[g]? =some (.cells x.enc.toArray 40 (0,0)))(e:x.op=q):W.cell? ⟨g,0,none⟩=some (.int .u8 q):=(Si _ _ 0 _ 40 (0,0) r).trans (by
 show some (Value.int .u8 x.op)=_
 rw [e])
theorem apF {D:Doc} {c:DocC} {w v:Sh} (h1:D.c=c)(h2:D.lies v)(h3:∀ b,D.uses b→w.heap.size+3≤b)(h4:Sm w.heap.size w v):D.c=c∧D.lies (v.setRow (w.heap.size+1+1) D.enc.toArray)∧(∀ b,D.uses b→w.heap.size≤b)∧Sm w.heap.size w (v.setRow (w.heap.size+1+1) D.enc.toArray) :=
 ⟨h1,Doc.frame h2 (by rw [size_setRow];exact Sn _) (fun b hb=>aM _ _ _ _ (by have:=h3 b hb;omega)),fun b hb=>by have:=h3 b hb;omega,Sl h4 (by omega) _⟩
def hsA:ByteArray:=⟨#[65]⟩
def hsB:ByteArray:=⟨#[66]⟩
def hsNo:ByteArray:=⟨#[]⟩
def hsC0:DocC:=⟨⟨hsNo,hsNo,3,false,0⟩,[],[],[]⟩
def hsX (s:ByteArray):EdC:=⟨1,0,0,0,9,0,0,0,0,1,0,false,false,hsNo,hsNo,⟨hsNo,0,0,0,0,0,false⟩,[[⟨s,0,false,false,hsNo⟩]]⟩
def hsE (id:Int)(s:ByteArray):EvC:=⟨id,0,9,hsNo,1,hsNo,[[⟨s,0,false,false,hsNo⟩]]⟩
def hsC1:DocC:=⟨⟨hsNo,hsNo,3,false,1⟩,[],[hsE 1 hsA],[]⟩
theorem GH:cErr hsC0=0:=by kernel_rfl
theorem Ky:cErr hsC1=0:=by kernel_rfl
theorem Kr:gM (hsX hsA)=0:=by kernel_rfl
theorem Kq:gM (hsX hsB)=0:=by kernel_rfl
theorem Kt:aQ hsC0 (hsE 0 hsA)=0:=by kernel_rfl
theorem Ks:aQ hsC1 (hsE 0 hsB)=0:=by kernel_rfl
theorem GG:bU hsC0 (hsX hsA)=(0,hsC1):=by
 rw [qu,if_neg (fun h=>h GH),if_neg (fun h=>h Kr)]
 show insertC hsC0 (hsE 0 hsA)=_
 unfold insertC
 rw [if_neg (fun h=>h Kt)]
 rw [if_pos (show(hsE 0 hsA).id=0 from rfl)]
 show(0,(⟨⟨hsNo,hsNo,3,false,0+1⟩,[],de ([]++[hsE (0+1) hsA]),[]⟩:DocC))=_
 have:de ([]++[hsE (0+1) hsA])=[hsE 1 hsA]:=by unfold de;simp
 rw [this];rfl
theorem GF:(bU hsC1 (hsX hsB)).1=0:=by
 rw [qu,if_neg (fun h=>h Ky),if_neg (fun h=>h Kq)]
 show(insertC hsC1 (hsE 0 hsB)).1=0
 rw [vL];exact Ks
def hsC2:DocC:=(bU hsC1 (hsX hsB)).2
theorem Kx:doH (newH hsC0) (hsX hsA)=(0,⟨hsC1,hsC0,[hsC0],[]⟩):=by
 unfold doH
 rw [show(newH hsC0).doc=hsC0 from rfl,GG,if_pos rfl]
 rfl
theorem Kw:doH ⟨hsC1,hsC0,[hsC0],[]⟩ (hsX hsB)=(0,⟨hsC2,hsC0,[hsC0,hsC1],[]⟩):=by
 unfold doH
 rw [if_pos GF]
 rfl
theorem Kv:fq ⟨hsC2,hsC0,[hsC0,hsC1],[]⟩=(0,⟨hsC1,hsC0,[hsC0],[hsC2]⟩):=rfl
theorem Ku:fq ⟨hsC1,hsC0,[hsC0],[hsC2]⟩=(0,⟨hsC0,hsC0,[],[hsC2,hsC1]⟩):=rfl
def HsIn (S:Nat)(w0:Sh)(b:Nat)(h:Hs)(w:Sh):Prop:=HsAt b h w∧(∀ k,h.own b k→S≤k)∧Sm S w0 w
theorem HsIn.post {N:Doc→Prop} {S b:Nat} {w0 w w':Sh} {h:Hs} {c:HsC} (H:HsIn S w0 b h w)(p:dj N c b h w w')(hS:S≤w.heap.size):∃ h':Hs,HsIn S w0 b h' w'∧h'.c=c:=by
 obtain⟨h',H',hc,ho,hk⟩:=p
 refine⟨h',⟨H',fun k hk=>(ho.own k hk).elim (H.2.1 k) fun h=>by omega,H.2.2.trans (hk.below hS fun k hk ho=>?_)⟩,hc⟩
 have:=H.2.1 k ho
 omega
theorem HsIn.later {S b:Nat} {w0 w w':Sh} {h:Hs} (H:HsIn S w0 b h w)(hb:Sm w.heap.size w w')(hS:S≤w.heap.size):HsIn S w0 b h w':=⟨H.1.later hb,H.2.1,H.2.2.trans (hb.mono hS)⟩
theorem eM {h:Hs} {c:HsC} (e:h.c=c):h.undo.length=c.undo.length∧h.redo.length=c.redo.length:=by
 subst e
 unfold Hs.c
 simp
def hsD0:Doc:=⟨hsNo,hsNo,3,false,0,none,0,[],none,0,[],none,0,[]⟩
theorem Ah (w:Sh):hsD0.lies w:=⟨.inl rfl,.inl rfl,.inl rfl⟩
theorem Ai:hsD0.fits:=⟨by decide,by decide,by decide,by decide,zV,by simp [hsD0],by simp [hsD0],by simp [hsD0],by simp [hsD0],by simp [hsD0],by simp [hsD0]⟩
theorem rE {α:Type} {K T g:Nat} {enc:α→List Value} {Ok:Sh→α→Prop} {w:Sh} {x:α} (hg:w.heap[g]? =some (.cells (enc x).toArray T (0,0)))(ho:Ok w x):ah K enc Ok w (some ⟨g,0,none⟩) [x]:=by
 refine .inr ⟨g,0,rfl,dW hg,fun i y hy=>?_⟩
 have hi:i<1:=(Sx.1 hy).1
 obtain rfl:i=0:=by omega
 obtain rfl:x=y:=by simpa using hy
 refine⟨fun j v hv=>?_,ho⟩
 rw [Si _ _ (0+0*K+j) _ T (0,0) hg,show 0+0*K+j=j by omega]
 simpa using hv
def hsEd (s:ByteArray)(g1 g2:Nat):Ed:=⟨1,0,0,0,9,0,0,0,0,1,0,false,false,hsNo,hsNo,⟨hsNo,0,0,0,0,0,false⟩,some ⟨g2,0,none⟩,1,[⟨some ⟨g1,0,none⟩,1,[⟨s,0,false,false,hsNo⟩]⟩]⟩
theorem sr (s:ByteArray)(g1 g2:Nat)(hs:s.size≤1000000):(hsEd s g1 g2).fits:=by
 have h0:i64 0:=zV
 have h9:i64 9:=⟨by decide,by decide⟩
 have p1:(0:Int)≤1∧(1:Int)≤255:=by decide
 have p0:(0:Int)≤0∧(0:Int)≤255:=by decide
 refine⟨p1,⟨h0,h0,h0,h9,h0,h0,h0,h0⟩,p1,p0,Sp _,Sp _,⟨Sp _,h0,h0,h0,h0,p0.1,p0.2⟩,fun r hr=>?_,by show 1≤4000000;omega⟩
 rw [Sz.1 hr]
 refine⟨fun y hy=>?_,by show 1≤4000000;omega,by show s.size+0≤4000000;omega⟩
 rw [Sz.1 hy]
 exact⟨by show s.size≤4000000;omega,Sp _,p0.1,p0.2⟩
end Go.Proofs.YtjebaagkomejaaaGreatDoor
