/- document.Follow: a comment moved from one text to another. document.Shift: the events from a frame on moved. comment.Close: a document with a comment that is done. history: back, Undo, Redo. edit.changed: a document with an event changed. -/
import Derived.Test.YtjebaagkomejaaaGreatDoorK19
import Derived.Test.YtjebaagkomejaaaGreatDoorK17
import Derived.Test.YtjebaagkomejaaaGreatDoorK18
set_option linter.unusedVariables false
set_option linter.unusedSimpArgs false
set_option maxRecDepth 100000
set_option maxHeartbeats 12800000
open Go.Lib renaming hid→h_
open Go renaming World→Sj,cell_of_row→Sk,heap_alloc_last→Sl,Value→Sm,below_drewN→Sn,Calls→Sp
open Go.RowKit renaming Below→Sq
open Nat renaming le_trans→Sr,le_refl→Ss
open Go.Value renaming int→St,bool→Su,oneCell'→Sv
open Go.RowKit.Below renaming setCell→Sw,heap_setCell→Sx,heap_alloc→Sy,refl→Sz
open Go.World renaming frozen?→SA,cell?→SB
open List renaming getElem?_eq_getElem→SC,pairwise_cons→SD,getElem?_eq_some_iff→SF,set_set→SG,mem_map→SH,getElem?_set_self→SI,mem_of_getElem?→SJ,map_congr_left→SK,all_eq_true→SL,find?_some→SM,map_cons→SN,all_cons→SO,map_map→SQ,all_nil→SR
open Int renaming not_le→SS
open Bool renaming false_ne_true→SU,and_assoc→SV,and_true→SW
open Go.Result renaming ok→SX
open Go.Next renaming value→SY
namespace Go.Proofs.YtjebaagkomejaaaGreatDoor
open Go.RowKit
theorem td (c:Cm)(s1 s2:ByteArray)(w:Sj)(hlo:c.lost=false)(hfr:-1000000000000000000≤c.frm∧c.frm≤1000000000000000000)(hti:-1000000000000000000≤c.til∧c.til≤1000000000000000000)(h1:s1.size≤20000000000000)(h2:s2.size≤20000000000000) :
 Sp Tryz.prog 129 #[.agg c.enc.toArray,.string s1,.string s2] w fun e w'=>e=.returned (.agg (nl c (runes s1) (runes s2)).enc.toArray)∧Sq w.heap.size w w':=by
 have HR1:=h_ (fun w1=>jx s1 w1 h1)
 have HR2:=h_ (fun w1=>jx s2 w1 h2)
 have hl1:(runes s1).length≤20000000000000:=Sr (eC s1 s1.size 0) h1
 have hl2:(runes s2).length≤20000000000000:=Sr (eC s2 s2.size 0) h2
 unfold ks at HR1 HR2
 generalize runes s1=a at *
 generalize runes s2=b at *
 obtain⟨id,ev,frm,til,au,tx,dn,lo⟩:=c
 simp only at hlo hfr hti
 subst hlo
 generalize hQ:(fun(e:Ending) (w':Sj)=>e=.returned (.agg (nl ⟨id,ev,frm,til,au,tx,dn,false⟩ a b).enc.toArray)∧Sq w.heap.size w w')=Q
 have HQ:=h_ (fun(f t:Int) (hf:f_ a.length b.length (alike a b) (fN a b (alike a b)) frm til=(f,t)) (w':Sj) (hb:Sq w.heap.size w w')=>(show(t≤f→Q (.returned (.agg #[St .i64 id,.int .i64 ev,.int .i64 0,.int .i64 0,.string au,.string tx,.bool dn,.bool true])) w')∧(¬ t≤f→Q (.returned (.agg #[St .i64 id,.int .i64 ev,.int .i64 f,.int .i64 t,.string au,.string tx,.bool dn,.bool false])) w') from by
  subst hQ
  constructor
  · intro h
    refine⟨?_,hb⟩
    rw [kO]
    simp only [hf]
    rw [if_pos h]
    rfl
  · intro h
    refine⟨?_,hb⟩
    rw [kO]
    simp only [hf]
    rw [if_neg h]
    rfl))
 clear hQ
 have HX:=h_ (fun wx (h:Sq (w.heap.size+2) ((w.alloc (.cells #[St .i64 id,.int .i64 ev,.int .i64 frm,.int .i64 til,.string au,.string tx,.bool dn,.bool false] 102)).alloc (.cells #[St .i64 0,.int .i64 0,.int .i64 0,.int .i64 0,.string ⟨#[]⟩,.string ⟨#[]⟩,.bool false,.bool false] 102)) wx)=>zq w #[St .i64 id,.int .i64 ev,.int .i64 frm,.int .i64 til,.string au,.string tx,.bool dn,.bool false] #[St .i64 0,.int .i64 0,.int .i64 0,.int .i64 0,.string ⟨#[]⟩,.string ⟨#[]⟩,.bool false,.bool false] 102 102 wx h)
 have HB:=h_ (fun wx (h:Sq (w.heap.size+2) ((w.alloc (.cells #[St .i64 id,.int .i64 ev,.int .i64 frm,.int .i64 til,.string au,.string tx,.bool dn,.bool false] 102)).alloc (.cells #[St .i64 0,.int .i64 0,.int .i64 0,.int .i64 0,.string ⟨#[]⟩,.string ⟨#[]⟩,.bool false,.bool false] 102)) wx)=>(show Sq w.heap.size w wx from(JL w _ _).trans (h.mono (by omega))))
 have hsz:((w.alloc (.cells #[St .i64 id,.int .i64 ev,.int .i64 frm,.int .i64 til,.string au,.string tx,.bool dn,.bool false] 102)).alloc (.cells #[St .i64 0,.int .i64 0,.int .i64 0,.int .i64 0,.string ⟨#[]⟩,.string ⟨#[]⟩,.bool false,.bool false] 102)).heap.size=w.heap.size+2:=by simp
 generalize hW0:((w.alloc (.cells #[St .i64 id,.int .i64 ev,.int .i64 frm,.int .i64 til,.string au,.string tx,.bool dn,.bool false] 102)).alloc (.cells #[St .i64 0,.int .i64 0,.int .i64 0,.int .i64 0,.string ⟨#[]⟩,.string ⟨#[]⟩,.bool false,.bool false] 102))=W0 at *
 have HW0:=h_ hW0
 have dI:=h_ hsz
 have hb0:Sq (w.heap.size+2) W0 W0:=Sz _ _
 have HT:=h_ (fun(w2 w3:Sj) (h:Sq (w.heap.size+2) W0 w2) (h3:Sq w2.heap.size w2 w3)=>(h.trans (h3.mono (by have:=h.size;rw [dI.out] at this;exact this)):Sq (w.heap.size+2) W0 w3))
 clear hW0 hsz
 have fx:∀ wx,Sq (w.heap.size+2) W0 wx→∀ j,wx.cell? ⟨w.heap.size,j,none⟩=_:=fun wx h j=>Sk _ _ j _ 102 (0,0) (HX.out wx h).1
 have gx0:=fx W0 hb0
 simp only [Cm.enc]
 go_enter Tryz.func129,Tryz.ntmps129
 go_wp2_with fail
 rw [HW0.out]
 clear gx0
 have gx0:=fx W0 hb0
 go_wp2_with fail
 refine(HR1.out _).mono ?_
 rintro e w1 ⟨v1,rfl,ho1,hb1⟩
 have hc1:=HT.out _ _ hb0 hb1
 clear hb1 gx0 hb0
 go_wp2_with fail
 refine(HR2.out _).mono ?_
 rintro e w2 ⟨v2,rfl,ho2,hb2⟩
 have hc2:=HT.out _ _ hc1 hb2
 obtain⟨ga,ca,za,hva,hza,oq,hra⟩:=rX (aI ho1 hb2)
 obtain⟨gb,cb,zb,hvb,hzb,hcb,hrb⟩:=rX ho2
 have Fm:=h_ hza
 have Fl:=h_ hzb
 subst hva
 subst hvb
 have yO:=h_ hra
 have wR:=h_ hrb
 have tZ:=h_ oq
 have oP:=h_ hcb
 have hx2:=HX.out _ hc2
 have HB2:=h_ (HB.out _ hc2)
 have CP:=h_ hx2
 have fg:∀ j,w2.cell? ⟨w.heap.size,j,none⟩=_:=fun j=>Sk _ _ j _ 102 (0,0) hx2.1
 have zg:∀ j,w2.frozen? ⟨w.heap.size,j,none⟩=false:=fun j=>by simp [SA,hx2.1]
 have fr:∀ j,w2.cell? ⟨w.heap.size+1,j,none⟩=_:=fun j=>Sk _ _ j _ 102 (0,0) hx2.2
 have zr:∀ j,w2.frozen? ⟨w.heap.size+1,j,none⟩=false:=fun j=>by simp [SA,hx2.2]
 clear hra hrb oq hcb hza hzb ho1 ho2 hb2 hc1 hc2 fx HT HX HB hx2 HR1 HR2 dI HW0
 go_upto_block 0 with fail
 go_cut [11] (fun s11 wx=>s11=.int .i64 (alike a b:Nat)∧wx.heap=w2.heap∧Sq w.heap.size w wx)
 case first =>
  go_wp2_with fail
  go_loopw [11] (fun i wr=>∃ p:Nat,p≤alike a b∧i=.int .i64 p∧wr.heap=w2.heap∧Sq w.heap.size w wr) (fun i _=>a.length-(intOf i).toNat)
  case atStart=>exact⟨0,by omega,rfl,rfl,HB2.out⟩
  case round =>
   obtain⟨p,hp,rfl,hh,hbr⟩:=hrel
   have HH:=h_ hh
   have jt:=h_ (fun n=>Sn hbr n)
   have hcl:∀ g j,wr.cell? ⟨g,j,none⟩=w2.cell? ⟨g,j,none⟩:=fun g j=>by simp [SB,hh]
   have hle:=jk a b
   clear hh hbr
   by_cases hlt:p<a.length∧p<b.length
   · obtain⟨x,hx⟩:∃ x,a[p]? =some x:=⟨_,SC hlt.1⟩
     obtain⟨y,hy⟩:∃ y,b[p]? =some y:=⟨_,SC hlt.2⟩
     have HM:=h_ (pE hp hx hy)
     have ra:=(hcl _ _).trans (yO.out p x hx)
     have rb:=(hcl _ _).trans (wR.out p y hy)
     have hza:=Fm.out (by omega)
     have hzb:=Fl.out (by omega)
     have oq:=tZ.out (by omega)
     have hcb:=oP.out (by omega)
     subst hza
     subst hzb
     have hm1:decide ((p:Int)<min (a.length:Int) (b.length:Int))=true:=by simp;omega
     clear hx hy yO wR Fm Fl tZ oP HQ HB2 CP hcl fg zg fr zr
     by_cases hxy:x=y
     · have HP:=h_ (HM.out.1 hxy)
       subst hxy
       clear HM
       go_wp2_with fail
       go_quiet (fail)
       go_wp2_with fail
       go_roundw
       case rel=>exact⟨p+1,HP.out,by go_num,HH.out,jt.out _⟩
       case measure=>simp [intOf];omega
     · have HP:=h_ (HM.out.2 hxy)
       have hne:¬ ((x:Int)=(y:Int)):=by omega
       clear HM
       go_wp2_with fail
       go_quiet (fail)
       go_wp2_with fail
       go_meet
       exact⟨by rw [←HP.out],HH.out,jt.out _⟩
   · have HP:=h_ (tE hp (by omega))
     have hm1:decide ((p:Int)<min (a.length:Int) (b.length:Int))=false:=by simp;omega
     clear yO wR Fm Fl tZ oP HQ HB2 CP hcl fg zg fr zr
     go_wp2_with fail
     go_quiet (fail)
     go_wp2_with fail
     go_meet
     exact⟨by rw [←HP.out],HH.out,jt.out _⟩
 case rest =>
  obtain⟨rfl,hh,hbr⟩:=hcut
  have HP:=jk a b
  have vO:=h_ hbr
  have Mz:=h_ (show wc.heap[w.heap.size]? =_∧wc.heap[w.heap.size+1]? =_ from by rw [hh];exact CP.out)
  have qC:∀ g j,wc.cell? ⟨g,j,none⟩=w2.cell? ⟨g,j,none⟩:=fun g j=>by simp [SB,hh]
  have vh:∀ g j,wc.frozen? ⟨g,j,none⟩=w2.frozen? ⟨g,j,none⟩:=fun g j=>by simp [SA,hh]
  have gg:∀ j,wc.cell? ⟨w.heap.size,j,none⟩=_:=fun j=>(qC _ _).trans (fg j)
  have gz:∀ j,wc.frozen? ⟨w.heap.size,j,none⟩=false:=fun j=>(vh _ _).trans (zg j)
  have gr:∀ j,wc.cell? ⟨w.heap.size+1,j,none⟩=_:=fun j=>(qC _ _).trans (fr j)
  have gy:∀ j,wc.frozen? ⟨w.heap.size+1,j,none⟩=false:=fun j=>(vh _ _).trans (zr j)
  have CY:=h_ (fun j x h=>(qC _ _).trans (yO.out j x h))
  have CX:=h_ (fun j x h=>(qC _ _).trans (wR.out j x h))
  clear fg zg fr zr yO wR qC vh hh hbr HB2 CP
  obtain⟨wd,hwd⟩:∃ x,x=wc:=⟨_,rfl⟩
  subst hwd
  generalize Pn:alike a b=P at *
  go_upto_block 2 with fail
  go_cut [12] (fun s12 wx=>s12=.int .i64 (fN a b P:Nat)∧wx.heap=wd.heap∧Sq w.heap.size w wx)
  case first =>
   go_wp2_with fail
   go_loopw [12] (fun i wr=>∃ s:Nat,s≤fN a b P∧i=.int .i64 s∧wr.heap=wd.heap∧Sq w.heap.size w wr) (fun i _=>a.length-(intOf i).toNat)
   case atStart=>exact⟨0,by omega,rfl,rfl,vO.out⟩
   case round =>
    obtain⟨s,hp,rfl,hh,hbr⟩:=hrel
    have HH:=h_ hh
    have jt:=h_ (fun n=>Sn hbr n)
    have hcl:∀ g j,wr.cell? ⟨g,j,none⟩=wd.cell? ⟨g,j,none⟩:=fun g j=>by simp [SB,hh]
    have hle:=nJ a b P
    clear hh hbr
    by_cases hlt:s<a.length-P∧s<b.length-P
    · obtain⟨x,hx⟩:∃ x,a[a.length-1-s]? =some x:=⟨_,SC (by omega)⟩
      obtain⟨y,hy⟩:∃ y,b[b.length-1-s]? =some y:=⟨_,SC (by omega)⟩
      have HM:=h_ (vI hp hlt.1 hlt.2 hx hy)
      have ra:=(hcl _ _).trans (CY.out _ x hx)
      have rb:=(hcl _ _).trans (CX.out _ y hy)
      have hza:=Fm.out (by omega)
      have hzb:=Fl.out (by omega)
      have oq:=tZ.out (by omega)
      have hcb:=oP.out (by omega)
      subst hza
      subst hzb
      have hm1:decide ((s:Int)<min (a.length:Int) (b.length:Int)-(P:Int))=true:=by simp;omega
      obtain⟨i1,hi1⟩:∃ i:Nat,i=a.length-1-s:=⟨_,rfl⟩
      obtain⟨i2,hi2⟩:∃ i:Nat,i=b.length-1-s:=⟨_,rfl⟩
      have ha1:(a.length:Int)-1-(s:Int)=(i1:Int):=by omega
      have ha2:(b.length:Int)-1-(s:Int)=(i2:Int):=by omega
      have hb1:i1<a.length:=by omega
      have hb2:i2<b.length:=by omega
      rw [←hi1] at ra
      rw [←hi2] at rb
      clear hx hy CY CX Fm Fl tZ oP HQ vO hcl gg gz gr gy hi1 hi2
      by_cases hxy:x=y
      · have Bk:=h_ (HM.out.1 hxy)
        subst hxy
        clear HM
        go_wp2_with fail
        go_quiet (fail)
        go_wp2_with fail
        go_roundw
        case rel=>exact⟨s+1,Bk.out,by go_num,HH.out,jt.out _⟩
        case measure=>simp [intOf];omega
      · have Bk:=h_ (HM.out.2 hxy)
        have hne:¬ ((x:Int)=(y:Int)):=by omega
        clear HM
        go_wp2_with fail
        go_quiet (fail)
        go_wp2_with fail
        go_meet
        exact⟨by rw [←Bk.out],HH.out,jt.out _⟩
    · have Bk:=h_ (yL hp (by omega))
      have hm1:decide ((s:Int)<min (a.length:Int) (b.length:Int)-(P:Int))=false:=by simp;omega
      clear CY CX Fm Fl tZ oP HQ vO hcl gg gz gr gy
      go_wp2_with fail
      go_quiet (fail)
      go_wp2_with fail
      go_meet
      exact⟨by rw [←Bk.out],HH.out,jt.out _⟩
  case rest =>
   obtain⟨rfl,hh,hbr⟩:=hcut
   have HZ2:=nJ a b P
   have pJ:=h_ hbr
   have rK:=h_ (show wc.heap[w.heap.size]? =_∧wc.heap[w.heap.size+1]? =_ from by rw [hh];exact Mz.out)
   have qC:∀ g j,wc.cell? ⟨g,j,none⟩=wd.cell? ⟨g,j,none⟩:=fun g j=>by simp [SB,hh]
   have vh:∀ g j,wc.frozen? ⟨g,j,none⟩=wd.frozen? ⟨g,j,none⟩:=fun g j=>by simp [SA,hh]
   have eg:∀ j,wc.cell? ⟨w.heap.size,j,none⟩=_:=fun j=>(qC _ _).trans (gg j)
   have ez:∀ j,wc.frozen? ⟨w.heap.size,j,none⟩=false:=fun j=>(vh _ _).trans (gz j)
   have er:∀ j,wc.cell? ⟨w.heap.size+1,j,none⟩=_:=fun j=>(qC _ _).trans (gr j)
   have ey:∀ j,wc.frozen? ⟨w.heap.size+1,j,none⟩=false:=fun j=>(vh _ _).trans (gy j)
   clear gg gz gr gy CY CX qC vh hh hbr vO Fm Fl tZ oP Mz
   generalize hSS:fN a b P=S at *
   generalize a.length=n at *
   generalize b.length=m at *
   have h64:(n:Int)≤20000000000000∧(m:Int)≤20000000000000∧(S:Int)≤n∧(S:Int)≤m∧(P:Int)≤n:=by omega
   obtain⟨f1,hf1⟩:∃ f1,f1=(if (n:Int)-S≤frm then frm+((m:Int)-n) else if (P:Int)≤frm then (m:Int)-S else frm):=⟨_,rfl⟩
   obtain⟨t1,ht1⟩:∃ t1,t1=(if til≤(P:Int) then til else if (n:Int)-S<til then til+((m:Int)-n) else (P:Int)):=⟨_,rfl⟩
   have HF:=h_ (HQ.out f1 t1 (by unfold f_;rw [←hf1,←ht1]))
   have tW:=h_ hf1
   have HT1:=h_ ht1
   clear hf1 ht1 HQ
   go_upto_block 4 with fail
   go_cut [] (fun wx=>wx.heap[w.heap.size]? =some (.cells #[St .i64 id,.int .i64 ev,.int .i64 f1,.int .i64 til,.string au,.string tx,.bool dn,.bool false] 102 (0,0))∧wx.heap[w.heap.size+1]? =some (.cells #[St .i64 0,.int .i64 0,.int .i64 0,.int .i64 0,.string ⟨#[]⟩,.string ⟨#[]⟩,.bool false,.bool false] 102 (0,0))∧Sq w.heap.size w wx)
   case first =>
    rcases(by omega:(n:Int)-S≤frm∨frm<(n:Int)-S) with hA|hA
    · have hv:=tW.out
      rw [if_pos hA] at hv
      have HV:=h_ hv
      clear hv
      go_wp2_with fail
      go_meet
      refine⟨by rw [HV.out];exact heap_setCell_same _ _ _ _ _ _ rK.out.1,(Sx _ _ _ _ (by simp only;omega)).trans rK.out.2,Sw pJ.out (by simp only;omega) _⟩
    · rcases(by omega:(P:Int)≤frm∨frm<(P:Int)) with hB|hB
      · have hv:=tW.out
        rw [if_neg (SS.2 hA),if_pos hB] at hv
        have HV:=h_ hv
        clear hv
        go_wp2_with fail
        go_meet
        refine⟨by rw [HV.out];exact heap_setCell_same _ _ _ _ _ _ rK.out.1,(Sx _ _ _ _ (by simp only;omega)).trans rK.out.2,Sw pJ.out (by simp only;omega) _⟩
      · have hv:=tW.out
        rw [if_neg (SS.2 hA),if_neg (SS.2 hB)] at hv
        have HV:=h_ hv
        clear hv
        go_wp2_with fail
        go_meet
        exact⟨by rw [HV.out];exact rK.out.1,rK.out.2,pJ.out⟩
   case rest =>
    clear eg ez er ey rK pJ
    obtain⟨r1,r2,hbr⟩:=hcut
    have eg:∀ j,wc.cell? ⟨w.heap.size,j,none⟩=_:=fun j=>Sk _ _ j _ 102 (0,0) r1
    have ez:∀ j,wc.frozen? ⟨w.heap.size,j,none⟩=false:=fun j=>by simp [SA,r1]
    have er:∀ j,wc.cell? ⟨w.heap.size+1,j,none⟩=_:=fun j=>Sk _ _ j _ 102 (0,0) r2
    have ey:∀ j,wc.frozen? ⟨w.heap.size+1,j,none⟩=false:=fun j=>by simp [SA,r2]
    have rK:=h_ (And.intro r1 r2)
    have pJ:=h_ hbr
    clear r1 r2 hbr
    go_upto_block 5 with fail
    go_cut [] (fun wx=>wx.heap[w.heap.size]? =some (.cells #[St .i64 id,.int .i64 ev,.int .i64 f1,.int .i64 t1,.string au,.string tx,.bool dn,.bool false] 102 (0,0))∧wx.heap[w.heap.size+1]? =some (.cells #[St .i64 0,.int .i64 0,.int .i64 0,.int .i64 0,.string ⟨#[]⟩,.string ⟨#[]⟩,.bool false,.bool false] 102 (0,0))∧Sq w.heap.size w wx)
    case first =>
     rcases(by omega:til≤(P:Int)∨(P:Int)<til) with hT|hT
     · have hv:=HT1.out
       rw [if_pos hT] at hv
       have HV:=h_ hv
       clear hv
       go_wp2_with fail
       go_meet
       exact⟨by rw [HV.out];exact rK.out.1,rK.out.2,pJ.out⟩
     · rcases(by omega:(n:Int)-S<til∨til≤(n:Int)-S) with hU|hU
       · have hv:=HT1.out
         rw [if_neg (SS.2 hT),if_pos hU] at hv
         have HV:=h_ hv
         clear hv
         go_wp2_with fail
         go_meet
         refine⟨by rw [HV.out];exact heap_setCell_same _ _ _ _ _ _ rK.out.1,(Sx _ _ _ _ (by simp only;omega)).trans rK.out.2,Sw pJ.out (by simp only;omega) _⟩
       · have hv:=HT1.out
         rw [if_neg (SS.2 hT),if_neg (Int.not_lt.2 hU)] at hv
         have HV:=h_ hv
         clear hv
         go_wp2_with fail
         go_meet
         refine⟨by rw [HV.out];exact heap_setCell_same _ _ _ _ _ _ rK.out.1,(Sx _ _ _ _ (by simp only;omega)).trans rK.out.2,Sw pJ.out (by simp only;omega) _⟩
    case rest =>
     clear eg ez er ey rK pJ
     obtain⟨r1,r2,hbr⟩:=hcut
     have eg:∀ j,wc.cell? ⟨w.heap.size,j,none⟩=_:=fun j=>Sk _ _ j _ 102 (0,0) r1
     have ez:∀ j,wc.frozen? ⟨w.heap.size,j,none⟩=false:=fun j=>by simp [SA,r1]
     have er:∀ j,wc.cell? ⟨w.heap.size+1,j,none⟩=_:=fun j=>Sk _ _ j _ 102 (0,0) r2
     have ey:∀ j,wc.frozen? ⟨w.heap.size+1,j,none⟩=false:=fun j=>by simp [SA,r2]
     have rK:=h_ (And.intro r1 r2)
     have pJ:=h_ hbr
     clear r1 r2 hbr
     rcases(by omega:t1≤f1∨f1<t1) with hle|hle
     · go_wp2_with fail
       refine bodyPost_ret (v:=.agg #[St .i64 id,.int .i64 ev,.int .i64 0,.int .i64 0,.string au,.string tx,.bool dn,.bool true]) (by simp [results,Tryz.results129,go_sem,er]) rfl ?_
       refine(HF.out _ ?_).1 hle
       repeat refine Sw ?_ (by simp only;omega) _
       exact pJ.out
     · go_wp2_with fail
       refine bodyPost_ret (v:=.agg #[St .i64 id,.int .i64 ev,.int .i64 f1,.int .i64 t1,.string au,.string tx,.bool dn,.bool false]) (by simp [results,Tryz.results129,go_sem,er]) rfl ?_
       refine(HF.out _ ?_).2 (by first|exact hle|exact SS.2 hle)
       repeat refine Sw ?_ (by simp only;omega) _
       exact pJ.out
def shE (fr n:Int)(x:Ev):Ev:=if x.inn<fr then x else { x with inn:=x.inn+n,out:=x.out+n }
theorem JM (fr n:Int)(x:Ev):(shE fr n x).c=pT fr n x.c:=by
 unfold shE pT
 show _=if x.inn<fr then _ else _
 split<;>rfl
theorem BI {fr n:Int} {x:Ev} (h:x.inn<fr):shE fr n x=x:=if_pos h
theorem DU {fr n:Int} {x:Ev} (h:¬ x.inn<fr):shE fr n x={ x with inn:=x.inn+n,out:=x.out+n }:=if_neg h
theorem zy (fr n:Int)(x:Ev):(shE fr n x).rows=x.rows∧(shE fr n x).at_=x.at_:=by unfold shE;split<;>exact⟨rfl,rfl⟩
theorem AY {d:DocC} (h:cErr d=0) {e:EvC} (he:e∈d.eV):0≤e.inn∧e.inn<e.out∧e.out≤5184000:=by
 have h1:=Ff h e he
 unfold bT fK at h1
 have h2:gk e.rep (kd d.rG e.rep.region).2=0:=by
  split at h1
  · rename_i hq;simp only [h1] at hq;exact absurd hq (by decide)
  · rename_i hq;simpa using hq
 unfold gk at h2
 split at h2
 · exact absurd h2 (by decide)
 · rename_i hq
   have hs:cQ e.inn e.out=true:=by
    have:¬ cQ e.rep.inn e.rep.out=false:=fun k=>hq (.inr (.inr k))
    show cQ e.rep.inn e.rep.out=true
    simpa using this
   unfold cQ at hs
   simpa using hs
theorem DT {fr n:Int} {d:Doc} {w5 wr:Sj} {B j eb cp:Nat} {zs:List Ev} {x:Ev} (hup:dK (shE fr n) d.eV zs j)(how:wr.ownsRow B 72 7 (.slice (some ⟨eb,0,none⟩) d.eV.length cp) d.eV.length (zs.flatMap Ev.enc))(hkp:Kept (fun b=>bp d.ea d.eV b) w5 wr)
 (hx:d.eV[j]? =some x) (he:d.ea=some ⟨eb,0,none⟩) (hq:¬ x.inn<fr) :
 dK (shE fr n) d.eV (zs.set j (shE fr n x)) (j+1)∧((wr.drew.setCell ⟨eb,j*7+1,none⟩ (.int .i64 (x.inn+n))).setCell ⟨eb,j*7+1+1,none⟩ (.int .i64 (x.out+n))).ownsRow B 72 7 (.slice (some ⟨eb,0,none⟩) d.eV.length cp) d.eV.length ((zs.set j (shE fr n x)).flatMap Ev.enc) ∧
  Kept (fun b=>bp d.ea d.eV b) w5 ((wr.drew.setCell ⟨eb,j*7+1,none⟩ (.int .i64 (x.inn+n))).setCell ⟨eb,j*7+1+1,none⟩ (.int .i64 (x.out+n))):=by
 have hj:j<d.eV.length:=(SF.1 hx).1
 have hz:=hup.at_ hx
 have hjz:j<zs.length:=by rw [hup.1];exact hj
 have hs:bp d.ea d.eV eb:=⟨fun e=>by rw [e] at hj;simp at hj,⟨eb,0,none⟩,he,rfl⟩
 have h1:=fH (enc:=Ev.enc) (y:={ x with inn:=x.inn+n }) (v:=.int .i64 (x.inn+n)) (j:=1) (fun _=>rfl) (Sj.ownsRow.drew how) hz rfl (by decide)
 have h2:=fH (enc:=Ev.enc) (k:=j) (x:={ x with inn:=x.inn+n }) (y:={ x with inn:=x.inn+n,out:=x.out+n }) (v:=.int .i64 (x.out+n)) (j:=2) (fun _=>rfl) h1 (by simp [hjz]) rfl (by decide)
 rw [SG] at h2
 refine⟨hup.step hx,?_,(hkp.drew.setCell (.inr hs) _).setCell (.inr hs) _⟩
 rw [DU hq]
 exact h2
theorem DS {d d':Doc} {fr n:Int} (h0:a_ d=0)(hn:¬ (n < -5184000∨5184000<n))(hc:d'.c=d.c)(hok:∀ q,q<d'.eV.length→∀ y,d'.eV[q]? =some y→eB fr n y.c=true) :
 dY d.c fr n=(0,{ d.c with eV:=de ((d'.eV.map (shE fr n)).map Ev.c) }):=by
 have h1:cErr d.c=0:=(bA d).symm.trans h0
 have e1:d'.eV.map Ev.c=d.c.eV:=congrArg DocC.eV hc
 have hall:d.c.eV.all (eB fr n)=true:=by
  rw [←e1,SL]
  intro e he
  obtain⟨y,hy,rfl⟩:=SH.1 he
  obtain⟨q,hq,rfl⟩:=List.getElem_of_mem hy
  exact hok q hq _ (SC hq)
 unfold dY
 rw [if_neg (fun h=>h h1),if_neg hn,if_pos hall,←e1,SQ,SQ]
 congr 3
 exact SK fun x _=>(JM fr n x).symm
theorem zx {d d':Doc} {fr n:Int} {y:Ev} {q:Nat} (h0:a_ d=0)(hn:¬ (n < -5184000∨5184000<n))(hc:d'.c=d.c)(hy:d'.eV[q]? =some y)(hok:eB fr n y.c=false):dY d.c fr n=(2,aU):=by
 have h1:cErr d.c=0:=(bA d).symm.trans h0
 have e1:d'.eV.map Ev.c=d.c.eV:=congrArg DocC.eV hc
 have hall:¬ d.c.eV.all (eB fr n)=true:=fun h=>by
  rw [←e1,SL] at h
  have:=h y.c (SH.2 ⟨y,SJ hy,rfl⟩)
  rw [hok] at this
  cases this
 unfold dY
 rw [if_neg (fun h=>h h1),if_neg hn,if_neg hall]
theorem wH (f:Cm→Cm):∀ {l:List Cm} (_:l.Pairwise fun x y=>x.id<y.id)(k:Nat)(m:Cm),l[k]? =some m→l.map (fun c=>if c.id=m.id then f c else c)=l.set k (f m)
 | [],_,k,m,h=>by simp at h
 | a::l,hp,0,m,h=>by
   obtain rfl:a=m:=by simpa using h
   have h1:l.map (fun c=>if c.id=a.id then f c else c)=l:=by
    conv=>rhs;rw [←List.map_id l]
    refine SK fun x hx=>?_
    have:=(SD.1 hp).1 x hx
    rw [if_neg (by omega)];rfl
   simp [h1]
 | a::l,hp,k+1,m,h=>by
   have hm:l[k]? =some m:=by simpa using h
   have h1:=(SD.1 hp).1 m (SJ hm)
   have h3:=wH f (SD.1 hp).2 k m hm
   rw [SN,if_neg (by omega),h3]
   rfl
theorem vy {d:DocC} {id:Int} (h:bK d id≠0):bZ d id=(bK d id,aU):=by
 unfold bZ
 unfold bK at h ⊢
 by_cases h0:cErr d≠0
 · rw [if_pos h0,if_pos h0]
 · rw [if_neg h0] at h ⊢
   rw [if_neg h0]
   cases hc:cU d.cM id with
   | none=>simp
   | some x=>rw [hc] at h;simp at h
theorem tv {d:DocC} {id:Int} {x:Cm} (h0:cErr d=0)(hf:cU d.cM id=some x)(hd:x.done=true):bZ d id=(17,aU):=by
 unfold bZ
 rw [if_neg (fun h=>h h0),hf]
 show(if x.done=true then _ else _)=_
 rw [if_pos hd]
theorem yF {d:DocC} {id:Int} {j:Nat} {x:Cm} (h0:cErr d=0)(hx:d.cM[j]? =some x)(hf:cU d.cM id=some x)(hd:x.done=false):bZ d id=(0,{ d with cM:=d.cM.set j { x with done:=true } }):=by
 have hid:x.id=id:=by
  have:=SM hf
  simpa [cmAt] using this
 have hfl:=wH (fun c=>{ c with done:=true }) (iy h0).cM j x hx
 unfold bZ
 rw [if_neg (fun h=>h h0),hf]
 show(if x.done=true then _ else _)=_
 rw [if_neg (by rw [hd];exact SU),←hfl,hid]
theorem mZ (w:Sj):Sp Tryz.prog 14 #[.pointer none] w fun e w'=>e=.returned (.int .i64 1)∧w'=w:=by
 go_enter Tryz.func14,Tryz.ntmps14
 go_wp2_with fail
 go_ret
 exact⟨rfl,rfl⟩
theorem nc (w:Sj):Sp Tryz.prog 15 #[.pointer none] w fun e w'=>e=.returned (.int .i64 1)∧w'=w:=by
 go_enter Tryz.func15,Tryz.ntmps15
 go_wp2_with fail
 go_ret
 exact⟨rfl,rfl⟩
def cS (f:EvC→Int × EvC)(B g:Nat)(y:Ev)(w:Sj)(e:Ending)(w':Sj):Prop:=∃ y2:Ev,e=.returned (.int .i64 (f y.c).1)∧((f y.c).1=0→y2.c=(f y.c).2∧y2.lies w'∧y2.fits∧w'.heap[g]? =some (.cells y2.enc.toArray 72 (0,0)))∧Sq B w w'
def fC (N:Nat)(caps:Array Sm)(f:EvC→Int × EvC)(w:Sj):Prop:=∀ (g B:Nat) (y:Ev) (w1:Sj),Sq w.heap.size w w1→w.heap.size≤B→B≤g→y.lies w1→(∀ k,y.uses k→B≤k∧k≠g)→(∀ r∈y.rows,r.fits)→y.fits→w1.heap[g]? =some (.cells y.enc.toArray 72 (0,0))→w1.ownsRow B 75 1 (.slice y.at_ y.rows.length y.cap) y.rows.length (y.rows.flatMap Row.enc)→(∀ r∈y.rows,∀ b,r.uses b→(Sm.slice y.at_ y.rows.length y.cap).ownBlock≠some b) →
 Sp Tryz.prog N (#[.pointer (some ⟨g,0,none⟩)]++caps) w1 (cS f B g y w1)
def pairs (l:List (Int × Bool)):List Sm:=l.flatMap fun p=>[.int .i64 p.1,.bool p.2]
def gI (x:Ed):List (Int × Bool):=[(1,x.id==0),(2,x.other==0),(4,x.inn==0&&x.out==0),(8,x.frame==0),(16,x.row==0),(32,x.frm==0&&x.til==0),(64,x.kind==0),(128,x.color==0&&!x.it&&!x.un),(256,x.name.toList.isEmpty),(512,x.text.toList.isEmpty),(1024,gO x.reg gn),(2048,(x.rows.length:Int)==0)]
theorem Gf (rn:ByteArray)(rt rh rl rwd ra:Int)(rb:Bool)(w_:Sj):(if rn.toList=[] then
 if rt=0 then
  if rh=0 then
   if rl=0 then
    if rwd=0 then
     if ra=0 then
      if rb=true then SX (SY (Su false)) w_
      else SX (SY (Su true)) w_
     else SX (SY (Su false)) w_
    else SX (SY (Su false)) w_
   else SX (SY (Su false)) w_
  else SX (SY (Su false)) w_
 else SX (SY (Su false)) w_
 else SX (SY (Su false)) w_)=SX (SY (Su (gO ⟨rn,rt,rh,rl,rwd,ra,rb⟩ gn))) w_:=by
 have hz:(⟨#[]⟩:ByteArray).toList=[]:=by rw [←List.isEmpty_iff,wE];rfl
 unfold gO gn
 simp only [hz]
 repeat' split
 all_goals simp_all
def okS (u:Int)(p:Int × Bool):Bool:=hasB u p.1||p.2
def eF (x:Ed):List (Int × Bool):=[(1,inB x.id 1 1099511627776),(2,if x.op=11 then inB x.other (-5184000) 5184000 else inB x.other 1 1099511627776),(4,cQ x.inn x.out),(8,inB x.frame 0 5184000),(16,inB x.row 0 3),(32,inB x.frm 0 262144&&inB x.til 0 262144)]
def okR (u:Int)(p:Int × Bool):Bool:=!hasB u p.1||p.2
theorem uV {r:Int} (h:0≤r):inB r 0 3=decide (r<4):=by
 unfold inB
 by_cases h2:r<4
 · rw [decide_eq_true h2,decide_eq_true (by omega)]
 · rw [decide_eq_false h2,decide_eq_false (by omega)]
theorem l_:(Tryz.prog.info? 102).map (·.size)=some 8:=by kernel_rfl
theorem Dg (y:Cm):(y.enc.toArray.all (·.oneCell'))=true:=by simp [Cm.enc,Sv]
theorem mL (y:Ev):(y.enc.toArray.all (·.oneCell'))=true:=by simp [Ev.enc,Sv]
theorem xH {o e:EvC} {c:Cm} (h:¬ c.ev=e.id):kH o e c=c:=if_neg h
theorem mG (y:Cm)(s1 s2:ByteArray)(w:Sj)(hb:y.lost=false→(-1000000000000000000≤y.frm∧y.frm≤1000000000000000000)∧(-1000000000000000000≤y.til∧y.til≤1000000000000000000))(h1:s1.size≤20000000000000)(h2:s2.size≤20000000000000) :
 Sp Tryz.prog 129 #[.agg y.enc.toArray,.string s1,.string s2] w fun e w'=>e=.returned (.agg (fZ y s1 s2).enc.toArray)∧Sq w.heap.size w w':=by
 unfold fZ
 cases h:y.lost with
 | true=>rw [if_pos rfl];exact lX y s1 s2 w h
 | false=>rw [if_neg SU];exact td y s1 s2 w h (hb h).1 (hb h).2 h1 h2
theorem BV {d:Doc} {w5 wr:Sj} {eb:Nat} (hk:Kept (fun b=>bp d.ca d.cM b) w5 wr)(hap:d.apart)(hl:d.lies w5)(hne:d.eV≠[])(he:d.ea=some ⟨eb,0,none⟩):wr.heap[eb]? =w5.heap[eb]?∧(∀ z∈d.eV,z.lies wr)∧Regs wr d.ra d.rG:=by
 obtain⟨t,t1,t2,t3,t4⟩:=hap
 have hs:=hk.size
 refine⟨?_,?_,?_⟩
 · have hu:bp d.ea d.eV eb:=⟨hne,⟨eb,0,none⟩,he,rfl⟩
   exact hk.block eb (ej hl.2.1 (.inl hu)) fun q=>by have:=t2 eb hu;have:=t4 eb q;omega
 · intro z hz
   have hzl:z.lies w5:=gh hl.2.1 hz
   exact Ev.frame hzl hs fun b hb=>hk.block b (Ev.uses_lt hzl hb) fun q=>by have:=t3 z hz b hb;have:=t4 b q;omega
 · exact ah.frame hl.1 hs (fun b hb=>hk.block b (aP hl.1 hb) fun q=>by have:=t1 b hb;have:=t4 b q;omega) (fun _ _ _=>trivial)
theorem vn {c:Cm} (h:c.fits∧(c.lost=false→(-1000000000000000000≤c.frm∧c.frm≤1000000000000000000)∧(-1000000000000000000≤c.til∧c.til≤1000000000000000000)))(hl:c.lost=false) {a b:List Nat} (ha:a.length≤20000000000000)(hb:b.length≤20000000000000):(nl c a b).fits:=by
 obtain⟨h1,h2⟩:=h
 obtain⟨⟨f1,f2⟩,g1,g2⟩:=h2 hl
 have hp:=jk a b
 have hs:=nJ a b (alike a b)
 obtain⟨c1,c2,c3,c4,c5,c6⟩:=h1
 rw [kO]
 simp only
 split
 · exact⟨c1,c2,(show i64 0 from⟨by decide,by decide⟩),(show i64 0 from⟨by decide,by decide⟩),c5,c6⟩
 · refine⟨c1,c2,?_,?_,c5,c6⟩
   · show i64 (f_ a.length b.length (alike a b) (fN a b (alike a b)) c.frm c.til).1
     unfold f_ i64
     simp only
     split
     · omega
     · split<;>omega
   · show i64 (f_ a.length b.length (alike a b) (fN a b (alike a b)) c.frm c.til).2
     unfold f_ i64
     simp only
     split
     · omega
     · split<;>omega
theorem oZ {s:ByteArray} (h:s.size≤20000000000000):(runes s).length≤20000000000000:=Sr (eC s s.size 0) h
theorem px {o:EvC} (h:o.fits):(ek (some o)).size≤20000000000000:=by
 have:=jS (x:=o.rep) ((Ev.fits_c _).1 (by rw [EvC.rep_c];exact h))
 rwa [EvC.rep_c] at this
theorem gT {l:List EvC} {k:Int} {o:EvC} (h:aT l k=some o):o∈l∧o.id=k:=by
 unfold aT at h
 exact⟨List.mem_of_find?_eq_some h,by have:=SM h;simpa [evAt] using this⟩
theorem ur {l:List EvC} {e o:EvC} (h:aT l e.id=some o):(oY l e.id (some e)).length≤l.length:=by
 obtain⟨hm,hi⟩:=gT h
 have h1:(l.filter fun x=>!(x.id==e.id)).length<l.length:=List.length_filter_lt_length_iff_exists.2 ⟨o,hm,by simp [hi]⟩
 unfold oY de
 rw [List.length_mergeSort,List.length_append]
 simp
 omega
theorem wh {d D:Doc} {e:EvC} (hf:d.fits)(he:e.fits)(h:D.c=(putC d.c e).2)(h0:(putC d.c e).1=0):D.fits:=by
 have hc:=Doc.fits.c (n:=4000000) hf hf.2.2.2.2.2.2.1 hf.2.2.2.2.2.2.2.2.1 hf.2.2.2.2.2.2.2.2.2.2
 obtain⟨q1,q2,q3,q4,q5,q6,q7⟩:=hc
 have:D.c.fits 4000000:=by
  rw [h]
  unfold putC at h0 ⊢
  by_cases hn:cErr d.c≠0
  · rw [if_pos hn] at h0;exact absurd h0 hn
  · rw [if_neg hn] at h0 ⊢
    have hd0:a_ d=0:=by rw [bA];exact Decidable.not_not.1 hn
    have hcm:=wG hd0 hf
    cases Cu:aT d.c.eV e.id with
    | none=>rw [Cu] at h0;cases h0
    | some o =>
      rw [Cu] at h0
      simp only at h0 ⊢
      by_cases hv:bT d.c.rG e≠0
      · rw [if_pos hv] at h0;exact absurd h0 hv
      · rw [if_neg hv]
        have ho:=q4 o (gT Cu).1
        refine⟨q1,q2,q3,fun x hx=>?_,Sr (ur Cu) q5,fun c hc=>?_,by simpa using q7⟩
        · rcases xu hx with h|h
          · exact q4 x h
          · rw [←Option.some.inj h];exact he
        · obtain⟨c0,hc0,rfl⟩:=SH.1 hc
          have ht:=hcm c0 hc0
          split
          · unfold fZ
            split
            · exact ht.1
            · rename_i hl
              exact vn ht (by simpa using hl) (oZ (px ho)) (oZ (px he))
          · exact ht.1
 exact this.doc (Ss _)
theorem nk (w:Sj):Sp Tryz.prog 72 #[] w fun e w'=>∃ g,e=.returned (.slice (some ⟨g,0,none⟩) 19 19)∧w.heap.size≤g∧g<w'.heap.size∧(∀ n:Nat,1≤n→n≤19→w'.cell? ⟨g,(n-1)*2+1,none⟩=some (.int .i64 (aN n)))∧Sq w.heap.size w w':=by
 go_enter Tryz.func72,Tryz.ntmps72
 go_wp2_with fail
 go_ret
 refine⟨w.heap.size,rfl,Ss _,by simp,fun n h1 h2=>?_,(Sz _ _).alloc (Ss _) _⟩
 rw [Sk _ _ _ _ 120 (0,0) (Sl _ _)]
 obtain rfl|rfl|rfl|rfl|rfl|rfl|rfl|rfl|rfl|rfl|rfl|rfl|rfl|rfl|rfl|rfl|rfl|rfl|rfl:n=1∨n=2∨n=3∨n=4∨n=5∨n=6∨n=7∨n=8∨n=9∨n=10∨n=11∨n=12∨n=13∨n=14∨n=15∨n=16∨n=17∨n=18∨n=19:=by omega
 all_goals rfl
theorem zp:∀ n:Fin 20,∀ k:Fin 13,hasB (aN n.val) (2 ^ k.val:Nat)=(aN n.val).testBit k.val:=by decide +kernel
theorem yz (x:Ed)(n:Nat)(hn:x.op=(n:Int))(h1:1≤n)(h19:n≤19):gE x.c=if (gI x).all (okS (aN n))=false then 1 else if (eF x).all (okR (aN n))=false then 2
 else if (hasB (aN n) 64&&(kindName x.kind).toList.isEmpty)=true then 3 else if (hasB (aN n) 128&&!decide (x.color≤6))=true then 12
 else if (hasB (aN n) 256&&!da x.name&&(!x.name.toList.isEmpty||!hasB (aN n) 4096))=true then 5
 else if hasB (aN n) 512=true∧dF x.c≠0 then dF x.c else if hasB (aN n) 1024=true then fj x.reg else if hasB (aN n) 2048=true then dw (x.rows.map Row.runs) else 0:=by
 have hb:∀ k (hk:k<13),hasB (aN n) ((2 ^ k:Nat):Int)=(aN n).testBit k:=fun k hk=>zp ⟨n,by omega⟩ ⟨k,hk⟩
 have b0:hasB (aN n) 1=(aN n).testBit 0:=hb 0 (by omega)
 have b1:hasB (aN n) 2=(aN n).testBit 1:=hb 1 (by omega)
 have b2:hasB (aN n) 4=(aN n).testBit 2:=hb 2 (by omega)
 have b3:hasB (aN n) 8=(aN n).testBit 3:=hb 3 (by omega)
 have b4:hasB (aN n) 16=(aN n).testBit 4:=hb 4 (by omega)
 have b5:hasB (aN n) 32=(aN n).testBit 5:=hb 5 (by omega)
 have b6:hasB (aN n) 64=(aN n).testBit 6:=hb 6 (by omega)
 have b7:hasB (aN n) 128=(aN n).testBit 7:=hb 7 (by omega)
 have b8:hasB (aN n) 256=(aN n).testBit 8:=hb 8 (by omega)
 have b9:hasB (aN n) 512=(aN n).testBit 9:=hb 9 (by omega)
 have b10:hasB (aN n) 1024=(aN n).testBit 10:=hb 10 (by omega)
 have b11:hasB (aN n) 2048=(aN n).testBit 11:=hb 11 (by omega)
 have b12:hasB (aN n) 4096=(aN n).testBit 12:=hb 12 (by omega)
 have hbf:∀ b:Bool,(b==false)=!b:=by decide
 have hu:aN x.op=aN (n:Int):=by rw [hn]
 have hh:∀ k,el x.c k=(aN (n:Int)).testBit k:=fun k=>by unfold el;show(aN x.op).testBit k=_;rw [hu]
 have hc:x.c.op=(n:Int):=hn
 have hspare:vq x.c=(gI x).all (okS (aN n)):=by
  unfold vq gI
  simp only [SO,SR,okS,hh]
  rw [←b0,←b1,←b2,←b3,←b4,←b5,←b6,←b7,←b8,←b9,←b10,←b11]
  have hr:x.c.rows.isEmpty=((x.rows.length:Int)==0):=by
   show(x.rows.map Row.runs).isEmpty=_
   cases x.rows with
   | nil=>rfl
   | cons a l=>simp;omega
  rw [hr]
  simp only [Ed.c,SV,SW,hbf]
 have Cp:kk x.c=(eF x).all (okR (aN n)):=by
  unfold kk eF
  simp only [SO,SR,okR,hh]
  rw [←b0,←b1,←b2,←b3,←b4,←b5]
  simp only [Ed.c,SV,SW]
  rfl
 unfold gE
 rw [if_neg (by rw [hc];omega),hspare,Cp]
 simp only [hh]
 rw [←b6,←b7,←b8,←b9,←b10,←b11,←b12]
 have c1:(hasB (aN n) 64=true∧(kindName x.c.kind).size=0)↔(hasB (aN n) 64&&(kindName x.kind).toList.isEmpty)=true:=by rw [wE];simp [Ed.c]
 have c2:(hasB (aN n) 128=true∧¬ x.c.color≤6)↔(hasB (aN n) 128&&!decide (x.color≤6))=true:=by simp [Ed.c]
 have c3:(hasB (aN n) 256=true∧da x.c.name=false∧(x.c.name.size≠0∨hasB (aN n) 4096=false))↔(hasB (aN n) 256&&!da x.name&&(!x.name.toList.isEmpty||!hasB (aN n) 4096))=true:=by rw [wE];simp [Ed.c,and_assoc]
 simp only [c1,c2,c3]
 rfl
theorem wrap_u8 {k:Nat} (h:k≤255):IntKind.u8.wrap (k:Int)=(k:Int):=by
 unfold IntKind.wrap
 simp [IntKind.bits,IntKind.signed]
 omega
theorem Tryz.info27:(Tryz.prog.info? 27).map (fun i=>(i.zero,i.size,i.bytes))=some (some (.agg #[.string ⟨#[]⟩,.string ⟨#[]⟩,.int .u8 0,.bool false,.int .i64 0,.slice none 0 0,.slice none 0 0,.slice none 0 0]),8,120):=by kernel_rfl
theorem pR {α:Type} {k:Nat} {enc:α→List Sm} {Ok:Sj→α→Prop} {w:Sj} {b off:Nat} {xs:List α} (h:ah k enc Ok w (some ⟨b,off,none⟩) xs):ah k enc Ok w (some ⟨b,off+k,none⟩) (xs.drop 1):=by
 rcases h with h|⟨b',off',he,hlt,hc⟩
 · exact .inl (by rw [h];rfl)
 · simp only [Option.some.injEq,Addr.mk.injEq,and_true] at he
   obtain⟨rfl,rfl⟩:=he
   refine .inr ⟨b,off+k,rfl,hlt,fun i x hx=>?_⟩
   rw [List.getElem?_drop] at hx
   obtain⟨h1,h2⟩:=hc (1+i) x hx
   refine⟨fun j v hv=>?_,h2⟩
   have:=h1 j v hv
   rw [show off+k+i*k+j=off+(1+i)*k+j by rw [Nat.add_mul];omega]
   exact this
theorem rU {α:Type} {k:Nat} {enc:α→List Sm} {Ok:Sj→α→Prop} {w:Sj} {a:Option Addr} {xs:List α} (m:Nat)(h:ah k enc Ok w a xs):ah k enc Ok w a (xs.take m):=by
 rcases h with h|⟨b',off',he,hlt,hc⟩
 · exact .inl (by rw [h];simp)
 · refine .inr ⟨b',off',he,hlt,fun i x hx=>hc i x ?_⟩
   rw [List.getElem?_take] at hx
   split at hx
   · exact hx
   · cases hx
theorem Gi (h:Hs)(D:Doc):putH h.c D.c=⟨D.c,h.saved.c,(if 16<h.undo.length+1 then (h.undo++[h.doc]).drop 1 else h.undo++[h.doc]).map Doc.c,[]⟩:=by
 unfold putH Hs.c
 simp only [List.length_map]
 split
 · simp [List.map_drop]
 · simp
theorem tz (l:List Nat):(fM l).size≤4*l.length:=lH l
theorem um (s:ByteArray)(i j:Int):(dO s i j).size≤4*s.size:=by
 have hc:(chars s).length≤s.size:=by
  unfold chars
  split
  · exact eC s s.size 0
  · simp
 have:=tz (((chars s).take (limB (chars s).length i j).toNat).drop (limA (chars s).length i).toNat)
 have h2:(((chars s).take (limB (chars s).length i j).toNat).drop (limA (chars s).length i).toNat).length≤(chars s).length:=by simp;omega
 have e:dO s i j=fM (((chars s).take (limB (chars s).length i j).toNat).drop (limA (chars s).length i).toNat):=rfl
 rw [e];omega
theorem jJ (i j:Int):∀ (l:List Run)(A:Int),(sliceAt i j A l).length=l.length
 | [],_=>rfl
 | x::l,A=>by simp [sliceAt,jJ i j l]
theorem jI (i j:Int):∀ (l:List Run)(A:Int),az (sliceAt i j A l)≤4*az l
 | [],_=>by simp [sliceAt,az]
 | x::l,A=>by
   have h1:=jI i j l (A+lenB x.text)
   have h2:=um x.text (limA (lenB x.text) (i-A)) (limB (lenB x.text) (i-A) (j-A))
   simp only [sliceAt,az]
   omega
def j2 (i j A:Int)(x:Run):Run:={ x with text:=dO x.text (limA (lenB x.text) (i-A)) (limB (lenB x.text) (i-A) (j-A)),ruby:=if limB (lenB x.text) (i-A) (j-A)-limA (lenB x.text) (i-A)<lenB x.text then uN else x.ruby }
theorem rV (i j A:Int)(x:Run)(l:List Run):sliceAt i j A (x::l)=j2 i j A x::sliceAt i j (A+lenB x.text) l:=rfl
theorem gZ (l:List Run):az l=cH l:=by
 induction l with
 | nil=>rfl
 | cons x l ih=>simp [az,cH,ih]
theorem mQ:∀ (l:List Run)(acc:Int),0≤acc→-1≤cV l acc∧cV l acc≤acc+cH l
 | [],acc,h=>by simp [cV,cH];omega
 | x::l,acc,h=>by
   have h1:=mR x.text
   simp only [cV,cH]
   split
   · omega
   · have:=mQ l (acc+lenB x.text) (by omega)
     omega
theorem o7 {r:Row} (hf:r.fits):-1≤rowLen r.runs∧rowLen r.runs≤4000000:=by
 have:=mQ r.runs 0 (Int.le_refl 0)
 have h2:=hf.2.2
 unfold rowLen
 omega
theorem D5 (w:Sj)(ds zd:Array Sm):((w.alloc (.cells ds 75)).alloc (.cells zd 75)).heap[w.heap.size]? =some (.cells ds 75 (0,0))∧((w.alloc (.cells ds 75)).alloc (.cells zd 75)).heap[w.heap.size+1]? =some (.cells zd 75 (0,0)):=by
 refine⟨(heap_alloc_old _ _ (by simp)).trans (Sl _ _),?_⟩
 have:=Sl (w.alloc (.cells ds 75)) (.cells zd 75)
 rw [Sj.size_alloc] at this
 exact this
def kr (r:Row)(I J:Int)(w:Sj)(k:Nat)(A:Int)(v:Sm)(wr:Sj):Prop:=∃ zs:List Run,sliceAt I J 0 r.runs=zs++sliceAt I J A (r.runs.drop k)∧zs.length=k∧cV (r.runs.drop k) A=rowLen r.runs∧0≤A∧A≤4000000*k∧wr.ownsRow (w.heap.size+2) 77 5 v zs.length (zs.flatMap Run.enc)∧wr.heap[w.heap.size]? =some (.cells #[.slice r.at_ r.runs.length r.cap] 75 (0,0))∧wr.heap[w.heap.size+1]? =some (.cells #[.slice none 0 0] 75 (0,0))∧Sq w.heap.size w wr
theorem kr.step {r:Row} {I J:Int} {w wr w2 w3:Sj} {k:Nat} {A:Int} {v v':Sm} {zs:List Run} {x:Run} {cs:Array Sm} (hx:r.runs[k]? =some x)(h0:0≤lenB x.text)(hf:x.text.size≤4000000)(hcs:cs.toList=(j2 I J A x).enc)
 (e1:sliceAt I J 0 r.runs=zs++sliceAt I J A (r.runs.drop k)) (e2:zs.length=k) (e3:cV (r.runs.drop k) A=rowLen r.runs) (e4:0≤A) (e5:A≤4000000*k) (e6:wr.ownsRow (w.heap.size+2) 77 5 v zs.length (zs.flatMap Run.enc)) (e7:wr.heap[w.heap.size]? =some (.cells #[.slice r.at_ r.runs.length r.cap] 75 (0,0))) (e8:wr.heap[w.heap.size+1]? =some (.cells #[.slice none 0 0] 75 (0,0))) (e9:Sq w.heap.size w wr)
 (hb:Sq wr.heap.size wr w2) (hown:w3.ownsRow (w.heap.size+2) 77 5 v' (zs.length+1) (zs.flatMap Run.enc++cs.toList)) (hg:(w2.alloc (.cells cs 77)).grownBy w3 v.ownBlock):kr r I J w (k+1) (A+lenB x.text) v' w3:=by
 have hd:=ck r.runs k x hx
 have hl:=mR x.text
 have hs:=hb.size
 have vd:=e9.size
 have hlt:∀ b,v.ownBlock=some b→w.heap.size+2≤b:=fun b e=>(e6.lt b e).1
 have l7:=aR e7
 have l8:=aR e8
 refine⟨zs++[j2 I J A x],?_,by simp [e2],?_,by omega,by omega,?_,?_,?_,((e9.trans (hb.mono vd)).alloc (by omega) _).grown hg (by simp;omega) (fun j hj=>by have:=hlt j hj;omega)⟩
 · rw [e1,hd,rV];simp
 · rw [←e3,hd,cV,if_neg (by omega)]
 · rw [hcs] at hown
   simpa using hown
 · rw [hg.block _ (by simp;omega) (fun e=>by have:=hlt _ e.symm;omega),Sy _ _ _ (by omega)]
   exact(hb.block _ l7).trans e7
 · rw [hg.block _ (by simp;omega) (fun e=>by have:=hlt _ e.symm;omega),Sy _ _ _ (by omega)]
   exact(hb.block _ l8).trans e8
theorem gJ (l:List Run)(i j:Int):az (bR l i j)≤4*az l:=by
 unfold bR
 split
 · simp [az]
 · rw [iO];exact jI _ _ _ _
theorem jf (l:List Run)(i j:Int):(bR l i j).length≤l.length:=by
 unfold bR
 split
 · simp
 · refine Sr (su _) ?_
   rw [jJ];exact Ss _
theorem jT (a b:List Run):az (cZ a b)=az a+az b:=by unfold cZ;rw [iO,df]
theorem vv (a b:List Run):(cZ a b).length≤a.length+b.length:=by
 unfold cZ
 refine Sr (su _) ?_
 simp
def ew (c:Int)(it un:Bool)(x:Run):Run:={ x with color:=c,it:=it,un:=un }
theorem ik (c:Int)(it un:Bool)(l:List Run):az (l.map (ew c it un))=az l:=by
 induction l with
 | nil=>rfl
 | cons x l ih=>simp only [SN,az,ih];rfl
theorem zS {B g cap n k:Nat} {w:Sj} {zs:List Run} {x:Run} (c:Int)(it un:Bool)(h:w.ownsRow B 77 5 (.slice (some ⟨g,0,none⟩) n cap) n (zs.flatMap Run.enc))(hx:zs[k]? =some x) :
 (((w.setCell ⟨g,k*5+1,none⟩ (.int .u8 c)).setCell ⟨g,k*5+2,none⟩ (.bool it)).setCell ⟨g,k*5+3,none⟩ (.bool un)).ownsRow B 77 5 (.slice (some ⟨g,0,none⟩) n cap) n ((zs.set k (ew c it un x)).flatMap Run.enc):=by
 have hk:k<zs.length:=(SF.1 hx).1
 have h1:=fH (enc:=Run.enc) (j:=1) (y:={ x with color:=c }) (v:=.int .u8 c) (fun _=>rfl) h hx rfl (by omega)
 have h2:=fH (enc:=Run.enc) (j:=2) (x:={ x with color:=c }) (y:={ x with color:=c,it:=it }) (v:=.bool it) (fun _=>rfl) h1 (SI hk) rfl (by omega)
 have h3:=fH (enc:=Run.enc) (j:=3) (x:={ x with color:=c,it:=it }) (y:={ x with color:=c,it:=it,un:=un }) (v:=.bool un) (fun _=>rfl) h2 (SI (by rw [List.length_set];exact hk)) rfl (by omega)
 rw [SG,SG] at h3
 exact h3
theorem mJ {a:Option Addr} {c B:Nat} {xs:List Run} {w:Sj} (h:w.ownsRow B 77 5 (.slice a xs.length c) xs.length (xs.flatMap Run.enc)):Runs w a xs:=by
 obtain⟨a',c',he,hS⟩:=aA (k:=5) (enc:=Run.enc) (Ok:=Flat) (fun _=>rfl) h (fun _ _=>trivial)
 simp only [Sm.slice.injEq] at he
 obtain⟨rfl,_,_⟩:=he
 exact hS
end Go.Proofs.YtjebaagkomejaaaGreatDoor
