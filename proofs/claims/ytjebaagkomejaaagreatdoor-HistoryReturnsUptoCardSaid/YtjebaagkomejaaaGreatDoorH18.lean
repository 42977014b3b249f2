/- document.Follow: a comment moved from one text to another. document.Remove: a document without an event. document.Shift: the events from a frame on moved. edit.join: a document with two events joined. -/
import Derived.Test.YtjebaagkomejaaaGreatDoorH17
set_option linter.unusedVariables false
set_option linter.unusedSimpArgs false
set_option maxRecDepth 100000
set_option maxHeartbeats 12800000
open Go.Lib renaming hid→h_
open Go renaming cell_of_row→Sh,World→Si,below_drewN→Sj,heap_alloc_last→Sk
open Go.RowKit renaming Below→Sl
open Go.Value renaming int→Sm,oneCell'→Sn
open Go.World renaming frozen?→Sp,cell?→Sq
open List renaming getElem?_eq_getElem→Sr,getElem?_eq_some_iff→Ss,set_set→St,mem_map→Su,mem_of_getElem?→Sv,all_eq_true→Sw,mem_append→Sx,map_map→Sy
open Go.RowKit.Below renaming setCell→Sz,heap_setCell→SA
open Int renaming not_le→SB
namespace Go.Proofs.YtjebaagkomejaaaGreatDoor
open Go.RowKit
theorem sE (c:Cm)(s1 s2:ByteArray)(w:Si)(hlo:c.lost=false)(hfr:-1000000000000000000≤c.frm∧c.frm≤1000000000000000000)(hti:-1000000000000000000≤c.til∧c.til≤1000000000000000000)(h1:s1.size≤20000000000000)(h2:s2.size≤20000000000000) :
 Calls Tryz.prog 129 #[.agg c.enc.toArray,.string s1,.string s2] w fun e w'=>e=.returned (.agg (nd c (runes s1) (runes s2)).enc.toArray)∧Sl w.heap.size w w':=by
 have HR1:=h_ (fun w1=>jw s1 w1 h1)
 have HR2:=h_ (fun w1=>jw s2 w1 h2)
 have hl1:(runes s1).length≤20000000000000:=Nat.le_trans (eG s1 s1.size 0) h1
 have hl2:(runes s2).length≤20000000000000:=Nat.le_trans (eG s2 s2.size 0) h2
 unfold ku at HR1 HR2
 generalize runes s1=a at *
 generalize runes s2=b at *
 obtain⟨id,ev,frm,til,au,tx,dn,lo⟩:=c
 simp only at hlo hfr hti
 subst hlo
 generalize hQ:(fun(e:Ending) (w':Si)=>e=.returned (.agg (nd ⟨id,ev,frm,til,au,tx,dn,false⟩ a b).enc.toArray)∧Sl w.heap.size w w')=Q
 have HQ:=h_ (fun(f t:Int) (hf:gq a.length b.length (alike a b) (fV a b (alike a b)) frm til=(f,t)) (w':Si) (hb:Sl w.heap.size w w')=>(show(t≤f→Q (.returned (.agg #[Sm .i64 id,.int .i64 ev,.int .i64 0,.int .i64 0,.string au,.string tx,.bool dn,.bool true])) w')∧(¬ t≤f→Q (.returned (.agg #[Sm .i64 id,.int .i64 ev,.int .i64 f,.int .i64 t,.string au,.string tx,.bool dn,.bool false])) w') from by
  subst hQ
  constructor
  · intro h
    refine⟨?_,hb⟩
    rw [kR]
    simp only [hf]
    rw [if_pos h]
    rfl
  · intro h
    refine⟨?_,hb⟩
    rw [kR]
    simp only [hf]
    rw [if_neg h]
    rfl))
 clear hQ
 have HX:=h_ (fun wx (h:Sl (w.heap.size+2) ((w.alloc (.cells #[Sm .i64 id,.int .i64 ev,.int .i64 frm,.int .i64 til,.string au,.string tx,.bool dn,.bool false] 102)).alloc (.cells #[Sm .i64 0,.int .i64 0,.int .i64 0,.int .i64 0,.string ⟨#[]⟩,.string ⟨#[]⟩,.bool false,.bool false] 102)) wx)=>yT w #[Sm .i64 id,.int .i64 ev,.int .i64 frm,.int .i64 til,.string au,.string tx,.bool dn,.bool false] #[Sm .i64 0,.int .i64 0,.int .i64 0,.int .i64 0,.string ⟨#[]⟩,.string ⟨#[]⟩,.bool false,.bool false] 102 102 wx h)
 have HB:=h_ (fun wx (h:Sl (w.heap.size+2) ((w.alloc (.cells #[Sm .i64 id,.int .i64 ev,.int .i64 frm,.int .i64 til,.string au,.string tx,.bool dn,.bool false] 102)).alloc (.cells #[Sm .i64 0,.int .i64 0,.int .i64 0,.int .i64 0,.string ⟨#[]⟩,.string ⟨#[]⟩,.bool false,.bool false] 102)) wx)=>(show Sl w.heap.size w wx from(J9 w _ _).trans (h.mono (by omega))))
 have hsz:((w.alloc (.cells #[Sm .i64 id,.int .i64 ev,.int .i64 frm,.int .i64 til,.string au,.string tx,.bool dn,.bool false] 102)).alloc (.cells #[Sm .i64 0,.int .i64 0,.int .i64 0,.int .i64 0,.string ⟨#[]⟩,.string ⟨#[]⟩,.bool false,.bool false] 102)).heap.size=w.heap.size+2:=by simp
 generalize hW0:((w.alloc (.cells #[Sm .i64 id,.int .i64 ev,.int .i64 frm,.int .i64 til,.string au,.string tx,.bool dn,.bool false] 102)).alloc (.cells #[Sm .i64 0,.int .i64 0,.int .i64 0,.int .i64 0,.string ⟨#[]⟩,.string ⟨#[]⟩,.bool false,.bool false] 102))=W0 at *
 have HW0:=h_ hW0
 have dV:=h_ hsz
 have hb0:Sl (w.heap.size+2) W0 W0:=Sl.refl _ _
 have HT:=h_ (fun(w2 w3:Si) (h:Sl (w.heap.size+2) W0 w2) (h3:Sl w2.heap.size w2 w3)=>(h.trans (h3.mono (by have:=h.size;rw [dV.out] at this;exact this)):Sl (w.heap.size+2) W0 w3))
 clear hW0 hsz
 have fx:∀ wx,Sl (w.heap.size+2) W0 wx→∀ j,wx.cell? ⟨w.heap.size,j,none⟩=_:=fun wx h j=>Sh _ _ j _ 102 (0,0) (HX.out wx h).1
 have gx0:=fx W0 hb0
 simp only [Cm.enc]
 go_enter Tryz.func129,Tryz.ntmps129
 go_wp2_with fail
 rw [HW0.out]
 clear gx0
 have gx0:=fx W0 hb0
 go_wp2_with fail
 refine(HR1.out _).mono ?_
 rintro e w1 ⟨v1,rfl,ho1,hb1⟩
 have hc1:=HT.out _ _ hb0 hb1
 clear hb1 gx0 hb0
 go_wp2_with fail
 refine(HR2.out _).mono ?_
 rintro e w2 ⟨v2,rfl,ho2,hb2⟩
 have hc2:=HT.out _ _ hc1 hb2
 obtain⟨ga,ca,za,hva,hza,ob,hra⟩:=rH (aJ ho1 hb2)
 obtain⟨gb,cb,zb,hvb,hzb,hcb,hrb⟩:=rH ho2
 have Fj:=h_ hza
 have Fi:=h_ hzb
 subst hva
 subst hvb
 have yo:=h_ hra
 have wi:=h_ hrb
 have tD:=h_ ob
 have oG:=h_ hcb
 have hx2:=HX.out _ hc2
 have HB2:=h_ (HB.out _ hc2)
 have CO:=h_ hx2
 have fg:∀ j,w2.cell? ⟨w.heap.size,j,none⟩=_:=fun j=>Sh _ _ j _ 102 (0,0) hx2.1
 have zg:∀ j,w2.frozen? ⟨w.heap.size,j,none⟩=false:=fun j=>by simp [Sp,hx2.1]
 have fr:∀ j,w2.cell? ⟨w.heap.size+1,j,none⟩=_:=fun j=>Sh _ _ j _ 102 (0,0) hx2.2
 have zr:∀ j,w2.frozen? ⟨w.heap.size+1,j,none⟩=false:=fun j=>by simp [Sp,hx2.2]
 clear hra hrb ob hcb hza hzb ho1 ho2 hb2 hc1 hc2 fx HT HX HB hx2 HR1 HR2 dV HW0
 go_upto_block 0 with fail
 go_cut [11] (fun s11 wx=>s11=.int .i64 (alike a b:Nat)∧wx.heap=w2.heap∧Sl w.heap.size w wx)
 case first =>
  go_wp2_with fail
  go_loopw [11] (fun i wr=>∃ p:Nat,p≤alike a b∧i=.int .i64 p∧wr.heap=w2.heap∧Sl w.heap.size w wr) (fun i _=>a.length-(intOf i).toNat)
  case atStart=>exact⟨0,by omega,rfl,rfl,HB2.out⟩
  case round =>
   obtain⟨p,hp,rfl,hh,hbr⟩:=hrel
   have HH:=h_ hh
   have jT:=h_ (fun n=>Sj hbr n)
   have hcl:∀ g j,wr.cell? ⟨g,j,none⟩=w2.cell? ⟨g,j,none⟩:=fun g j=>by simp [Sq,hh]
   have hle:=jm a b
   clear hh hbr
   by_cases hlt:p<a.length∧p<b.length
   · obtain⟨x,hx⟩:∃ x,a[p]? =some x:=⟨_,Sr hlt.1⟩
     obtain⟨y,hy⟩:∃ y,b[p]? =some y:=⟨_,Sr hlt.2⟩
     have HM:=h_ (pk hp hx hy)
     have ra:=(hcl _ _).trans (yo.out p x hx)
     have rb:=(hcl _ _).trans (wi.out p y hy)
     have hza:=Fj.out (by omega)
     have hzb:=Fi.out (by omega)
     have ob:=tD.out (by omega)
     have hcb:=oG.out (by omega)
     subst hza
     subst hzb
     have hm1:decide ((p:Int)<min (a.length:Int) (b.length:Int))=true:=by simp;omega
     clear hx hy yo wi Fj Fi tD oG HQ HB2 CO hcl fg zg fr zr
     by_cases hxy:x=y
     · have HP:=h_ (HM.out.1 hxy)
       subst hxy
       clear HM
       go_wp2_with fail
       go_quiet (fail)
       go_wp2_with fail
       go_roundw
       case rel=>exact⟨p+1,HP.out,by go_num,HH.out,jT.out _⟩
       case measure=>simp [intOf];omega
     · have HP:=h_ (HM.out.2 hxy)
       have hne:¬ ((x:Int)=(y:Int)):=by omega
       clear HM
       go_wp2_with fail
       go_quiet (fail)
       go_wp2_with fail
       go_meet
       exact⟨by rw [←HP.out],HH.out,jT.out _⟩
   · have HP:=h_ (te hp (by omega))
     have hm1:decide ((p:Int)<min (a.length:Int) (b.length:Int))=false:=by simp;omega
     clear yo wi Fj Fi tD oG HQ HB2 CO hcl fg zg fr zr
     go_wp2_with fail
     go_quiet (fail)
     go_wp2_with fail
     go_meet
     exact⟨by rw [←HP.out],HH.out,jT.out _⟩
 case rest =>
  obtain⟨rfl,hh,hbr⟩:=hcut
  have HP:=jm a b
  have vp:=h_ hbr
  have MM:=h_ (show wc.heap[w.heap.size]? =_∧wc.heap[w.heap.size+1]? =_ from by rw [hh];exact CO.out)
  have ql:∀ g j,wc.cell? ⟨g,j,none⟩=w2.cell? ⟨g,j,none⟩:=fun g j=>by simp [Sq,hh]
  have uI:∀ g j,wc.frozen? ⟨g,j,none⟩=w2.frozen? ⟨g,j,none⟩:=fun g j=>by simp [Sp,hh]
  have gg:∀ j,wc.cell? ⟨w.heap.size,j,none⟩=_:=fun j=>(ql _ _).trans (fg j)
  have gz:∀ j,wc.frozen? ⟨w.heap.size,j,none⟩=false:=fun j=>(uI _ _).trans (zg j)
  have gr:∀ j,wc.cell? ⟨w.heap.size+1,j,none⟩=_:=fun j=>(ql _ _).trans (fr j)
  have gy:∀ j,wc.frozen? ⟨w.heap.size+1,j,none⟩=false:=fun j=>(uI _ _).trans (zr j)
  have C0:=h_ (fun j x h=>(ql _ _).trans (yo.out j x h))
  have CZ:=h_ (fun j x h=>(ql _ _).trans (wi.out j x h))
  clear fg zg fr zr yo wi ql uI hh hbr HB2 CO
  obtain⟨wd,hwd⟩:∃ x,x=wc:=⟨_,rfl⟩
  subst hwd
  generalize Pe:alike a b=P at *
  go_upto_block 2 with fail
  go_cut [12] (fun s12 wx=>s12=.int .i64 (fV a b P:Nat)∧wx.heap=wd.heap∧Sl w.heap.size w wx)
  case first =>
   go_wp2_with fail
   go_loopw [12] (fun i wr=>∃ s:Nat,s≤fV a b P∧i=.int .i64 s∧wr.heap=wd.heap∧Sl w.heap.size w wr) (fun i _=>a.length-(intOf i).toNat)
   case atStart=>exact⟨0,by omega,rfl,rfl,vp.out⟩
   case round =>
    obtain⟨s,hp,rfl,hh,hbr⟩:=hrel
    have HH:=h_ hh
    have jT:=h_ (fun n=>Sj hbr n)
    have hcl:∀ g j,wr.cell? ⟨g,j,none⟩=wd.cell? ⟨g,j,none⟩:=fun g j=>by simp [Sq,hh]
    have hle:=nD a b P
    clear hh hbr
    by_cases hlt:s<a.length-P∧s<b.length-P
    · obtain⟨x,hx⟩:∃ x,a[a.length-1-s]? =some x:=⟨_,Sr (by omega)⟩
      obtain⟨y,hy⟩:∃ y,b[b.length-1-s]? =some y:=⟨_,Sr (by omega)⟩
      have HM:=h_ (vj hp hlt.1 hlt.2 hx hy)
      have ra:=(hcl _ _).trans (C0.out _ x hx)
      have rb:=(hcl _ _).trans (CZ.out _ y hy)
      have hza:=Fj.out (by omega)
      have hzb:=Fi.out (by omega)
      have ob:=tD.out (by omega)
      have hcb:=oG.out (by omega)
      subst hza
      subst hzb
      have hm1:decide ((s:Int)<min (a.length:Int) (b.length:Int)-(P:Int))=true:=by simp;omega
      obtain⟨i1,hi1⟩:∃ i:Nat,i=a.length-1-s:=⟨_,rfl⟩
      obtain⟨i2,hi2⟩:∃ i:Nat,i=b.length-1-s:=⟨_,rfl⟩
      have ha1:(a.length:Int)-1-(s:Int)=(i1:Int):=by omega
      have ha2:(b.length:Int)-1-(s:Int)=(i2:Int):=by omega
      have hb1:i1<a.length:=by omega
      have hb2:i2<b.length:=by omega
      rw [←hi1] at ra
      rw [←hi2] at rb
      clear hx hy C0 CZ Fj Fi tD oG HQ vp hcl gg gz gr gy hi1 hi2
      by_cases hxy:x=y
      · have Bd:=h_ (HM.out.1 hxy)
        subst hxy
        clear HM
        go_wp2_with fail
        go_quiet (fail)
        go_wp2_with fail
        go_roundw
        case rel=>exact⟨s+1,Bd.out,by go_num,HH.out,jT.out _⟩
        case measure=>simp [intOf];omega
      · have Bd:=h_ (HM.out.2 hxy)
        have hne:¬ ((x:Int)=(y:Int)):=by omega
        clear HM
        go_wp2_with fail
        go_quiet (fail)
        go_wp2_with fail
        go_meet
        exact⟨by rw [←Bd.out],HH.out,jT.out _⟩
    · have Bd:=h_ (yg hp (by omega))
      have hm1:decide ((s:Int)<min (a.length:Int) (b.length:Int)-(P:Int))=false:=by simp;omega
      clear C0 CZ Fj Fi tD oG HQ vp hcl gg gz gr gy
      go_wp2_with fail
      go_quiet (fail)
      go_wp2_with fail
      go_meet
      exact⟨by rw [←Bd.out],HH.out,jT.out _⟩
  case rest =>
   obtain⟨rfl,hh,hbr⟩:=hcut
   have HZ2:=nD a b P
   have px:=h_ hbr
   have qY:=h_ (show wc.heap[w.heap.size]? =_∧wc.heap[w.heap.size+1]? =_ from by rw [hh];exact MM.out)
   have ql:∀ g j,wc.cell? ⟨g,j,none⟩=wd.cell? ⟨g,j,none⟩:=fun g j=>by simp [Sq,hh]
   have uI:∀ g j,wc.frozen? ⟨g,j,none⟩=wd.frozen? ⟨g,j,none⟩:=fun g j=>by simp [Sp,hh]
   have eg:∀ j,wc.cell? ⟨w.heap.size,j,none⟩=_:=fun j=>(ql _ _).trans (gg j)
   have ez:∀ j,wc.frozen? ⟨w.heap.size,j,none⟩=false:=fun j=>(uI _ _).trans (gz j)
   have er:∀ j,wc.cell? ⟨w.heap.size+1,j,none⟩=_:=fun j=>(ql _ _).trans (gr j)
   have ey:∀ j,wc.frozen? ⟨w.heap.size+1,j,none⟩=false:=fun j=>(uI _ _).trans (gy j)
   clear gg gz gr gy C0 CZ ql uI hh hbr vp Fj Fi tD oG MM
   generalize hSS:fV a b P=S at *
   generalize a.length=n at *
   generalize b.length=m at *
   have h64:(n:Int)≤20000000000000∧(m:Int)≤20000000000000∧(S:Int)≤n∧(S:Int)≤m∧(P:Int)≤n:=by omega
   obtain⟨f1,hf1⟩:∃ f1,f1=(if (n:Int)-S≤frm then frm+((m:Int)-n) else if (P:Int)≤frm then (m:Int)-S else frm):=⟨_,rfl⟩
   obtain⟨t1,ht1⟩:∃ t1,t1=(if til≤(P:Int) then til else if (n:Int)-S<til then til+((m:Int)-n) else (P:Int)):=⟨_,rfl⟩
   have HF:=h_ (HQ.out f1 t1 (by unfold gq;rw [←hf1,←ht1]))
   have tB:=h_ hf1
   have HT1:=h_ ht1
   clear hf1 ht1 HQ
   go_upto_block 4 with fail
   go_cut [] (fun wx=>wx.heap[w.heap.size]? =some (.cells #[Sm .i64 id,.int .i64 ev,.int .i64 f1,.int .i64 til,.string au,.string tx,.bool dn,.bool false] 102 (0,0))∧wx.heap[w.heap.size+1]? =some (.cells #[Sm .i64 0,.int .i64 0,.int .i64 0,.int .i64 0,.string ⟨#[]⟩,.string ⟨#[]⟩,.bool false,.bool false] 102 (0,0))∧Sl w.heap.size w wx)
   case first =>
    rcases(by omega:(n:Int)-S≤frm∨frm<(n:Int)-S) with hA|hA
    · have hv:=tB.out
      rw [if_pos hA] at hv
      have HV:=h_ hv
      clear hv
      go_wp2_with fail
      go_meet
      refine⟨by rw [HV.out];exact heap_setCell_same _ _ _ _ _ _ qY.out.1,(SA _ _ _ _ (by simp only;omega)).trans qY.out.2,Sz px.out (by simp only;omega) _⟩
    · rcases(by omega:(P:Int)≤frm∨frm<(P:Int)) with hB|hB
      · have hv:=tB.out
        rw [if_neg (SB.2 hA),if_pos hB] at hv
        have HV:=h_ hv
        clear hv
        go_wp2_with fail
        go_meet
        refine⟨by rw [HV.out];exact heap_setCell_same _ _ _ _ _ _ qY.out.1,(SA _ _ _ _ (by simp only;omega)).trans qY.out.2,Sz px.out (by simp only;omega) _⟩
      · have hv:=tB.out
        rw [if_neg (SB.2 hA),if_neg (SB.2 hB)] at hv
        have HV:=h_ hv
        clear hv
        go_wp2_with fail
        go_meet
        exact⟨by rw [HV.out];exact qY.out.1,qY.out.2,px.out⟩
   case rest =>
    clear eg ez er ey qY px
    obtain⟨r1,r2,hbr⟩:=hcut
    have eg:∀ j,wc.cell? ⟨w.heap.size,j,none⟩=_:=fun j=>Sh _ _ j _ 102 (0,0) r1
    have ez:∀ j,wc.frozen? ⟨w.heap.size,j,none⟩=false:=fun j=>by simp [Sp,r1]
    have er:∀ j,wc.cell? ⟨w.heap.size+1,j,none⟩=_:=fun j=>Sh _ _ j _ 102 (0,0) r2
    have ey:∀ j,wc.frozen? ⟨w.heap.size+1,j,none⟩=false:=fun j=>by simp [Sp,r2]
    have qY:=h_ (And.intro r1 r2)
    have px:=h_ hbr
    clear r1 r2 hbr
    go_upto_block 5 with fail
    go_cut [] (fun wx=>wx.heap[w.heap.size]? =some (.cells #[Sm .i64 id,.int .i64 ev,.int .i64 f1,.int .i64 t1,.string au,.string tx,.bool dn,.bool false] 102 (0,0))∧wx.heap[w.heap.size+1]? =some (.cells #[Sm .i64 0,.int .i64 0,.int .i64 0,.int .i64 0,.string ⟨#[]⟩,.string ⟨#[]⟩,.bool false,.bool false] 102 (0,0))∧Sl w.heap.size w wx)
    case first =>
     rcases(by omega:til≤(P:Int)∨(P:Int)<til) with hT|hT
     · have hv:=HT1.out
       rw [if_pos hT] at hv
       have HV:=h_ hv
       clear hv
       go_wp2_with fail
       go_meet
       exact⟨by rw [HV.out];exact qY.out.1,qY.out.2,px.out⟩
     · rcases(by omega:(n:Int)-S<til∨til≤(n:Int)-S) with hU|hU
       · have hv:=HT1.out
         rw [if_neg (SB.2 hT),if_pos hU] at hv
         have HV:=h_ hv
         clear hv
         go_wp2_with fail
         go_meet
         refine⟨by rw [HV.out];exact heap_setCell_same _ _ _ _ _ _ qY.out.1,(SA _ _ _ _ (by simp only;omega)).trans qY.out.2,Sz px.out (by simp only;omega) _⟩
       · have hv:=HT1.out
         rw [if_neg (SB.2 hT),if_neg (Int.not_lt.2 hU)] at hv
         have HV:=h_ hv
         clear hv
         go_wp2_with fail
         go_meet
         refine⟨by rw [HV.out];exact heap_setCell_same _ _ _ _ _ _ qY.out.1,(SA _ _ _ _ (by simp only;omega)).trans qY.out.2,Sz px.out (by simp only;omega) _⟩
    case rest =>
     clear eg ez er ey qY px
     obtain⟨r1,r2,hbr⟩:=hcut
     have eg:∀ j,wc.cell? ⟨w.heap.size,j,none⟩=_:=fun j=>Sh _ _ j _ 102 (0,0) r1
     have ez:∀ j,wc.frozen? ⟨w.heap.size,j,none⟩=false:=fun j=>by simp [Sp,r1]
     have er:∀ j,wc.cell? ⟨w.heap.size+1,j,none⟩=_:=fun j=>Sh _ _ j _ 102 (0,0) r2
     have ey:∀ j,wc.frozen? ⟨w.heap.size+1,j,none⟩=false:=fun j=>by simp [Sp,r2]
     have qY:=h_ (And.intro r1 r2)
     have px:=h_ hbr
     clear r1 r2 hbr
     rcases(by omega:t1≤f1∨f1<t1) with hle|hle
     · go_wp2_with fail
       refine bodyPost_ret (v:=.agg #[Sm .i64 id,.int .i64 ev,.int .i64 0,.int .i64 0,.string au,.string tx,.bool dn,.bool true]) (by simp [results,Tryz.results129,go_sem,er]) rfl ?_
       refine(HF.out _ ?_).1 hle
       repeat refine Sz ?_ (by simp only;omega) _
       exact px.out
     · go_wp2_with fail
       refine bodyPost_ret (v:=.agg #[Sm .i64 id,.int .i64 ev,.int .i64 f1,.int .i64 t1,.string au,.string tx,.bool dn,.bool false]) (by simp [results,Tryz.results129,go_sem,er]) rfl ?_
       refine(HF.out _ ?_).2 (by first|exact hle|exact SB.2 hle)
       repeat refine Sz ?_ (by simp only;omega) _
       exact px.out
theorem oT (w:Si)(ds zd:Array Value):((w.alloc (.cells ds 27)).alloc (.cells zd 27)).heap[w.heap.size]? =some (.cells ds 27 (0,0))∧((w.alloc (.cells ds 27)).alloc (.cells zd 27)).heap[w.heap.size+1]? =some (.cells zd 27 (0,0)):=by
 refine⟨(heap_alloc_old _ _ (by simp)).trans (Sk _ _),?_⟩
 have:=Sk (w.alloc (.cells ds 27)) (.cells zd 27)
 rw [Si.size_alloc] at this
 exact this
theorem uk {id:Int} {x:Cm} (h:¬ x.ev=id):dR id x=x:=if_neg h
theorem wZ {id:Int} {x:Cm} (h:x.ev=id):dR id x={ x with frm:=0,til:=0,lost:=true }:=if_pos h
theorem dN.skip {α:Type} {f:α→α} {xs zs:List α} {k:Nat} {x:α} (h:dN f xs zs k)(hx:xs[k]? =some x)(hf:f x=x):dN f xs zs (k+1):=by
 refine⟨h.1,fun i=>?_⟩
 rw [h.2 i]
 by_cases hi:i<k
 · rw [if_pos hi,if_pos (by omega)]
 · rw [if_neg hi]
   by_cases he:i=k
   · subst he
     rw [hx,if_pos (by omega)]
     show some x=some (f x)
     rw [hf]
   · rw [if_neg (by omega)]
theorem DV {id:Int} {d:Doc} {w7 wr:Si} {B j cb cp:Nat} {zs:List Cm} {y:Cm} (hup:dN (dR id) d.cM zs j)(how:wr.ownsRow B 102 8 (.slice (some ⟨cb,0,none⟩) d.cM.length cp) d.cM.length (zs.flatMap Cm.enc))(hkp:Kept (fun b=>bt d.ca d.cM b) w7 wr)
 (hx:d.cM[j]? =some y) (he:d.ca=some ⟨cb,0,none⟩) (hq:y.ev=id) :
 dN (dR id) d.cM (zs.set j (dR id y)) (j+1)∧(((wr.setCell ⟨cb,j*8+2,none⟩ (.int .i64 0)).setCell ⟨cb,j*8+3,none⟩ (.int .i64 0)).setCell ⟨cb,j*8+7,none⟩ (.bool true)).ownsRow B 102 8 (.slice (some ⟨cb,0,none⟩) d.cM.length cp) d.cM.length ((zs.set j (dR id y)).flatMap Cm.enc) ∧
  Kept (fun b=>bt d.ca d.cM b) w7 (((wr.setCell ⟨cb,j*8+2,none⟩ (.int .i64 0)).setCell ⟨cb,j*8+3,none⟩ (.int .i64 0)).setCell ⟨cb,j*8+7,none⟩ (.bool true)):=by
 have hj:j<d.cM.length:=(Ss.1 hx).1
 have hz:=hup.at_ hx
 have hjz:j<zs.length:=by rw [hup.1];exact hj
 have hs:bt d.ca d.cM cb:=⟨fun e=>by rw [e] at hj;simp at hj,⟨cb,0,none⟩,he,rfl⟩
 have h1:=fN (enc:=Cm.enc) (y:={ y with frm:=0 }) (v:=.int .i64 0) (j:=2) (fun _=>rfl) how hz rfl (by decide)
 have h2:=fN (enc:=Cm.enc) (k:=j) (x:={ y with frm:=0 }) (y:={ y with frm:=0,til:=0 }) (v:=.int .i64 0) (j:=3) (fun _=>rfl) h1 (by simp [hjz]) rfl (by decide)
 have h3:=fN (enc:=Cm.enc) (k:=j) (x:={ y with frm:=0,til:=0 }) (y:={ y with frm:=0,til:=0,lost:=true }) (v:=.bool true) (j:=7) (fun _=>rfl) h2 (by simp [hjz]) rfl (by decide)
 rw [St,St] at h3
 refine⟨hup.step hx,?_,((hkp.setCell (.inr hs) _).setCell (.inr hs) _).setCell (.inr hs) _⟩
 rw [wZ hq]
 exact h3
theorem F9 (d:Doc)(k eb cap:Nat)(he:d.ea=some ⟨eb,0,none⟩∧d.ec=cap)(hk:k<d.eV.length):d.enc.toArray.setIfInBounds 6 (.slice (some ⟨eb,0,none⟩) (d.eV.length-1) cap)=({ d with eV:=bI d.eV k }:Doc).enc.toArray:=by
 obtain⟨h1,h2⟩:=he
 simp [Doc.enc,h1,h2,jl _ _ hk]
theorem F8 {d:Doc} {id:Int} {k eb cap n:Nat} {w5:Si} (hl:d.lies w5)(hu:∀ b,d.uses b→n≤b)(hap:d.apart)(he:d.ea=some ⟨eb,0,none⟩∧d.ec=cap)(hk:k<d.eV.length)(w6 w7 w8 w9:Si)
 (hS:ah 7 Ev.enc Flat w6 (some ⟨eb,0,none⟩) (bI d.eV k)) (k6:Kept (fun b=>b=eb) w5 w6) (g:Nat) (hg:g<n) (k7:Kept (fun b=>b=g) w6 w7) (k8:Kept (fun b=>bt d.ca d.cM b) w7 w8) (o8:d.cM≠[]→∃ B,w8.ownsRow B 102 8 (.slice d.ca d.cM.length d.cc) d.cM.length ((d.cM.map (dR id)).flatMap Cm.enc)) (g':Nat) (hg':g'<n) (k9:Kept (fun b=>b=g') w8 w9) :
 ({ d with eV:=bI d.eV k,cM:=d.cM.map (dR id) }:Doc).lies w9∧∀ b,({ d with eV:=bI d.eV k,cM:=d.cM.map (dR id) }:Doc).uses b→n≤b:=by
 obtain⟨t,t1,t2,t3,t4⟩:=hap
 have s6:=k6.size
 have s7:=k7.size
 have s8:=k8.size
 have s9:=k9.size
 have JG:bt d.ea d.eV eb:=⟨fun e=>by rw [e] at hk;simp at hk,⟨eb,0,none⟩,he.1,rfl⟩
 have htb:=t2 eb JG
 have hmem:∀ x∈bI d.eV k,x∈d.eV:=fun x hx=>by
  unfold bI at hx
  rcases Sx.1 hx with h|h
  · exact List.mem_of_mem_take h
  · exact List.mem_of_mem_drop h
 have hne:∀ b,d.uses b→b≠g∧b≠g':=fun b h=>by have:=hu b h;omega
 have hev:∀ b,iQ (some ⟨eb,0,none⟩) (bI d.eV k) b→iQ d.ea d.eV b:=fun b h=>by
  rcases h with⟨_,h2⟩|⟨x,hx,h⟩
  · obtain⟨a,ha,hb⟩:=h2
    obtain rfl:=Option.some.inj ha
    exact .inl ⟨fun e=>by rw [e] at hk;simp at hk,⟨eb,0,none⟩,he.1,hb⟩
  · exact .inr ⟨x,hmem x hx,h⟩
 have qh:∀ b,({ d with eV:=bI d.eV k,cM:=d.cM.map (dR id) }:Doc).uses b→d.uses b:=fun b h=>by
  rcases h with h|h|⟨h1,h2⟩
  · exact .inl h
  · exact .inr (.inl (hev b (he.1▸h)))
  · exact .inr (.inr ⟨fun e=>h1 (by show d.cM.map _=[];rw [e];rfl),h2⟩)
 refine⟨⟨?_,?_,?_⟩,fun b h=>hu b (qh b h)⟩
 · refine ah.frame hl.1 (by omega) (fun b hb=>?_) (fun _ _ _=>trivial)
   have h1:=aP hl.1 hb
   have h2:=hne b (.inl hb)
   have:=t1 b hb
   rw [k9.block b (by omega) h2.2,k8.block b (by omega) (fun q=>by have:=t4 b q;omega),k7.block b (by omega) h2.1,k6.block b h1 (fun e=>by rw [e] at this;omega)]
 · have xL:dG w6 (some ⟨eb,0,none⟩) (bI d.eV k):=by
    rcases hS with h|⟨b,o,ha,hb,hx⟩
    · exact .inl h
    · refine .inr ⟨b,o,ha,hb,fun i x h=>⟨(hx i x h).1,?_⟩⟩
      have hxm:=hmem x (Sv h)
      have hxl:x.lies w5:=gu hl.2.1 hxm
      exact Ev.frame hxl s6 fun b hb=>k6.block b (Ev.uses_lt hxl hb) (fun e=>by have:=t3 x hxm b hb;rw [e] at this;omega)
   show dG w9 d.ea (bI d.eV k)
   rw [he.1]
   refine dG.frame xL (by omega) fun b hb=>?_
   have h1:=el xL hb
   have hb2:=hev b hb
   have h2:=hne b (.inr (.inl hb2))
   rw [k9.block b (by omega) h2.2,k8.block b (by omega) (fun q=>by
    have:=t4 b q
    rcases hb2 with h|⟨x,hx,h⟩
    · have:=t2 b h;omega
    · have:=t3 x hx b h;omega),k7.block b (by omega) h2.1]
 · by_cases hc0:d.cM=[]
   · exact .inl (show d.cM.map _=[] by rw [hc0];rfl)
   obtain⟨B,o8'⟩:=o8 hc0
   have o8'':w8.ownsRow B 102 8 (.slice d.ca (d.cM.map (dR id)).length d.cc) (d.cM.map (dR id)).length ((d.cM.map (dR id)).flatMap Cm.enc):=by rw [List.length_map];exact o8'
   obtain⟨a',c',he',hS'⟩:=aA (k:=8) (enc:=Cm.enc) (Ok:=Flat) (fun _=>rfl) o8'' (fun _ _=>trivial)
   simp only [Value.slice.injEq] at he'
   obtain⟨rfl,_,rfl⟩:=he'
   show ah 8 Cm.enc Flat w9 d.ca (d.cM.map (dR id))
   refine ah.frame hS' (by omega) (fun b hb=>?_) (fun _ _ _=>trivial)
   have hb':bt d.ca d.cM b:=⟨fun e=>hb.1 (by rw [e];rfl),hb.2⟩
   have h1:=aP hS' hb
   rw [k9.block b h1 (hne b (.inr (.inr hb'))).2]
theorem BL {d d':Doc} {id:Int} {k:Nat} {x:Ev} (h0:a_ d=0)(hc:d'.c=d.c)(hx:d.eV[k]? =some x)(hf:aU d.c.eV id=some x.c) :
 bx d.c id=(0,⟨d'.hd,d'.rG,(bI d'.eV k).map Ev.c,d'.cM.map (dR id)⟩):=by
 have h1:cErr d.c=0:=(bw d).symm.trans h0
 have hok:=iF h1
 have hid:x.c.id=id:=by
  have:=List.find?_some hf
  simpa [evAt] using this
 have hk:d.c.eV[k]? =some x.c:=by show(d.eV.map Ev.c)[k]? =_;rw [List.getElem?_map,hx];rfl
 have hfl:=nf hok.ids k x.c hk
 unfold bx
 rw [if_neg (fun h=>h h1),hf,if_neg (by simp)]
 have e1:(bI d'.eV k).map Ev.c=bI d.c.eV k:=by
  have:d'.eV.map Ev.c=d.c.eV:=congrArg DocC.eV hc
  rw [←this];unfold bI;simp [List.map_take,List.map_drop]
 have e2:d'.hd=d.c.hd:=congrArg DocC.hd hc
 have e3:d'.rG=d.c.rG:=congrArg DocC.rG hc
 have e4:d'.cM=d.c.cM:=congrArg DocC.cM hc
 rw [e1,e2,e3,e4,←hfl,hid]
def shE (fr n:Int)(x:Ev):Ev:=if x.inn<fr then x else { x with inn:=x.inn+n,out:=x.out+n }
theorem J_ (fr n:Int)(x:Ev):(shE fr n x).c=pJ fr n x.c:=by
 unfold shE pJ
 show _=if x.inn<fr then _ else _
 split<;>rfl
theorem BE {fr n:Int} {x:Ev} (h:x.inn<fr):shE fr n x=x:=if_pos h
theorem DP {fr n:Int} {x:Ev} (h:¬ x.inn<fr):shE fr n x={ x with inn:=x.inn+n,out:=x.out+n }:=if_neg h
theorem yY (fr n:Int)(x:Ev):(shE fr n x).rows=x.rows∧(shE fr n x).at_=x.at_:=by unfold shE;split<;>exact⟨rfl,rfl⟩
theorem AM {d:DocC} (h:cErr d=0) {e:EvC} (he:e∈d.eV):0≤e.inn∧e.inn<e.out∧e.out≤5184000:=by
 have h1:=Fb h e he
 unfold bT fS at h1
 have h2:gw e.rep (kd d.rG e.rep.region).2=0:=by
  split at h1
  · rename_i hq;simp only [h1] at hq;exact absurd hq (by decide)
  · rename_i hq;simpa using hq
 unfold gw at h2
 split at h2
 · exact absurd h2 (by decide)
 · rename_i hq
   have hs:cL e.inn e.out=true:=by
    have:¬ cL e.rep.inn e.rep.out=false:=fun k=>hq (.inr (.inr k))
    show cL e.rep.inn e.rep.out=true
    simpa using this
   unfold cL at hs
   simpa using hs
theorem DO {fr n:Int} {d:Doc} {w5 wr:Si} {B j eb cp:Nat} {zs:List Ev} {x:Ev} (hup:dN (shE fr n) d.eV zs j)(how:wr.ownsRow B 72 7 (.slice (some ⟨eb,0,none⟩) d.eV.length cp) d.eV.length (zs.flatMap Ev.enc))(hkp:Kept (fun b=>bt d.ea d.eV b) w5 wr)
 (hx:d.eV[j]? =some x) (he:d.ea=some ⟨eb,0,none⟩) (hq:¬ x.inn<fr) :
 dN (shE fr n) d.eV (zs.set j (shE fr n x)) (j+1)∧((wr.drew.setCell ⟨eb,j*7+1,none⟩ (.int .i64 (x.inn+n))).setCell ⟨eb,j*7+1+1,none⟩ (.int .i64 (x.out+n))).ownsRow B 72 7 (.slice (some ⟨eb,0,none⟩) d.eV.length cp) d.eV.length ((zs.set j (shE fr n x)).flatMap Ev.enc) ∧
  Kept (fun b=>bt d.ea d.eV b) w5 ((wr.drew.setCell ⟨eb,j*7+1,none⟩ (.int .i64 (x.inn+n))).setCell ⟨eb,j*7+1+1,none⟩ (.int .i64 (x.out+n))):=by
 have hj:j<d.eV.length:=(Ss.1 hx).1
 have hz:=hup.at_ hx
 have hjz:j<zs.length:=by rw [hup.1];exact hj
 have hs:bt d.ea d.eV eb:=⟨fun e=>by rw [e] at hj;simp at hj,⟨eb,0,none⟩,he,rfl⟩
 have h1:=fN (enc:=Ev.enc) (y:={ x with inn:=x.inn+n }) (v:=.int .i64 (x.inn+n)) (j:=1) (fun _=>rfl) (Si.ownsRow.drew how) hz rfl (by decide)
 have h2:=fN (enc:=Ev.enc) (k:=j) (x:={ x with inn:=x.inn+n }) (y:={ x with inn:=x.inn+n,out:=x.out+n }) (v:=.int .i64 (x.out+n)) (j:=2) (fun _=>rfl) h1 (by simp [hjz]) rfl (by decide)
 rw [St] at h2
 refine⟨hup.step hx,?_,(hkp.drew.setCell (.inr hs) _).setCell (.inr hs) _⟩
 rw [DP hq]
 exact h2
theorem DN {d d':Doc} {fr n:Int} (h0:a_ d=0)(hn:¬ (n < -5184000∨5184000<n))(hc:d'.c=d.c)(hok:∀ q,q<d'.eV.length→∀ y,d'.eV[q]? =some y→eF fr n y.c=true) :
 d_ d.c fr n=(0,{ d.c with eV:=de ((d'.eV.map (shE fr n)).map Ev.c) }):=by
 have h1:cErr d.c=0:=(bw d).symm.trans h0
 have e1:d'.eV.map Ev.c=d.c.eV:=congrArg DocC.eV hc
 have hall:d.c.eV.all (eF fr n)=true:=by
  rw [←e1,Sw]
  intro e he
  obtain⟨y,hy,rfl⟩:=Su.1 he
  obtain⟨q,hq,rfl⟩:=List.getElem_of_mem hy
  exact hok q hq _ (Sr hq)
 unfold d_
 rw [if_neg (fun h=>h h1),if_neg hn,if_pos hall,←e1,Sy,Sy]
 congr 3
 exact List.map_congr_left fun x _=>(J_ fr n x).symm
theorem yX {d d':Doc} {fr n:Int} {y:Ev} {q:Nat} (h0:a_ d=0)(hn:¬ (n < -5184000∨5184000<n))(hc:d'.c=d.c)(hy:d'.eV[q]? =some y)(hok:eF fr n y.c=false):d_ d.c fr n=(2,aV):=by
 have h1:cErr d.c=0:=(bw d).symm.trans h0
 have e1:d'.eV.map Ev.c=d.c.eV:=congrArg DocC.eV hc
 have hall:¬ d.c.eV.all (eF fr n)=true:=fun h=>by
  rw [←e1,Sw] at h
  have:=h y.c (Su.2 ⟨y,Sv hy,rfl⟩)
  rw [hok] at this
  cases this
 unfold d_
 rw [if_neg (fun h=>h h1),if_neg hn,if_neg hall]
theorem zp {d D:Doc} {k:Int} (hf:d.fits)(h:D.c=(bx d.c k).2)(h0:(bx d.c k).1=0):D.fits:=by
 have hc:=Doc.fits.c (n:=4000000) hf hf.2.2.2.2.2.2.1 hf.2.2.2.2.2.2.2.2.1 hf.2.2.2.2.2.2.2.2.2.2
 obtain⟨q1,q2,q3,q4,q5,q6,q7⟩:=hc
 have:D.c.fits 4000000:=by
  rw [h]
  unfold bx at h0 ⊢
  split at h0
  · rename_i hn;exact absurd h0 hn
  · rename_i hn
    rw [if_neg hn]
    split at h0
    · cases h0
    · rename_i hn2
      rw [if_neg hn2]
      refine⟨q1,q2,q3,fun x hx=>q4 x (List.mem_filter.1 hx).1,Nat.le_trans (List.length_filter_le _ _) q5,fun c hc=>?_,by simpa using q7⟩
      obtain⟨c0,hc0,rfl⟩:=Su.1 hc
      have:=q6 c0 hc0
      unfold dR
      split
      · exact⟨this.1,this.2.1,by unfold i64;simp,by unfold i64;simp,this.2.2.2.2⟩
      · exact this
 exact this.doc (Nat.le_refl _)
theorem si {a b y:Ev} (ha:a.fits)(hb:b.fits)(h:bS a.c b.c=0)(hy:y.c=nZ a.c b.c):y.fits:=by
 rw [←Ev.fits_c,hy]
 have h1:=(Ev.fits_c a).2 ha
 have h2:=(Ev.fits_c b).2 hb
 obtain⟨p1,p2,p3,p4,p5,p6,p7,p8,p9⟩:=h1
 obtain⟨r1,r2,r3,r4,r5,r6,r7,r8,r9⟩:=h2
 have hl:a.c.rows.length+b.c.rows.length≤4:=by
  unfold bS at h
  split at h
  · cases h
  · split at h
    · cases h
    · omega
 refine⟨p1,?_,?_,p4,p5,p6,p7,?_,?_⟩
 · show i64 (min a.c.inn b.c.inn)
   unfold i64 at *;omega
 · show i64 (max a.c.out b.c.out)
   unfold i64 at *;omega
 · intro r hr
   rcases Sx.1 hr with hr|hr
   · exact p8 r hr
   · exact r8 r hr
 · show(a.c.rows++b.c.rows).length≤_
   rw [List.length_append];omega
theorem l_:(Tryz.prog.info? 102).map (·.size)=some 8:=by kernel_rfl
theorem Di (y:Cm):(y.enc.toArray.all (·.oneCell'))=true:=by simp [Cm.enc,Sn]
theorem mH (y:Ev):(y.enc.toArray.all (·.oneCell'))=true:=by simp [Ev.enc,Sn]
theorem wU {o e:EvC} {c:Cm} (h:¬ c.ev=e.id):kL o e c=c:=if_neg h
theorem mD (y:Cm)(s1 s2:ByteArray)(w:Si)(hb:y.lost=false→(-1000000000000000000≤y.frm∧y.frm≤1000000000000000000)∧(-1000000000000000000≤y.til∧y.til≤1000000000000000000))(h1:s1.size≤20000000000000)(h2:s2.size≤20000000000000) :
 Calls Tryz.prog 129 #[.agg y.enc.toArray,.string s1,.string s2] w fun e w'=>e=.returned (.agg (gp y s1 s2).enc.toArray)∧Sl w.heap.size w w':=by
 unfold gp
 cases h:y.lost with
 | true=>rw [if_pos rfl];exact lV y s1 s2 w h
 | false=>rw [if_neg Bool.false_ne_true];exact sE y s1 s2 w h (hb h).1 (hb h).2 h1 h2
theorem BR {d:Doc} {w5 wr:Si} {eb:Nat} (hk:Kept (fun b=>bt d.ca d.cM b) w5 wr)(hap:d.apart)(hl:d.lies w5)(hne:d.eV≠[])(he:d.ea=some ⟨eb,0,none⟩):wr.heap[eb]? =w5.heap[eb]?∧(∀ z∈d.eV,z.lies wr)∧Regs wr d.ra d.rG:=by
 obtain⟨t,t1,t2,t3,t4⟩:=hap
 have hs:=hk.size
 refine⟨?_,?_,?_⟩
 · have hu:bt d.ea d.eV eb:=⟨hne,⟨eb,0,none⟩,he,rfl⟩
   exact hk.block eb (el hl.2.1 (.inl hu)) fun q=>by have:=t2 eb hu;have:=t4 eb q;omega
 · intro z hz
   have hzl:z.lies w5:=gu hl.2.1 hz
   exact Ev.frame hzl hs fun b hb=>hk.block b (Ev.uses_lt hzl hb) fun q=>by have:=t3 z hz b hb;have:=t4 b q;omega
 · exact ah.frame hl.1 hs (fun b hb=>hk.block b (aP hl.1 hb) fun q=>by have:=t1 b hb;have:=t4 b q;omega) (fun _ _ _=>trivial)
end Go.Proofs.YtjebaagkomejaaaGreatDoor
