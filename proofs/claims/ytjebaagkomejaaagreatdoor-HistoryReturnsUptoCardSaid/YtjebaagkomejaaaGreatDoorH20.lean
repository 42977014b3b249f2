/- edit.split: a document with an event split. style.limit, charset.Chars, Of, Slice: the limits of a slice; the characters of a text from one place up to another. style.Slice: the characters of a row from one place up to another. -/
import Derived.Lib.BufferRead
import Derived.Test.YtjebaagkomejaaaGreatDoorH17
set_option linter.unusedVariables false
set_option linter.unusedSimpArgs false
set_option maxRecDepth 100000
set_option maxHeartbeats 12800000
open Go.Lib renaming hid→h_
open Go renaming World→Sh,Value→Si,setRow_heap→Sj,heap_alloc_last→Sk
open List renaming take_append_drop→Sl,mem_singleton→Sm,flatMap_cons→Sn,mem_append→Sp,getElem?_set_self→Sq,drop_eq_nil_of_le→Sr,mem_of_mem_take→Ss,mem_of_mem_drop→St,length_cons→Su,drop_zero→Sv,mem_cons→Sw,set_set→Sx,length→Sy
open Nat renaming le_trans→Sz,le_refl→SA
open Go.Value renaming int→SB
open Go.RowKit renaming Below→SC
open Go.World renaming ownsRow_nil→SD,iterPos→SF
open Go.RowKit.Below renaming heap_alloc→SG,refl→SH
open Go.Lib renaming byteCells→SI,runeCells→SJ,encodeRune→SK,decodeL_drop→SL
open Bool renaming and_eq_true→SM
open Go.Value.slice renaming injEq→SN
namespace Go.Proofs.YtjebaagkomejaaaGreatDoor
open Go.RowKit
structure Ig (B0 g1 g2:Nat)(A B:Ev)(w:Sh):Prop where
 al:A.lies w
 bl:B.lies w
 au:∀ k,A.uses k→k≠g1∧k≠g2∧B0≤k
 bu:∀ k,B.uses k→k≠g1∧k≠g2∧B0≤k
 z1:w.heap[g1]? =some (.cells A.enc.toArray 72 (0,0))
 z2:w.heap[g2]? =some (.cells B.enc.toArray 72 (0,0))
 n1:B0≤g1
 n2:B0≤g2
 ne:g1≠g2
theorem wE {B0 g1 g2:Nat} {A B:Ev} {v w:Sh} (al:A.lies v)(bl:B.lies v)(au:∀ k,A.uses k→k≠g1∧k≠g2∧B0≤k)(bu:∀ k,B.uses k→k≠g1∧k≠g2∧B0≤k)(z1:v.heap[g1]? =some (.cells zeE 72 (0,0)))(z2:v.heap[g2]? =some (.cells zeE 72 (0,0)))(n1:B0≤g1)(n2:B0≤g2)(ne:g1≠g2)
 (hw:w=(v.setRow g1 A.enc.toArray).setRow g2 B.enc.toArray∨w=(v.setRow g2 B.enc.toArray).setRow g1 A.enc.toArray):Ig B0 g1 g2 A B w:=by
 have hsz:w.heap.size=v.heap.size:=by
  rcases hw with rfl|rfl
  · rw [size_setRow,size_setRow]
  · rw [size_setRow,size_setRow]
 have hoff:∀ k,k≠g1→k≠g2→w.heap[k]? =v.heap[k]?:=fun k h1 h2=>by
  rcases hw with rfl|rfl
  · rw [aM _ _ _ _ h2,aM _ _ _ _ h1]
  · rw [aM _ _ _ _ h1,aM _ _ _ _ h2]
 refine⟨Ev.frame al (by omega) fun k h=>hoff k (au k h).1 (au k h).2.1,Ev.frame bl (by omega) fun k h=>hoff k (bu k h).1 (bu k h).2.1,au,bu,?_,?_,n1,n2,ne⟩
 · rcases hw with rfl|rfl
   · rw [aM _ _ _ _ ne];exact Sj _ _ _ _ 72 (0,0) z1
   · exact Sj _ _ _ _ 72 (0,0) ((aM _ _ _ _ ne).trans z1)
 · rcases hw with rfl|rfl
   · exact Sj _ _ _ _ 72 (0,0) ((aM _ _ _ _ ne.symm).trans z2)
   · rw [aM _ _ _ _ ne.symm];exact Sj _ _ _ _ 72 (0,0) z2
theorem tH {e A:Ev} {fr row:Int} (he:e.fits)(hfr:i64 fr)(h:A.c=gh e.c fr row):A.fits:=by
 rw [←Ev.fits_c,h]
 obtain⟨p1,p2,p3,p4,p5,p6,p7,p8,p9⟩:=(Ev.fits_c e).2 he
 exact⟨p1,p2,hfr,p4,p5,p6,p7,fun r hr=>p8 r (Ss hr),Sz (by simp [gh];omega) p9⟩
theorem tG {e B:Ev} {fr row:Int} (he:e.fits)(hfr:i64 fr)(h:B.c=iS e.c fr row 0):B.fits:=by
 rw [←Ev.fits_c,h]
 obtain⟨p1,p2,p3,p4,p5,p6,p7,p8,p9⟩:=(Ev.fits_c e).2 he
 exact⟨(show i64 0 from⟨by decide,by decide⟩),hfr,p3,p4,p5,p6,p7,fun r hr=>p8 r (St hr),Sz (by simp [iS]) p9⟩
theorem jK (n i j:Int)(w:Sh):Calls Tryz.prog 136 #[.int .i64 n,.int .i64 i,.int .i64 j] w fun e w'=>e=.returned (.tuple #[.int .i64 (limA n i),.int .i64 (limB n i j)])∧w'=w:=by
 go_enter Tryz.func136,Tryz.ntmps136
 go_wp2_with fail
 refine bodyPost_ret (v:=.tuple #[.int .i64 (limA n i),.int .i64 (limB n i j)]) (by simp [results,Tryz.results136,go_sem,limA,limB]) rfl ?_
 exact⟨rfl,rfl⟩
def chars (s:ByteArray):List Nat:=if bB s=true then runes s else []
def jh (s:ByteArray)(w:Sh)(e:Ending)(w':Sh):Prop:=∃ v,e=.returned v∧w'.ownsRow w.heap.size 21 1 v (chars s).length ((chars s).map fun n:Nat=>SB .i32 (n:Int))∧SC w.heap.size w w'
theorem kW {w:Sh} {B C e k n:Nat} {v:Si} {xs:List Si} (h:w.ownsRow C e k v n xs)(hB:B≤C):w.ownsRow B e k v n xs :=
 ⟨h.1,h.2.imp id fun⟨g,cap,cur,q1,q2,q3⟩=>⟨g,cap,cur,q1,by omega,q3⟩⟩
theorem vb (s:ByteArray)(w:Sh)(hs:s.size≤4000000)(hE:Env w):Calls Tryz.prog 225 #[.string s] w (jh s w):=by
 obtain⟨i0,hi,hz0,hz1,hz2⟩:=info_parts Tryz.info21m
 have HI:=h_ hi;have J0:=h_ hz0;have J1:=h_ hz1;have J2:=h_ hz2
 clear hi hz0 hz1 hz2
 have nG:=h_ (dM s w hs hE)
 have fI:=h_ (fun(w':Sh) (h:bB s=false) (hb:SC w.heap.size w w')=>(show jh s w (.returned (.slice none 0 0)) w' from⟨_,rfl,by unfold chars;rw [if_neg (by rw [h];exact Bool.false_ne_true)];exact SD _ _ _ _,hb⟩))
 have HQ:=h_ (fun(v:Si) (xs:List Nat) (w1 w':Sh) (hv:bB s=true) (hw:w.heap.size≤w1.heap.size) (he:xs=runes s) (ho:w'.ownsRow (w1.heap.size+1) 21 1 v xs.length (xs.map fun n:Nat=>SB .i32 (n:Int))) (hb:SC w.heap.size w w')=>(show jh s w (.returned v) w' from⟨v,rfl,by unfold chars;rw [if_pos hv];subst he;exact kW ho (by omega),hb⟩))
 generalize jh s w=Q at *
 clear hE
 go_enter Tryz.func225,Tryz.ntmps225
 go_wp2_with fail
 refine nG.out.mono ?_
 rintro e w1 ⟨rfl,hb1⟩
 have hs1:=hb1.size
 clear nG
 have HB1:=h_ hb1
 generalize bB s=V at *
 cases V with
 | false =>
   have HF:=h_ (fI.out w1 rfl hb1)
   clear HQ fI hb1
   go_wp2_with fail
   exact HF.out
 | true =>
   clear hb1 fI
   go_wp2_with fail
   go_loopw [3] (fun v wr=>kz s w1 v wr) (fun _ wr=>s.size-wr.iterPos w1.heap.size)
   case atStart=>exact⟨0,s.size,[],rfl,by omega,by simp,by simp,SD _ _ _ _,Sh.iter_heap w1 s 0,(SH _ _).alloc (SA _) _⟩
   case round =>
    obtain⟨pos,b,xs,hp,hb,hkp,hks,hown,hit,hbe⟩:=hrel
    have hpos:=h_ (show wr.iterPos w1.heap.size=pos by simp [SF,hit])
    by_cases hlt:pos<s.size
    · obtain⟨c,rfl,hn⟩:=im s b pos hlt hb
      have hwd:=width_pos s pos hlt
      have hle:=decode_le s pos
      have hnx:∀ ty,(Instr.next (.pointer (some ⟨w1.heap.size,0,none⟩)) true ty).run Tryz.prog wr=_:=fun ty=>Lib.run_next_any_at wr w1.heap.size s pos ty hit hlt
      rw [hn] at hp
      have HP:=h_ hp
      generalize (Utf8.decode s pos).1=x at *
      generalize (Utf8.decode s pos).2=d at *
      have hgl:w1.heap.size<wr.heap.size:=(Array.getElem?_eq_some_iff.1 hit).1
      have hown2:=ownsRow_iterAt hown (show w1.heap.size<w1.heap.size+1 by omega) s (pos+d)
      have HI2:=h_ (Lib.iterAt_heap wr w1.heap.size s pos (pos+d) hit)
      have hsz:(wr.iterAt w1.heap.size s (pos+d)).heap.size=wr.heap.size:=Lib.iterAt_size _ _ _ _
      have px:=h_ (Lib.below_iterAt hbe (SA _) s (pos+d))
      have wo:=h_ (fun j hj=>(hown.lt j hj).1)
      clear hown hn hit hbe hp
      go_wp2_with (at_builtin;refine aY _ _ rfl (.tmp 14) (.tmp 16) 203 rfl (w1.heap.size+1) 21 i0 _ 1 4 Tryz.underlying203 HI.out J0.out J1.out J2.out rfl (by decide) _ _ _ rfl hown2 _ rfl (by simp [hsz]) rfl ?h1 ?h63 ?hb ?hbase ?_)
      case h1=>first|rfl|(intro u hu;simp at hu;subst hu;rfl)
      case h63=>unfold maxLen;omega
      case hb=>omega
      case hbase=>omega
      intro v' w2 hown' hgrow
      have Hp:w2.heap[w1.heap.size]? =some (.stringIter s (pos+d)):=by
       rw [hgrow.block w1.heap.size (by simp;omega) (fun h=>by have:=wo.out w1.heap.size h.symm;omega),SG _ _ _ (by omega)]
       exact HI2.out
      have R:kz s w1 v' w2:=⟨pos+d,c,xs++[x],by rw [List.append_assoc];exact HP.out,by omega,by simp;omega,by simp;omega,by simpa using hown',Hp,(px.out.alloc (by omega) _).grown hgrow (by simp;omega) (fun j hj=>by have:=wo.out j hj;omega)⟩
      have Aj:w2.iterPos w1.heap.size=pos+d:=by simp [SF,Hp]
      clear hown' hgrow hown2
      go_wp2_with fail
      go_roundw
      case rel=>exact R
      case measure=>rw [Aj,hpos.out];omega
    · have hnx:∀ ty,(Instr.next (.pointer (some ⟨w1.heap.size,0,none⟩)) true ty).run Tryz.prog wr=_:=fun ty=>Lib.run_next_end_at wr w1.heap.size s pos ty hit hlt
      rw [gT s b pos hlt,List.append_nil] at hp
      have HF:=h_ (HQ.out u3 xs w1 wr (by first|rfl|trivial) hs1 hp hown (HB1.out.trans (hbe.mono hs1)))
      clear hown hit hbe hp HQ HB1
      go_wp2_with fail
      exact HF.out
def bV (l:List Nat):List UInt8:=l.flatMap fun(r:Nat)=>SK r
theorem lJ (l:List Nat):(bV l).length≤4*l.length:=by
 induction l with
 | nil=>simp [bV]
 | cons r l ih =>
   have:=(Lib.runeCells_le r).2
   rw [Lib.runeCells_length] at this
   simp only [bV,Sn,List.length_append,Su] at ih ⊢
   omega
theorem oD (l:List Nat)(k r:Nat)(h:l[k]? =some r):SI (bV (l.take (k+1)))=SI (bV (l.take k))++SJ r:=by
 rw [List.take_add_one,h,←Lib.byteCells_encodeRune]
 simp [bV,SI]
def jQ (w:Sh)(a:Option Addr)(l:List Nat):Prop:=ah 1 (fun n:Nat=>[SB .i32 (n:Int)]) Flat w a l
theorem jQ.later {w w':Sh} {a:Option Addr} {l:List Nat} (h:jQ w a l)(hb:SC w.heap.size w w'):jQ w' a l:=ah.keeps Flat.keeps w w' a l hb h
def vk (l:List Nat)(w:Sh)(k:Nat)(v:Si)(wr:Sh):Prop:=wr.ownsRow w.heap.size 5 1 v (bV (l.take k)).length (SI (bV (l.take k)))∧SC w.heap.size w wr
theorem vk.step {l:List Nat} {w wr w1 w2:Sh} {k r:Nat} {v v':Si} {o:Obj} (h:vk l w k v wr)(hr:l[k]? =some r)(hb:SC wr.heap.size wr w1)(ho:w2.ownsRow w.heap.size 5 1 v' ((bV (l.take k)).length+(SJ r).length) (SI (bV (l.take k))++SJ r))(hg:(w1.alloc o).grownBy w2 v.ownBlock):vk l w (k+1) v' w2:=by
 obtain⟨h1,h2⟩:=h
 have hs:=hb.size
 have hs2:=h2.size
 refine⟨?_,((h2.trans (hb.mono hs2)).alloc (by omega) o).grown hg (by simp;omega) (fun j hj=>(h1.lt j hj).1)⟩
 have e:=oD l k r hr
 rw [←e] at ho
 have hl:(bV (l.take (k+1))).length=(bV (l.take k)).length+(SJ r).length:=by
  have:=congrArg Sy e
  simpa [SI] using this
 rw [hl]
 exact ho
theorem of_string {w:Sh} {B n:Nat} {v:Si} {l:List UInt8} (h:w.ownsRow B 5 1 v l.length (SI l)):(convert 230 9 v).run Tryz.prog w=.ok (.string ⟨l.toArray⟩) w:=by
 rcases h.2 with⟨rfl,h0⟩|⟨g,cap,cur,rfl,_,hg,_,_,_,htk⟩
 · obtain rfl:=List.length_eq_zero_iff.1 h0
   exact Lib.run_convert_nil_bytes w 230 9 5 0 Tryz.underlying230 Tryz.underlying5 Tryz.underlying9
 · refine run_convert_bytes_back w 230 9 5 ⟨g,0,none⟩ cap l Tryz.underlying230 Tryz.underlying5 Tryz.underlying9 ?_
   exact Lib.bytes_of_row hg (by simpa using htk)
theorem qB (a:Option Addr)(cap:Nat)(l:List Nat)(w:Sh)(h:jQ w a l)(hl:l.length≤4000000)(hv:∀ r∈l,r≤2147483647∧0≤idx r):Calls Tryz.prog 226 #[.slice a l.length cap] w fun e w'=>e=.returned (.string (fU l))∧SC w.heap.size w w':=by
 have HL:=h_ h
 have HV:=h_ hv
 have H0:=h_ (show vk l w 0 (.slice none 0 0) w from⟨SD _ _ _ _,SH _ _⟩)
 have HQ:=h_ (fun(v:Si) (wr:Sh) (h:vk l w l.length v wr)=>(show(convert 230 9 v).run Tryz.prog wr=.ok (.string (fU l)) wr∧SC w.heap.size w wr from by
  have h1:=h.1
  rw [List.take_length] at h1
  exact⟨of_string (n:=0) h1,h.2⟩))
 clear h hv
 go_enter Tryz.func226,Tryz.ntmps226
 go_wp2_with fail
 go_loopw [3,8] (fun v i wr=>∃ k:Nat,k≤l.length∧i=.int .i64 k∧vk l w k v wr) (fun _ i _=>l.length-(intOf i).toNat)
 case atStart=>exact⟨0,by omega,rfl,H0.out⟩
 case round =>
  clear H0
  obtain⟨k,hk,rfl,hrel⟩:=hrel
  by_cases hlt:k<l.length
  · obtain⟨b,off,r,rfl,hbl,hx,hc,_⟩:=ah.at_ (HL.out.later hrel.2) hlt
    have hc0:wr.cell? ⟨b,off+k,none⟩=some (.int .i32 (r:Int)):=by
     have:=hc 0 _ rfl
     simpa using this
    have L9:=HV.out r (List.mem_of_getElem? hx)
    have OU:=h_ (fun w1=>jL (r:Int) w1 (by omega) (by omega))
    have hrl:(bV (l.take k)).length≤16000000:=by
     have:=lJ (l.take k)
     have h2:(l.take k).length≤k:=List.length_take_le _ _
     omega
    have JA:=hrel.2.size
    have Nh:=h_ (fun(w1:Sh) (hb:SC wr.heap.size wr w1)=>Tryz.utf8_AppendRune w.heap.size u3 (bV (l.take k)).length (SI (bV (l.take k))) (r:Int) (by omega) (by omega) w1 (aJ hrel.1 hb) (by omega) (by have:=hb.size;omega))
    have HST:=h_ (fun(w1 w2:Sh) (v':Si) (o:Obj) (hb:SC wr.heap.size wr w1) (ho:w2.ownsRow w.heap.size 5 1 v' ((bV (l.take k)).length+(SJ r).length) (SI (bV (l.take k))++SJ r)) (hg:(w1.alloc o).grownBy w2 u3.ownBlock)=>vk.step hrel hx hb ho hg)
    clear hrel hx hc
    have hi0:=L9.2
    clear L9
    generalize idx (r:Int)=I at *
    go_wp2_with fail
    refine(OU.out _).mono ?_
    rintro e w1 ⟨rfl,hb1⟩
    go_wp2_with fail
    refine(Nh.out _ hb1).mono ?_
    rintro e w2 ⟨v',rfl,ho,o,hg⟩
    have R:=HST.out _ _ _ _ hb1 ho hg
    clear ho hg hb1 HST Nh
    go_wp2_with fail
    go_roundw
    case rel=>exact⟨k+1,by omega,by go_num,R⟩
    case measure=>simp [intOf];omega
  · obtain rfl:k=l.length:=by omega
    obtain⟨hcv,hbe⟩:=HQ.out _ _ hrel
    clear hrel HL HV
    go_wp2_with fail
    go_ret
    exact⟨rfl,hbe⟩
theorem lk (s:ByteArray):∀ b pos r,r∈cZ s b pos→r≤1114111
 | 0,pos,r,h=>by simp [cZ] at h
 | b+1,pos,r,h=>by
   unfold cZ at h
   split at h
   · rcases Sw.1 h with rfl|h
     · exact decode_le s pos
     · exact lk s b _ r h
   · simp at h
theorem AF {α:Type} (f:α→Si)(l:List α):(l.flatMap fun n=>[f n])=l.map f:=by
 induction l with
 | nil=>rfl
 | cons x l ih=>rw [Sn,ih];rfl
theorem Ea (n:Nat)(i j:Int):∃ p q:Nat,p≤q∧q≤n∧limA n i=p∧limB n i j=q:=by
 refine⟨(limA n i).toNat,(limB n i j).toNat,?_,?_,?_,?_⟩<;>(simp only [limA,limB];omega)
theorem sZ {w:Sh} {g p q:Nat} {l:List Nat} (h:jQ w (some ⟨g,0,none⟩) l):jQ w (some ⟨g,p,none⟩) ((l.take q).drop p):=by
 have h1:=ah.drop (ah.take h q) p
 rwa [Nat.zero_add] at h1
theorem kr (s:ByteArray)(i j:Int)(w:Sh)(hs:s.size≤4000000)(hE:Env w):Calls Tryz.prog 189 #[.string s,.int .i64 i,.int .i64 j] w fun e w'=>e=.returned (.string (dQ s i j))∧SC w.heap.size w w':=by
 have tC:=h_ (vb s w hs hE)
 have hcl:(chars s).length≤4000000:=by
  unfold chars
  split
  · have:(runes s).length≤s.size:=eG s s.size 0
    omega
  · simp
 have hcv:∀ r∈chars s,r≤2147483647∧0≤idx r:=by
  unfold chars
  split
  · rename_i hv
    intro r hr
    unfold bB at hv
    rw [SM,List.all_eq_true] at hv
    exact⟨by have:=lk s _ _ r hr;omega,by simpa using hv.2 r hr⟩
  · intro r hr;simp at hr
 have hsl:dQ s i j=fU (((chars s).take (limB (chars s).length i j).toNat).drop (limA (chars s).length i).toNat):=rfl
 obtain⟨p,q,hpq,NL,hp,hq⟩:=Ea (chars s).length i j
 rw [hp,hq] at hsl
 simp only [Int.toNat_natCast] at hsl
 have Nb:=h_ (show jh s w=fun e w'=>∃ v,e=.returned v∧w'.ownsRow w.heap.size 21 1 v (chars s).length ((chars s).map fun n:Nat=>SB .i32 (n:Int))∧SC w.heap.size w w' from rfl)
 rw [Nb.out] at tC
 generalize dQ s i j=R at *
 generalize chars s=l at *
 subst hsl
 have hp':min (max i 0) (l.length:Int)=(p:Int):=hp
 have hq':min (max j (p:Int)) (l.length:Int)=(q:Int):=by rw [←hp];exact hq
 have FX:=h_ (fun(w1:Sh) (a:Option Addr) (c:Nat) (h:jQ w1 a ((l.take q).drop p))=>qB a c ((l.take q).drop p) w1 h (by simp;omega) (fun r hr=>hcv r (Ss (St hr))))
 have po:=h_ (show((l.take q).drop p).length=q-p from by simp;omega)
 generalize fU ((l.take q).drop p)=R at *
 clear hE hcv hp hq Nb
 go_enter Tryz.func189,Tryz.ntmps189
 go_wp2_with fail
 refine tC.out.mono ?_
 rintro e w1 ⟨v,rfl,hown,hb1⟩
 have hS:=aA (k:=1) (enc:=fun n:Nat=>[SB .i32 (n:Int)]) (Ok:=Flat) (xs:=l) (fun _=>rfl) (by rw [AF];exact hown) (fun _ _=>trivial)
 obtain⟨a,c,rfl,hS⟩:=hS
 have HOW:=h_ hown
 have HB1:=h_ hb1
 have JR:=h_ hS
 clear hown hS hb1 tC
 rcases HOW.out.2 with⟨h0,hn⟩|⟨g,cap,cur,h0,_,_,hnc,_⟩
 · simp only [SN] at h0
   obtain⟨rfl,hl0,rfl⟩:=h0
   obtain rfl:p=0:=by omega
   obtain rfl:q=0:=by omega
   have HO:=h_ (FX.out w1 none 0 (.inl (by simp)))
   rw [po.out] at HO
   clear HOW JR FX po hpq NL
   have e1:min (max i 0) (0:Int)=0:=by omega
   have e2:min (max j 0) (0:Int)=0:=by omega
   rw [hn] at hp' hq' ⊢
   clear hp' hq' hl0 hn
   go_wp2_with fail
   refine HO.out.mono ?_
   rintro e w2 ⟨rfl,hb2⟩
   have hbe:=HB1.out.trans (hb2.mono HB1.out.size)
   go_wp2_with fail
   go_ret
   exact⟨rfl,hbe⟩
 · simp only [SN] at h0
   obtain⟨rfl,_,rfl⟩:=h0
   have hqc:q≤c:=by omega
   by_cases hpc:p=c
   · subst hpc
     obtain rfl:q=p:=by omega
     have HO:=h_ (FX.out w1 (some ⟨g,0,none⟩) 0 (.inl (by simp)))
     rw [po.out,Nat.sub_self] at HO
     clear HOW JR FX po
     go_wp2_with fail
     refine HO.out.mono ?_
     rintro e w2 ⟨rfl,hb2⟩
     have hbe:=HB1.out.trans (hb2.mono HB1.out.size)
     go_wp2_with fail
     go_ret
     exact⟨rfl,hbe⟩
   · have HO:=h_ (FX.out w1 (some ⟨g,p,none⟩) (c-p) (sZ JR.out))
     rw [po.out] at HO
     clear HOW JR FX po
     go_wp2_with fail
     refine HO.out.mono ?_
     rintro e w2 ⟨rfl,hb2⟩
     have hbe:=HB1.out.trans (hb2.mono HB1.out.size)
     go_wp2_with fail
     go_ret
     exact⟨rfl,hbe⟩
theorem sY (l:List Nat):(fU l).size≤4*l.length:=lJ l
theorem tN (s:ByteArray)(i j:Int):(dQ s i j).size≤4*s.size:=by
 have hc:(chars s).length≤s.size:=by
  unfold chars
  split
  · exact eG s s.size 0
  · simp
 have:=sY (((chars s).take (limB (chars s).length i j).toNat).drop (limA (chars s).length i).toNat)
 have h2:(((chars s).take (limB (chars s).length i j).toNat).drop (limA (chars s).length i).toNat).length≤(chars s).length:=by simp;omega
 have e:dQ s i j=fU (((chars s).take (limB (chars s).length i j).toNat).drop (limA (chars s).length i).toNat):=rfl
 rw [e];omega
theorem jH (i j:Int):∀ (l:List Run)(A:Int),(sliceAt i j A l).length=l.length
 | [],_=>rfl
 | x::l,A=>by simp [sliceAt,jH i j l]
theorem jG (i j:Int):∀ (l:List Run)(A:Int),az (sliceAt i j A l)≤4*az l
 | [],_=>by simp [sliceAt,az]
 | x::l,A=>by
   have h1:=jG i j l (A+lenB x.text)
   have h2:=tN x.text (limA (lenB x.text) (i-A)) (limB (lenB x.text) (i-A) (j-A))
   simp only [sliceAt,az]
   omega
def jZ (i j A:Int)(x:Run):Run:={ x with text:=dQ x.text (limA (lenB x.text) (i-A)) (limB (lenB x.text) (i-A) (j-A)),ruby:=if limB (lenB x.text) (i-A) (j-A)-limA (lenB x.text) (i-A)<lenB x.text then uj else x.ruby }
theorem rF (i j A:Int)(x:Run)(l:List Run):sliceAt i j A (x::l)=jZ i j A x::sliceAt i j (A+lenB x.text) l:=rfl
theorem ij (l:List Run):az l=cC l:=by
 induction l with
 | nil=>rfl
 | cons x l ih=>simp [az,cC,ih]
theorem mM:∀ (l:List Run)(acc:Int),0≤acc→-1≤cT l acc∧cT l acc≤acc+cC l
 | [],acc,h=>by simp [cT,cC];omega
 | x::l,acc,h=>by
   have h1:=mN x.text
   simp only [cT,cC]
   split
   · omega
   · have:=mM l (acc+lenB x.text) (by omega)
     omega
theorem oS {r:Row} (hf:r.fits):-1≤rowLen r.runs∧rowLen r.runs≤4000000:=by
 have:=mM r.runs 0 (Int.le_refl 0)
 have h2:=hf.2.2
 unfold rowLen
 omega
theorem DW (w:Sh)(ds zd:Array Si):((w.alloc (.cells ds 75)).alloc (.cells zd 75)).heap[w.heap.size]? =some (.cells ds 75 (0,0))∧((w.alloc (.cells ds 75)).alloc (.cells zd 75)).heap[w.heap.size+1]? =some (.cells zd 75 (0,0)):=by
 refine⟨(heap_alloc_old _ _ (by simp)).trans (Sk _ _),?_⟩
 have:=Sk (w.alloc (.cells ds 75)) (.cells zd 75)
 rw [Sh.size_alloc] at this
 exact this
def kt (r:Row)(I J:Int)(w:Sh)(k:Nat)(A:Int)(v:Si)(wr:Sh):Prop:=∃ zs:List Run,sliceAt I J 0 r.runs=zs++sliceAt I J A (r.runs.drop k)∧zs.length=k∧cT (r.runs.drop k) A=rowLen r.runs∧0≤A∧A≤4000000*k∧wr.ownsRow (w.heap.size+2) 77 5 v zs.length (zs.flatMap Run.enc)∧wr.heap[w.heap.size]? =some (.cells #[.slice r.at_ r.runs.length r.cap] 75 (0,0))∧wr.heap[w.heap.size+1]? =some (.cells #[.slice none 0 0] 75 (0,0))∧SC w.heap.size w wr
theorem kt.step {r:Row} {I J:Int} {w wr w2 w3:Sh} {k:Nat} {A:Int} {v v':Si} {zs:List Run} {x:Run} {cs:Array Si} (hx:r.runs[k]? =some x)(h0:0≤lenB x.text)(hf:x.text.size≤4000000)(hcs:cs.toList=(jZ I J A x).enc)
 (e1:sliceAt I J 0 r.runs=zs++sliceAt I J A (r.runs.drop k)) (e2:zs.length=k) (e3:cT (r.runs.drop k) A=rowLen r.runs) (e4:0≤A) (e5:A≤4000000*k) (e6:wr.ownsRow (w.heap.size+2) 77 5 v zs.length (zs.flatMap Run.enc)) (e7:wr.heap[w.heap.size]? =some (.cells #[.slice r.at_ r.runs.length r.cap] 75 (0,0))) (e8:wr.heap[w.heap.size+1]? =some (.cells #[.slice none 0 0] 75 (0,0))) (e9:SC w.heap.size w wr)
 (hb:SC wr.heap.size wr w2) (hown:w3.ownsRow (w.heap.size+2) 77 5 v' (zs.length+1) (zs.flatMap Run.enc++cs.toList)) (hg:(w2.alloc (.cells cs 77)).grownBy w3 v.ownBlock):kt r I J w (k+1) (A+lenB x.text) v' w3:=by
 have hd:=ch r.runs k x hx
 have hl:=mN x.text
 have hs:=hb.size
 have uD:=e9.size
 have hlt:∀ b,v.ownBlock=some b→w.heap.size+2≤b:=fun b e=>(e6.lt b e).1
 have l7:=aR e7
 have l8:=aR e8
 refine⟨zs++[jZ I J A x],?_,by simp [e2],?_,by omega,by omega,?_,?_,?_,((e9.trans (hb.mono uD)).alloc (by omega) _).grown hg (by simp;omega) (fun j hj=>by have:=hlt j hj;omega)⟩
 · rw [e1,hd,rF];simp
 · rw [←e3,hd,cT,if_neg (by omega)]
 · rw [hcs] at hown
   simpa using hown
 · rw [hg.block _ (by simp;omega) (fun e=>by have:=hlt _ e.symm;omega),SG _ _ _ (by omega)]
   exact(hb.block _ l7).trans e7
 · rw [hg.block _ (by simp;omega) (fun e=>by have:=hlt _ e.symm;omega),SG _ _ _ (by omega)]
   exact(hb.block _ l8).trans e8
theorem gS (l:List Run)(i j:Int):az (bQ l i j)≤4*az l:=by
 unfold bQ
 split
 · simp [az]
 · rw [iY];exact jG _ _ _ _
theorem ji (l:List Run)(i j:Int):(bQ l i j).length≤l.length:=by
 unfold bQ
 split
 · simp
 · refine Sz (rY _) ?_
   rw [jH];exact SA _
theorem jP (a b:List Run):az (cV a b)=az a+az b:=by unfold cV;rw [iY,df]
theorem uU (a b:List Run):(cV a b).length≤a.length+b.length:=by
 unfold cV
 refine Sz (rY _) ?_
 simp
def eD (c:Int)(it un:Bool)(x:Run):Run:={ x with color:=c,it:=it,un:=un }
theorem iw (c:Int)(it un:Bool)(l:List Run):az (l.map (eD c it un))=az l:=by
 induction l with
 | nil=>rfl
 | cons x l ih=>simp only [List.map_cons,az,ih];rfl
theorem zy {B g cap n k:Nat} {w:Sh} {zs:List Run} {x:Run} (c:Int)(it un:Bool)(h:w.ownsRow B 77 5 (.slice (some ⟨g,0,none⟩) n cap) n (zs.flatMap Run.enc))(hx:zs[k]? =some x) :
 (((w.setCell ⟨g,k*5+1,none⟩ (.int .u8 c)).setCell ⟨g,k*5+2,none⟩ (.bool it)).setCell ⟨g,k*5+3,none⟩ (.bool un)).ownsRow B 77 5 (.slice (some ⟨g,0,none⟩) n cap) n ((zs.set k (eD c it un x)).flatMap Run.enc):=by
 have hk:k<zs.length:=(List.getElem?_eq_some_iff.1 hx).1
 have h1:=fN (enc:=Run.enc) (j:=1) (y:={ x with color:=c }) (v:=.int .u8 c) (fun _=>rfl) h hx rfl (by omega)
 have h2:=fN (enc:=Run.enc) (j:=2) (x:={ x with color:=c }) (y:={ x with color:=c,it:=it }) (v:=.bool it) (fun _=>rfl) h1 (Sq hk) rfl (by omega)
 have h3:=fN (enc:=Run.enc) (j:=3) (x:={ x with color:=c,it:=it }) (y:={ x with color:=c,it:=it,un:=un }) (v:=.bool un) (fun _=>rfl) h2 (Sq (by rw [List.length_set];exact hk)) rfl (by omega)
 rw [Sx,Sx] at h3
 exact h3
theorem mG {a:Option Addr} {c B:Nat} {xs:List Run} {w:Sh} (h:w.ownsRow B 77 5 (.slice a xs.length c) xs.length (xs.flatMap Run.enc)):Runs w a xs:=by
 obtain⟨a',c',he,hS⟩:=aA (k:=5) (enc:=Run.enc) (Ok:=Flat) (fun _=>rfl) h (fun _ _=>trivial)
 simp only [SN] at he
 obtain⟨rfl,_,_⟩:=he
 exact hS
theorem Cd:¬ 0≤idx 65533:=by decide +kernel
theorem ll (s:ByteArray):∀ b pos,s.size≤pos+b→(cZ s b pos).all (fun r=>decide (0≤idx r))=true→((cZ s b pos).flatMap fun(r:Nat)=>SK r)=s.data.toList.drop pos
 | 0,pos,hb,_=>by
   rw [Sr (by simpa using hb)]
   rfl
 | b+1,pos,hb,h=>by
   by_cases hlt:pos<s.size
   · have hw:=width_pos s pos hlt
     have hne:s.data.toList.drop pos≠[]:=by
      intro h0
      have:=congrArg Sy h0
      simp at this
      have h1:s.size=s.data.size:=rfl
      omega
     rw [cZ,if_pos hlt,List.all_cons,SM] at h
     have ih:=ll s b (pos+(Utf8.decode s pos).2) (by omega) h.2
     have he:=Lib.encode_decode (s.data.toList.drop pos) hne (by
      rw [SL]
      rintro ⟨h1,_⟩
      have h2:=h.1
      rw [h1] at h2
      exact Cd (by simpa using h2))
     rw [SL] at he
     rw [cZ,if_pos hlt,Sn,ih,he,←List.drop_drop,Sl]
   · rw [Sr (by have h1:s.size=s.data.size:=rfl;simp;omega),gT _ _ _ hlt]
     rfl
def cz (l:List Nat):Nat:=(l.flatMap fun(r:Nat)=>SK r).length
theorem If (l:List Nat):(fU l).size=cz l:=by simp [fU,cz,ByteArray.size]
theorem ns (a b:List Nat):cz (a++b)=cz a+cz b:=by simp [cz]
theorem vd {s:ByteArray} (h:bB s=true):fU (runes s)=s:=by
 have h2:=h
 unfold bB at h2
 rw [SM] at h2
 have:=ll s s.size 0 (by omega) h2.2
 unfold fU runes
 rw [this,Sv]
theorem CH (s:ByteArray):cz (chars s)≤s.size:=by
 unfold chars
 split
 · rename_i h
   rw [←If,vd h];exact SA _
 · simp [cz]
theorem slice3 (l:List Nat)(p q r:Nat)(h:p≤q):cz ((l.take p).drop 0)+cz ((l.take q).drop p)+cz ((l.take r).drop q)≤cz l:=by
 have e1:cz l=cz (l.take q)+cz (l.drop q):=by rw [←ns,Sl]
 have e2:cz (l.take q)=cz ((l.take q).take p)+cz ((l.take q).drop p):=by rw [←ns,Sl]
 have e3:(l.take q).take p=l.take p:=by rw [List.take_take,Nat.min_eq_left h]
 have e4:cz ((l.take r).drop q)≤cz (l.drop q):=by
  rw [List.drop_take]
  have:cz (l.drop q)=cz ((l.drop q).take (r-q))+cz ((l.drop q).drop (r-q)):=by rw [←ns,Sl]
  omega
 rw [Sv]
 rw [e3] at e2
 omega
theorem mn (s:ByteArray)(i j:Int):(dQ s i j).size=cz (((chars s).take (limB (chars s).length i j).toNat).drop (limA (chars s).length i).toNat):=If _
theorem zM {s:ByteArray} (h:0≤lenB s):lenB s=(chars s).length:=by
 unfold lenB chars at *
 split
 · rfl
 · rename_i hv;rw [if_neg hv] at h;omega
theorem tM (s:ByteArray)(hv:0≤lenB s)(a b N A:Int)(hA:0≤A)(h0:0≤a)(hab:a≤b) :
 (dQ s (limA (lenB s) (0-A)) (limB (lenB s) (0-A) (a-A))).size+(dQ s (limA (lenB s) (a-A)) (limB (lenB s) (a-A) (b-A))).size+(dQ s (limA (lenB s) (b-A)) (limB (lenB s) (b-A) (N-A))).size≤s.size:=by
 have hn:=zM hv
 have hc:=CH s
 rw [mn,mn,mn,hn]
 generalize chars s=l at *
 have e1:(limA (l.length:Int) (limA l.length (0-A))).toNat=0:=by unfold limA;omega
 have e2:(limB (l.length:Int) (limA l.length (0-A)) (limB l.length (0-A) (a-A)))=min (max (a-A) 0) l.length:=by unfold limB limA;omega
 have e3:(limA (l.length:Int) (limA l.length (a-A)))=min (max (a-A) 0) l.length:=by unfold limA;omega
 have e4:(limB (l.length:Int) (limA l.length (a-A)) (limB l.length (a-A) (b-A)))=min (max (b-A) 0) l.length:=by unfold limB limA;omega
 have e5:(limA (l.length:Int) (limA l.length (b-A)))=min (max (b-A) 0) l.length:=by unfold limA;omega
 rw [e1,e2,e3,e4,e5]
 exact Sz (slice3 l _ _ _ (by omega)) hc
theorem rU (a b N:Int)(h0:0≤a)(hab:a≤b):∀ (l:List Run)(A:Int),0≤A→0≤cT l A→az (sliceAt 0 a A l)+az (sliceAt a b A l)+az (sliceAt b N A l)≤az l
 | [],A,_,_=>by simp [sliceAt,az]
 | x::l,A,hA,hl=>by
   rw [cT] at hl
   split at hl
   · omega
   · rename_i hx
     have ih:=rU a b N h0 hab l (A+lenB x.text) (by omega) hl
     have h1:=tM x.text (by omega) a b N A hA h0 hab
     simp only [sliceAt,az]
     omega
theorem BY (r:List Run)(i j c:Int)(it un:Bool):az (gH r i j c it un)≤az r:=by
 by_cases h:rowLen r<0
 · unfold gH;rw [if_pos h];simp [az]
 · have e:gH r i j c it un=cV (cV (bQ r 0 (limA (rowLen r) i)) ((bQ r (limA (rowLen r) i) (limB (rowLen r) i j)).map (eD c it un))) (bQ r (limB (rowLen r) i j) (rowLen r)):=by unfold gH;rw [if_neg h];rfl
   rw [e,jP,jP,iw]
   have hp:=rU (limA (rowLen r) i) (limB (rowLen r) i j) (rowLen r) (by unfold limA;omega) (by unfold limB limA;omega) r 0 (Int.le_refl 0) (by unfold rowLen at h;omega)
   have c1:az (bQ r 0 (limA (rowLen r) i))=az (sliceAt 0 (limA (rowLen r) i) 0 r):=by
    unfold bQ
    rw [if_neg h,iY,show limA (rowLen r) 0=0 by unfold limA;omega,show limB (rowLen r) 0 (limA (rowLen r) i)=limA (rowLen r) i by unfold limB limA;omega]
   have c2:az (bQ r (limA (rowLen r) i) (limB (rowLen r) i j))=az (sliceAt (limA (rowLen r) i) (limB (rowLen r) i j) 0 r):=by
    unfold bQ
    rw [if_neg h,iY,show limA (rowLen r) (limA (rowLen r) i)=limA (rowLen r) i by unfold limA;omega,show limB (rowLen r) (limA (rowLen r) i) (limB (rowLen r) i j)=limB (rowLen r) i j by unfold limB limA;omega]
   have c3:az (bQ r (limB (rowLen r) i j) (rowLen r))=az (sliceAt (limB (rowLen r) i j) (rowLen r) 0 r):=by
    unfold bQ
    rw [if_neg h,iY,show limA (rowLen r) (limB (rowLen r) i j)=limB (rowLen r) i j by unfold limB limA;omega,show limB (rowLen r) (limB (rowLen r) i j) (rowLen r)=rowLen r by unfold limB limA;omega]
   omega
theorem ui {P:Run→Prop} {out:List Run} {x:Run} (ho:∀ y∈out,P y)(hx:x.text.size≠0→P x)(hj:∀ (y:Run)(t:ByteArray),P y→P { y with text:=y.text++t }):∀ y∈dP out x,P y:=by
 intro y hy
 unfold dP at hy
 split at hy
 · exact ho y hy
 · rename_i h
   split at hy
   · rename_i l hl
     have hlm:=List.mem_of_getLast? hl
     split at hy
     · rcases Sp.1 hy with h1|h1
       · exact ho y (List.dropLast_subset _ h1)
       · rw [Sm.1 h1];exact hj l _ (ho l hlm)
     · rcases Sp.1 hy with h1|h1
       · exact ho y h1
       · rw [Sm.1 h1];exact hx h
   · rw [Sm.1 hy];exact hx h
theorem rZ {P:Run→Prop} (hj:∀ (y:Run)(t:ByteArray),P y→P { y with text:=y.text++t }) {l:List Run} (hl:∀ x∈l,x.text.size≠0→P x):∀ y∈cG l,P y:=by
 have H:∀ (l out:List Run),(∀ x∈l,x.text.size≠0→P x)→(∀ y∈out,P y)→∀ y∈l.foldl dP out,P y:=by
  intro l
  induction l with
  | nil=>intro out _ ho;exact ho
  | cons x l ih =>
    intro out hl ho
    rw [List.foldl_cons]
    exact ih _ (fun z hz=>hl z (by simp [hz])) (ui ho (hl x (by simp)) hj)
 exact H l [] hl (by simp)
theorem wX (l:List Run):∀ y∈cG l,y.text.size≠0:=rZ (P:=fun y=>y.text.size≠0) (fun y t h=>by simp only [ByteArray.size_append];omega) (fun x _ h=>h)
theorem vS:∀ l:List Run,(∀ y∈l,y.text.size≠0)→l.length≤az l
 | [],_=>by simp
 | x::l,h=>by
   have h1:=h x (by simp)
   have h2:=vS l fun y hy=>h y (by simp [hy])
   rw [az,Su];omega
def lX (x:Run):Prop:=x.ruby.size≤4000000∧0≤x.color∧x.color≤255
theorem vI {l:List Run} (h:∀ x∈l,lX x):∀ y∈cG l,lX y:=rZ (P:=lX) (fun y t h=>h) (fun x hx _=>h x hx)
theorem oM (i j:Int):∀ (l:List Run)(A:Int),(∀ x∈l,lX x)→∀ y∈sliceAt i j A l,lX y
 | [],A,_,y,hy=>by simp [sliceAt] at hy
 | x::l,A,h,y,hy=>by
   simp only [sliceAt,Sw] at hy
   rcases hy with rfl|hy
   · have hx:=h x (by simp)
     refine⟨?_,hx.2⟩
     show(if _ then uj else x.ruby).size≤4000000
     split
     · exact Nat.zero_le _
     · exact hx.1
   · exact oM i j l _ (fun z hz=>h z (by simp [hz])) y hy
theorem mo {r:List Run} (i j:Int)(h:∀ x∈r,lX x):∀ y∈bQ r i j,lX y:=by
 unfold bQ
 split
 · simp
 · exact vI (oM _ _ _ _ h)
theorem pd {a b:List Run} (ha:∀ x∈a,lX x)(hb:∀ x∈b,lX x):∀ y∈cV a b,lX y:=vI fun x hx=>(Sp.1 hx).elim (ha x) (hb x)
theorem D8 {r:List Run} (i j c:Int)(it un:Bool)(hc:0≤c∧c≤255)(h:∀ x∈r,lX x):∀ y∈gH r i j c it un,lX y:=by
 unfold gH
 split
 · simp
 · refine pd (pd (mo _ _ h) ?_) (mo _ _ h)
   intro y hy
   obtain⟨x,hx,rfl⟩:=List.mem_map.1 hy
   exact⟨(mo _ _ h x hx).1,hc⟩
theorem zJ (r:List Run)(i j c:Int)(it un:Bool):∀ y∈gH r i j c it un,y.text.size≠0:=by
 unfold gH
 split
 · simp
 · exact wX _
theorem r_ {r q:Row} (i j c:Int)(it un:Bool)(hc:0≤c∧c≤255)(hf:r.fits)(hq:q.runs=gH r.runs i j c it un):q.fits:=by
 have hs:=BY r.runs i j c it un
 have h4:az r.runs≤4000000:=by rw [ij];exact hf.2.2
 have hok:=D8 i j c it un hc (fun x hx=>(hf.1 x hx).2)
 have hl:=vS _ (zJ r.runs i j c it un)
 refine⟨fun x hx=>?_,?_,?_⟩
 · rw [hq] at hx
   have:=ik _ x hx
   exact⟨by omega,hok x hx⟩
 · rw [hq];omega
 · rw [hq,←ij];omega
end Go.Proofs.YtjebaagkomejaaaGreatDoor
