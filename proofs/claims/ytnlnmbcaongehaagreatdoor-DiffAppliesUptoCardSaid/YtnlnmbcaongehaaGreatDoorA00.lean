/- The contracts of align.Find, document.Find and align.has: where a link or an event with an ID lies. The contracts of document.Head and of event.Same. Changes: their cells, what lies behind them, and the changes that lead from one document to another. The contracts of the reference's Repertoire, Index, digit and Name. The contracts of the reference's Valid, runes and Len of strings, Valid and CanDrop of rates, the check of a header and of a region: the same specifications as the program's. The contracts of the reference's runes and Len of strings, Valid, Len, Plain and Check of styled rows: the same specifications as the program's. -/
import Derived.Test.YtnlnmbcaongehaaGreatDoorB06
set_option linter.unusedVariables false
set_option linter.unusedSimpArgs false
set_option maxRecDepth 100000
set_option maxHeartbeats 12800000
open Go.Lib renaming hid→h_
open List renaming drop_length→e_,drop_zero→fb,drop_eq_nil_of_le→fe,mem_of_getElem?→ff,length_cons→fg,all_cons→fh,length→fi
open Go renaming World→fj,Calls→fk
open Go.Proofs.Tryz renaming prog→fm,ntmps174→fo,func174→fp,ntmps240→fq,ntmps173→fr,ntmps172→ft,ntmps171→fu,func240→fw,func173→fx,func172→fy,func171→fz,ntmps243→fA,ntmps239→fB,ntmps177→fC,func243→fD,func239→fE,func177→fF
open Go.RowKit renaming Below→fG
open Go.Value renaming string→fH
open Go.RowKit.Below renaming refl→fI
open Nat renaming le_refl→fJ,add_zero→fK
open Go.Instr renaming next→fL
open Go.Utf8 renaming decode→fM
open Bool renaming true_and→fN,false_and→fO,and_eq_true→fP,and_false→fQ
open Go.Lib renaming run_next_end_at→fR,run_next_any_at→fS
open Go.World renaming size_alloc→fT,iterPos→fU
namespace Go.Proofs.YtnlnmbcaongehaaGreatDoor
open Go.RowKit
def bj {α:Type} (p:α→Bool):List α→Nat→Int
 | [],_=>-1
 | x::l,i=>if p x=true then (i:Int) else bj p l (i+1)
def posOf {α:Type} (p:α→Bool)(xs:List α):Int:=bj p xs 0
theorem zcg {α:Type} (p:α→Bool):∀ (xs:List α)(i:Nat),bj p xs i=-1∨((i:Int)≤bj p xs i∧bj p xs i<(i:Int)+xs.length)
 | [],i=>.inl rfl
 | x::l,i=>by
   unfold bj
   split
   · right;simp;omega
   · rcases zcg p l (i+1) with h|h
     · exact .inl h
     · right;simp only [fg];omega
theorem zdy {α:Type} (p:α→Bool)(xs:List α):posOf p xs=-1∨(0≤posOf p xs∧posOf p xs<xs.length):=by
 rcases zcg p xs 0 with h|h
 · exact .inl h
 · exact .inr ⟨by unfold posOf;omega,by unfold posOf;omega⟩
def bl (id:Int)(x:Ev):Bool:=x.id==id
theorem zbm (d:Doc)(w:fj):fk fm 45 #[.agg d.enc.toArray] w fun e w'=>e=.returned (.agg d.hd.enc.toArray)∧fG w.heap.size w w':=by
 obtain⟨title,lA,rate,drop,last,ra,rc,rG,ea,ec,evs,ca,cc,cms⟩:=d
 simp only [Doc.enc,Doc.hd,Hd.enc]
 generalize hQ:(fun(e:Ending) (w':fj)=>e=.returned (.agg [fH title,.string lA,.int .u8 rate,.bool drop,.int .i64 last].toArray)∧fG w.heap.size w w')=Q
 have HQ:=h_ (fun w' (hb:fG w.heap.size w w')=>show Q (.returned (.agg #[fH title,.string lA,.int .u8 rate,.bool drop,.int .i64 last])) w' from hQ▸⟨rfl,hb⟩)
 clear hQ
 go_enter Tryz.func45,Tryz.ntmps45
 go_wp2_with fail
 refine bodyPost_ret (v:=.agg #[fH title,.string lA,.int .u8 rate,.bool drop,.int .i64 last]) (by simp [results,Tryz.results45,go_sem]) rfl (HQ.out _ ?_)
 exact(((fI _ _).alloc (fJ _) _).alloc (by simp) _)
theorem ziE (a b:Cm)(w:fj):(binOp .eql 52 (.agg a.enc.toArray) (.agg b.enc.toArray)).run fm w=.ok (.bool (cmEq a b)) w:=by
 simp [go_sem,Cm.enc,cmEq]
 repeat' split
 all_goals simp_all
theorem zjZ (w:fj):fk fm 274 #[] w fun e w'=>e=.returned (.string zev)∧w=w':=by
 go_enter Tryz.func274,Tryz.ntmps274
 go_wp2
 go_ret
 exact⟨by kernel_rfl,rfl⟩
theorem za8 (r:Int)(w:fj)(h0:-2147483648≤r)(h1:r≤2147483647) :
 fk fm 239 #[.int .i32 r] w fun e w'=>e=.returned (.int .i64 (idx r))∧fG w.heap.size w w':=by
 by_cases ha:32≤r∧r≤126
 · have hi:idx r=r-32:=by unfold idx;rw [if_pos ha]
   obtain⟨a0,a1⟩:=ha
   have HI:=h_ hi
   clear hi
   go_enter fE,fB
   go_wp2
   go_ret
   rw [HI.out]
   exact⟨rfl,fI _ _⟩
 · have hi:idx r=dV (runes zev) r 0:=by unfold idx;rw [if_neg ha,zgK]
   have hrep:=zjZ w
   have hs:zev.size≤4000000:=by decide +kernel
   generalize zev=s at *
   rw [hi]
   clear hi
   generalize hG:dV (runes s) r 0=G
   have hG0:dV (bL s s.size 0) r 0=G:=hG
   have H0:=h_ hG0
   have HR:=h_ hrep
   clear hG hG0 hrep
   rcases(show r<32∨(32≤r∧126<r) by omega) with hb|⟨hb,hb'⟩
   all_goals
    clear ha
    go_enter fE,fB
    go_wp2_with fail
    refine HR.out.mono ?_
    rintro e w1 ⟨rfl,rfl⟩
    go_wp2_with fail
    go_loopw [3] (fun n w'=>∃ (pos b:Nat) (k:Nat),w'=w.iter s pos∧n=.int .i64 k∧dV (bL s b pos) r k=G∧s.size≤pos+b∧k≤pos∧k≤s.size) (fun _ w'=>s.size-w'.iterPos w.heap.size)
    case atStart=>exact⟨0,s.size,0,rfl,rfl,H0.out,by omega,by omega,by omega⟩
    case round =>
     obtain⟨pos,b,k,rfl,rfl,hp,hb,hk,hk2⟩:=hrel
     by_cases hlt:pos<s.size
     · obtain⟨c,rfl,hn⟩:=eh s b pos hlt hb
       have hwd:=width_pos s pos hlt
       have hnx:∀ ty,(fL (.pointer (some ⟨w.heap.size,0,none⟩)) true ty).run fm (w.iter s pos)=_:=fun ty=>run_next_any w s pos ty hlt
       rw [hn] at hp
       by_cases he:((fM s pos).1:Int)=r
       · rw [zfm _ _ _ _ he] at hp
         have hbe:(((fM s pos).1:Int)==r)=true:=by simpa using he
         have HP:=h_ hp
         clear hp hn he H0 HR
         go_wp2
         go_ret
         exact⟨by rw [←HP.out];rfl,(fI _ _).alloc (fJ _) _⟩
       · rw [zg4 _ _ _ _ he] at hp
         have hbe:(((fM s pos).1:Int)==r)=false:=by simpa using he
         have HP:=h_ hp
         clear hp hn he H0 HR
         go_wp2
         go_roundw
         case rel=>exact⟨pos+(fM s pos).2,c,k+1,rfl,by go_num,HP.out,by omega,by omega,by omega⟩
         case measure=>simp;omega
     · have hnx:∀ ty,(fL (.pointer (some ⟨w.heap.size,0,none⟩)) true ty).run fm (w.iter s pos)=_:=fun ty=>run_next_end w s pos ty hlt
       rw [zaS s b pos hlt] at hp
       have HP:=h_ hp
       clear hp H0 HR
       go_wp2
       go_ret
       exact⟨by rw [←HP.out];rfl,(fI _ _).alloc (fJ _) _⟩
theorem zkv (c:Int)(w:fj)(h0:48≤c)(h1:c≤57):fk fm 240 #[.int .u8 c] w fun e w'=>e=.returned (.bool true)∧w=w':=by
 go_enter fw,fq
 go_wp2
 go_ret
 exact⟨rfl,rfl⟩
theorem zbY (c:Int)(w:fj)(h:c<48∨57<c):fk fm 240 #[.int .u8 c] w fun e w'=>e=.returned (.bool false)∧w=w':=by
 rcases(show c<48∨(48≤c∧57<c) by omega) with h|⟨h,h'⟩
 · go_enter fw,fq
   go_wp2
   go_ret
   exact⟨rfl,rfl⟩
 · have h2:decide (c≤57)=false:=by simp;omega
   go_enter fw,fq
   go_wp2
   go_ret
   exact⟨rfl,rfl⟩
theorem cQ (s:ByteArray)(w:fj)(hs:s.size≤4000000) :
 fk fm 171 #[.string s] w fun e w'=>e=.returned (.bool (bW s))∧w=w':=by
 by_cases h1:s.size<1
 · have hn:bW s=false:=by simp [bW,show ¬ 1≤s.size by omega]
   have HN:=h_ hn;clear hn
   go_enter fz,fu
   go_wp2
   go_ret
   rw [HN.out];exact⟨rfl,rfl⟩
 by_cases h2:16<s.size
 · have hn:bW s=false:=by simp [bW,show ¬ s.size≤16 by omega]
   have HN:=h_ hn;clear hn
   go_enter fz,fu
   go_wp2
   go_ret
   rw [HN.out];exact⟨rfl,rfl⟩
 have hp:0<s.size:=by omega
 have HY:=h_ (ziL s (by omega) (by omega))
 have HN3:=h_ (show s[0].toNat<65→bW s=false from fun h3=>by simp only [bW,eS s hp,show ¬ 65≤s[0].toNat by omega,decide_false,fQ,fO])
 have HN4:=h_ (show 90<s[0].toNat→bW s=false from fun h3=>by simp only [bW,eS s hp,show ¬ s[0].toNat≤90 by omega,decide_false,fQ,fO])
 go_enter fz,fu
 go_wp2
 go_loop [3] (fun i=>∃ k:Nat,k≤s.size∧i=.int .i64 k∧okTo s k∧(0<k→65≤s[0].toNat∧s[0].toNat≤90)) (fun i=>s.size-(intOf i).toNat)
 case atStart=>exact⟨0,by omega,rfl,zha s,fun h=>by omega⟩
 case round =>
  obtain⟨k,hk,rfl,hok,hfst⟩:=hrel
  by_cases hlt:k<s.size
  · have hN:=h_ (zj8 s k hlt)
    have hS:=h_ (zhb s k hlt hok)
    have HF:=h_ hfst
    have hb:=s[k].toNat_lt
    clear hok hfst
    rcases(show(65≤s[k].toNat∧s[k].toNat≤90)∨(k=0∧s[k].toNat<65)∨(k=0∧65≤s[k].toNat∧90<s[k].toNat)∨(0<k∧((s[k].toNat<65∧48≤s[k].toNat∧s[k].toNat≤57)∨(s[k].toNat<65∧s[k].toNat=45)∨(s[k].toNat<65∧¬ s[k].toNat=45∧s[k].toNat<48)∨(s[k].toNat<65∧57<s[k].toNat)∨(65≤s[k].toNat∧90<s[k].toNat∧s[k].toNat=95)∨(65≤s[k].toNat∧90<s[k].toNat∧¬ s[k].toNat=95))) by omega) with⟨c1,c2⟩|⟨rfl,c1⟩|⟨rfl,c1,c2⟩|⟨hk0,c⟩
    · have hnew:okTo s (k+1)∧(0<k+1→65≤s[0].toNat∧s[0].toNat≤90):=⟨hS.out (zhc _ (by omega)),fun _=>by
       by_cases hz:k=0
       · subst hz;exact⟨c1,c2⟩
       · exact HF.out (by omega)⟩
      have HNW:=h_ hnew
      clear hnew
      go_wp2
      go_round
      case rel=>exact⟨k+1,by omega,by go_num,HNW.out⟩
      case measure=>simp [intOf];omega
    · go_wp2
      go_ret
      rw [HN3.out c1];exact⟨rfl,rfl⟩
    · have hq9:decide ((s[0].toNat:Int)≤90)=false:=by simp;omega
      go_wp2
      go_ret
      rw [HN4.out c2];exact⟨rfl,rfl⟩
    · have hkz:((k:Int)==0)=false:=by simp;omega
      have hkz2:(k==0)=false:=by simp;omega
      rcases c with⟨c1,c2,c3⟩|⟨c1,c2⟩|⟨c1,c2,c3⟩|⟨c1,c2⟩|⟨c1,c2,c3⟩|⟨c1,c2,c3⟩
      · have HNW:=h_ (hS.out (zhc _ (by omega)))
        go_wp2_with (go_at_call 240;refine(zkv _ _ (by omega) (by omega)).mono ?_;rintro e w2 ⟨rfl,rfl⟩)
        go_round
        case rel=>exact⟨k+1,by omega,by go_num,HNW.out,fun _=>HF.out hk0⟩
        case measure=>simp [intOf];omega
      · have HNW:=h_ (hS.out (zhc _ (by omega)))
        have hq:((s[k].toNat:Int) != 95)=true:=by simp;omega
        have hq2:((s[k].toNat:Int) != 45)=false:=by simp;omega
        go_wp2_with (go_at_call 240;refine(zbY _ _ (by omega)).mono ?_;rintro e w2 ⟨rfl,rfl⟩)
        go_round
        case rel=>exact⟨k+1,by omega,by go_num,HNW.out,fun _=>HF.out hk0⟩
        case measure=>simp [intOf];omega
      · have HNW:=h_ (hN.out (zlh _ (by omega)))
        have hq:((s[k].toNat:Int) != 95)=true:=by simp;omega
        have hq2:((s[k].toNat:Int) != 45)=true:=by simp;omega
        go_wp2_with (go_at_call 240;refine(zbY _ _ (by omega)).mono ?_;rintro e w2 ⟨rfl,rfl⟩)
        go_ret
        rw [HNW.out];exact⟨rfl,rfl⟩
      · have HNW:=h_ (hN.out (zlh _ (by omega)))
        have hq:((s[k].toNat:Int) != 95)=true:=by simp;omega
        have hq2:((s[k].toNat:Int) != 45)=true:=by simp;omega
        go_wp2_with (go_at_call 240;refine(zbY _ _ (by omega)).mono ?_;rintro e w2 ⟨rfl,rfl⟩)
        go_ret
        rw [HNW.out];exact⟨rfl,rfl⟩
      · have HNW:=h_ (hS.out (zhc _ (by omega)))
        have hq:((s[k].toNat:Int) != 95)=false:=by simp;omega
        go_wp2_with (go_at_call 240;refine(zbY _ _ (by omega)).mono ?_;rintro e w2 ⟨rfl,rfl⟩)
        go_round
        case rel=>exact⟨k+1,by omega,by go_num,HNW.out,fun _=>HF.out hk0⟩
        case measure=>simp [intOf];omega
      · have HNW:=h_ (hN.out (zlh _ (by omega)))
        have hq:((s[k].toNat:Int) != 95)=true:=by simp;omega
        have hq2:((s[k].toNat:Int) != 45)=true:=by simp;omega
        have hq9:decide ((s[k].toNat:Int)≤90)=false:=by simp;omega
        go_wp2_with (go_at_call 240;refine(zbY _ _ (by omega)).mono ?_;rintro e w2 ⟨rfl,rfl⟩)
        go_ret
        rw [HNW.out];exact⟨rfl,rfl⟩
  · obtain rfl:k=s.size:=by omega
    have HZ:=h_ (HY.out (hfst hp).1 (hfst hp).2 hok)
    clear hfst hok
    go_wp2
    go_ret
    rw [HZ.out];exact⟨rfl,rfl⟩
theorem zlX:¬ 0≤idx 65533:=by decide +kernel
theorem zcE (s:ByteArray):∀ b pos,s.size≤pos+b→(bL s b pos).all (fun r=>decide (0≤idx r))=true→Lib.validD (s.data.toList.drop pos)=true
 | 0,pos,hb,_=>by
   rw [fe (by simpa using hb)]
   rfl
 | b+1,pos,hb,h=>by
   by_cases hlt:pos<s.size
   · have hw:=width_pos s pos hlt
     have hne:s.data.toList.drop pos≠[]:=by
      intro h0
      have:=congrArg fi h0
      simp at this
      have h1:s.size=s.data.size:=rfl
      omega
     rw [bL,if_pos hlt,fh,fP] at h
     rw [Lib.validD_step _ hne,Lib.decodeL_drop,if_neg,List.drop_drop]
     · exact zcE s b _ (by omega) h.2
     · rintro ⟨h1,_⟩
       have h2:=h.1
       rw [h1] at h2
       exact zlX (by simpa using h2)
   · rw [fe (by have h1:s.size=s.data.size:=rfl;simp;omega)]
     rfl
theorem ziZ (s:ByteArray):(bL s s.size 0).all (fun r=>decide (0≤idx r))=bf s:=by
 unfold bf runes
 cases h:(bL s s.size 0).all (fun r=>decide (0≤idx r))
 · rw [fQ]
 · have:=zcE s s.size 0 (by omega) h
   rw [fb] at this
   rw [this];rfl
theorem cD (s:ByteArray)(w:fj)(hs:s.size≤4000000) :
 fk fm 170 #[.string s] w fun e w'=>e=.returned (.bool (bf s))∧fG w.heap.size w w':=by
 have hG:=ziZ s
 generalize hGg:bf s=G at *
 have H0:=h_ hG
 clear hG hGg
 go_enter Tryz.func170,Tryz.ntmps170
 go_wp2_with fail
 go_loopw [4] (fun _ wr=>∃ (pos b:Nat),eZ w s w.heap.size pos wr∧(bL s b pos).all (fun r=>decide (0≤idx r))=G∧s.size≤pos+b) (fun _ wr=>s.size-wr.iterPos w.heap.size)
 case atStart=>exact⟨0,s.size,eZ.start _ _,H0.out,by omega⟩
 case round =>
  obtain⟨pos,b,hI,hp,hb⟩:=hrel
  have hpos:=h_ hI.pos
  by_cases hlt:pos<s.size
  · obtain⟨c,rfl,hn⟩:=eh s b pos hlt hb
    have hwd:=width_pos s pos hlt
    have hle:=decode_le s pos
    have hnx:∀ ty,(fL (.pointer (some ⟨w.heap.size,0,none⟩)) true ty).run fm wr=_:=fun ty=>fS wr w.heap.size s pos ty hI.1 hlt
    rw [hn,fh] at hp
    generalize (fM s pos).1=x at *
    generalize (fM s pos).2=d at *
    have HS:=h_ (fun w2=>hI.step (w2:=w2) (pos+d))
    have HP:=h_ hp
    clear hp hn H0 hI
    by_cases hx:0≤idx x
    · go_wp2_with (go_at_call 239;refine(za8 _ _ (by omega) (by omega)).mono ?_;rintro e w2 ⟨rfl,hb2⟩)
      have hI2:=HS.out _ hb2
      have hq:=HP.out
      simp only [hx,decide_true,fN] at hq
      go_roundw
      case rel=>exact⟨pos+d,c,hI2,hq,by omega⟩
      case measure=>rw [hI2.pos,hpos.out];omega
    · have hx':idx x<0:=by omega
      go_wp2_with (go_at_call 239;refine(za8 _ _ (by omega) (by omega)).mono ?_;rintro e w2 ⟨rfl,hb2⟩)
      go_ret
      have hI2:=HS.out _ hb2
      have hq:=HP.out
      rw [show decide (0≤idx (x:Int))=false by simp;omega,fO] at hq
      exact⟨by rw [←hq];rfl,hI2.2⟩
  · have hnx:∀ ty,(fL (.pointer (some ⟨w.heap.size,0,none⟩)) true ty).run fm wr=_:=fun ty=>fR wr w.heap.size s pos ty hI.1 hlt
    rw [zkT s b pos hlt] at hp
    have HP:=h_ hp
    have HB:=h_ hI.2
    clear hp H0 hI
    go_wp2_with fail
    go_ret
    exact⟨by rw [←HP.out];rfl,HB.out⟩
theorem zfT (r:Int)(w:fj):fk fm 172 #[.int .u8 r] w fun e w'=>e=.returned (.bool (decide (1≤r∧r≤7)))∧w=w':=by
 by_cases h1:1≤r
 · by_cases h2:r≤7
   · have HD:=h_ (show decide (1≤r∧r≤7)=true by simp [h1,h2])
     go_enter fy,ft
     go_wp2
     go_ret
     rw [HD.out];exact⟨rfl,rfl⟩
   · have HD:=h_ (show decide (1≤r∧r≤7)=false by simp [h2])
     have h2':decide (r≤7)=false:=by simpa using h2
     rw [HD.out]
     go_enter fy,ft
     go_wp2
     go_ret
     exact⟨rfl,rfl⟩
 · have HD:=h_ (show decide (1≤r∧r≤7)=false by simp [h1])
   have h1':decide (1≤r)=false:=by simpa using h1
   rw [HD.out]
   go_enter fy,ft
   go_wp2
   go_ret
   exact⟨rfl,rfl⟩
theorem zdl (r:Int)(w:fj):fk fm 173 #[.int .u8 r] w fun e w'=>e=.returned (.bool (decide (r=4∨r=7)))∧w=w':=by
 by_cases h1:r=4
 · subst h1
   go_enter fx,fr
   go_wp2
   go_ret
   exact⟨rfl,rfl⟩
 · have h1':(r==4)=false:=by simpa using h1
   by_cases h2:r=7
   · subst h2
     go_enter fx,fr
     go_wp2
     go_ret
     exact⟨rfl,rfl⟩
   · have HD:=h_ (show decide (r=4∨r=7)=false by simp [h1,h2])
     have h2':(r==7)=false:=by simpa using h2
     go_enter fx,fr
     go_wp2
     go_ret
     rw [HD.out];exact⟨rfl,rfl⟩
theorem zf0 (r:Int)(h0:0≤r)(h1:r≤255):decide (1≤r∧r≤7)=dH r:=by
 unfold dH dI
 rw [decide_eq_decide]
 constructor
 · intro h
   repeat' split
   all_goals omega
 · intro h
   repeat' split at h
   all_goals omega
theorem zg0 (r:Int):decide (r=4∨r=7)=cm r:=by
 unfold cm
 rw [Bool.decide_or]
theorem zfY (t l:ByteArray)(r:Int)(d:Bool)(last:Int)(a5 a6 a7:Option Addr)(n5 n6 n7 c5 c6 c7:Nat)(w:fj)(ht:t.size≤4000000)(hl:l.size≤4000000)(h0:0≤r)(h1:r≤255) :
 fk fm 98 #[.agg #[.string t,.string l,.int .u8 r,.bool d,.int .i64 last,.slice a5 n5 c5,.slice a6 n6 c6,.slice a7 n7 c7]] w fun e w'=>e=.returned (.int .i64 (ep t l r d last))∧fG w.heap.size w w':=by
 generalize hG:ep t l r d last=G
 unfold ep zdT at hG
 have hRV:=fun w=>zfT r w
 have hRD:=fun w=>zdl r w
 rw [zf0 r h0 h1] at hRV
 rw [zg0 r] at hRD
 generalize dH r=V at *
 generalize cm r=C at *
 have HRV:=h_ hRV
 have HRD:=h_ hRD
 have HG:=h_ hG
 clear hG hRV hRD
 generalize hcs:#[fH t,.string l,.int .u8 r,.bool d,.int .i64 last,.slice a5 n5 c5,.slice a6 n6 c6,.slice a7 n7 c7]=cs
 have f0:=aa w cs 27 0 (.string t) (by rw [←hcs];rfl)
 have f1:=aa w cs 27 1 (.string l) (by rw [←hcs];rfl)
 have f2:=aa w cs 27 2 (.int .u8 r) (by rw [←hcs];rfl)
 have f3:=aa w cs 27 3 (.bool d) (by rw [←hcs];rfl)
 have f4:=aa w cs 27 4 (.int .i64 last) (by rw [←hcs];rfl)
 have HB:=h_ (fun(w1:fj) (h:fG (w.heap.size+1) (w.alloc (.cells cs 27)) w1)=>aq h)
 have hb0:fG (w.heap.size+1) (w.alloc (.cells cs 27)) (w.alloc (.cells cs 27)):=fI _ _
 have hsz:(w.alloc (.cells cs 27)).heap.size=w.heap.size+1:=fT _ _
 generalize hW0:w.alloc (.cells cs 27)=W0 at *
 have HW0:=h_ hW0
 have HSZ:=h_ hsz
 clear hW0 hsz
 rcases(show V=false∨(V=true∧d=false)∨(V=true∧d=true∧C=false)∨(V=true∧d=true∧C=true) by cases V<;>cases d<;>cases C<;>simp) with rfl|⟨rfl,rfl⟩|⟨rfl,rfl,rfl⟩|⟨rfl,rfl,rfl⟩
 all_goals
  go_enter Tryz.func98,Tryz.ntmps98
  subst hcs
  go_wp2_with fail
  rw [HW0.out]
  refine(cD t _ ht).mono ?_
  rintro e w1 ⟨rfl,hb1⟩
  rw [HSZ.out] at hb1
  clear HW0
  go_wp2_with (first
   | (go_at_call 171;refine(cQ _ _ (by assumption)).mono ?_;rintro e w2 ⟨rfl,rfl⟩)
   | (go_at_call 172;refine(HRV.out _).mono ?_;rintro e w2 ⟨rfl,rfl⟩)
   | (go_at_call 173;refine(HRD.out _).mono ?_;rintro e w2 ⟨rfl,rfl⟩))
  all_goals
   go_ret
   refine⟨ag ?_,HB.out _ hb1⟩
   rw [←HG.out]
   clear f0 f1 f2 f3 f4
   repeat (first
    | rfl
    | (refine zhK ?_ ?_;focus (first|assumption|omega|(simp only [*];decide)|(simp_all<;>fail)))
    | (refine val_neg ?_ ?_;focus (first|omega|(simp only [*];decide)|(simp_all<;>fail))))
theorem zjs (x:Reg):(zjt x=false∧(x.top<0∨(0≤x.top∧14<x.top)∨(0≤x.top∧x.top≤14∧x.height<1)∨(0≤x.top∧x.top≤14∧1≤x.height∧15-x.top<x.height)∨(0≤x.top∧x.top≤14∧1≤x.height∧x.height≤15-x.top∧x.left<0)∨(0≤x.top∧x.top≤14∧1≤x.height∧x.height≤15-x.top∧0≤x.left∧31<x.left)∨(0≤x.top∧x.top≤14∧1≤x.height∧x.height≤15-x.top∧0≤x.left∧x.left≤31∧x.width<1)∨(0≤x.top∧x.top≤14∧1≤x.height∧x.height≤15-x.top∧0≤x.left∧x.left≤31∧1≤x.width∧32-x.left<x.width))) ∨
 (zjt x=true∧0≤x.top∧x.top≤14∧1≤x.height∧x.height≤15-x.top∧0≤x.left∧x.left≤31∧1≤x.width∧x.width≤32-x.left):=by
 unfold zjt inB
 by_cases h:(0≤x.top∧x.top≤14)∧(1≤x.height∧x.height≤15-x.top)∧(0≤x.left∧x.left≤31)∧(1≤x.width∧x.width≤32-x.left)
 · right
   refine⟨?_,by omega⟩
   simp [h]
 · left
   refine⟨?_,by omega⟩
   rw [←Bool.not_eq_true,fP,fP,fP,decide_eq_true_iff,decide_eq_true_iff,decide_eq_true_iff,decide_eq_true_iff]
   omega
theorem zcL (x:Reg)(w:fj)(hf:x.fits) :
 fk fm 174 #[.agg x.enc.toArray] w fun e w'=>e=.returned (.int .i64 (cC x))∧fG w.heap.size w w':=by
 have hgc:=zjs x
 generalize hG:cC x=G
 unfold cC at hG
 obtain⟨nm,top,height,left,width,align,bottom⟩:=x
 obtain⟨hs,hT,hH,hL,hW,ha0,ha1⟩:=hf
 simp only [i64] at hs hT hH hL hW ha0 ha1
 simp only at hG hgc
 simp only [Reg.enc]
 have hnm:=cQ nm
 generalize bW nm=N at *
 generalize zjt ⟨nm,top,height,left,width,align,bottom⟩=B at *
 have HNM:=h_ (fun w=>hnm w hs)
 clear hnm
 cases N
 · rw [if_pos (by decide)] at hG
   subst hG
   clear hgc
   go_enter fp,fo
   go_wp2_with (go_at_call 171;refine(HNM.out _).mono ?_;rintro e w2 ⟨rfl,rfl⟩)
   go_ret
   exact⟨rfl,(fI _ _).alloc (fJ _) _⟩
 · rw [if_neg (by decide)] at hG
   rcases hgc with⟨rfl,hc⟩|⟨rfl,g0,g1,g2,g3,g4,g5,g6,g7⟩
   · rw [if_pos (by decide)] at hG
     subst hG
     rcases hc with g0|⟨g0,g1⟩|⟨g0,g1,g2⟩|⟨g0,g1,g2,g3⟩|⟨g0,g1,g2,g3,g4⟩|⟨g0,g1,g2,g3,g4,g5⟩|⟨g0,g1,g2,g3,g4,g5,g6⟩|⟨g0,g1,g2,g3,g4,g5,g6,g7⟩
     all_goals
      go_enter fp,fo
      go_wp2_with (go_at_call 171;refine(HNM.out _).mono ?_;rintro e w2 ⟨rfl,rfl⟩)
      go_ret
      exact⟨rfl,(fI _ _).alloc (fJ _) _⟩
   · rw [if_neg (by decide)] at hG
     rcases(show(align=1)∨(align=2)∨(align=3)∨((align<1∨3<align)∧(align != 1)=true∧(align != 2)=true∧(align != 3)=true) by
      by_cases e1:align=1
      · exact .inl e1
      · by_cases e2:align=2
        · exact .inr (.inl e2)
        · by_cases e3:align=3
          · exact .inr (.inr (.inl e3))
          · exact .inr (.inr (.inr ⟨by omega,by simpa using e1,by simpa using e2,by simpa using e3⟩))) with rfl|rfl|rfl|⟨ea,e1,e2,e3⟩
     · rw [if_neg (by omega)] at hG
       subst hG
       go_enter fp,fo
       go_wp2_with (go_at_call 171;refine(HNM.out _).mono ?_;rintro e w2 ⟨rfl,rfl⟩)
       go_ret
       exact⟨rfl,(fI _ _).alloc (fJ _) _⟩
     · rw [if_neg (by omega)] at hG
       subst hG
       go_enter fp,fo
       go_wp2_with (go_at_call 171;refine(HNM.out _).mono ?_;rintro e w2 ⟨rfl,rfl⟩)
       go_ret
       exact⟨rfl,(fI _ _).alloc (fJ _) _⟩
     · rw [if_neg (by omega)] at hG
       subst hG
       go_enter fp,fo
       go_wp2_with (go_at_call 171;refine(HNM.out _).mono ?_;rintro e w2 ⟨rfl,rfl⟩)
       go_ret
       exact⟨rfl,(fI _ _).alloc (fJ _) _⟩
     · rw [if_pos ea] at hG
       subst hG
       clear ea
       go_enter fp,fo
       go_wp2_with (go_at_call 171;refine(HNM.out _).mono ?_;rintro e w2 ⟨rfl,rfl⟩)
       go_ret
       exact⟨rfl,(fI _ _).alloc (fJ _) _⟩
theorem Tryz.info21:(fm.info? 21).map (fun i=>(i.zero,i.size,i.bytes))=some (some (.int .i32 0),1,4):=by kernel_rfl
theorem zlg {w:fj} {base e size n:Nat} {v:Value} {xs:List Value} (h:w.ownsRow base e size v n xs):∃ a c,v=.slice a n c:=by
 rcases h.2 with⟨rfl,h0⟩|⟨g',cap,cur,rfl,_⟩
 · exact⟨none,0,by rw [h0]⟩
 · exact⟨_,cap,rfl⟩
def ziW (s:ByteArray)(w:fj)(N:Nat)(v:Value)(wr:fj):Prop :=
 ∃ (pos b k:Nat) (vs:List Value),(bL s b pos).length+k=N∧s.size≤pos+b∧k≤pos∧k≤s.size∧wr.ownsRow (w.heap.size+1) 21 1 v k vs∧wr.heap[w.heap.size]? =some (.stringIter s pos)∧fG w.heap.size w wr
theorem zeF (s:ByteArray)(w:fj)(hs:s.size≤4000000) :
 fk fm 275 #[.string s] w fun e w'=>(∃ a cap,e=.returned (.slice a (runes s).length cap))∧fG w.heap.size w w':=by
 obtain⟨i0,hi,hz0,hz1,hz2⟩:=info_parts Tryz.info21
 have HI:=h_ hi;have J0:=h_ hz0;have J1:=h_ hz1;have J2:=h_ hz2
 clear hi hz0 hz1 hz2
 generalize hN:(runes s).length=N
 have H0:=h_ (show(bL s s.size 0).length+0=N from hN)
 clear hN
 go_enter Tryz.func275,Tryz.ntmps275
 go_wp2_with fail
 go_loopw [3] (fun v wr=>ziW s w N v wr) (fun _ wr=>s.size-wr.iterPos w.heap.size)
 case atStart=>exact⟨0,s.size,0,[],H0.out,by omega,by omega,by omega,fj.ownsRow_nil _ _ _ _,fj.iter_heap w s 0,(fI _ _).alloc (fJ _) _⟩
 case round =>
  obtain⟨pos,b,k,vs,hp,hb,hkp,hks,hown,hit,hbe⟩:=hrel
  have hpos:=h_ (show wr.iterPos w.heap.size=pos by simp [fU,hit])
  by_cases hlt:pos<s.size
  · obtain⟨c,rfl,hn⟩:=eh s b pos hlt hb
    have hwd:=width_pos s pos hlt
    have hle:=decode_le s pos
    have hnx:∀ ty,(fL (.pointer (some ⟨w.heap.size,0,none⟩)) true ty).run fm wr=_:=fun ty=>fS wr w.heap.size s pos ty hit hlt
    rw [hn,fg] at hp
    generalize (fM s pos).1=x at *
    generalize (fM s pos).2=d at *
    have hgl:w.heap.size<wr.heap.size:=(Array.getElem?_eq_some_iff.1 hit).1
    have hown2:=ownsRow_iterAt hown (show w.heap.size<w.heap.size+1 by omega) s (pos+d)
    have HI2:=h_ (Lib.iterAt_heap wr w.heap.size s pos (pos+d) hit)
    have hsz:(wr.iterAt w.heap.size s (pos+d)).heap.size=wr.heap.size:=Lib.iterAt_size _ _ _ _
    have HBE:=h_ (Lib.below_iterAt hbe (fJ _) s (pos+d))
    have HLT:=h_ (fun j hj=>(hown.lt j hj).1)
    clear hown hn H0 hit hbe
    go_wp2_with (at_builtin;refine aH _ _ rfl (.tmp 11) (.tmp 13) 312 rfl (w.heap.size+1) 21 i0 _ 1 4 Tryz.underlying312 HI.out J0.out J1.out J2.out rfl (by decide) _ _ _ rfl hown2 _ rfl (by simp [hsz]) rfl ?h1 ?h63 ?hb ?hbase ?_)
    case h1=>first|rfl|(intro u hu;simp at hu;subst hu;rfl)
    case h63=>unfold maxLen;omega
    case hb=>omega
    case hbase=>omega
    intro v' w2 hown' hgrow
    have hI3:w2.heap[w.heap.size]? =some (.stringIter s (pos+d)):=by
     rw [hgrow.block w.heap.size (by simp;omega) (fun h=>by have:=HLT.out w.heap.size h.symm;omega),fG.heap_alloc _ _ _ (by omega)]
     exact HI2.out
    have R:ziW s w N v' w2:=⟨pos+d,c,k+1,_,by omega,by omega,by omega,by omega,hown',hI3,(HBE.out.alloc (by omega) _).grown hgrow (by simp;omega) (fun j hj=>by have:=HLT.out j hj;omega)⟩
    have hpos2:w2.iterPos w.heap.size=pos+d:=by simp [fU,hI3]
    clear hown' hgrow hown2
    go_wp2_with fail
    go_roundw
    case rel=>exact R
    case measure=>rw [hpos2,hpos.out];omega
  · have hnx:∀ ty,(fL (.pointer (some ⟨w.heap.size,0,none⟩)) true ty).run fm wr=_:=fun ty=>fR wr w.heap.size s pos ty hit hlt
    rw [zaS s b pos hlt,List.length_nil,Nat.zero_add] at hp
    subst hp
    obtain⟨a,cap,hv⟩:=zlg hown
    subst hv
    have HB:=h_ hbe
    clear hown hit hbe H0
    go_wp2_with fail
    go_ret
    exact⟨⟨_,_,rfl⟩,HB.out⟩
theorem zgX (s:ByteArray)(w:fj)(hs:s.size≤4000000) :
 fk fm 243 #[.string s] w fun e w'=>e=.returned (.int .i64 (lenB s))∧fG w.heap.size w w':=by
 have hL:lenB s=if bf s=true then ((runes s).length:Int) else -1:=rfl
 have hV:=cD s w hs
 have hR:=fun w=>zeF s w hs
 have hB:(runes s).length≤4000000:=Nat.le_trans (zcb s s.size 0) hs
 generalize lenB s=L at *
 generalize bf s=V at *
 generalize (runes s).length=N at *
 have HV:=h_ hV;have HR:=h_ hR
 clear hV hR
 cases V
 · rw [if_neg (by decide)] at hL
   subst hL
   go_enter fD,fA
   go_wp2_with fail
   refine HV.out.mono ?_
   rintro e w1 ⟨rfl,hb1⟩
   go_wp2_with fail
   go_ret
   exact⟨rfl,hb1⟩
 · rw [if_pos rfl] at hL
   subst hL
   go_enter fD,fA
   go_wp2_with fail
   refine HV.out.mono ?_
   rintro e w1 ⟨rfl,hb1⟩
   go_wp2_with fail
   refine(HR.out _).mono ?_
   rintro e w2 ⟨⟨a,cap,rfl⟩,hb2⟩
   have hb3:=hb1.trans (hb2.mono hb1.size)
   clear hb1 hb2
   go_wp2_with fail
   go_ret
   exact⟨rfl,hb3⟩
theorem bE (c:Int)(i u:Bool)(w:fj):fk fm 242 #[.agg #[.int .u8 c,.bool i,.bool u]] w fun e w'=>e=.returned (.bool (decide (c≤6)))∧fG w.heap.size w w':=by
 go_enter Tryz.func242,Tryz.ntmps242
 go_wp2
 go_ret
 exact⟨rfl,(fI _ _).alloc (fJ _) _⟩
theorem ej (r:Row)(w:fj)(hE:Env w)(hr:r.lies w)(hf:r.fits) :
 fk fm 180 #[.agg r.enc.toArray] w fun e w'=>e=.returned (.int .i64 (rowLen r.runs))∧fG w.heap.size w w':=by
 obtain⟨a,cap,xs⟩:=r
 obtain⟨hfx,hl,hsum⟩:=hf
 simp only [Row.lies] at hr
 simp only [Row.enc] at *
 generalize hG:rowLen xs=G
 have H0:=h_ (show dQ (xs.drop 0) 0=G by rw [fb];exact hG)
 have hs0:0+bV (xs.drop 0)≤4000000:=by simpa using hsum
 clear hG
 go_enter Tryz.func180,Tryz.ntmps180
 go_wp2_with fail
 go_loopw [3,10] (fun s i wr=>∃ (k acc:Nat),k≤xs.length∧i=.int .i64 k∧s=.int .i64 acc∧dQ (xs.drop k) acc=G∧acc+bV (xs.drop k)≤4000000∧fG w.heap.size w wr) (fun _ i _=>xs.length-(intOf i).toNat)
 case atStart=>exact⟨0,0,by omega,rfl,rfl,H0.out,hs0,(fI _ _).alloc (fJ _) _⟩
 case round =>
  obtain⟨k,acc,hk,rfl,rfl,hp,hs,hb⟩:=hrel
  by_cases hlt:k<xs.length
  · obtain⟨b,off,x,rfl,hbl,hx,hc,_⟩:=(hr.later hb).at_ hlt
    have hft:=hfx x (ff hx)
    rw [aZ xs k x hx] at hp hs
    simp only [dQ] at hp
    simp only [bV] at hs
    have hll:=zh6 x.text
    have HL:=h_ (fun w1 (h:Env w1)=>zgX x.text w1 hft.1)
    have HE:=h_ (fun w1 (h:fG w.heap.size w w1)=>hE.below h (fJ _))
    have hbo:=fun o=>hb.alloc hb.size o
    have HB:=h_ (fun o w1 h1=>bp (w1:=w1) hb o h1)
    obtain⟨t,c,i,u,ru⟩:=x
    have d0:=hc 0 _ rfl;have d1:=hc 1 _ rfl;have d2:=hc 2 _ rfl;have d3:=hc 3 _ rfl;have d4:=hc 4 _ rfl
    simp only [fK] at d0 d1 d2 d3 d4 hp hs HL hll
    have HP:=h_ hp
    have HBO:=h_ hbo
    clear hp hc hx H0 hr hbo hfx hft
    generalize hL:lenB t=L at *
    clear hL
    obtain⟨l0,l1⟩:=hll
    by_cases hneg:L<0
    · go_wp2_with (go_at_call 243;refine(HL.out _ (HE.out _ (HBO.out _))).mono ?_;rintro e w1 ⟨rfl,hb1⟩;simp only [fT] at hb1)
      go_ret
      exact⟨ag (by rw [←HP.out,if_pos hneg]),HB.out _ _ hb1⟩
    · have hnn:0≤L:=by omega
      go_wp2_with (go_at_call 243;refine(HL.out _ (HE.out _ (HBO.out _))).mono ?_;rintro e w1 ⟨rfl,hb1⟩;simp only [fT] at hb1)
      have hq:=HP.out
      rw [if_neg (by omega)] at hq
      have HQ:=h_ hq
      clear hq HP
      obtain⟨m,rfl⟩:=Int.eq_ofNat_of_zero_le hnn
      go_roundw
      case rel=>exact⟨k+1,acc+m,by omega,by go_num,by go_num,by have:=HQ.out;simpa using this,by omega,HB.out _ _ hb1⟩
      case measure=>simp [intOf];omega
  · obtain rfl:k=xs.length:=by omega
    rw [e_] at hp
    have HP:=h_ hp
    clear hp H0
    go_wp2_with fail
    go_ret
    exact⟨ag (by rw [←HP.out];rfl),hb⟩
theorem za6 (r:Row)(w:fj)(hr:r.lies w)(hf:r.fits) :
 fk fm 179 #[.agg r.enc.toArray] w fun e w'=>e=.returned (.string (plain r.runs))∧fG w.heap.size w w':=by
 obtain⟨a,cap,xs⟩:=r
 obtain⟨hfx,hl,hsum⟩:=hf
 simp only [Row.lies] at hr
 simp only [Row.enc] at *
 have HPL:=h_ (show(cR xs).length≤4000000 by rw [ed];exact hsum)
 clear hfx hsum
 go_enter Tryz.func179,Tryz.ntmps179
 go_wp2_with fail
 go_loopw [3,9] (fun v i wr=>∃ (k:Nat) (acc:ByteArray),k≤xs.length∧i=.int .i64 k∧v=.string acc∧acc.data.toList++cR (xs.drop k)=cR xs∧fG w.heap.size w wr) (fun _ i _=>xs.length-(intOf i).toNat)
 case atStart=>exact⟨0,⟨#[]⟩,by omega,rfl,rfl,by simp,(fI _ _).alloc (fJ _) _⟩
 case round =>
  obtain⟨k,acc,hk,rfl,rfl,hp,hb⟩:=hrel
  by_cases hlt:k<xs.length
  · obtain⟨b,off,x,rfl,hbl,hx,hc,_⟩:=(hr.later hb).at_ hlt
    rw [aZ xs k x hx] at hp
    simp only [cR] at hp
    obtain⟨t,c,i,u,ru⟩:=x
    have d0:=hc 0 _ rfl;have d1:=hc 1 _ rfl;have d2:=hc 2 _ rfl;have d3:=hc 3 _ rfl;have d4:=hc 4 _ rfl
    simp only [fK] at d0 d1 d2 d3 d4 hp
    have hlen:acc.size+t.size≤4000000:=by
     have h1:=congrArg fi hp
     have h2:=HPL.out
     simp only [List.length_append,Array.length_toList,ByteArray.size_data] at h1
     omega
    have HP:=h_ (show(acc++t).data.toList++cR (xs.drop (k+1))=cR xs by rw [←hp];simp)
    have HB:=h_ (fun o=>hb.alloc hb.size o)
    clear hc hx hp
    go_wp2_with fail
    go_roundw
    case rel=>exact⟨k+1,_,by omega,by go_num,rfl,HP.out,HB.out _⟩
    case measure=>simp [intOf];omega
  · obtain rfl:k=xs.length:=by omega
    rw [e_] at hp
    simp only [cR,List.append_nil] at hp
    have HP:=h_ (show acc=plain xs by unfold plain;rw [←hp])
    clear hp
    go_wp2_with fail
    go_ret
    exact⟨by rw [HP.out];rfl,hb⟩
theorem zdg (r:Row)(w:fj)(hn:16<r.runs.length) :
 fk fm 177 #[.agg r.enc.toArray] w fun e w'=>e=.returned (.int .i64 (ct r.runs))∧fG w.heap.size w w':=by
 rw [ct,if_pos hn]
 have hn':(16:Int)<(r.runs.length:Int):=by omega
 simp only [Row.enc]
 go_enter fF,fC
 go_wp2_with fail
 go_ret
 exact⟨rfl,(fI _ _).alloc (fJ _) _⟩
theorem zdP (r:Row)(w:fj)(hE:Env w)(hr:r.lies w)(hf:r.fits)(hn:r.runs.length≤16) :
 fk fm 177 #[.agg r.enc.toArray] w fun e w'=>e=.returned (.int .i64 (ct r.runs))∧fG w.heap.size w w':=by
 obtain⟨a,cap,xs⟩:=r
 obtain⟨hfx,hl,hsum⟩:=hf
 simp only [Row.lies] at hr
 simp only [Row.enc] at *
 rw [ct,if_neg (by omega)]
 generalize hG:ck none xs=G
 have H0:=h_ (show ck (aW xs 0) (xs.drop 0)=G by rw [fb];exact hG)
 have hn2:decide ((16:Int)<(xs.length:Int))=false:=by simp;omega
 clear hG
 go_enter fF,fC
 go_wp2_with fail
 go_loopw [12] (fun i wr=>∃ k:Nat,k≤xs.length∧i=.int .i64 k∧ck (aW xs k) (xs.drop k)=G∧fG (w.heap.size+1) (w.alloc (.cells #[.slice a xs.length cap] 78)) wr) (fun i _=>xs.length-(intOf i).toNat)
 case atStart=>exact⟨0,by omega,rfl,H0.out,fI _ _⟩
 case round =>
  obtain⟨k,hk,rfl,hp,hb0⟩:=hrel
  have hb:=aq hb0
  by_cases hlt:k<xs.length
  · have hRr:=hr.later hb
    obtain⟨b,off,x,rfl,hbl,hx,hc,_⟩:=hRr.at_ hlt
    have hft:=hfx x (ff hx)
    have HN:=h_ (zbC xs k x hx (aW xs k))
    have HS:=h_ (zbB xs k x hx (aW xs k))
    have HP:=h_ hp
    have hcs:=zgP x
    have hfb:=aa w #[.slice (some ⟨b,off,none⟩) xs.length cap] 78 0 _ rfl
    have HFB:=h_ (fun w1 (h:fG (wr.heap.size+1) (wr.alloc (.cells x.enc.toArray 75)) w1)=>hfb w1 ((hb0.alloc (by have:=hb0.size;rw [fT] at this;exact this) _).trans (h.mono (by have:=hb0.size;rw [fT] at this;omega))))
    have HB:=h_ (fun w1 (h:fG (wr.heap.size+1) (wr.alloc (.cells x.enc.toArray 75)) w1)=>bp hb _ h)
    have HB0:=h_ (fun w1 (h:fG (wr.heap.size+1) (wr.alloc (.cells x.enc.toArray 75)) w1)=>(hb0.alloc (by have:=hb0.size;rw [fT] at this;exact this) _).trans (h.mono (by have:=hb0.size;rw [fT] at this;omega)))
    obtain⟨f1,f2,f3,f4⟩:=hft
    have hsE:∀ p,zap x≠0→b_ p x=zap x:=fun p h=>by unfold b_;rw [if_pos (by simpa using h)]
    have HSE:=h_ hsE
    have hg:=fun j v h=>aa wr x.enc.toArray 75 j v h
    obtain⟨t,c,i,u,ru⟩:=x
    have d0:=hc 0 _ rfl;have d1:=hc 1 _ rfl;have d2:=hc 2 _ rfl;have d3:=hc 3 _ rfl;have d4:=hc 4 _ rfl
    have g0:=hg 0 _ rfl;have g1:=hg 1 _ rfl;have g2:=hg 2 _ rfl;have g3:=hg 3 _ rfl;have g4:=hg 4 _ rfl
    simp only [fK,Run.enc] at d0 d1 d2 d3 d4 g0 g1 g2 g3 g4 HB HB0 HFB f1 f2 f3 f4 hcs
    have HE:=h_ (fun w1 (h:fG (wr.heap.size+1) (wr.alloc (.cells #[.string t,.int .u8 c,.bool i,.bool u,.string ru] 75)) w1)=>hE.below (HB.out w1 h) (fJ _))
    have hq0:fG (wr.heap.size+1) (wr.alloc (.cells #[.string t,.int .u8 c,.bool i,.bool u,.string ru] 75)) (wr.alloc (.cells #[.string t,.int .u8 c,.bool i,.bool u,.string ru] 75)):=fI _ _
    have hsz1:(wr.alloc (.cells #[.string t,.int .u8 c,.bool i,.bool u,.string ru] 75)).heap.size=wr.heap.size+1:=fT _ _
    have HV:=h_ (fun s (hs:s.size≤4000000) w1 (h:fG (wr.heap.size+1) (wr.alloc (.cells #[.string t,.int .u8 c,.bool i,.bool u,.string ru] 75)) w1)=>cD s w1 hs)
    generalize hW1:wr.alloc (.cells #[.string t,.int .u8 c,.bool i,.bool u,.string ru] 75)=W1 at *
    have HW1:=h_ hW1
    have HSZ:=h_ hsz1
    clear hW1 hsz1 hc hg hsE hfb hp H0 hfx
    rcases hcs with⟨v1,he⟩|⟨v1,v2,he⟩|⟨v1,v2,v3,he⟩|⟨v1,v2,v3,v4,he⟩|⟨v1,v2,v3,v4,he⟩
    · have hst:=h_ (HSE.out (aW xs k) (by rw [he];decide))
      have HEE:=h_ he
      clear he hRr
      go_wp2_with fail
      rw [HW1.out]
      refine(HV.out t f1 _ hq0).mono ?_
      rintro e w1 ⟨rfl,hb1⟩
      rw [HSZ.out] at hb1
      go_wp2_with fail
      go_ret
      exact⟨ag (by rw [←HP.out,HS.out (by rw [hst.out,HEE.out];rfl),hst.out,HEE.out]),HB.out _ hb1⟩
    · have hst:=h_ (HSE.out (aW xs k) (by rw [he];decide))
      have HEE:=h_ he
      clear he hRr
      have v2':t.toList.isEmpty=true:=by simpa using v2
      go_wp2_with fail
      rw [HW1.out]
      refine(HV.out t f1 _ hq0).mono ?_
      rintro e w1 ⟨rfl,hb1⟩
      rw [HSZ.out] at hb1
      go_wp2_with fail
      go_ret
      exact⟨ag (by rw [←HP.out,HS.out (by rw [hst.out,HEE.out];rfl),hst.out,HEE.out]),HB.out _ hb1⟩
    · have hst:=h_ (HSE.out (aW xs k) (by rw [he];decide))
      have HEE:=h_ he
      clear he hRr
      have v2':t.toList.isEmpty=false:=by simpa using v2
      have v3':decide (c≤6)=false:=by simpa using v3
      go_wp2_with fail
      rw [HW1.out]
      refine(HV.out t f1 _ hq0).mono ?_
      rintro e w1 ⟨rfl,hb1⟩
      rw [HSZ.out] at hb1
      go_wp2_with fail
      refine(bE c i u _).mono ?_
      rintro e w2 ⟨rfl,hb2⟩
      replace hb2:fG (wr.heap.size+1) W1 w2:=hb1.trans (hb2.mono (by have:=hb1.size;rw [HSZ.out] at this;exact this))
      go_wp2_with fail
      go_ret
      exact⟨ag (by rw [←HP.out,HS.out (by rw [hst.out,HEE.out];rfl),hst.out,HEE.out]),HB.out _ hb2⟩
    · have hst:=h_ (HSE.out (aW xs k) (by rw [he];decide))
      have HEE:=h_ he
      clear he hRr
      have v2':t.toList.isEmpty=false:=by simpa using v2
      have v3':decide (c≤6)=true:=by simpa using v3
      go_wp2_with fail
      rw [HW1.out]
      refine(HV.out t f1 _ hq0).mono ?_
      rintro e w1 ⟨rfl,hb1⟩
      rw [HSZ.out] at hb1
      go_wp2_with fail
      refine(bE c i u _).mono ?_
      rintro e w2 ⟨rfl,hb2⟩
      replace hb2:fG (wr.heap.size+1) W1 w2:=hb1.trans (hb2.mono (by have:=hb1.size;rw [HSZ.out] at this;exact this))
      go_wp2_with fail
      refine(HV.out ru f2 _ hb2).mono ?_
      rintro e w3 ⟨rfl,hb3⟩
      replace hb3:fG (wr.heap.size+1) W1 w3:=hb2.trans (hb3.mono (by have:=hb2.size;rw [HSZ.out] at this;exact this))
      go_wp2_with fail
      go_ret
      exact⟨ag (by rw [←HP.out,HS.out (by rw [hst.out,HEE.out];rfl),hst.out,HEE.out]),HB.out _ hb3⟩
    · have HEE:=h_ he
      clear he
      have v2':t.toList.isEmpty=false:=by simpa using v2
      have v3':decide (c≤6)=true:=by simpa using v3
      rcases Nat.eq_zero_or_pos k with hk0|hk0
      · have hst:=h_ (show b_ (aW xs k) ⟨t,c,i,u,ru⟩=0 by rw [hk0];simp [b_,aW,HEE.out])
        have hkd:decide (0<k)=false:=by simp;omega
        clear hRr hk0
        go_wp2_with fail
        rw [HW1.out]
        refine(HV.out t f1 _ hq0).mono ?_
        rintro e w1 ⟨rfl,hb1⟩
        rw [HSZ.out] at hb1
        go_wp2_with fail
        refine(bE c i u _).mono ?_
        rintro e w2 ⟨rfl,hb2⟩
        replace hb2:fG (wr.heap.size+1) W1 w2:=hb1.trans (hb2.mono (by have:=hb1.size;rw [HSZ.out] at this;exact this))
        go_wp2_with fail
        refine(HV.out ru f2 _ hb2).mono ?_
        rintro e w3 ⟨rfl,hb3⟩
        replace hb3:fG (wr.heap.size+1) W1 w3:=hb2.trans (hb3.mono (by have:=hb2.size;rw [HSZ.out] at this;exact this))
        go_wp2_with fail
        go_quiet (fail)
        go_wp2_with fail
        go_roundw
        case rel=>exact⟨k+1,by omega,by go_num,by rw [←HN.out hst.out];exact HP.out,below_drewN (HB0.out _ hb3) _⟩
        case measure=>simp [intOf];omega
      · obtain⟨b',off',y,hab,_,hy,hcy,_⟩:=hRr.at_ (show k-1<xs.length by omega)
        simp only [Option.some.injEq,Addr.mk.injEq,and_true] at hab
        obtain⟨rfl,rfl⟩:=hab
        have hpv:aW xs k=some y:=by
         obtain⟨j,rfl⟩:∃ j,k=j+1:=⟨k-1,by omega⟩
         simp only [Nat.add_sub_cancel] at hy
         simp [aW,hy]
        have hst:b_ (aW xs k) ⟨t,c,i,u,ru⟩=if zdb y ⟨t,c,i,u,ru⟩=true then 8 else 0:=by
         rw [hpv];simp [b_,HEE.out]
        have hpc:∀ j v,y.enc[j]? =some v→∀ w1,fG (wr.heap.size+1) W1 w1→w1.cell? ⟨b,off+(k-1)*5+j,none⟩=some v:=fun j v hv w1 h=>by
         rw [h.cell (p:=⟨b,off+(k-1)*5+j,none⟩) (by simp;omega),←HW1.out,fj.cell?_alloc_lt _ _ _ (by simpa using hbl)]
         exact hcy j v hv
        obtain⟨yt,yc,yi,yu,yr⟩:=y
        have hal:=zfh yc c yi yu i u
        have hA:zdb ⟨yt,yc,yi,yu,yr⟩ ⟨t,c,i,u,ru⟩=((yc==c&&yi==i&&yu==u)&&(yr.toList.isEmpty&&ru.toList.isEmpty)):=rfl
        generalize (yc==c&&yi==i&&yu==u)=S at *
        rw [hA] at hst
        have p0:=hpc 0 _ rfl;have p1:=hpc 1 _ rfl;have p2:=hpc 2 _ rfl;have p3:=hpc 3 _ rfl;have p4:=hpc 4 _ rfl
        simp only [fK] at p0 p1 p2 p3 p4
        have hfb:=HFB.out
        have hkd:decide (0<k)=true:=by simp;omega
        have hk1:1≤k:=hk0
        have hkz:(1:Int)≤(k:Int):=by omega
        have hkl:(k:Int)-1<(xs.length:Int):=by omega
        have hwr:IntKind.i64.wrap ((k:Int)-1)=(k:Int)-1:=IntWalk.i64_in _ (by omega)
        have hkn:((k:Int)-1).toNat=k-1:=by omega
        clear hpc hpv hRr hcy hy hk0 hA
        rcases(show(S=false)∨(S=true∧yr.toList.isEmpty=false∧¬ yr.toList=[])∨(S=true∧yr.toList.isEmpty=true∧yr.toList=[]∧ru.toList.isEmpty=false∧¬ ru.toList=[])∨(S=true∧yr.toList.isEmpty=true∧yr.toList=[]∧ru.toList.isEmpty=true∧ru.toList=[]) by
         cases S
         · exact .inl rfl
         · by_cases h1:yr.toList=[]
           · by_cases h2:ru.toList=[]
             · exact .inr (.inr (.inr ⟨rfl,by simpa using h1,h1,by simpa using h2,h2⟩))
             · exact .inr (.inr (.inl ⟨rfl,by simpa using h1,h1,by simpa using h2,h2⟩))
           · exact .inr (.inl ⟨rfl,by simpa using h1,h1⟩)) with rfl|⟨rfl,r1,r2⟩|⟨rfl,r1,r2,r3,r4⟩|⟨rfl,r1,r2,r3,r4⟩
        · rw [fO,if_neg (by decide)] at hst
          have HST:=h_ hst
          clear hst
          go_wp2_with fail
          rw [HW1.out]
          refine(HV.out t f1 _ hq0).mono ?_
          rintro e w1 ⟨rfl,hb1⟩
          rw [HSZ.out] at hb1
          go_wp2_with fail
          refine(bE c i u _).mono ?_
          rintro e w2 ⟨rfl,hb2⟩
          replace hb2:fG (wr.heap.size+1) W1 w2:=hb1.trans (hb2.mono (by have:=hb1.size;rw [HSZ.out] at this;exact this))
          go_wp2_with fail
          refine(HV.out ru f2 _ hb2).mono ?_
          rintro e w3 ⟨rfl,hb3⟩
          replace hb3:fG (wr.heap.size+1) W1 w3:=hb2.trans (hb3.mono (by have:=hb2.size;rw [HSZ.out] at this;exact this))
          clear hb1 hb2
          go_wp2_with fail
          go_quiet (fail)
          go_wp2_with fail
          go_roundw
          case rel=>exact⟨k+1,by omega,by go_num,by rw [←HN.out HST.out];exact HP.out,below_drewN (HB0.out _ hb3) _⟩
          case measure=>simp [intOf];omega
        · rw [r1,fN,fO,if_neg (by decide)] at hst
          have HST:=h_ hst
          clear hst
          go_wp2_with fail
          rw [HW1.out]
          refine(HV.out t f1 _ hq0).mono ?_
          rintro e w1 ⟨rfl,hb1⟩
          rw [HSZ.out] at hb1
          go_wp2_with fail
          refine(bE c i u _).mono ?_
          rintro e w2 ⟨rfl,hb2⟩
          replace hb2:fG (wr.heap.size+1) W1 w2:=hb1.trans (hb2.mono (by have:=hb1.size;rw [HSZ.out] at this;exact this))
          go_wp2_with fail
          refine(HV.out ru f2 _ hb2).mono ?_
          rintro e w3 ⟨rfl,hb3⟩
          replace hb3:fG (wr.heap.size+1) W1 w3:=hb2.trans (hb3.mono (by have:=hb2.size;rw [HSZ.out] at this;exact this))
          clear hb1 hb2
          go_wp2_with fail
          go_quiet (fail)
          go_wp2_with fail
          go_roundw
          case rel=>exact⟨k+1,by omega,by go_num,by rw [←HN.out HST.out];exact HP.out,below_drewN (HB0.out _ hb3) _⟩
          case measure=>simp [intOf];omega
        · rw [r1,r3,fN,fN,if_neg (by decide)] at hst
          have HST:=h_ hst
          clear hst
          go_wp2_with fail
          rw [HW1.out]
          refine(HV.out t f1 _ hq0).mono ?_
          rintro e w1 ⟨rfl,hb1⟩
          rw [HSZ.out] at hb1
          go_wp2_with fail
          refine(bE c i u _).mono ?_
          rintro e w2 ⟨rfl,hb2⟩
          replace hb2:fG (wr.heap.size+1) W1 w2:=hb1.trans (hb2.mono (by have:=hb1.size;rw [HSZ.out] at this;exact this))
          go_wp2_with fail
          refine(HV.out ru f2 _ hb2).mono ?_
          rintro e w3 ⟨rfl,hb3⟩
          replace hb3:fG (wr.heap.size+1) W1 w3:=hb2.trans (hb3.mono (by have:=hb2.size;rw [HSZ.out] at this;exact this))
          clear hb1 hb2
          go_wp2_with fail
          go_quiet (fail)
          go_wp2_with fail
          go_roundw
          case rel=>exact⟨k+1,by omega,by go_num,by rw [←HN.out HST.out];exact HP.out,below_drewN (HB0.out _ hb3) _⟩
          case measure=>simp [intOf];omega
        · rw [r1,r3,fN,fN,if_pos rfl] at hst
          have HST:=h_ hst
          clear hst
          go_wp2_with fail
          rw [HW1.out]
          refine(HV.out t f1 _ hq0).mono ?_
          rintro e w1 ⟨rfl,hb1⟩
          rw [HSZ.out] at hb1
          go_wp2_with fail
          refine(bE c i u _).mono ?_
          rintro e w2 ⟨rfl,hb2⟩
          replace hb2:fG (wr.heap.size+1) W1 w2:=hb1.trans (hb2.mono (by have:=hb1.size;rw [HSZ.out] at this;exact this))
          go_wp2_with fail
          refine(HV.out ru f2 _ hb2).mono ?_
          rintro e w3 ⟨rfl,hb3⟩
          replace hb3:fG (wr.heap.size+1) W1 w3:=hb2.trans (hb3.mono (by have:=hb2.size;rw [HSZ.out] at this;exact this))
          clear hb1 hb2
          go_wp2_with fail
          go_quiet (fail)
          go_wp2_with fail
          go_ret
          exact⟨ag (by rw [←HP.out,HS.out (by rw [HST.out];rfl),HST.out]),HB.out _ (below_drewN hb3 _)⟩
  · obtain rfl:k=xs.length:=by omega
    rw [e_] at hp
    have HP:=h_ hp
    clear hp H0
    go_wp2_with fail
    go_ret
    exact⟨ag (by rw [←HP.out];cases aW xs xs.length<;>rfl),hb⟩
theorem eR (r:Row)(w:fj)(hE:Env w)(hr:r.lies w)(hf:r.fits) :
 fk fm 177 #[.agg r.enc.toArray] w fun e w'=>e=.returned (.int .i64 (ct r.runs))∧fG w.heap.size w w':=by
 by_cases hn:16<r.runs.length
 · exact zdg r w hn
 · exact zdP r w hE hr hf (by omega)
end Go.Proofs.YtnlnmbcaongehaaGreatDoor
