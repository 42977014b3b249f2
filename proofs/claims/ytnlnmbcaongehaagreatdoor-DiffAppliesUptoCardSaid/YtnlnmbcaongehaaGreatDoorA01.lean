/- The contracts of the reference's neat, spanned, Less and Len of events: the same specifications as the program's. The contracts of the reference's Default, CheckList, Find and usable of regions: the same specifications as the program's. The contract of the reference's Place. -/
import Derived.Test.YtnlnmbcaongehaaGreatDoorA00
set_option linter.unusedVariables false
set_option linter.unusedSimpArgs false
set_option maxRecDepth 100000
set_option maxHeartbeats 12800000
open Go.Lib renaming hid→h_
open List renaming drop_length→e_,drop_zero→fb,getElem?_eq_some_iff→fe,getElem?_drop→ff
open Go.Lib renaming contains→fg,compareInt→fh,index_spec→fi
open Nat renaming le_refl→fj,add_zero→fk,add_sub_cancel→fm,mul_one→fo
open Go renaming World→fp,Calls→fq,bodyPost_ret→fr
open Go.Proofs.Tryz renaming prog→ft,ntmps178→fu,ntmps175→fw,func178→fx,func175→fy,results176→fz,ntmps101→fA,func101→fB,underlying226→fC,ntmps181→fD,ntmps176→fE,ntmps99→fF,func181→fG,func176→fH,func99→fI
open Go.IntKind renaming i64→fJ
open Go.IntWalk renaming i64_in→fK
open Go.RowKit renaming Below→fL
open Go.RowKit.Below renaming refl→fM
open Go.World renaming size_alloc→fN,ownsRow_nil→fO
namespace Go.Proofs.YtnlnmbcaongehaaGreatDoor
open Go.RowKit
def zjT (l:List UInt8)(i:Nat):Prop:=l[i]? =some 32∧l[i+1]? =some 32
theorem zj6 (l:List UInt8)(i:Nat):Lib.occAt l [32,32] i=true↔zjT l i:=by
 have h0:l[i]? =(l.drop i)[0]?:=by rw [ff];rfl
 have h1:l[i+1]? =(l.drop i)[1]?:=by rw [ff]
 unfold zjT Lib.occAt
 rw [h0,h1]
 match l.drop i with
 | []=>simp
 | [a]=>simp
 | a::b::r =>
   constructor
   · intro h
     simp [List.isPrefixOf] at h
     obtain⟨rfl,rfl⟩:=h
     exact⟨rfl,rfl⟩
   · rintro ⟨h1,h2⟩
     simp at h1 h2
     subst h1
     subst h2
     rfl
theorem zhz (l:List UInt8)(i:Nat)(h:zjT l i):fg l [32,32]=true:=by
 unfold fg
 rw [decide_eq_true_iff]
 rcases fi l [32,32] with⟨_,h2⟩|⟨j,h2,_⟩
 · have hi:i<l.length:=(fe.1 h.1).1
   have:=h2 i (by omega)
   rw [(zj6 l i).2 h] at this
   cases this
 · rw [h2];omega
theorem zio (l:List UInt8)(h:∀ i,¬ zjT l i):fg l [32,32]=false:=by
 unfold fg
 rw [decide_eq_false_iff_not]
 rcases fi l [32,32] with⟨h1,_⟩|⟨j,_,_,h3,_⟩
 · rw [h1];omega
 · exact absurd ((zj6 l j).1 h3) (h j)
theorem byte_at (s:ByteArray)(k:Nat)(h:k<s.size):s.data.toList[k]? =some s[k]:=by
 rw [List.getElem?_eq_getElem (by simpa using h)]
 rfl
theorem zgn (c:UInt8):c.toNat=32↔c=32:=by
 constructor
 · intro h;exact UInt8.toNat_inj.1 h
 · rintro rfl;rfl
def ziK (s:ByteArray)(k:Nat):Prop:=∀ j,j+1<k→¬ zjT s.data.toList j
theorem zh4 (s:ByteArray)(k:Nat)(hk:k<s.size)(h1:1≤k)(h:ziK s k)(hn:¬ (s[k].toNat=32∧s[k-1].toNat=32)):ziK s (k+1):=by
 intro j hj
 by_cases hjk:j+1=k
 · subst hjk
   rintro ⟨a,b⟩
   rw [byte_at s j (by omega)] at a
   rw [byte_at s (j+1) hk] at b
   simp only [Option.some.injEq] at a b
   exact hn ⟨(zgn _).2 b,by simp only [fm];exact(zgn _).2 a⟩
 · exact h j (by omega)
theorem zh5 (s:ByteArray)(k:Nat)(hk:k<s.size)(h1:1≤k)(h2:s[k].toNat=32)(h3:s[k-1].toNat=32):fg s.data.toList [32,32]=true:=by
 refine zhz _ (k-1) ⟨?_,?_⟩
 · rw [byte_at s (k-1) (by omega),(zgn _).1 h3]
 · rw [show k-1+1=k by omega,byte_at s k hk,(zgn _).1 h2]
theorem zji (s:ByteArray)(h:ziK s s.size):fg s.data.toList [32,32]=false:=by
 refine zio _ fun i ht=>?_
 have hi:i+1<s.data.toList.length:=(fe.1 ht.2).1
 exact h i (by simpa using hi) ht
theorem zbJ (s:ByteArray)(w:fp)(hs:s.size≤4000000) :
 fq ft 178 #[.string s] w fun e w'=>e=.returned (.bool (!untidy s))∧w=w':=by
 rcases zcG s with⟨h0,hu⟩|⟨h0,⟨h1,hu⟩|⟨h1,h2,hu⟩|⟨h1,h2,hu⟩⟩
 · rw [hu]
   have he:s.toList=[]:=(dO s).1 h0
   have he2:s.toList.isEmpty=true:=by simpa using he
   clear hu
   go_enter fx,fu
   go_wp2
   go_ret
   exact⟨rfl,rfl⟩
 · rw [hu]
   have he:¬ s.toList=[]:=fun h=>by have:=(dO s).2 h;omega
   have he2:s.toList.isEmpty=false:=by simpa using he
   have hq:((s[0].toNat:Int)==32)=true:=by simp;omega
   clear hu
   go_enter fx,fu
   go_wp2
   go_ret
   exact⟨rfl,rfl⟩
 · rw [hu]
   have he:¬ s.toList=[]:=fun h=>by have:=(dO s).2 h;omega
   have he2:s.toList.isEmpty=false:=by simpa using he
   have hq:((s[0].toNat:Int)==32)=false:=by simp;omega
   have hq2:((s[s.size-1].toNat:Int)==32)=true:=by simp;omega
   have hwr:fJ.wrap ((s.size:Int)-1)=(s.size:Int)-1:=fK _ (by omega)
   have hkn:((s.size:Int)-1).toNat=s.size-1:=by omega
   have hkl:(s.size:Int)-1<(s.size:Int):=by omega
   have hkz:(1:Int)≤(s.size:Int):=by omega
   clear hu
   go_enter fx,fu
   go_wp2
   go_ret
   exact⟨rfl,rfl⟩
 · rw [hu]
   have he:¬ s.toList=[]:=fun h=>by have:=(dO s).2 h;omega
   have he2:s.toList.isEmpty=false:=by simpa using he
   have hq:((s[0].toNat:Int)==32)=false:=by simp;omega
   have hq2:((s[s.size-1].toNat:Int)==32)=false:=by simp;omega
   have hwr:fJ.wrap ((s.size:Int)-1)=(s.size:Int)-1:=fK _ (by omega)
   have hkn:((s.size:Int)-1).toNat=s.size-1:=by omega
   have hkl:(s.size:Int)-1<(s.size:Int):=by omega
   have hkz:(1:Int)≤(s.size:Int):=by omega
   clear hu
   have HEND:=h_ (zji s)
   have HSTOP:=h_ (zh5 s)
   generalize fg s.data.toList [32,32]=C at *
   go_enter fx,fu
   go_wp2
   go_loop [3] (fun i=>∃ k:Nat,1≤k∧k≤s.size∧i=.int .i64 k∧ziK s k) (fun i=>s.size-(intOf i).toNat)
   case atStart=>exact⟨1,by omega,by omega,rfl,fun j hj=>by omega⟩
   case round =>
    obtain⟨k,hk1,hk,rfl,hn⟩:=hrel
    by_cases hlt:k<s.size
    · have HS:=h_ (zh4 s k hlt hk1 hn)
      have hq:=s[k].toNat_lt
      have hwr:fJ.wrap ((k:Int)-1)=(k:Int)-1:=fK _ (by omega)
      have hkn:((k:Int)-1).toNat=k-1:=by omega
      have hkl:(k:Int)-1<(s.size:Int):=by omega
      have hkz:(1:Int)≤(k:Int):=by omega
      have hk1s:k-1<s.size:=by omega
      clear hn
      by_cases ha:s[k].toNat=32
      · have ha':((s[k].toNat:Int)==32)=true:=by simp;omega
        by_cases hb:s[k-1].toNat=32
        · have hb':((s[k-1].toNat:Int)==32)=true:=by simp;omega
          have HC:=h_ (HSTOP.out k hlt hk1 ha hb)
          go_wp2
          go_ret
          rw [HC.out];exact⟨rfl,rfl⟩
        · have hb':((s[k-1].toNat:Int)==32)=false:=by simp;omega
          have HC:=h_ (HS.out (fun h=>hb h.2))
          go_wp2
          go_round
          case rel=>exact⟨k+1,by omega,by omega,by go_num,HC.out⟩
          case measure=>simp [intOf];omega
      · have ha':((s[k].toNat:Int)==32)=false:=by simp;omega
        have HC:=h_ (HS.out (fun h=>ha h.1))
        go_wp2
        go_round
        case rel=>exact⟨k+1,by omega,by omega,by go_num,HC.out⟩
        case measure=>simp [intOf];omega
    · obtain rfl:k=s.size:=by omega
      have HC:=h_ (HEND.out hn)
      clear hn
      go_wp2
      go_ret
      rw [HC.out];exact⟨rfl,rfl⟩
theorem zeE (a b:Int)(w:fp):fq ft 175 #[.agg #[.int .i64 a,.int .i64 b]] w fun e w'=>e=.returned (.bool (bY a b))∧fL w.heap.size w w':=by
 rcases(show a<0∨(0≤a∧b≤a)∨(0≤a∧a<b∧5184000<b)∨(0≤a∧a<b∧b≤5184000) by omega) with h|⟨h1,h2⟩|⟨h1,h2,h3⟩|⟨h1,h2,h3⟩
 · have HS:=h_ (show bY a b=false by simp [bY];omega)
   have h':decide (0≤a)=false:=by simp;omega
   go_enter fy,fw
   go_wp2
   go_ret
   rw [HS.out];exact⟨rfl,(fM _ _).alloc (fj _) _⟩
 · have HS:=h_ (show bY a b=false by simp [bY];omega)
   have h':decide (a<b)=false:=by simp;omega
   go_enter fy,fw
   go_wp2
   go_ret
   rw [HS.out];exact⟨rfl,(fM _ _).alloc (fj _) _⟩
 · have HS:=h_ (show bY a b=false by simp [bY];omega)
   have h':decide (b≤5184000)=false:=by simp;omega
   go_enter fy,fw
   go_wp2
   go_ret
   rw [HS.out];exact⟨rfl,(fM _ _).alloc (fj _) _⟩
 · have HS:=h_ (show bY a b=true by simp [bY];omega)
   go_enter fy,fw
   go_wp2
   go_ret
   rw [HS.out];exact⟨rfl,(fM _ _).alloc (fj _) _⟩
theorem zel (a b:Int):(fh a b=0↔a=b)∧(fh a b<0↔a<b):=by
 unfold fh
 repeat' split
 all_goals omega
theorem zkb (x y:Ev):dh x y=decide (x.inn<y.inn∨(x.inn=y.inn∧x.id<y.id)):=by
 unfold dh
 rw [decide_eq_decide]
 have h1:=zel x.inn y.inn
 have h2:=zel x.id y.id
 generalize fh x.inn y.inn=A at *
 generalize fh x.id y.id=B at *
 simp only [orL]
 repeat' split
 all_goals simp_all
 all_goals omega
theorem zbK (x y:Ev)(w:fp):fq ft 101 #[.agg x.enc.toArray,.agg y.enc.toArray] w fun e w'=>e=.returned (.bool (dh x y))∧fL w.heap.size w w':=by
 rw [zkb]
 obtain⟨id,inn,out,region,kind,speaker,ra,rc,rows⟩:=x
 obtain⟨id',inn',out',region',kind',speaker',ra',rc',rows'⟩:=y
 simp only [Ev.enc]
 have HB:=h_ (fun o o'=>(((fM _ _).alloc (fj _) _).alloc (by simp) _:fL w.heap.size w ((w.alloc o).alloc o')))
 rcases(show inn<inn'∨(inn'<inn∧(inn==inn')=false)∨(inn=inn') by
  by_cases h:inn=inn'
  · exact .inr (.inr h)
  · by_cases h2:inn<inn'
    · exact .inl h2
    · exact .inr (.inl ⟨by omega,by simpa using h⟩)) with h|⟨h,h'⟩|rfl
 · have HD:=h_ (show decide (inn<inn'∨(inn=inn'∧id<id'))=true by simp;omega)
   rw [HD.out]
   clear HD
   go_enter fB,fA
   go_wp2
   go_ret
   exact⟨rfl,HB.out _ _⟩
 · have HD:=h_ (show decide (inn<inn'∨(inn=inn'∧id<id'))=false by simp;omega)
   rw [HD.out]
   clear HD
   have hl:decide (inn<inn')=false:=by simp;omega
   go_enter fB,fA
   go_wp2
   go_ret
   exact⟨rfl,HB.out _ _⟩
 · have HD:=h_ (show decide (inn<inn∨(inn=inn∧id<id'))=decide (id<id') by simp)
   rw [HD.out]
   clear HD
   have hl:decide (inn<inn)=false:=by simp
   have hl2:(inn==inn)=true:=by simp
   go_enter fB,fA
   go_wp2
   go_ret
   exact⟨rfl,HB.out _ _⟩
theorem zaq (w:fp):fq ft 241 #[] w fun e w'=>e=.returned (.agg et.enc.toArray)∧fL w.heap.size w w':=by
 simp only [et,Reg.enc]
 go_enter Tryz.func241,Tryz.ntmps241
 go_wp2
 exact fr (v:=.agg #[.string ⟨#[]⟩,.int .i64 11,.int .i64 4,.int .i64 0,.int .i64 32,.int .u8 2,.bool true]) (by simp [results,Tryz.results241,go_sem]) rfl ⟨rfl,(fM _ _).alloc (fj _) _⟩
theorem zgW (a:Option Addr)(cap:Nat)(xs:List Reg)(w:fp)(hn:16<xs.length) :
 fq ft 99 #[.slice a xs.length cap] w fun e w'=>e=.returned (.int .i64 (ch xs))∧fL w.heap.size w w':=by
 rw [ch,if_pos hn]
 have hn':(16:Int)<(xs.length:Int):=by omega
 go_enter fI,fF
 go_wp2_with fail
 go_ret
 exact⟨rfl,fM _ _⟩
theorem zhV (a:Option Addr)(cap:Nat)(xs:List Reg)(w:fp)(hR:Regs w a xs)(hf:∀ x∈xs,x.fits)(hn:xs.length≤16) :
 fq ft 99 #[.slice a xs.length cap] w fun e w'=>e=.returned (.int .i64 (ch xs))∧fL w.heap.size w w':=by
 rw [ch,if_neg (by omega)]
 generalize hG:bO none xs=G
 have H0:=h_ (show bO (b7 xs 0) (xs.drop 0)=G by rw [fb];exact hG)
 have hn2:decide ((16:Int)<(xs.length:Int))=false:=by simp;omega
 clear hG
 go_enter fI,fF
 go_wp2_with fail
 go_loopw [11] (fun i wr=>∃ k:Nat,k≤xs.length∧i=.int .i64 k∧bO (b7 xs k) (xs.drop k)=G∧fL w.heap.size w wr) (fun i _=>xs.length-(intOf i).toNat)
 case atStart=>exact⟨0,by omega,rfl,H0.out,fM _ _⟩
 case round =>
  obtain⟨k,hk,rfl,hp,hb⟩:=hrel
  by_cases hlt:k<xs.length
  · obtain⟨b,off,x,rfl,hbl,hx,hc,_⟩:=(hR.later hb).at_ hlt
    have hfx:=hf x (List.mem_of_getElem? hx)
    have HC:=h_ (fun w=>zcL x w hfx)
    have hB1:∀ (o:Obj) (w1:fp),fL (wr.heap.size+1) (wr.alloc o) w1→fL w.heap.size w w1:=fun o w1 h=>(hb.alloc hb.size o).trans (h.mono (by have:=hb.size;omega))
    have HB1:=h_ hB1
    have HN:=h_ (zbN xs k x hx (b7 xs k))
    have HS:=h_ (zbM xs k x hx (b7 xs k))
    have HP:=h_ hp
    have hRr:=hR.later hb
    obtain⟨xn,xt,xh,xl,xw,xa,xb⟩:=x
    have d0:=hc 0 _ rfl;have d1:=hc 1 _ rfl;have d2:=hc 2 _ rfl;have d3:=hc 3 _ rfl;have d4:=hc 4 _ rfl;have d5:=hc 5 _ rfl;have d6:=hc 6 _ rfl
    simp only [fk] at d0 d1 d2 d3 d4 d5 d6
    cases hE:cC ⟨xn,xt,xh,xl,xw,xa,xb⟩ != 0
    · have hE0:cC ⟨xn,xt,xh,xl,xw,xa,xb⟩=0:=by simpa using hE
      have HE0:=h_ hE0
      simp only [Reg.enc] at HC
      rw [hE0] at HC
      clear hE hE0 hp hB1 hc
      rcases Nat.eq_zero_or_pos k with hk0|hk0
      · have hst:=h_ (show bN (b7 xs k) ⟨xn,xt,xh,xl,xw,xa,xb⟩=0 by rw [hk0];simp [bN,b7,HE0.out])
        have hkd:decide (0<k)=false:=by simp;omega
        clear hRr hk0
        go_wp2_with (go_at_call 174;refine(HC.out _).mono ?_;rintro e w1 ⟨rfl,hb1⟩;simp only [fN] at hb1)
        go_quiet (fail)
        go_wp2_with fail
        go_quiet (fail)
        go_wp2_with fail
        go_roundw
        case rel=>exact⟨k+1,by omega,by go_num,by rw [←HN.out hst.out];exact HP.out,below_drewN (HB1.out _ _ hb1) _⟩
        case measure=>simp [intOf];omega
      · obtain⟨b',off',y,hab,_,hy,hcy,_⟩:=hRr.at_ (show k-1<xs.length by omega)
        simp only [Option.some.injEq,Addr.mk.injEq,and_true] at hab
        obtain⟨rfl,rfl⟩:=hab
        obtain⟨yn,yt,yh,yl,yw,ya,yb⟩:=y
        have e0:=hcy 0 _ rfl
        simp only [fk] at e0
        have hpv:b7 xs k=some yn:=by
         obtain⟨j,rfl⟩:∃ j,k=j+1:=⟨k-1,by omega⟩
         simp only [fm] at hy
         simp [b7,hy]
        have hst:bN (b7 xs k) ⟨xn,xt,xh,xl,xw,xa,xb⟩=if (xn.toList==yn.toList)=true then 7 else if Op.bytesLess xn.toList yn.toList=true then 8 else 0:=by
         rw [hpv];simp [bN,HE0.out]
        have hcell:∀ w1,fL (wr.heap.size+1) (wr.alloc (.cells #[.string xn,.int .i64 xt,.int .i64 xh,.int .i64 xl,.int .i64 xw,.int .u8 xa,.bool xb] 44)) w1→w1.cell? ⟨wr.heap.size,0,none⟩=some (.string xn)∧w1.cell? ⟨b,off+(k-1)*7,none⟩=some (.string yn):=fun w1 h =>
         ⟨aa wr _ _ 0 _ rfl w1 h,by
          rw [h.cell (p:=⟨b,off+(k-1)*7,none⟩) (by simp;omega),fp.cell?_alloc_lt _ _ _ (by simpa using hbl)]
          exact e0⟩
        have HCELL:=h_ hcell
        have hkd:decide (0<k)=true:=by simp;omega
        have hk1:1≤k:=hk0
        have hkz:(1:Int)≤(k:Int):=by omega
        have hkl:(k:Int)-1<(xs.length:Int):=by omega
        have hwr:fJ.wrap ((k:Int)-1)=(k:Int)-1:=fK _ (by omega)
        have hkn:((k:Int)-1).toNat=k-1:=by omega
        clear hcell hpv hRr hcy hy e0 hk0
        rcases h1:xn.toList==yn.toList with _|_
        · rcases h2:Op.bytesLess xn.toList yn.toList with _|_
          · rw [h1,h2,if_neg (by decide),if_neg (by decide)] at hst
            have HST:=h_ hst
            clear hst
            go_wp2_with (go_at_call 174;refine(HC.out _).mono ?_;rintro e w1 ⟨rfl,hb1⟩;simp only [fN] at hb1;have hq1:=(HCELL.out _ hb1).1;have hq2:=(HCELL.out _ hb1).2)
            go_quiet (fail)
            go_wp2_with fail
            go_quiet (fail)
            go_wp2_with fail
            go_roundw
            case rel=>exact⟨k+1,by omega,by go_num,by rw [←HN.out HST.out];exact HP.out,below_drewN (HB1.out _ _ hb1) _⟩
            case measure=>simp [intOf];omega
          · rw [h1,h2,if_neg (by decide),if_pos rfl] at hst
            have HST:=h_ hst
            clear hst
            go_wp2_with (go_at_call 174;refine(HC.out _).mono ?_;rintro e w1 ⟨rfl,hb1⟩;simp only [fN] at hb1;have hq1:=(HCELL.out _ hb1).1;have hq2:=(HCELL.out _ hb1).2)
            go_quiet (fail)
            go_wp2_with fail
            go_quiet (fail)
            go_wp2_with fail
            go_ret
            exact⟨ag (by rw [←HP.out,HS.out (by rw [HST.out];rfl),HST.out]),below_drewN (below_drewN (HB1.out _ _ hb1) _) _⟩
        · rw [h1,if_pos rfl] at hst
          have HST:=h_ hst
          clear hst
          go_wp2_with (go_at_call 174;refine(HC.out _).mono ?_;rintro e w1 ⟨rfl,hb1⟩;simp only [fN] at hb1;have hq1:=(HCELL.out _ hb1).1;have hq2:=(HCELL.out _ hb1).2)
          go_quiet (fail)
          go_wp2_with fail
          go_ret
          exact⟨ag (by rw [←HP.out,HS.out (by rw [HST.out];rfl),HST.out]),below_drewN (HB1.out _ _ hb1) _⟩
    · have hst:bN (b7 xs k) ⟨xn,xt,xh,xl,xw,xa,xb⟩=cC ⟨xn,xt,xh,xl,xw,xa,xb⟩:=by unfold bN;exact if_pos hE
      have HST:=h_ hst
      simp only [Reg.enc] at HC
      generalize cC ⟨xn,xt,xh,xl,xw,xa,xb⟩=E at *
      clear hst hp hB1 hc hRr hfx hx
      go_wp2_with (go_at_call 174;refine(HC.out _).mono ?_;rintro e w1 ⟨rfl,hb1⟩;simp only [fN] at hb1)
      go_ret
      exact⟨ag (by rw [←HP.out,HS.out (by rw [HST.out];exact hE),HST.out]),HB1.out _ _ hb1⟩
  · obtain rfl:k=xs.length:=by omega
    rw [e_] at hp
    have HP:=h_ hp
    clear hp H0
    go_wp2_with fail
    go_ret
    exact⟨ag (by rw [←HP.out];cases b7 xs xs.length<;>rfl),hb⟩
theorem zfX (a:Option Addr)(cap:Nat)(xs:List Reg)(w:fp)(hR:Regs w a xs)(hf:∀ x∈xs,x.fits) :
 fq ft 99 #[.slice a xs.length cap] w fun e w'=>e=.returned (.int .i64 (ch xs))∧fL w.heap.size w w':=by
 by_cases hn:16<xs.length
 · exact zgW a cap xs w hn
 · exact zhV a cap xs w hR hf (by omega)
theorem zfV (a:Option Addr)(cap:Nat)(xs:List Reg)(nm:ByteArray)(w:fp)(hm:nm.toList=[]) :
 fq ft 176 #[.slice a xs.length cap,.string nm] w (za1 (eO xs nm) w):=by
 have hF:eO xs nm=(et,true):=by rw [eO,if_pos hm]
 rw [hF]
 have HD:=h_ (fun w=>zaq w)
 clear hF
 go_enter fH,fE
 go_wp2_with fail
 refine(HD.out _).mono ?_
 rintro e w1 ⟨rfl,hb1⟩
 rw [fN] at hb1
 obtain⟨c0,c1,c2,c3,c4,c5,c6,z0,z1,z2,z3,z4,z5,z6⟩:=zcw.of w w1 hb1
 have HB:=h_ (aq hb1)
 have hlt:w.heap.size<w1.heap.size:=by have:=hb1.size;rw [fN] at this;omega
 clear hb1 HD
 simp only [et,Reg.enc]
 go_wp2_with fail
 exact fr (v:=.tuple #[.agg #[.string ⟨#[]⟩,.int .i64 11,.int .i64 4,.int .i64 0,.int .i64 32,.int .u8 2,.bool true],.bool true]) (by simp [results,fz,go_sem, *]) rfl ⟨rfl,dv HB.out (fj _) _ _ _ _ _ _ _⟩
theorem zfU (a:Option Addr)(cap:Nat)(xs:List Reg)(nm:ByteArray)(w:fp)(hR:Regs w a xs)(hm:¬ nm.toList=[])(hl:xs.length≤4000000) :
 fq ft 176 #[.slice a xs.length cap,.string nm] w (za1 (eO xs nm) w):=by
 have hF:eO xs nm=zaH nm xs:=by rw [eO,if_neg hm]
 rw [hF]
 generalize hG:zaH nm xs=G
 have H0:=h_ (show zaH nm (xs.drop 0)=G by rw [fb];exact hG)
 have hsz:(w.alloc (.cells zeroCells 44)).heap.size=w.heap.size+1:=fN _ _
 have hme:nm.toList.isEmpty=false:=by simpa using hm
 clear hF hG
 go_enter fH,fE
 go_wp2_with fail
 go_loopw [13] (fun i wr=>∃ k:Nat,k≤xs.length∧i=.int .i64 k∧zaH nm (xs.drop k)=G∧fL (w.heap.size+1) (w.alloc (.cells zeroCells 44)) wr) (fun i _=>xs.length-(intOf i).toNat)
 case atStart=>exact⟨0,by omega,rfl,H0.out,fM _ _⟩
 case round =>
  obtain⟨k,hk,rfl,hp,hb⟩:=hrel
  have hbw:=aq hb
  obtain⟨c0,c1,c2,c3,c4,c5,c6,z0,z1,z2,z3,z4,z5,z6⟩:=zcw.of w wr hb
  have hlt0:w.heap.size<wr.heap.size:=by have:=hb.size;rw [hsz] at this;omega
  by_cases hlt:k<xs.length
  · obtain⟨b,off,x,rfl,hbl,hx,hc,_⟩:=(hR.later hbw).at_ hlt
    cases he:x.name.toList==nm.toList
    · have hP:=zbR nm xs k x hx he
      rw [hP] at hp
      obtain⟨xn,xt,xh,xl,xw,xa,xb⟩:=x
      have d0:=hc 0 _ rfl;have d1:=hc 1 _ rfl;have d2:=hc 2 _ rfl;have d3:=hc 3 _ rfl;have d4:=hc 4 _ rfl;have d5:=hc 5 _ rfl;have d6:=hc 6 _ rfl
      simp only [fk] at he d0 d1 d2 d3 d4 d5 d6
      have HP:=h_ hp
      have HB:=h_ (fun o=>below_alloc1 hb (by rw [hsz];omega) o)
      clear hp hP hc hx H0 c0 c1 c2 c3 c4 c5 c6 z0 z1 z2 z3 z4 z5 z6 hsz hR hb hbw
      go_wp2_with fail
      go_roundw
      case rel=>exact⟨k+1,by omega,by go_num,HP.out,HB.out _⟩
      case measure=>simp [intOf];omega
    · have hP:=zbb nm xs k x hx he
      rw [hP] at hp
      obtain⟨xn,xt,xh,xl,xw,xa,xb⟩:=x
      have d0:=hc 0 _ rfl;have d1:=hc 1 _ rfl;have d2:=hc 2 _ rfl;have d3:=hc 3 _ rfl;have d4:=hc 4 _ rfl;have d5:=hc 5 _ rfl;have d6:=hc 6 _ rfl
      simp only [fk] at he d0 d1 d2 d3 d4 d5 d6
      have HP:=h_ hp
      have HB:=h_ hbw
      clear hp hP hc hx H0 hsz hR hb hbw
      go_wp2_with fail
      exact fr (v:=.tuple #[.agg #[.string xn,.int .i64 xt,.int .i64 xh,.int .i64 xl,.int .i64 xw,.int .u8 xa,.bool xb],.bool true]) (by simp [results,fz,go_sem, *]) rfl
       ⟨by rw [←HP.out];rfl,eX HB.out (fj _) _ _ _ _ _ _ _ _⟩
  · obtain rfl:k=xs.length:=by omega
    rw [e_] at hp
    have HP:=h_ hp
    have HB:=h_ hbw
    clear hp H0 hsz hR hb hbw
    go_wp2_with fail
    exact fr (v:=.tuple #[.agg #[.string ⟨#[]⟩,.int .i64 0,.int .i64 0,.int .i64 0,.int .i64 0,.int .u8 0,.bool false],.bool false]) (by simp [results,fz,go_sem, *]) rfl
     ⟨by rw [←HP.out];rfl,dv HB.out (fj _) _ _ _ _ _ _ _⟩
theorem zeG (a:Option Addr)(cap:Nat)(xs:List Reg)(nm:ByteArray)(w:fp)(hR:Regs w a xs)(hl:xs.length≤4000000) :
 fq ft 176 #[.slice a xs.length cap,.string nm] w (za1 (eO xs nm) w):=by
 by_cases hm:nm.toList=[]
 · exact zfV a cap xs nm w hm
 · exact zfU a cap xs nm w hR hm hl
theorem zaB (x:Reg)(w:fp)(hf:x.fits) :
 fq ft 244 #[.agg x.enc.toArray] w fun e w'=>e=.returned (.bool (ee x))∧fL w.heap.size w w':=by
 have hU:ee x=(zh8 x||cC x==0):=rfl
 have hq:=zgN x
 have hc:=fun w=>zcL x w hf
 have hd:=fun w=>zaq w
 obtain⟨nm,top,height,left,width,align,bottom⟩:=x
 generalize cC ⟨nm,top,height,left,width,align,bottom⟩=E at *
 generalize ee ⟨nm,top,height,left,width,align,bottom⟩=U at *
 generalize hD:zh8 ⟨nm,top,height,left,width,align,bottom⟩=D at *
 simp only [Reg.enc,et] at hq hc hd ⊢
 have HC:=h_ hc;have HD:=h_ hd
 clear hc hd hf hD
 generalize hcs:#[Value.string nm,.int .i64 top,.int .i64 height,.int .i64 left,.int .i64 width,.int .u8 align,.bool bottom]=cs
 have f0:=aa w cs 44 0 (.string nm) (by rw [←hcs];rfl)
 have f1:=aa w cs 44 1 (.int .i64 top) (by rw [←hcs];rfl)
 have f2:=aa w cs 44 2 (.int .i64 height) (by rw [←hcs];rfl)
 have f3:=aa w cs 44 3 (.int .i64 left) (by rw [←hcs];rfl)
 have f4:=aa w cs 44 4 (.int .i64 width) (by rw [←hcs];rfl)
 have f5:=aa w cs 44 5 (.int .u8 align) (by rw [←hcs];rfl)
 have f6:=aa w cs 44 6 (.bool bottom) (by rw [←hcs];rfl)
 have HB:=h_ (fun(w1:fp) (h:fL (w.heap.size+1) (w.alloc (.cells cs 44)) w1)=>aq h)
 have hb0:fL (w.heap.size+1) (w.alloc (.cells cs 44)) (w.alloc (.cells cs 44)).drew:=(fM _ _).drew
 have hsz:(w.alloc (.cells cs 44)).heap.size=w.heap.size+1:=fN _ _
 generalize hW0:w.alloc (.cells cs 44)=W0 at *
 have HW0:=h_ hW0
 have HSZ:=h_ hsz
 clear hW0 hsz
 go_enter Tryz.func244,Tryz.ntmps244
 subst hcs
 go_wp2_with fail
 rw [HW0.out]
 cases hE:E==0
 · rw [hE,Bool.or_false] at hU
   have HU:=h_ hU
   clear hU
   go_region_with (first
    | (go_at_call 174;refine(HC.out _).mono ?_;rintro e w1 ⟨rfl,hb1⟩;replace hb1:fL (w.heap.size+1) W0 w1:=hb0.trans (hb1.mono (by have:=hb0.size;rw [HSZ.out] at this;exact this)))
    | (go_at_call 241;refine(HD.out _).mono ?_;rintro e w2 ⟨rfl,hb2⟩;replace hb2:fL (w.heap.size+1) W0 w2:=hb1.trans (hb2.mono (by have:=hb1.size;rw [HSZ.out] at this;exact this))))
   all_goals
    go_wp2_with fail
    go_ret
    rw [HU.out]
    exact⟨rfl,HB.out _ hb2⟩
 · rw [hE,Bool.or_true] at hU
   have HU:=h_ hU
   clear hU
   go_region_with (first
    | (go_at_call 174;refine(HC.out _).mono ?_;rintro e w1 ⟨rfl,hb1⟩;replace hb1:fL (w.heap.size+1) W0 w1:=hb0.trans (hb1.mono (by have:=hb0.size;rw [HSZ.out] at this;exact this))))
   all_goals
    go_wp2_with fail
    go_ret
    rw [HU.out]
    exact⟨rfl,HB.out _ hb1⟩
theorem zeH (x:Reg)(a:Option Addr)(cap:Nat)(zs:List Int)(w:fp)(hf:x.fits)(hI:Ints w a zs)(hl:zs.length≤4000000)(hB:x.bottom=false) :
 fq ft 181 #[.agg x.enc.toArray,.slice a zs.length cap] w (eY (bB x zs) w):=by
 have hU:=fun w=>zaB x w hf
 generalize hG:bB x zs=G
 unfold bB at hG
 obtain⟨nm,top,height,left,width,align,bottom⟩:=x
 obtain⟨_,hT,hH,hL,hW,ha0,ha1⟩:=hf
 simp only [i64] at hT hH hL hW ha0 ha1
 simp only at hB
 subst hB
 generalize ee ⟨nm,top,height,left,width,align,false⟩=U at *
 simp only [Reg.enc] at hU hG ⊢
 have HU:=h_ hU
 have HG:=h_ hG
 clear hU hG
 rcases(show U=false∨(U=true∧height<zs.length∧decide (height<(zs.length:Int))=true)∨(U=true∧zs.length≤height∧decide (height<(zs.length:Int))=false) by cases U<;>simp<;>omega) with rfl|⟨rfl,hlh,hld⟩|⟨rfl,hlh,hld⟩
 all_goals
  generalize hcs:#[Value.string nm,.int .i64 top,.int .i64 height,.int .i64 left,.int .i64 width,.int .u8 align,.bool false]=cs
  have f0:=aa w cs 44 0 (.string nm) (by rw [←hcs];rfl)
  have f1:=aa w cs 44 1 (.int .i64 top) (by rw [←hcs];rfl)
  have f2:=aa w cs 44 2 (.int .i64 height) (by rw [←hcs];rfl)
  have f3:=aa w cs 44 3 (.int .i64 left) (by rw [←hcs];rfl)
  have f4:=aa w cs 44 4 (.int .i64 width) (by rw [←hcs];rfl)
  have f5:=aa w cs 44 5 (.int .u8 align) (by rw [←hcs];rfl)
  have f6:=aa w cs 44 6 (.bool false) (by rw [←hcs];rfl)
  have HB:=h_ (fun(w1:fp) (h:fL (w.heap.size+1) (w.alloc (.cells cs 44)) w1)=>aq h)
  have hb0:fL (w.heap.size+1) (w.alloc (.cells cs 44)) (w.alloc (.cells cs 44)):=fM _ _
  have hsz:(w.alloc (.cells cs 44)).heap.size=w.heap.size+1:=fN _ _
  generalize hW0:w.alloc (.cells cs 44)=W0 at *
  have HW0:=h_ hW0
  have HSZ:=h_ hsz
  clear hW0 hsz
  go_enter fG,fD
  subst hcs
  go_wp2_with fail
  rw [HW0.out]
  refine(HU.out _).mono ?_
  rintro e w1 ⟨rfl,hb1⟩
  rw [HSZ.out] at hb1
  clear HW0
  go_wp2_with fail
 · go_ret2
   exact⟨.slice none 0 0,bH (by rw [←HG.out,if_pos (by decide)]),HB.out _ hb1⟩
 · go_ret2
   exact⟨.slice none 0 0,bH (by rw [←HG.out,if_neg (by decide),if_pos hlh]),HB.out _ hb1⟩
 · obtain⟨i0,hi,hz0,hz1,hz2⟩:=info_parts Tryz.info280
   have HI:=h_ hi;have H0:=h_ hz0;have H1:=h_ hz1;have H2:=h_ hz2
   clear hi hz0 hz1 hz2
   have hp0:bI width (zs.drop 0)=G:=by
    rw [fb,←HG.out,if_neg (by decide),if_neg (by omega)]
   have HP0:=h_ hp0
   clear hp0 HG
   go_loopw [6,20] (fun v i wr=>∃ k:Nat,k≤zs.length∧i=.int .i64 k∧bI width (zs.drop k)=G∧zex (w.heap.size+1) W0 k v wr) (fun _ i _=>zs.length-(intOf i).toNat)
   case atStart=>exact⟨0,by omega,rfl,HP0.out,⟨[],fO _ _ _ _⟩,hb1⟩
   case round =>
    obtain⟨k,hk,rfl,hp,hGr⟩:=hrel
    have hbr:=hGr.2
    have hlt0:w.heap.size<wr.heap.size:=by have:=hbr.size;rw [HSZ.out] at this;omega
    by_cases hlt:k<zs.length
    · obtain⟨b,off,z,rfl,hbl,hz,hc,_⟩:=(hI.later (HB.out _ hbr)).at_ hlt
      have d0:=hc 0 _ rfl
      simp only [fk,fo] at d0
      rw [eH width zs k z hz] at hp
      have HP:=h_ hp
      clear hp hc hz HP0 hI
      rcases(show z<0∨(0≤z∧width<z)∨(0≤z∧z≤width) by omega) with h|⟨h,h'⟩|⟨h,h'⟩
      · go_wp2_with fail
        go_ret2
        exact⟨.slice none 0 0,bH (by rw [←HP.out,if_pos h]),HB.out _ hbr⟩
      · go_wp2_with fail
        go_ret2
        exact⟨.slice none 0 0,bH (by rw [←HP.out,if_neg (by omega),if_pos h']),HB.out _ hbr⟩
      · rw [if_neg (by omega),if_neg (by omega)] at HP
        have hal:(align=3∨align=2∨((align==3)=false∧(align==2)=false)):=by
         by_cases h3:align=3
         · exact .inl h3
         · by_cases h2:align=2
           · exact .inr (.inl h2)
           · exact .inr (.inr ⟨by simpa using h3,by simpa using h2⟩)
        rcases hal with rfl|rfl|⟨e3,e2⟩
        all_goals
         obtain⟨xs,hown⟩:=hGr.1
         go_wp2_with (at_builtin;refine aH _ _ rfl (.tmp 73) (.tmp 75) 226 rfl (w.heap.size+1) 280 i0 _ 3 24 fC HI.out H0.out H1.out H2.out rfl (by decide) _ _ _ rfl (hown.alloc _) _ rfl (by simp) rfl ?h1 ?h63 ?hb ?hbase ?_)
         case h1=>exact⟨rfl,rfl,rfl⟩
         case h63=>unfold maxLen;omega
         case hb=>omega
         case hbase=>simp;omega
         intro v' w2 hown' hgrow
         have R:=zex.step hGr (by rw [HSZ.out];omega) hown' hgrow
         clear hown' hgrow hGr hown
         go_wp2_with fail
         go_roundw
         case rel=>exact⟨k+1,by omega,by go_num,HP.out,R⟩
         case measure=>simp [intOf];omega
    · obtain rfl:k=zs.length:=by omega
      rw [e_] at hp
      have HP:=h_ hp
      clear hp HP0
      go_wp2_with fail
      go_ret2
      exact⟨_,bH (by rw [←HP.out];rfl),HB.out _ hbr⟩
theorem zfW (x:Reg)(a:Option Addr)(cap:Nat)(zs:List Int)(w:fp)(hf:x.fits)(hI:Ints w a zs)(hl:zs.length≤4000000)(hB:x.bottom=true) :
 fq ft 181 #[.agg x.enc.toArray,.slice a zs.length cap] w (eY (bB x zs) w):=by
 have hU:=fun w=>zaB x w hf
 generalize hG:bB x zs=G
 unfold bB at hG
 obtain⟨nm,top,height,left,width,align,bottom⟩:=x
 obtain⟨_,hT,hH,hL,hW,ha0,ha1⟩:=hf
 simp only [i64] at hT hH hL hW ha0 ha1
 simp only at hB
 subst hB
 generalize ee ⟨nm,top,height,left,width,align,true⟩=U at *
 simp only [Reg.enc] at hU hG ⊢
 have HU:=h_ hU
 have HG:=h_ hG
 clear hU hG
 rcases(show U=false∨(U=true∧height<zs.length∧decide (height<(zs.length:Int))=true)∨(U=true∧zs.length≤height∧decide (height<(zs.length:Int))=false) by cases U<;>simp<;>omega) with rfl|⟨rfl,hlh,hld⟩|⟨rfl,hlh,hld⟩
 all_goals
  generalize hcs:#[Value.string nm,.int .i64 top,.int .i64 height,.int .i64 left,.int .i64 width,.int .u8 align,.bool true]=cs
  have f0:=aa w cs 44 0 (.string nm) (by rw [←hcs];rfl)
  have f1:=aa w cs 44 1 (.int .i64 top) (by rw [←hcs];rfl)
  have f2:=aa w cs 44 2 (.int .i64 height) (by rw [←hcs];rfl)
  have f3:=aa w cs 44 3 (.int .i64 left) (by rw [←hcs];rfl)
  have f4:=aa w cs 44 4 (.int .i64 width) (by rw [←hcs];rfl)
  have f5:=aa w cs 44 5 (.int .u8 align) (by rw [←hcs];rfl)
  have f6:=aa w cs 44 6 (.bool true) (by rw [←hcs];rfl)
  have HB:=h_ (fun(w1:fp) (h:fL (w.heap.size+1) (w.alloc (.cells cs 44)) w1)=>aq h)
  have hb0:fL (w.heap.size+1) (w.alloc (.cells cs 44)) (w.alloc (.cells cs 44)):=fM _ _
  have hsz:(w.alloc (.cells cs 44)).heap.size=w.heap.size+1:=fN _ _
  generalize hW0:w.alloc (.cells cs 44)=W0 at *
  have HW0:=h_ hW0
  have HSZ:=h_ hsz
  clear hW0 hsz
  go_enter fG,fD
  subst hcs
  go_wp2_with fail
  rw [HW0.out]
  refine(HU.out _).mono ?_
  rintro e w1 ⟨rfl,hb1⟩
  rw [HSZ.out] at hb1
  clear HW0
  go_wp2_with fail
 · go_ret2
   exact⟨.slice none 0 0,bH (by rw [←HG.out,if_pos (by decide)]),HB.out _ hb1⟩
 · go_ret2
   exact⟨.slice none 0 0,bH (by rw [←HG.out,if_neg (by decide),if_pos hlh]),HB.out _ hb1⟩
 · obtain⟨i0,hi,hz0,hz1,hz2⟩:=info_parts Tryz.info280
   have HI:=h_ hi;have H0:=h_ hz0;have H1:=h_ hz1;have H2:=h_ hz2
   clear hi hz0 hz1 hz2
   have hp0:bI width (zs.drop 0)=G:=by
    rw [fb,←HG.out,if_neg (by decide),if_neg (by omega)]
   have HP0:=h_ hp0
   clear hp0 HG
   go_loopw [6,20] (fun v i wr=>∃ k:Nat,k≤zs.length∧i=.int .i64 k∧bI width (zs.drop k)=G∧zex (w.heap.size+1) W0 k v wr) (fun _ i _=>zs.length-(intOf i).toNat)
   case atStart=>exact⟨0,by omega,rfl,HP0.out,⟨[],fO _ _ _ _⟩,hb1⟩
   case round =>
    obtain⟨k,hk,rfl,hp,hGr⟩:=hrel
    have hbr:=hGr.2
    have hlt0:w.heap.size<wr.heap.size:=by have:=hbr.size;rw [HSZ.out] at this;omega
    by_cases hlt:k<zs.length
    · obtain⟨b,off,z,rfl,hbl,hz,hc,_⟩:=(hI.later (HB.out _ hbr)).at_ hlt
      have d0:=hc 0 _ rfl
      simp only [fk,fo] at d0
      rw [eH width zs k z hz] at hp
      have HP:=h_ hp
      clear hp hc hz HP0 hI
      rcases(show z<0∨(0≤z∧width<z)∨(0≤z∧z≤width) by omega) with h|⟨h,h'⟩|⟨h,h'⟩
      · go_wp2_with fail
        go_ret2
        exact⟨.slice none 0 0,bH (by rw [←HP.out,if_pos h]),HB.out _ hbr⟩
      · go_wp2_with fail
        go_ret2
        exact⟨.slice none 0 0,bH (by rw [←HP.out,if_neg (by omega),if_pos h']),HB.out _ hbr⟩
      · rw [if_neg (by omega),if_neg (by omega)] at HP
        have hal:(align=3∨align=2∨((align==3)=false∧(align==2)=false)):=by
         by_cases h3:align=3
         · exact .inl h3
         · by_cases h2:align=2
           · exact .inr (.inl h2)
           · exact .inr (.inr ⟨by simpa using h3,by simpa using h2⟩)
        rcases hal with rfl|rfl|⟨e3,e2⟩
        all_goals
         obtain⟨xs,hown⟩:=hGr.1
         go_wp2_with (at_builtin;refine aH _ _ rfl (.tmp 73) (.tmp 75) 226 rfl (w.heap.size+1) 280 i0 _ 3 24 fC HI.out H0.out H1.out H2.out rfl (by decide) _ _ _ rfl (hown.alloc _) _ rfl (by simp) rfl ?h1 ?h63 ?hb ?hbase ?_)
         case h1=>exact⟨rfl,rfl,rfl⟩
         case h63=>unfold maxLen;omega
         case hb=>omega
         case hbase=>simp;omega
         intro v' w2 hown' hgrow
         have R:=zex.step hGr (by rw [HSZ.out];omega) hown' hgrow
         clear hown' hgrow hGr hown
         go_wp2_with fail
         go_roundw
         case rel=>exact⟨k+1,by omega,by go_num,HP.out,R⟩
         case measure=>simp [intOf];omega
    · obtain rfl:k=zs.length:=by omega
      rw [e_] at hp
      have HP:=h_ hp
      clear hp HP0
      go_wp2_with fail
      go_ret2
      exact⟨_,bH (by rw [←HP.out];rfl),HB.out _ hbr⟩
theorem za7 (x:Reg)(a:Option Addr)(cap:Nat)(zs:List Int)(w:fp)(hf:x.fits)(hI:Ints w a zs)(hl:zs.length≤4000000) :
 fq ft 181 #[.agg x.enc.toArray,.slice a zs.length cap] w (eY (bB x zs) w):=by
 cases hB:x.bottom
 · exact zeH x a cap zs w hf hI hl hB
 · exact zfW x a cap zs w hf hI hl hB
end Go.Proofs.YtnlnmbcaongehaaGreatDoor
