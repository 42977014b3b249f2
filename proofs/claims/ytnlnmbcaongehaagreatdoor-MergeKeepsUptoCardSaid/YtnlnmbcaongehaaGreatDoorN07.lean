/- slices.SortStableFunc's merge in place at events: symMerge. slices.SortStableFunc at events: a permutation of what the row held, ascending. -/
import Derived.Test.YtnlnmbcaongehaaGreatDoorN06
set_option linter.unusedVariables false
set_option linter.unusedSimpArgs false
set_option maxRecDepth 100000
set_option maxHeartbeats 12800000
open Go.Lib renaming hid→h_
open Go renaming results_none→Su,bodyPost_ret→Sv,World→Sw,sizeOf→Sx,Value→Sy,Calls→Sz
open Nat renaming le_refl→SA,zero_le→SB
open Go.Sort renaming insertionSort→SC,permIn_refl→SD,permIn_trans→SE,permIn_mono→SF,insertionSort_holds→SG
open Go.IntKind renaming wrap_i64→SH,i64→SI
open Go.Exit renaming inBlock→SJ
namespace Go.Proofs.YtnlnmbcaongehaaGreatDoor
open Go.Shelf Go.RowKit Go.Lib Go.Sort
variable {P:Program} {α:Type} [Inhabited α]
def jo (lt:α→α→Bool)(enc:α→List Sy)(k:Nat)(w0:Sw)(blk off:Nat)(d:Array α)(a b:Nat)(e:Ending)(w':Sw):Prop :=
 e=.returned (.tuple #[])∧∃ d',d'.size=d.size∧SWK enc k w0 blk off d' w'∧PermIn a b d d'∧SortedIn lt a b d'
theorem v_ (L:xy P)(k:Nat)(aE:∀ w,(isAgg 50).run P w=.ok true w)(zE:∀ w,(Sx 50).run P w=.ok k w)(enc:α→List Sy)(cf:α→α→Int)(hO:SWO (ltOf cf))(g:Nat)(cb:Array Sy)(blk off cap:Nat)(d0 d:Array α)(w0 w:Sw)
 (eg:∀ args w,(callFunc g args).run P w=.ok (.enter g args) w) (hcmp:CmpLays P g cb enc k cf blk off d0.size w0) (R:RowK enc k w0 blk off d0) (hs:d0.size=d.size) (S:SWK enc k w0 blk off d w) (hsz:d.size<4611686018427387904) (a b:Nat) (hb1:a+1<b) (hb:b≤d.size) (hl:True) (hr:SortedIn (ltOf cf) (a+1) b d) :
 Sz P 278 #[.slice (some ⟨blk,off,none⟩) d.size cap,.int .i64 a,.int .i64 ((a:Int)+1),.int .i64 b,.func (.func g) #[] cb] w (jo (ltOf cf) enc k w0 blk off d a b):=by
 have mixed:=L.mixed;have t0:=L.t0;have a0:=L.a0;have z0:=L.z0;have v0:=L.v0;have t3:=L.t3;have a3:=L.a3;have z3:=L.z3;have v3:=L.v3;have t4:=L.t4;have a4:=L.a4;have z4:=L.z4;have v4:=L.v4;have t24:=L.t24;have a24:=L.a24;have z24:=L.z24;have v24:=L.v24;have t252:=L.t252;have a252:=L.a252;have z252:=L.z252;have v252:=L.v252;have t238:=L.t238;have a238:=L.a238;have z238:=L.z238;have v238:=L.v238
 have FG:=L.f278
 have HC:Aside _:=hcmp
 have S0:Aside (SWK enc k w0 blk off d w):=S
 have HL:=h_ hl
 have HR:=h_ hr
 clear S hcmp hl hr
 generalize hQ:jo (ltOf cf) enc k w0 blk off d a b=Q
 have HQ:=h_ (fun(dk:Array α) (W:Sw) (h1:dk.size=d.size) (h2:SWK enc k w0 blk off dk W) (h3:PermIn a b d dk) (h4:SortedIn (ltOf cf) a b dk)=>show Q (.returned (.tuple #[])) W from hQ▸⟨rfl,dk,h1,h2,h3,h4⟩)
 clear hQ
 clear L
 have hma:((a:Int)+1-(a:Int)==1)=true:=by simp;omega
 go_enter FG,Tryz.ntmps278
 go_wp2
 go_loopg [10,11] b (fun kx s10 s11 wr=>∃ i j:Nat,s10=.int .i64 i∧s11=.int .i64 j∧a+1≤i∧i≤j∧j≤b∧j-i≤kx∧Aside (SWK enc k w0 blk off d wr)∧Hid (∀ t,a+1≤t→t<i→ltOf cf d[t]! d[a]! =true)∧Hid (∀ t,j≤t→t<b→ltOf cf d[t]! d[a]! =false))
 case atStart=>exact⟨a+1,b,by go_num,rfl,SA _,by omega,SA _,by omega,S0,fun t h1 h2=>by omega,fun t h1 h2=>by omega⟩
 case round =>
  clear S0
  obtain⟨i,j,rfl,rfl,hi,hij,hjb,hkx,S1,HI,HJ⟩:=hrel
  by_cases hlt:i<j
  · have hltz:(i:Int)<(j:Int):=by omega
    obtain⟨h,hh⟩:∃ h:Nat,h=(i+j) / 2:=⟨_,rfl⟩
    have hhz:((i:Int)+(j:Int)) / 2=(h:Int):=by omega
    have h1:i≤h:=by omega
    have h2:h<j:=by omega
    have hhd:(h:Int)<(d.size:Int):=by omega
    have had:(a:Int)<(d.size:Int):=by omega
    clear hh
    obtain⟨x,hx⟩:∃ x,d[h]! =x:=⟨_,rfl⟩
    obtain⟨y,hy⟩:∃ y,d[a]! =y:=⟨_,rfl⟩
    have HX:=h_ hx
    have HY:=h_ hy
    clear hx hy
    by_cases hv:cf x y<0
    · skip
      have lx:=S1.out.ld R (by omega) P (h) (by omega)
      have ly:=S1.out.ld R (by omega) P (a) (by omega)
      rw [HX.out] at lx
      rw [HY.out] at ly
      have hc:=S1.out.cmp HC.out (by omega) x y
      have hd:decide (cf x y<0)=true:=decide_eq_true hv
      go_wp2_with fail
      go_quiet_grown (first|(go_at_fn g;refine Sz.grown_of (hc _ _)))
      have S2:Aside (SWK enc k w0 blk off d (grow (wr.drewN nq) osq)):=S1.out.grown nq osq
      clear lx ly hc
      generalize grow (wr.drewN nq) osq=w2 at S2 ⊢
      clear nq osq
      go_wp2
      go_roundg (j-(h+1))
      case measure=>omega
      case rel=>exact⟨h+1,j,by go_num,rfl,by omega,by omega,hjb,SA _,S2,(fun t h3 h4=>(by
       have e1:ltOf cf d[h]! d[a]! =true:=by rw [HX.out,HY.out];exact decide_eq_true hv
       by_cases e:t=h
       · rw [e];exact e1
       · cases e2:ltOf cf d[t]! d[a]! with
         | true=>rfl
         | false =>
           have:=hO.ntrans _ _ _ (HR.out t h h3 (by omega) (by omega)) e2
           rw [e1] at this;cases this)),HJ⟩
    · skip
      have lx:=S1.out.ld R (by omega) P (h) (by omega)
      have ly:=S1.out.ld R (by omega) P (a) (by omega)
      rw [HX.out] at lx
      rw [HY.out] at ly
      have hc:=S1.out.cmp HC.out (by omega) x y
      have hd:decide (cf x y<0)=false:=decide_eq_false (by omega)
      go_wp2_with fail
      go_quiet_grown (first|(go_at_fn g;refine Sz.grown_of (hc _ _)))
      have S2:Aside (SWK enc k w0 blk off d (grow (wr.drewN nq) osq)):=S1.out.grown nq osq
      clear lx ly hc
      generalize grow (wr.drewN nq) osq=w2 at S2 ⊢
      clear nq osq
      go_wp2
      go_roundg (h-i)
      case measure=>omega
      case rel=>exact⟨i,h,rfl,rfl,hi,h1,by omega,SA _,S2,HI,(fun t h3 h4=>(by
       have e1:ltOf cf d[h]! d[a]! =false:=by rw [HX.out,HY.out];exact decide_eq_false (by omega)
       by_cases e:t=h
       · rw [e];exact e1
       · exact hO.ntrans _ _ _ (HR.out h t (by omega) (by omega) h4) e1))⟩
  · obtain rfl:i=j:=by omega
    go_wp2
    go_loopg [13] b (fun kx s13 wr=>∃ (q:Nat) (dk:Array α),s13=.int .i64 q∧a≤q∧q+1≤i∧i-1-q≤kx∧dk.size=d.size∧Aside (SWK enc k w0 blk off dk wr)∧Hid (PermIn a b d dk)∧Hid (∀ t,dk[t]! =d[dX a (a+1) (q+1) t]!))
    case atStart=>exact⟨a,d,rfl,SA _,hi,by omega,rfl,S1,SD _ _ _,fun t=>by rw [yz a (a+1) (a+1) t (.inr rfl) (by omega) (by omega)]⟩
    case round =>
     clear S1
     obtain⟨q,dk,rfl,haq,hqi,Je,hds,S1,HP,HT⟩:=hrel
     by_cases hlt2:q+1<i
     · have zk:(q:Int)<(i:Int)-1:=by omega
       have ea:((q:Int)).toNat=q:=by omega
       have pa:(0:Int)≤(q:Int):=by omega
       have ba:(q:Int)<(d.size:Int):=by omega
       have ra:SI.wrap ((q:Int))=(q:Int):=by rw [SH];omega
       have ec:((q:Int)+1).toNat=q+1:=by omega
       have pc:(0:Int)≤(q:Int)+1:=by omega
       have bc:(q:Int)+1<(d.size:Int):=by omega
       have rc:SI.wrap ((q:Int)+1)=(q:Int)+1:=by rw [SH];omega
       have S2:Aside (SWK enc k w0 blk off (swp dk (q) (q+1)) ((wr.drew.setCells blk (off+(q)*k) (enc dk[q+1]!)).setCells blk (off+(q+1)*k) (enc dk[q]!))):=S1.out.swapped R (q) (q+1) (by omega) (by omega)
       have la:=S1.out.ld1 R (by omega) P (q) (by omega)
       have lb:=S1.out.ld1 R (by omega) P (q+1) (by omega)
       have sa:=S1.out.st1 R (by omega) P (q) (by omega) dk[q+1]!
       have sb:=S1.out.st2 R (by omega) P (q) (q+1) (by omega) (by omega) dk[q+1]! dk[q]!
       have na:(enc dk[q]!).length=k:=R.hk _
       have nb:(enc dk[q+1]!).length=k:=R.hk _
       generalize enc dk[q]! =cI at S2 la sb na
       generalize enc dk[q+1]! =cJ at S2 lb sa sb nb
       clear S1
       go_wp2_with fail
       go_big_region_o
       clear la lb sa sb
       generalize (wr.drew.setCells blk (off+(q)*k) cJ).setCells blk (off+(q+1)*k) cI=w2 at S2 ⊢
       go_wp2
       go_roundg (i-1-(q+1))
       case measure=>omega
       case rel=>exact⟨q+1,swp dk q (q+1),by go_num,by omega,by omega,SA _,by rw [size_swp];exact hds,S2,SE _ _ _ _ _ HP.out (swp_permIn _ _ _ _ _ (by omega) (by omega) (by omega) (by omega) (by omega)),K3 d dk a q haq (by omega) hds HT.out⟩
     · have zk:¬ (q:Int)<(i:Int)-1:=by omega
       go_wp2
       (first|go_end0|((try simp only [SJ,Exit.then]);refine Sv (Su rfl _ _ _) rfl ?_))
       have hq:q+1=i:=by omega
       exact HQ.out dk _ hds S1.out HP.out (Ou hO d dk a i b hi hjb HR.out HI.out HJ.out (hq▸HT.out))
theorem tN (L:xy P)(k:Nat)(aE:∀ w,(isAgg 50).run P w=.ok true w)(zE:∀ w,(Sx 50).run P w=.ok k w)(enc:α→List Sy)(cf:α→α→Int)(hO:SWO (ltOf cf))(g:Nat)(cb:Array Sy)(blk off cap:Nat)(d0 d:Array α)(w0 w:Sw)
 (eg:∀ args w,(callFunc g args).run P w=.ok (.enter g args) w) (hcmp:CmpLays P g cb enc k cf blk off d0.size w0) (R:RowK enc k w0 blk off d0) (hs:d0.size=d.size) (S:SWK enc k w0 blk off d w) (hsz:d.size<4611686018427387904) (a m:Nat) (ham:a+1<m) (hb:m+1≤d.size) (hl:SortedIn (ltOf cf) a m d) (hr:True) :
 Sz P 278 #[.slice (some ⟨blk,off,none⟩) d.size cap,.int .i64 a,.int .i64 m,.int .i64 ((m:Int)+1),.func (.func g) #[] cb] w (jo (ltOf cf) enc k w0 blk off d a (m+1)):=by
 have mixed:=L.mixed;have t0:=L.t0;have a0:=L.a0;have z0:=L.z0;have v0:=L.v0;have t3:=L.t3;have a3:=L.a3;have z3:=L.z3;have v3:=L.v3;have t4:=L.t4;have a4:=L.a4;have z4:=L.z4;have v4:=L.v4;have t24:=L.t24;have a24:=L.a24;have z24:=L.z24;have v24:=L.v24;have t252:=L.t252;have a252:=L.a252;have z252:=L.z252;have v252:=L.v252;have t238:=L.t238;have a238:=L.a238;have z238:=L.z238;have v238:=L.v238
 have FG:=L.f278
 have HC:Aside _:=hcmp
 have S0:Aside (SWK enc k w0 blk off d w):=S
 have HL:=h_ hl
 have HR:=h_ hr
 clear S hcmp hl hr
 generalize hQ:jo (ltOf cf) enc k w0 blk off d a (m+1)=Q
 have HQ:=h_ (fun(dk:Array α) (W:Sw) (h1:dk.size=d.size) (h2:SWK enc k w0 blk off dk W) (h3:PermIn a (m+1) d dk) (h4:SortedIn (ltOf cf) a (m+1) dk)=>show Q (.returned (.tuple #[])) W from hQ▸⟨rfl,dk,h1,h2,h3,h4⟩)
 clear hQ
 clear L
 have hma:((m:Int)-(a:Int)==1)=false:=by simp;omega
 have Ru:((m:Int)+1-(m:Int)==1)=true:=by simp;omega
 go_enter FG,Tryz.ntmps278
 go_wp2
 go_loopg [14,15] m (fun kx j6 s15 wr=>∃ i j:Nat,j6=.int .i64 i∧s15=.int .i64 j∧a≤i∧i≤j∧j≤m∧j-i≤kx∧Aside (SWK enc k w0 blk off d wr)∧Hid (∀ t,a≤t→t<i→ltOf cf d[m]! d[t]! =false)∧Hid (∀ t,j≤t→t<m→ltOf cf d[m]! d[t]! =true))
 case atStart=>exact⟨a,m,rfl,rfl,SA _,by omega,SA _,by omega,S0,fun t h1 h2=>by omega,fun t h1 h2=>by omega⟩
 case round =>
  clear S0
  obtain⟨i,j,rfl,rfl,hi,hij,hjm,hkx,S1,HI,HJ⟩:=hrel
  by_cases hlt:i<j
  · have hltz:(i:Int)<(j:Int):=by omega
    obtain⟨h,hh⟩:∃ h:Nat,h=(i+j) / 2:=⟨_,rfl⟩
    have hhz:((i:Int)+(j:Int)) / 2=(h:Int):=by omega
    have h1:i≤h:=by omega
    have h2:h<j:=by omega
    have hhd:(h:Int)<(d.size:Int):=by omega
    have hmd:(m:Int)<(d.size:Int):=by omega
    clear hh
    obtain⟨x,hx⟩:∃ x,d[m]! =x:=⟨_,rfl⟩
    obtain⟨y,hy⟩:∃ y,d[h]! =y:=⟨_,rfl⟩
    have HX:=h_ hx
    have HY:=h_ hy
    clear hx hy
    by_cases hv:cf x y<0
    · skip
      have lx:=S1.out.ld R (by omega) P (m) (by omega)
      have ly:=S1.out.ld R (by omega) P (h) (by omega)
      rw [HX.out] at lx
      rw [HY.out] at ly
      have hc:=S1.out.cmp HC.out (by omega) x y
      have hd:decide (cf x y<0)=true:=decide_eq_true hv
      go_wp2_with fail
      go_quiet_grown (first|(go_at_fn g;refine Sz.grown_of (hc _ _)))
      have S2:Aside (SWK enc k w0 blk off d (grow (wr.drewN nq) osq)):=S1.out.grown nq osq
      clear lx ly hc
      generalize grow (wr.drewN nq) osq=w2 at S2 ⊢
      clear nq osq
      go_wp2
      go_roundg (h-i)
      case measure=>omega
      case rel=>exact⟨i,h,rfl,rfl,hi,h1,by omega,SA _,S2,HI,(fun t h3 h4=>(by
       have e1:ltOf cf d[m]! d[h]! =true:=by rw [HX.out,HY.out];exact decide_eq_true hv
       by_cases e:t=h
       · rw [e];exact e1
       · cases e2:ltOf cf d[m]! d[t]! with
         | true=>rfl
         | false =>
           have:=hO.ntrans _ _ _ e2 (HL.out h t (by omega) (by omega) h4)
           rw [e1] at this;cases this))⟩
    · skip
      have lx:=S1.out.ld R (by omega) P (m) (by omega)
      have ly:=S1.out.ld R (by omega) P (h) (by omega)
      rw [HX.out] at lx
      rw [HY.out] at ly
      have hc:=S1.out.cmp HC.out (by omega) x y
      have hd:decide (cf x y<0)=false:=decide_eq_false (by omega)
      go_wp2_with fail
      go_quiet_grown (first|(go_at_fn g;refine Sz.grown_of (hc _ _)))
      have S2:Aside (SWK enc k w0 blk off d (grow (wr.drewN nq) osq)):=S1.out.grown nq osq
      clear lx ly hc
      generalize grow (wr.drewN nq) osq=w2 at S2 ⊢
      clear nq osq
      go_wp2
      go_roundg (j-(h+1))
      case measure=>omega
      case rel=>exact⟨h+1,j,by go_num,rfl,by omega,by omega,hjm,SA _,S2,(fun t h3 h4=>(by
       have e1:ltOf cf d[m]! d[h]! =false:=by rw [HX.out,HY.out];exact decide_eq_false (by omega)
       by_cases e:t=h
       · rw [e];exact e1
       · exact hO.ntrans _ _ _ e1 (HL.out t h h3 (by omega) (by omega)))),HJ⟩
  · obtain rfl:i=j:=by omega
    go_wp2
    go_loopg [17] m (fun kx fh wr=>∃ (q:Nat) (dk:Array α),fh=.int .i64 q∧i≤q∧q≤m∧q-i≤kx∧dk.size=d.size∧Aside (SWK enc k w0 blk off dk wr)∧Hid (PermIn a (m+1) d dk)∧Hid (∀ t,dk[t]! =d[dX q m (m+1) t]!))
    case atStart=>exact⟨m,d,rfl,hjm,SA _,by omega,rfl,S1,SD _ _ _,fun t=>by rw [yz m m (m+1) t (.inl rfl) (by omega) (by omega)]⟩
    case round =>
     clear S1
     obtain⟨q,dk,rfl,hiq,hqm,Je,hds,S1,HP,HT⟩:=hrel
     by_cases hlt2:i<q
     · have zk:(i:Int)<(q:Int):=by omega
       obtain⟨p,rfl⟩:∃ p,q=p+1:=⟨q-1,by omega⟩
       have rp:SI.wrap (p:Int)=(p:Int):=by rw [SH];omega
       have ea:((p:Int)+1).toNat=p+1:=by omega
       have pa:(0:Int)≤(p:Int)+1:=by omega
       have ba:(p:Int)+1<(d.size:Int):=by omega
       have ra:SI.wrap ((p:Int)+1)=(p:Int)+1:=by rw [SH];omega
       have ec:((p:Int)).toNat=p:=by omega
       have pc:(0:Int)≤(p:Int):=by omega
       have bc:(p:Int)<(d.size:Int):=by omega
       have rc:SI.wrap ((p:Int))=(p:Int):=by rw [SH];omega
       have S2:Aside (SWK enc k w0 blk off (swp dk (p+1) (p)) ((wr.drew.setCells blk (off+(p+1)*k) (enc dk[p]!)).setCells blk (off+(p)*k) (enc dk[p+1]!))):=S1.out.swapped R (p+1) (p) (by omega) (by omega)
       have la:=S1.out.ld1 R (by omega) P (p+1) (by omega)
       have lb:=S1.out.ld1 R (by omega) P (p) (by omega)
       have sa:=S1.out.st1 R (by omega) P (p+1) (by omega) dk[p]!
       have sb:=S1.out.st2 R (by omega) P (p+1) (p) (by omega) (by omega) dk[p]! dk[p+1]!
       have na:(enc dk[p+1]!).length=k:=R.hk _
       have nb:(enc dk[p]!).length=k:=R.hk _
       generalize enc dk[p+1]! =cI at S2 la sb na
       generalize enc dk[p]! =cJ at S2 lb sa sb nb
       clear S1
       go_wp2_with fail
       go_big_region_o
       clear la lb sa sb
       generalize (wr.drew.setCells blk (off+(p+1)*k) cJ).setCells blk (off+(p)*k) cI=w2 at S2 ⊢
       go_wp2
       go_roundg (p-i)
       case measure=>omega
       case rel=>exact⟨p,swp dk (p+1) p,by first|rfl|go_num,by omega,by omega,SA _,by rw [size_swp];exact hds,S2,SE _ _ _ _ _ HP.out (swp_permIn _ _ _ _ _ (by omega) (by omega) (by omega) (by omega) (by omega)),GJ d dk m p (by omega) (by omega) hds HT.out⟩
     · have zk:¬ (i:Int)<(q:Int):=by omega
       go_wp2
       (first|go_end0|((try simp only [SJ,Exit.then]);refine Sv (Su rfl _ _ _) rfl ?_))
       have hq:q=i:=by omega
       exact HQ.out dk _ hds S1.out HP.out (I7 hO d dk a i m hi hjm HL.out HI.out HJ.out (hq▸HT.out))
theorem v8 (L:xy P)(k:Nat)(aE:∀ w,(isAgg 50).run P w=.ok true w)(zE:∀ w,(Sx 50).run P w=.ok k w)(enc:α→List Sy)(cf:α→α→Int)(hO:SWO (ltOf cf))(g:Nat)(cb:Array Sy)(blk off cap:Nat)(d0 d:Array α)(w0 w:Sw)
 (eg:∀ args w,(callFunc g args).run P w=.ok (.enter g args) w) (hcmp:CmpLays P g cb enc k cf blk off d0.size w0) (R:RowK enc k w0 blk off d0) (hs:d0.size=d.size) (S:SWK enc k w0 blk off d w) (hsz:d.size<4611686018427387904) (a m b:Nat) (ham:a+1<m) (hmb:m+1<b) (hb:b≤d.size) (hl:SortedIn (ltOf cf) a m d) (hr:SortedIn (ltOf cf) m b d)
 (ih:∀ (a' m' b':Nat) (dk:Array α) (W:Sw),d0.size=dk.size→SWK enc k w0 blk off dk W→b'-a'<b-a→a'<m'→m'<b'→b'≤dk.size→SortedIn (ltOf cf) a' m' dk→SortedIn (ltOf cf) m' b' dk →
  Sz P 278 #[.slice (some ⟨blk,off,none⟩) dk.size cap,.int .i64 a',.int .i64 m',.int .i64 b',.func (.func g) #[] cb] W (jo (ltOf cf) enc k w0 blk off dk a' b')) :
 Sz P 278 #[.slice (some ⟨blk,off,none⟩) d.size cap,.int .i64 a,.int .i64 m,.int .i64 b,.func (.func g) #[] cb] w (jo (ltOf cf) enc k w0 blk off d a b):=by
 have mixed:=L.mixed;have t0:=L.t0;have a0:=L.a0;have z0:=L.z0;have v0:=L.v0;have t3:=L.t3;have a3:=L.a3;have z3:=L.z3;have v3:=L.v3;have t4:=L.t4;have a4:=L.a4;have z4:=L.z4;have v4:=L.v4;have t24:=L.t24;have a24:=L.a24;have z24:=L.z24;have v24:=L.v24;have t252:=L.t252;have a252:=L.a252;have z252:=L.z252;have v252:=L.v252;have t238:=L.t238;have a238:=L.a238;have z238:=L.z238;have v238:=L.v238
 have FG:=L.f278
 have HC:Aside _:=hcmp
 have S0:Aside (SWK enc k w0 blk off d w):=S
 have HL:=h_ hl
 have HR:=h_ hr
 clear S hcmp hl hr
 generalize hQ:jo (ltOf cf) enc k w0 blk off d a b=Q
 have HQ:=h_ (fun(dk:Array α) (W:Sw) (h1:dk.size=d.size) (h2:SWK enc k w0 blk off dk W) (h3:PermIn a b d dk) (h4:SortedIn (ltOf cf) a b dk)=>show Q (.returned (.tuple #[])) W from hQ▸⟨rfl,dk,h1,h2,h3,h4⟩)
 clear hQ
 have IH:=h_ ih
 have EJ:=h_ (fun(x y z:Nat) (W:Sw) (h2:SWK enc k w0 blk off d W) (h3:x<y) (h4:y<z) (h5:z≤d.size)=>yy L k aE zE enc (.func (.func g) #[] cb) blk off cap x y z d0 d w0 W R hs h2 h3 h4 h5 hsz)
 have e290:∀ args w,(callFunc 290 args).run P w=.ok (.enter 290 args) w:=enters_of L.f290 (by kernel_rfl) rfl
 have e278:∀ args w,(callFunc 278 args).run P w=.ok (.enter 278 args) w:=enters_of L.f278 (by kernel_rfl) rfl
 clear L ih
 have hma:((m:Int)-(a:Int)==1)=false:=by simp;omega
 have Ru:((b:Int)-(m:Int)==1)=false:=by simp;omega
 obtain⟨mid,hmid⟩:∃ mid:Nat,mid=(a+b) / 2:=⟨_,rfl⟩
 have hmz:((a:Int)+(b:Int)) / 2=(mid:Int):=by omega
 obtain⟨hm1,hm2⟩:2*mid≤a+b∧a+b≤2*mid+1:=by omega
 clear hmid
 have zal:a+1<mid:=by omega
 have zaj:mid<b:=by omega
 obtain⟨s0,r0,hB,hcase⟩:∃ s0 r0:Nat,(a≤s0∧r0≤m∧s0≤r0∧mid+m≤s0+b∧r0≤mid)∧(((mid:Int)<(m:Int)∧s0+b=mid+m∧r0=mid)∨(¬ (mid:Int)<(m:Int)∧s0=a∧r0=m)):=by
  by_cases h:mid<m
  · exact⟨mid+m-b,mid,by omega,.inl ⟨by omega,by omega,rfl⟩⟩
  · exact⟨a,m,by omega,.inr ⟨by omega,rfl,rfl⟩⟩
 obtain⟨hs0,hr0,OE,hs1,hr1⟩:=hB
 have Nc:=h_ (fun(i fin:Nat) (h1:s0≤i) (h2:i≤r0) (h3:i+fin=mid+m) (h4:∀ t,s0≤t→t<i→ltOf cf d[mid+m-1-t]! d[t]! =false) (h5:∀ t,i≤t→t<r0→ltOf cf d[mid+m-1-t]! d[t]! =true) =>
  DI hO d a m b mid s0 r0 i fin hs0 hr0 hs1 hr1 (hcase.imp (fun h=>⟨h.2.1,h.2.2⟩) (fun h=>⟨h.2.1,h.2.2⟩)) HL.out HR.out h1 h2 h3 h4 h5)
 rcases hcase with⟨hcz,hsz0,Mk⟩|⟨hcz,hsz0,Mk⟩
 · have hsz1:(mid:Int)+(m:Int)-(b:Int)=(s0:Int):=by omega
   go_enter FG,Tryz.ntmps278
   go_wp2
   go_loopg [20,21] b (fun kx s20 kG wr=>∃ i j:Nat,s20=.int .i64 i∧kG=.int .i64 j∧s0≤i∧i≤j∧j≤r0∧j-i≤kx∧Aside (SWK enc k w0 blk off d wr)∧Hid (∀ t,s0≤t→t<i→ltOf cf d[mid+m-1-t]! d[t]! =false)∧Hid (∀ t,j≤t→t<r0→ltOf cf d[mid+m-1-t]! d[t]! =true))
   case atStart=>exact⟨s0,r0,rfl,by rw [Mk],SA _,OE,SA _,by omega,S0,fun t h1 h2=>by omega,fun t h1 h2=>by omega⟩
   case round =>
    clear S0
    obtain⟨i,j,rfl,rfl,hi,hij,hjr,hkx,S1,HI,HJ⟩:=hrel
    by_cases hlt:i<j
    · have hltz:(i:Int)<(j:Int):=by omega
      obtain⟨c,hh⟩:∃ h:Nat,h=(i+j) / 2:=⟨_,rfl⟩
      have hhz:((i:Int)+(j:Int)) / 2=(c:Int):=by omega
      have h1:i≤c:=by omega
      have h2:c<j:=by omega
      obtain⟨u,hu⟩:∃ u:Nat,u=mid+m-1-c:=⟨_,rfl⟩
      have hu1:m≤u:=by omega
      have hu2:u<b:=by omega
      have huz:SI.wrap ((mid:Int)+(m:Int)-1-(c:Int))=(u:Int):=by rw [SH];omega
      have hhd:(c:Int)<(d.size:Int):=by omega
      have hud:(u:Int)<(d.size:Int):=by omega
      have HU:=h_ hu
      clear hh hu
      obtain⟨x,hx⟩:∃ x,d[u]! =x:=⟨_,rfl⟩
      obtain⟨y,hy⟩:∃ y,d[c]! =y:=⟨_,rfl⟩
      have HX:=h_ hx
      have HY:=h_ hy
      clear hx hy
      by_cases hv:cf x y<0
      · skip
        have lx:=S1.out.ld R (by omega) P (u) (by omega)
        have ly:=S1.out.ld R (by omega) P (c) (by omega)
        rw [HX.out] at lx
        rw [HY.out] at ly
        have hc:=S1.out.cmp HC.out (by omega) x y
        have hd:decide (cf x y<0)=true:=decide_eq_true hv
        go_wp2_with fail
        go_quiet_grown (first|(go_at_fn g;refine Sz.grown_of (hc _ _)))
        have S2:Aside (SWK enc k w0 blk off d (grow (wr.drewN nq) osq)):=S1.out.grown nq osq
        clear lx ly hc
        generalize grow (wr.drewN nq) osq=w2 at S2 ⊢
        clear nq osq
        go_wp2
        go_roundg (c-i)
        case measure=>omega
        case rel=>exact⟨i,c,rfl,rfl,hi,h1,by omega,SA _,S2,HI,(fun t h3 h4=>(by
         have e1:ltOf cf d[mid+m-1-c]! d[c]! =true:=by rw [←HU.out,HX.out,HY.out];exact decide_eq_true hv
         by_cases e:t=c
         · rw [e];exact e1
         · cases e2:ltOf cf d[mid+m-1-t]! d[t]! with
           | true=>rfl
           | false =>
             have:=hO.ntrans _ _ _ (HR.out (mid+m-1-t) (mid+m-1-c) (by omega) (by omega) (by omega)) (hO.ntrans _ _ _ e2 (HL.out c t (by omega) (by omega) (by omega)))
             rw [e1] at this;cases this))⟩
      · skip
        have lx:=S1.out.ld R (by omega) P (u) (by omega)
        have ly:=S1.out.ld R (by omega) P (c) (by omega)
        rw [HX.out] at lx
        rw [HY.out] at ly
        have hc:=S1.out.cmp HC.out (by omega) x y
        have hd:decide (cf x y<0)=false:=decide_eq_false (by omega)
        go_wp2_with fail
        go_quiet_grown (first|(go_at_fn g;refine Sz.grown_of (hc _ _)))
        have S2:Aside (SWK enc k w0 blk off d (grow (wr.drewN nq) osq)):=S1.out.grown nq osq
        clear lx ly hc
        generalize grow (wr.drewN nq) osq=w2 at S2 ⊢
        clear nq osq
        go_wp2
        go_roundg (j-(c+1))
        case measure=>omega
        case rel=>exact⟨c+1,j,by go_num,rfl,by omega,by omega,hjr,SA _,S2,(fun t h3 h4=>(by
         have e1:ltOf cf d[mid+m-1-c]! d[c]! =false:=by rw [←HU.out,HX.out,HY.out];exact decide_eq_false (by omega)
         by_cases e:t=c
         · rw [e];exact e1
         · exact hO.ntrans _ _ _ (HR.out (mid+m-1-c) (mid+m-1-t) (by omega) (by omega) (by omega)) (hO.ntrans _ _ _ e1 (HL.out t c (by omega) (by omega) (by omega))))),HJ⟩
    · obtain rfl:i=j:=by omega
      obtain⟨fin,hf⟩:∃ fin:Nat,i+fin=mid+m:=⟨mid+m-i,by omega⟩
      have hfz:(mid:Int)+(m:Int)-(i:Int)=(fin:Int):=by omega
      obtain⟨hlo,hhi⟩:=Nc.out i fin hi hjr hf HI.out HJ.out
      have Ie:=h_ hlo
      have Ih:=h_ hhi
      clear hlo hhi hlt
      obtain⟨hai,him,Ro,ln⟩:a≤i∧i≤m∧m≤fin∧fin≤b:=by omega
      have hltz:¬ (i:Int)<(i:Int):=by omega
      rcases(show(m≤i∧m<mid)∨(m≤i∧mid≤m)∨(i<m∧fin≤m)∨(i<m∧m<fin∧a<i∧fin<b)∨(i<m∧m<fin∧a<i∧b≤fin)∨(i<m∧m<fin∧i≤a∧fin<b)∨(i<m∧m<fin∧i≤a∧b≤fin) by omega) with⟨g1,g2⟩|⟨g1,g2⟩|⟨g1,g2⟩|⟨g1,g2,g3,g4⟩|⟨g1,g2,g3,g4⟩|⟨g1,g2,g3,g4⟩|⟨g1,g2,g3,g4⟩
      · exfalso;omega
      · exfalso;omega
      · skip
        have k1:(i:Int)<(m:Int):=by omega
        have k2:¬ (m:Int)<(fin:Int):=by omega
        have k3:(a:Int)<(i:Int):=by omega
        have k4:¬ (i:Int)<(mid:Int):=by omega
        have k5:(mid:Int)<(fin:Int):=by omega
        have k6:(fin:Int)<(b:Int):=by omega
        obtain⟨d1,hd1⟩:∃ d1,d1=d:=⟨_,rfl⟩
        have hh:=halves hO d d1 a m b i fin mid (by omega) (by omega) (by omega) (by omega) (by omega) HL.out HR.out Ie.out Ih.out (fun t=>by rw [hd1,yz i m fin t (by omega) (by omega) (by omega)])
        obtain⟨w1,hw1⟩:∃ w1,w1=wr:=⟨_,rfl⟩
        have S2:Aside (SWK enc k w0 blk off d1 w1):=(by rw [hd1,hw1];exact S1.out)
        have Z1:=h_ (show d1.size=d.size by rw [hd1])
        have P1:Aside (PermIn a b d d1):=(by rw [hd1];exact SD _ _ _)
        rw [←hw1]
        clear hd1 hw1
        have HH:=h_ hh
        clear hh
        obtain⟨d2,hd2⟩:∃ d2,d2=d1:=⟨_,rfl⟩
        obtain⟨w2,hw2⟩:∃ w2,w2=w1:=⟨_,rfl⟩
        have S3:Aside (SWK enc k w0 blk off d2 w2):=(by rw [hd2,hw2];exact S2.out)
        have P2:Aside (PermIn a mid d1 d2):=(by rw [hd2];exact SD _ _ _)
        have Z2:=h_ (show d2.size=d.size by rw [hd2];exact Z1.out)
        have A2:Aside (SortedIn (ltOf cf) a mid d2):=(by rw [hd2];first|exact SortedIn.part HH.out.2.1 (by omega) (by omega)|exact SortedIn.part HH.out.1 (by omega) (by omega))
        rw [←hw2]
        clear hd2 hw2
        have B1:Aside (SortedIn (ltOf cf) mid fin d2):=(fun p q h1 h2 h3=>by rw [P2.out.2.1 q (by omega),P2.out.2.1 p (by omega)];exact HH.out.2.2.1 p q h1 h2 h3)
        have B2:Aside (SortedIn (ltOf cf) fin b d2):=(fun p q h1 h2 h3=>by rw [P2.out.2.1 q (by omega),P2.out.2.1 p (by omega)];exact HH.out.2.2.2.1 p q h1 h2 h3)
        have hcC:=IH.out mid fin b d2 w2 (by rw [Z2.out];exact hs) S3.out (by omega) (by omega) (by omega) (by rw [Z2.out];omega) B1.out B2.out
        rw [Z2.out] at hcC
        have mH:=h_ hcC
        clear hcC
        go_wp2_with fail
        refine mH.out.mono ?_
        rintro e w3 ⟨rfl,d3,z3,S4',p3',s3⟩
        have S4:Aside (SWK enc k w0 blk off d3 w3):=S4'
        have P3:Aside (PermIn mid b d2 d3):=p3'
        have Z3:=h_ (z3.trans Z2.out)
        have A3:Aside (SortedIn (ltOf cf) mid b d3):=s3
        clear z3 S4' p3' s3 mH
        have hM:=merged d1 d2 d3 a mid b (by omega) (by omega) (by rw [Z1.out];exact hb) HH.out.2.2.2.2 P2.out A2.out P3.out A3.out
        have HM:=h_ hM
        clear hM
        go_wp2
        (first|go_end0|((try simp only [SJ,Exit.then]);refine Sv (Su rfl _ _ _) rfl ?_))
        exact HQ.out d3 _ Z3.out S4.out (SE _ _ _ _ _ P1.out HM.out.1) HM.out.2
      · skip
        have k1:(i:Int)<(m:Int):=by omega
        have k2:(m:Int)<(fin:Int):=by omega
        have k3:(a:Int)<(i:Int):=by omega
        have k4:(i:Int)<(mid:Int):=by omega
        have k5:(mid:Int)<(fin:Int):=by omega
        have k6:(fin:Int)<(b:Int):=by omega
        have hcR:=h_ (EJ.out i m fin wr S1.out (by omega) (by omega) (by omega))
        go_wp2_with fail
        refine hcR.out.mono ?_
        rintro e w1 ⟨rfl,d1,z1,S2',p1,q1⟩
        have hh:=halves hO d d1 a m b i fin mid (by omega) (by omega) (by omega) (by omega) (by omega) HL.out HR.out Ie.out Ih.out q1
        have S2:Aside (SWK enc k w0 blk off d1 w1):=S2'
        have Z1:=h_ z1
        have P1:Aside (PermIn a b d d1):=SF _ _ i fin a b (by omega) (by omega) hb p1
        clear q1 z1 p1 S2' hcR
        have HH:=h_ hh
        clear hh
        have hcB:=IH.out a i mid d1 w1 (by rw [Z1.out];exact hs) S2.out (by omega) (by omega) (by omega) (by rw [Z1.out];omega) HH.out.1 HH.out.2.1
        rw [Z1.out] at hcB
        have tu:=h_ hcB
        clear hcB
        go_wp2_with fail
        refine tu.out.mono ?_
        rintro e w2 ⟨rfl,d2,z2,S3',p2',s2⟩
        have S3:Aside (SWK enc k w0 blk off d2 w2):=S3'
        have P2:Aside (PermIn a mid d1 d2):=p2'
        have Z2:=h_ (z2.trans Z1.out)
        have A2:Aside (SortedIn (ltOf cf) a mid d2):=s2
        clear z2 S3' p2' s2 tu
        have B1:Aside (SortedIn (ltOf cf) mid fin d2):=(fun p q h1 h2 h3=>by rw [P2.out.2.1 q (by omega),P2.out.2.1 p (by omega)];exact HH.out.2.2.1 p q h1 h2 h3)
        have B2:Aside (SortedIn (ltOf cf) fin b d2):=(fun p q h1 h2 h3=>by rw [P2.out.2.1 q (by omega),P2.out.2.1 p (by omega)];exact HH.out.2.2.2.1 p q h1 h2 h3)
        have hcC:=IH.out mid fin b d2 w2 (by rw [Z2.out];exact hs) S3.out (by omega) (by omega) (by omega) (by rw [Z2.out];omega) B1.out B2.out
        rw [Z2.out] at hcC
        have mH:=h_ hcC
        clear hcC
        go_wp2_with fail
        refine mH.out.mono ?_
        rintro e w3 ⟨rfl,d3,z3,S4',p3',s3⟩
        have S4:Aside (SWK enc k w0 blk off d3 w3):=S4'
        have P3:Aside (PermIn mid b d2 d3):=p3'
        have Z3:=h_ (z3.trans Z2.out)
        have A3:Aside (SortedIn (ltOf cf) mid b d3):=s3
        clear z3 S4' p3' s3 mH
        have hM:=merged d1 d2 d3 a mid b (by omega) (by omega) (by rw [Z1.out];exact hb) HH.out.2.2.2.2 P2.out A2.out P3.out A3.out
        have HM:=h_ hM
        clear hM
        go_wp2
        (first|go_end0|((try simp only [SJ,Exit.then]);refine Sv (Su rfl _ _ _) rfl ?_))
        exact HQ.out d3 _ Z3.out S4.out (SE _ _ _ _ _ P1.out HM.out.1) HM.out.2
      · skip
        have k1:(i:Int)<(m:Int):=by omega
        have k2:(m:Int)<(fin:Int):=by omega
        have k3:(a:Int)<(i:Int):=by omega
        have k4:(i:Int)<(mid:Int):=by omega
        have k5:(mid:Int)<(fin:Int):=by omega
        have k6:¬ (fin:Int)<(b:Int):=by omega
        have hcR:=h_ (EJ.out i m fin wr S1.out (by omega) (by omega) (by omega))
        go_wp2_with fail
        refine hcR.out.mono ?_
        rintro e w1 ⟨rfl,d1,z1,S2',p1,q1⟩
        have hh:=halves hO d d1 a m b i fin mid (by omega) (by omega) (by omega) (by omega) (by omega) HL.out HR.out Ie.out Ih.out q1
        have S2:Aside (SWK enc k w0 blk off d1 w1):=S2'
        have Z1:=h_ z1
        have P1:Aside (PermIn a b d d1):=SF _ _ i fin a b (by omega) (by omega) hb p1
        clear q1 z1 p1 S2' hcR
        have HH:=h_ hh
        clear hh
        have hcB:=IH.out a i mid d1 w1 (by rw [Z1.out];exact hs) S2.out (by omega) (by omega) (by omega) (by rw [Z1.out];omega) HH.out.1 HH.out.2.1
        rw [Z1.out] at hcB
        have tu:=h_ hcB
        clear hcB
        go_wp2_with fail
        refine tu.out.mono ?_
        rintro e w2 ⟨rfl,d2,z2,S3',p2',s2⟩
        have S3:Aside (SWK enc k w0 blk off d2 w2):=S3'
        have P2:Aside (PermIn a mid d1 d2):=p2'
        have Z2:=h_ (z2.trans Z1.out)
        have A2:Aside (SortedIn (ltOf cf) a mid d2):=s2
        clear z2 S3' p2' s2 tu
        have B1:Aside (SortedIn (ltOf cf) mid fin d2):=(fun p q h1 h2 h3=>by rw [P2.out.2.1 q (by omega),P2.out.2.1 p (by omega)];exact HH.out.2.2.1 p q h1 h2 h3)
        have B2:Aside (SortedIn (ltOf cf) fin b d2):=(fun p q h1 h2 h3=>by rw [P2.out.2.1 q (by omega),P2.out.2.1 p (by omega)];exact HH.out.2.2.2.1 p q h1 h2 h3)
        obtain⟨d3,hd3⟩:∃ d3,d3=d2:=⟨_,rfl⟩
        obtain⟨w3,hw3⟩:∃ w3,w3=w2:=⟨_,rfl⟩
        have S4:Aside (SWK enc k w0 blk off d3 w3):=(by rw [hd3,hw3];exact S3.out)
        have P3:Aside (PermIn mid b d2 d3):=(by rw [hd3];exact SD _ _ _)
        have Z3:=h_ (show d3.size=d.size by rw [hd3];exact Z2.out)
        have A3:Aside (SortedIn (ltOf cf) mid b d3):=(by rw [hd3];first|exact SortedIn.part B1.out (by omega) (by omega)|exact SortedIn.part B2.out (by omega) (by omega))
        rw [←hw3]
        clear hd3 hw3
        have hM:=merged d1 d2 d3 a mid b (by omega) (by omega) (by rw [Z1.out];exact hb) HH.out.2.2.2.2 P2.out A2.out P3.out A3.out
        have HM:=h_ hM
        clear hM
        go_wp2
        (first|go_end0|((try simp only [SJ,Exit.then]);refine Sv (Su rfl _ _ _) rfl ?_))
        exact HQ.out d3 _ Z3.out S4.out (SE _ _ _ _ _ P1.out HM.out.1) HM.out.2
      · exfalso;omega
      · skip
        have k1:(i:Int)<(m:Int):=by omega
        have k2:(m:Int)<(fin:Int):=by omega
        have k3:¬ (a:Int)<(i:Int):=by omega
        have k5:(mid:Int)<(fin:Int):=by omega
        have k6:¬ (fin:Int)<(b:Int):=by omega
        have hcR:=h_ (EJ.out i m fin wr S1.out (by omega) (by omega) (by omega))
        go_wp2_with fail
        refine hcR.out.mono ?_
        rintro e w1 ⟨rfl,d1,z1,S2',p1,q1⟩
        have hh:=halves hO d d1 a m b i fin mid (by omega) (by omega) (by omega) (by omega) (by omega) HL.out HR.out Ie.out Ih.out q1
        have S2:Aside (SWK enc k w0 blk off d1 w1):=S2'
        have Z1:=h_ z1
        have P1:Aside (PermIn a b d d1):=SF _ _ i fin a b (by omega) (by omega) hb p1
        clear q1 z1 p1 S2' hcR
        have HH:=h_ hh
        clear hh
        obtain⟨d2,hd2⟩:∃ d2,d2=d1:=⟨_,rfl⟩
        obtain⟨w2,hw2⟩:∃ w2,w2=w1:=⟨_,rfl⟩
        have S3:Aside (SWK enc k w0 blk off d2 w2):=(by rw [hd2,hw2];exact S2.out)
        have P2:Aside (PermIn a mid d1 d2):=(by rw [hd2];exact SD _ _ _)
        have Z2:=h_ (show d2.size=d.size by rw [hd2];exact Z1.out)
        have A2:Aside (SortedIn (ltOf cf) a mid d2):=(by rw [hd2];first|exact SortedIn.part HH.out.2.1 (by omega) (by omega)|exact SortedIn.part HH.out.1 (by omega) (by omega))
        rw [←hw2]
        clear hd2 hw2
        have B1:Aside (SortedIn (ltOf cf) mid fin d2):=(fun p q h1 h2 h3=>by rw [P2.out.2.1 q (by omega),P2.out.2.1 p (by omega)];exact HH.out.2.2.1 p q h1 h2 h3)
        have B2:Aside (SortedIn (ltOf cf) fin b d2):=(fun p q h1 h2 h3=>by rw [P2.out.2.1 q (by omega),P2.out.2.1 p (by omega)];exact HH.out.2.2.2.1 p q h1 h2 h3)
        obtain⟨d3,hd3⟩:∃ d3,d3=d2:=⟨_,rfl⟩
        obtain⟨w3,hw3⟩:∃ w3,w3=w2:=⟨_,rfl⟩
        have S4:Aside (SWK enc k w0 blk off d3 w3):=(by rw [hd3,hw3];exact S3.out)
        have P3:Aside (PermIn mid b d2 d3):=(by rw [hd3];exact SD _ _ _)
        have Z3:=h_ (show d3.size=d.size by rw [hd3];exact Z2.out)
        have A3:Aside (SortedIn (ltOf cf) mid b d3):=(by rw [hd3];first|exact SortedIn.part B1.out (by omega) (by omega)|exact SortedIn.part B2.out (by omega) (by omega))
        rw [←hw3]
        clear hd3 hw3
        have hM:=merged d1 d2 d3 a mid b (by omega) (by omega) (by rw [Z1.out];exact hb) HH.out.2.2.2.2 P2.out A2.out P3.out A3.out
        have HM:=h_ hM
        clear hM
        go_wp2
        (first|go_end0|((try simp only [SJ,Exit.then]);refine Sv (Su rfl _ _ _) rfl ?_))
        exact HQ.out d3 _ Z3.out S4.out (SE _ _ _ _ _ P1.out HM.out.1) HM.out.2
 · skip
   go_enter FG,Tryz.ntmps278
   go_wp2
   go_loopg [20,21] b (fun kx s20 kG wr=>∃ i j:Nat,s20=.int .i64 i∧kG=.int .i64 j∧s0≤i∧i≤j∧j≤r0∧j-i≤kx∧Aside (SWK enc k w0 blk off d wr)∧Hid (∀ t,s0≤t→t<i→ltOf cf d[mid+m-1-t]! d[t]! =false)∧Hid (∀ t,j≤t→t<r0→ltOf cf d[mid+m-1-t]! d[t]! =true))
   case atStart=>exact⟨s0,r0,by rw [hsz0],by rw [Mk],SA _,OE,SA _,by omega,S0,fun t h1 h2=>by omega,fun t h1 h2=>by omega⟩
   case round =>
    clear S0
    obtain⟨i,j,rfl,rfl,hi,hij,hjr,hkx,S1,HI,HJ⟩:=hrel
    by_cases hlt:i<j
    · have hltz:(i:Int)<(j:Int):=by omega
      obtain⟨c,hh⟩:∃ h:Nat,h=(i+j) / 2:=⟨_,rfl⟩
      have hhz:((i:Int)+(j:Int)) / 2=(c:Int):=by omega
      have h1:i≤c:=by omega
      have h2:c<j:=by omega
      obtain⟨u,hu⟩:∃ u:Nat,u=mid+m-1-c:=⟨_,rfl⟩
      have hu1:m≤u:=by omega
      have hu2:u<b:=by omega
      have huz:SI.wrap ((mid:Int)+(m:Int)-1-(c:Int))=(u:Int):=by rw [SH];omega
      have hhd:(c:Int)<(d.size:Int):=by omega
      have hud:(u:Int)<(d.size:Int):=by omega
      have HU:=h_ hu
      clear hh hu
      obtain⟨x,hx⟩:∃ x,d[u]! =x:=⟨_,rfl⟩
      obtain⟨y,hy⟩:∃ y,d[c]! =y:=⟨_,rfl⟩
      have HX:=h_ hx
      have HY:=h_ hy
      clear hx hy
      by_cases hv:cf x y<0
      · skip
        have lx:=S1.out.ld R (by omega) P (u) (by omega)
        have ly:=S1.out.ld R (by omega) P (c) (by omega)
        rw [HX.out] at lx
        rw [HY.out] at ly
        have hc:=S1.out.cmp HC.out (by omega) x y
        have hd:decide (cf x y<0)=true:=decide_eq_true hv
        go_wp2_with fail
        go_quiet_grown (first|(go_at_fn g;refine Sz.grown_of (hc _ _)))
        have S2:Aside (SWK enc k w0 blk off d (grow (wr.drewN nq) osq)):=S1.out.grown nq osq
        clear lx ly hc
        generalize grow (wr.drewN nq) osq=w2 at S2 ⊢
        clear nq osq
        go_wp2
        go_roundg (c-i)
        case measure=>omega
        case rel=>exact⟨i,c,rfl,rfl,hi,h1,by omega,SA _,S2,HI,(fun t h3 h4=>(by
         have e1:ltOf cf d[mid+m-1-c]! d[c]! =true:=by rw [←HU.out,HX.out,HY.out];exact decide_eq_true hv
         by_cases e:t=c
         · rw [e];exact e1
         · cases e2:ltOf cf d[mid+m-1-t]! d[t]! with
           | true=>rfl
           | false =>
             have:=hO.ntrans _ _ _ (HR.out (mid+m-1-t) (mid+m-1-c) (by omega) (by omega) (by omega)) (hO.ntrans _ _ _ e2 (HL.out c t (by omega) (by omega) (by omega)))
             rw [e1] at this;cases this))⟩
      · skip
        have lx:=S1.out.ld R (by omega) P (u) (by omega)
        have ly:=S1.out.ld R (by omega) P (c) (by omega)
        rw [HX.out] at lx
        rw [HY.out] at ly
        have hc:=S1.out.cmp HC.out (by omega) x y
        have hd:decide (cf x y<0)=false:=decide_eq_false (by omega)
        go_wp2_with fail
        go_quiet_grown (first|(go_at_fn g;refine Sz.grown_of (hc _ _)))
        have S2:Aside (SWK enc k w0 blk off d (grow (wr.drewN nq) osq)):=S1.out.grown nq osq
        clear lx ly hc
        generalize grow (wr.drewN nq) osq=w2 at S2 ⊢
        clear nq osq
        go_wp2
        go_roundg (j-(c+1))
        case measure=>omega
        case rel=>exact⟨c+1,j,by go_num,rfl,by omega,by omega,hjr,SA _,S2,(fun t h3 h4=>(by
         have e1:ltOf cf d[mid+m-1-c]! d[c]! =false:=by rw [←HU.out,HX.out,HY.out];exact decide_eq_false (by omega)
         by_cases e:t=c
         · rw [e];exact e1
         · exact hO.ntrans _ _ _ (HR.out (mid+m-1-c) (mid+m-1-t) (by omega) (by omega) (by omega)) (hO.ntrans _ _ _ e1 (HL.out t c (by omega) (by omega) (by omega))))),HJ⟩
    · obtain rfl:i=j:=by omega
      obtain⟨fin,hf⟩:∃ fin:Nat,i+fin=mid+m:=⟨mid+m-i,by omega⟩
      have hfz:(mid:Int)+(m:Int)-(i:Int)=(fin:Int):=by omega
      obtain⟨hlo,hhi⟩:=Nc.out i fin hi hjr hf HI.out HJ.out
      have Ie:=h_ hlo
      have Ih:=h_ hhi
      clear hlo hhi hlt
      obtain⟨hai,him,Ro,ln⟩:a≤i∧i≤m∧m≤fin∧fin≤b:=by omega
      have hltz:¬ (i:Int)<(i:Int):=by omega
      rcases(show(m≤i∧m<mid)∨(m≤i∧mid≤m)∨(i<m∧fin≤m)∨(i<m∧m<fin∧a<i∧fin<b)∨(i<m∧m<fin∧a<i∧b≤fin)∨(i<m∧m<fin∧i≤a∧fin<b)∨(i<m∧m<fin∧i≤a∧b≤fin) by omega) with⟨g1,g2⟩|⟨g1,g2⟩|⟨g1,g2⟩|⟨g1,g2,g3,g4⟩|⟨g1,g2,g3,g4⟩|⟨g1,g2,g3,g4⟩|⟨g1,g2,g3,g4⟩
      · skip
        have k1:¬ (i:Int)<(m:Int):=by omega
        have k3:(a:Int)<(i:Int):=by omega
        have k4:(i:Int)<(mid:Int):=by omega
        have k5:¬ (mid:Int)<(fin:Int):=by omega
        obtain⟨d1,hd1⟩:∃ d1,d1=d:=⟨_,rfl⟩
        have hh:=halves hO d d1 a m b i fin mid (by omega) (by omega) (by omega) (by omega) (by omega) HL.out HR.out Ie.out Ih.out (fun t=>by rw [hd1,yz i m fin t (by omega) (by omega) (by omega)])
        obtain⟨w1,hw1⟩:∃ w1,w1=wr:=⟨_,rfl⟩
        have S2:Aside (SWK enc k w0 blk off d1 w1):=(by rw [hd1,hw1];exact S1.out)
        have Z1:=h_ (show d1.size=d.size by rw [hd1])
        have P1:Aside (PermIn a b d d1):=(by rw [hd1];exact SD _ _ _)
        rw [←hw1]
        clear hd1 hw1
        have HH:=h_ hh
        clear hh
        have hcB:=IH.out a i mid d1 w1 (by rw [Z1.out];exact hs) S2.out (by omega) (by omega) (by omega) (by rw [Z1.out];omega) HH.out.1 HH.out.2.1
        rw [Z1.out] at hcB
        have tu:=h_ hcB
        clear hcB
        go_wp2_with fail
        refine tu.out.mono ?_
        rintro e w2 ⟨rfl,d2,z2,S3',p2',s2⟩
        have S3:Aside (SWK enc k w0 blk off d2 w2):=S3'
        have P2:Aside (PermIn a mid d1 d2):=p2'
        have Z2:=h_ (z2.trans Z1.out)
        have A2:Aside (SortedIn (ltOf cf) a mid d2):=s2
        clear z2 S3' p2' s2 tu
        have B1:Aside (SortedIn (ltOf cf) mid fin d2):=(fun p q h1 h2 h3=>by rw [P2.out.2.1 q (by omega),P2.out.2.1 p (by omega)];exact HH.out.2.2.1 p q h1 h2 h3)
        have B2:Aside (SortedIn (ltOf cf) fin b d2):=(fun p q h1 h2 h3=>by rw [P2.out.2.1 q (by omega),P2.out.2.1 p (by omega)];exact HH.out.2.2.2.1 p q h1 h2 h3)
        obtain⟨d3,hd3⟩:∃ d3,d3=d2:=⟨_,rfl⟩
        obtain⟨w3,hw3⟩:∃ w3,w3=w2:=⟨_,rfl⟩
        have S4:Aside (SWK enc k w0 blk off d3 w3):=(by rw [hd3,hw3];exact S3.out)
        have P3:Aside (PermIn mid b d2 d3):=(by rw [hd3];exact SD _ _ _)
        have Z3:=h_ (show d3.size=d.size by rw [hd3];exact Z2.out)
        have A3:Aside (SortedIn (ltOf cf) mid b d3):=(by rw [hd3];first|exact SortedIn.part B1.out (by omega) (by omega)|exact SortedIn.part B2.out (by omega) (by omega))
        rw [←hw3]
        clear hd3 hw3
        have hM:=merged d1 d2 d3 a mid b (by omega) (by omega) (by rw [Z1.out];exact hb) HH.out.2.2.2.2 P2.out A2.out P3.out A3.out
        have HM:=h_ hM
        clear hM
        go_wp2
        (first|go_end0|((try simp only [SJ,Exit.then]);refine Sv (Su rfl _ _ _) rfl ?_))
        exact HQ.out d3 _ Z3.out S4.out (SE _ _ _ _ _ P1.out HM.out.1) HM.out.2
      · skip
        have k1:¬ (i:Int)<(m:Int):=by omega
        have k3:(a:Int)<(i:Int):=by omega
        have k4:¬ (i:Int)<(mid:Int):=by omega
        have k5:¬ (mid:Int)<(fin:Int):=by omega
        obtain⟨d1,hd1⟩:∃ d1,d1=d:=⟨_,rfl⟩
        have hh:=halves hO d d1 a m b i fin mid (by omega) (by omega) (by omega) (by omega) (by omega) HL.out HR.out Ie.out Ih.out (fun t=>by rw [hd1,yz i m fin t (by omega) (by omega) (by omega)])
        obtain⟨w1,hw1⟩:∃ w1,w1=wr:=⟨_,rfl⟩
        have S2:Aside (SWK enc k w0 blk off d1 w1):=(by rw [hd1,hw1];exact S1.out)
        have Z1:=h_ (show d1.size=d.size by rw [hd1])
        have P1:Aside (PermIn a b d d1):=(by rw [hd1];exact SD _ _ _)
        rw [←hw1]
        clear hd1 hw1
        have HH:=h_ hh
        clear hh
        obtain⟨d2,hd2⟩:∃ d2,d2=d1:=⟨_,rfl⟩
        obtain⟨w2,hw2⟩:∃ w2,w2=w1:=⟨_,rfl⟩
        have S3:Aside (SWK enc k w0 blk off d2 w2):=(by rw [hd2,hw2];exact S2.out)
        have P2:Aside (PermIn a mid d1 d2):=(by rw [hd2];exact SD _ _ _)
        have Z2:=h_ (show d2.size=d.size by rw [hd2];exact Z1.out)
        have A2:Aside (SortedIn (ltOf cf) a mid d2):=(by rw [hd2];first|exact SortedIn.part HH.out.2.1 (by omega) (by omega)|exact SortedIn.part HH.out.1 (by omega) (by omega))
        rw [←hw2]
        clear hd2 hw2
        have B1:Aside (SortedIn (ltOf cf) mid fin d2):=(fun p q h1 h2 h3=>by rw [P2.out.2.1 q (by omega),P2.out.2.1 p (by omega)];exact HH.out.2.2.1 p q h1 h2 h3)
        have B2:Aside (SortedIn (ltOf cf) fin b d2):=(fun p q h1 h2 h3=>by rw [P2.out.2.1 q (by omega),P2.out.2.1 p (by omega)];exact HH.out.2.2.2.1 p q h1 h2 h3)
        obtain⟨d3,hd3⟩:∃ d3,d3=d2:=⟨_,rfl⟩
        obtain⟨w3,hw3⟩:∃ w3,w3=w2:=⟨_,rfl⟩
        have S4:Aside (SWK enc k w0 blk off d3 w3):=(by rw [hd3,hw3];exact S3.out)
        have P3:Aside (PermIn mid b d2 d3):=(by rw [hd3];exact SD _ _ _)
        have Z3:=h_ (show d3.size=d.size by rw [hd3];exact Z2.out)
        have A3:Aside (SortedIn (ltOf cf) mid b d3):=(by rw [hd3];first|exact SortedIn.part B1.out (by omega) (by omega)|exact SortedIn.part B2.out (by omega) (by omega))
        rw [←hw3]
        clear hd3 hw3
        have hM:=merged d1 d2 d3 a mid b (by omega) (by omega) (by rw [Z1.out];exact hb) HH.out.2.2.2.2 P2.out A2.out P3.out A3.out
        have HM:=h_ hM
        clear hM
        go_wp2
        (first|go_end0|((try simp only [SJ,Exit.then]);refine Sv (Su rfl _ _ _) rfl ?_))
        exact HQ.out d3 _ Z3.out S4.out (SE _ _ _ _ _ P1.out HM.out.1) HM.out.2
      · exfalso;omega
      · skip
        have k1:(i:Int)<(m:Int):=by omega
        have k2:(m:Int)<(fin:Int):=by omega
        have k3:(a:Int)<(i:Int):=by omega
        have k4:(i:Int)<(mid:Int):=by omega
        have k5:(mid:Int)<(fin:Int):=by omega
        have k6:(fin:Int)<(b:Int):=by omega
        have hcR:=h_ (EJ.out i m fin wr S1.out (by omega) (by omega) (by omega))
        go_wp2_with fail
        refine hcR.out.mono ?_
        rintro e w1 ⟨rfl,d1,z1,S2',p1,q1⟩
        have hh:=halves hO d d1 a m b i fin mid (by omega) (by omega) (by omega) (by omega) (by omega) HL.out HR.out Ie.out Ih.out q1
        have S2:Aside (SWK enc k w0 blk off d1 w1):=S2'
        have Z1:=h_ z1
        have P1:Aside (PermIn a b d d1):=SF _ _ i fin a b (by omega) (by omega) hb p1
        clear q1 z1 p1 S2' hcR
        have HH:=h_ hh
        clear hh
        have hcB:=IH.out a i mid d1 w1 (by rw [Z1.out];exact hs) S2.out (by omega) (by omega) (by omega) (by rw [Z1.out];omega) HH.out.1 HH.out.2.1
        rw [Z1.out] at hcB
        have tu:=h_ hcB
        clear hcB
        go_wp2_with fail
        refine tu.out.mono ?_
        rintro e w2 ⟨rfl,d2,z2,S3',p2',s2⟩
        have S3:Aside (SWK enc k w0 blk off d2 w2):=S3'
        have P2:Aside (PermIn a mid d1 d2):=p2'
        have Z2:=h_ (z2.trans Z1.out)
        have A2:Aside (SortedIn (ltOf cf) a mid d2):=s2
        clear z2 S3' p2' s2 tu
        have B1:Aside (SortedIn (ltOf cf) mid fin d2):=(fun p q h1 h2 h3=>by rw [P2.out.2.1 q (by omega),P2.out.2.1 p (by omega)];exact HH.out.2.2.1 p q h1 h2 h3)
        have B2:Aside (SortedIn (ltOf cf) fin b d2):=(fun p q h1 h2 h3=>by rw [P2.out.2.1 q (by omega),P2.out.2.1 p (by omega)];exact HH.out.2.2.2.1 p q h1 h2 h3)
        have hcC:=IH.out mid fin b d2 w2 (by rw [Z2.out];exact hs) S3.out (by omega) (by omega) (by omega) (by rw [Z2.out];omega) B1.out B2.out
        rw [Z2.out] at hcC
        have mH:=h_ hcC
        clear hcC
        go_wp2_with fail
        refine mH.out.mono ?_
        rintro e w3 ⟨rfl,d3,z3,S4',p3',s3⟩
        have S4:Aside (SWK enc k w0 blk off d3 w3):=S4'
        have P3:Aside (PermIn mid b d2 d3):=p3'
        have Z3:=h_ (z3.trans Z2.out)
        have A3:Aside (SortedIn (ltOf cf) mid b d3):=s3
        clear z3 S4' p3' s3 mH
        have hM:=merged d1 d2 d3 a mid b (by omega) (by omega) (by rw [Z1.out];exact hb) HH.out.2.2.2.2 P2.out A2.out P3.out A3.out
        have HM:=h_ hM
        clear hM
        go_wp2
        (first|go_end0|((try simp only [SJ,Exit.then]);refine Sv (Su rfl _ _ _) rfl ?_))
        exact HQ.out d3 _ Z3.out S4.out (SE _ _ _ _ _ P1.out HM.out.1) HM.out.2
      · exfalso;omega
      · skip
        have k1:(i:Int)<(m:Int):=by omega
        have k2:(m:Int)<(fin:Int):=by omega
        have k3:¬ (a:Int)<(i:Int):=by omega
        have k5:(mid:Int)<(fin:Int):=by omega
        have k6:(fin:Int)<(b:Int):=by omega
        have hcR:=h_ (EJ.out i m fin wr S1.out (by omega) (by omega) (by omega))
        go_wp2_with fail
        refine hcR.out.mono ?_
        rintro e w1 ⟨rfl,d1,z1,S2',p1,q1⟩
        have hh:=halves hO d d1 a m b i fin mid (by omega) (by omega) (by omega) (by omega) (by omega) HL.out HR.out Ie.out Ih.out q1
        have S2:Aside (SWK enc k w0 blk off d1 w1):=S2'
        have Z1:=h_ z1
        have P1:Aside (PermIn a b d d1):=SF _ _ i fin a b (by omega) (by omega) hb p1
        clear q1 z1 p1 S2' hcR
        have HH:=h_ hh
        clear hh
        obtain⟨d2,hd2⟩:∃ d2,d2=d1:=⟨_,rfl⟩
        obtain⟨w2,hw2⟩:∃ w2,w2=w1:=⟨_,rfl⟩
        have S3:Aside (SWK enc k w0 blk off d2 w2):=(by rw [hd2,hw2];exact S2.out)
        have P2:Aside (PermIn a mid d1 d2):=(by rw [hd2];exact SD _ _ _)
        have Z2:=h_ (show d2.size=d.size by rw [hd2];exact Z1.out)
        have A2:Aside (SortedIn (ltOf cf) a mid d2):=(by rw [hd2];first|exact SortedIn.part HH.out.2.1 (by omega) (by omega)|exact SortedIn.part HH.out.1 (by omega) (by omega))
        rw [←hw2]
        clear hd2 hw2
        have B1:Aside (SortedIn (ltOf cf) mid fin d2):=(fun p q h1 h2 h3=>by rw [P2.out.2.1 q (by omega),P2.out.2.1 p (by omega)];exact HH.out.2.2.1 p q h1 h2 h3)
        have B2:Aside (SortedIn (ltOf cf) fin b d2):=(fun p q h1 h2 h3=>by rw [P2.out.2.1 q (by omega),P2.out.2.1 p (by omega)];exact HH.out.2.2.2.1 p q h1 h2 h3)
        have hcC:=IH.out mid fin b d2 w2 (by rw [Z2.out];exact hs) S3.out (by omega) (by omega) (by omega) (by rw [Z2.out];omega) B1.out B2.out
        rw [Z2.out] at hcC
        have mH:=h_ hcC
        clear hcC
        go_wp2_with fail
        refine mH.out.mono ?_
        rintro e w3 ⟨rfl,d3,z3,S4',p3',s3⟩
        have S4:Aside (SWK enc k w0 blk off d3 w3):=S4'
        have P3:Aside (PermIn mid b d2 d3):=p3'
        have Z3:=h_ (z3.trans Z2.out)
        have A3:Aside (SortedIn (ltOf cf) mid b d3):=s3
        clear z3 S4' p3' s3 mH
        have hM:=merged d1 d2 d3 a mid b (by omega) (by omega) (by rw [Z1.out];exact hb) HH.out.2.2.2.2 P2.out A2.out P3.out A3.out
        have HM:=h_ hM
        clear hM
        go_wp2
        (first|go_end0|((try simp only [SJ,Exit.then]);refine Sv (Su rfl _ _ _) rfl ?_))
        exact HQ.out d3 _ Z3.out S4.out (SE _ _ _ _ _ P1.out HM.out.1) HM.out.2
      · skip
        have k1:(i:Int)<(m:Int):=by omega
        have k2:(m:Int)<(fin:Int):=by omega
        have k3:¬ (a:Int)<(i:Int):=by omega
        have k5:(mid:Int)<(fin:Int):=by omega
        have k6:¬ (fin:Int)<(b:Int):=by omega
        have hcR:=h_ (EJ.out i m fin wr S1.out (by omega) (by omega) (by omega))
        go_wp2_with fail
        refine hcR.out.mono ?_
        rintro e w1 ⟨rfl,d1,z1,S2',p1,q1⟩
        have hh:=halves hO d d1 a m b i fin mid (by omega) (by omega) (by omega) (by omega) (by omega) HL.out HR.out Ie.out Ih.out q1
        have S2:Aside (SWK enc k w0 blk off d1 w1):=S2'
        have Z1:=h_ z1
        have P1:Aside (PermIn a b d d1):=SF _ _ i fin a b (by omega) (by omega) hb p1
        clear q1 z1 p1 S2' hcR
        have HH:=h_ hh
        clear hh
        obtain⟨d2,hd2⟩:∃ d2,d2=d1:=⟨_,rfl⟩
        obtain⟨w2,hw2⟩:∃ w2,w2=w1:=⟨_,rfl⟩
        have S3:Aside (SWK enc k w0 blk off d2 w2):=(by rw [hd2,hw2];exact S2.out)
        have P2:Aside (PermIn a mid d1 d2):=(by rw [hd2];exact SD _ _ _)
        have Z2:=h_ (show d2.size=d.size by rw [hd2];exact Z1.out)
        have A2:Aside (SortedIn (ltOf cf) a mid d2):=(by rw [hd2];first|exact SortedIn.part HH.out.2.1 (by omega) (by omega)|exact SortedIn.part HH.out.1 (by omega) (by omega))
        rw [←hw2]
        clear hd2 hw2
        have B1:Aside (SortedIn (ltOf cf) mid fin d2):=(fun p q h1 h2 h3=>by rw [P2.out.2.1 q (by omega),P2.out.2.1 p (by omega)];exact HH.out.2.2.1 p q h1 h2 h3)
        have B2:Aside (SortedIn (ltOf cf) fin b d2):=(fun p q h1 h2 h3=>by rw [P2.out.2.1 q (by omega),P2.out.2.1 p (by omega)];exact HH.out.2.2.2.1 p q h1 h2 h3)
        obtain⟨d3,hd3⟩:∃ d3,d3=d2:=⟨_,rfl⟩
        obtain⟨w3,hw3⟩:∃ w3,w3=w2:=⟨_,rfl⟩
        have S4:Aside (SWK enc k w0 blk off d3 w3):=(by rw [hd3,hw3];exact S3.out)
        have P3:Aside (PermIn mid b d2 d3):=(by rw [hd3];exact SD _ _ _)
        have Z3:=h_ (show d3.size=d.size by rw [hd3];exact Z2.out)
        have A3:Aside (SortedIn (ltOf cf) mid b d3):=(by rw [hd3];first|exact SortedIn.part B1.out (by omega) (by omega)|exact SortedIn.part B2.out (by omega) (by omega))
        rw [←hw3]
        clear hd3 hw3
        have hM:=merged d1 d2 d3 a mid b (by omega) (by omega) (by rw [Z1.out];exact hb) HH.out.2.2.2.2 P2.out A2.out P3.out A3.out
        have HM:=h_ hM
        clear hM
        go_wp2
        (first|go_end0|((try simp only [SJ,Exit.then]);refine Sv (Su rfl _ _ _) rfl ?_))
        exact HQ.out d3 _ Z3.out S4.out (SE _ _ _ _ _ P1.out HM.out.1) HM.out.2
theorem tO (L:xy P)(k:Nat)(aE:∀ w,(isAgg 50).run P w=.ok true w)(zE:∀ w,(Sx 50).run P w=.ok k w)(enc:α→List Sy)(cf:α→α→Int)(hO:SWO (ltOf cf))(g:Nat)(cb:Array Sy)(blk off cap:Nat)(d0:Array α)(w0:Sw)
 (eg:∀ args w,(callFunc g args).run P w=.ok (.enter g args) w) (hcmp:CmpLays P g cb enc k cf blk off d0.size w0) (R:RowK enc k w0 blk off d0) (hsz:d0.size<4611686018427387904) :
 ∀ (N a m b:Nat) (d:Array α) (w:Sw),b-a<N→d0.size=d.size→SWK enc k w0 blk off d w→a<m→m<b→b≤d.size→SortedIn (ltOf cf) a m d→SortedIn (ltOf cf) m b d →
   Sz P 278 #[.slice (some ⟨blk,off,none⟩) d.size cap,.int .i64 a,.int .i64 m,.int .i64 b,.func (.func g) #[] cb] w (jo (ltOf cf) enc k w0 blk off d a b):=by
 intro N
 induction N with
 | zero=>intro a m b d w h;exact absurd h (Nat.not_lt_zero _)
 | succ N ih =>
   intro a m b d w hN hs S ham hmb hb hl hr
   by_cases h1:m=a+1
   · subst h1
     exact v_ L k aE zE enc cf hO g cb blk off cap d0 d w0 w eg hcmp R hs S (by omega) a b hmb hb trivial hr
   · by_cases h2:b=m+1
     · subst h2
       exact tN L k aE zE enc cf hO g cb blk off cap d0 d w0 w eg hcmp R hs S (by omega) a m (by omega) hb hl trivial
     · exact v8 L k aE zE enc cf hO g cb blk off cap d0 d w0 w eg hcmp R hs S (by omega) a m b (by omega) (by omega) hb hl hr fun a' m' b' dk W q1 q2 q3 q4 q5 q6 q7 q8=>ih a' m' b' dk W (by omega) q1 q2 q4 q5 q6 q7 q8
end Go.Proofs.YtnlnmbcaongehaaGreatDoor
namespace Go.Proofs.YtnlnmbcaongehaaGreatDoor
open Go.Shelf Go.RowKit Go.Lib Go.Sort
variable {P:Program} {α:Type} [Inhabited α]
theorem L_ {lt:α→α→Bool} (hO:SWO lt) {d dk:Array α} {x bs:Nat} (hds:dk.size=d.size)(hb:x+bs≤d.size)(hP:PermIn 0 d.size d dk)(hpre:Pre lt bs dk x) :
 PermIn 0 d.size d (SC lt dk x (x+bs))∧Pre lt bs (SC lt dk x (x+bs)) (x+bs)∧(SC lt dk x (x+bs)).size=d.size:=by
 obtain⟨h1,h2⟩:=SG (lt:=lt) hO dk x (x+bs) (by omega) (by omega)
 refine⟨SE _ _ _ _ _ hP (SF _ _ x (x+bs) 0 d.size (by omega) hb (by omega) h1),.snoc x (hpre.congr fun i hi=>h1.2.1 i (by omega)) h2,h1.1.trans hds⟩
theorem Ma {lt:α→α→Bool} (hO:SWO lt) {d dk:Array α} {x bs:Nat} (hds:dk.size=d.size)(hx:x≤d.size)(hb:d.size<x+bs)(hP:PermIn 0 d.size d dk)(hpre:Pre lt bs dk x) :
 PermIn 0 d.size d (SC lt dk x d.size)∧Blk lt bs d.size (SC lt dk x d.size) 0∧(SC lt dk x d.size).size=d.size:=by
 obtain⟨h1,h2⟩:=SG (lt:=lt) hO dk x d.size hx (by omega)
 refine⟨SE _ _ _ _ _ hP (SF _ _ x d.size 0 d.size (by omega) (SA _) (by omega) h1),(hpre.congr fun i hi=>h1.2.1 i (by omega)).join (.go x (SortedIn.part h2 (SA _) (by omega)) (.stop _ (by omega))),h1.1.trans hds⟩
theorem Ln {lt:α→α→Bool} {d dk d2:Array α} {x bs:Nat} (hds:dk.size=d.size)(hb:x+2*bs≤d.size)(hP:PermIn 0 d.size d dk)(hpre:Pre lt (2*bs) dk x)(hblk:Blk lt bs d.size dk x)(h1:PermIn x (x+2*bs) dk d2)(h2:SortedIn lt x (x+2*bs) d2) :
 PermIn 0 d.size d d2∧Pre lt (2*bs) d2 (x+2*bs)∧Blk lt bs d.size d2 (x+2*bs):=by
 refine⟨SE _ _ _ _ _ hP (SF _ _ x (x+2*bs) 0 d.size (by omega) hb (by omega) h1),.snoc x (hpre.congr fun i hi=>h1.2.1 i (by omega)) h2,?_⟩
 have:=hblk.tail.tail
 rw [show x+bs+bs=x+2*bs by omega] at this
 exact this.congr fun i hi=>h1.2.1 i (by omega)
theorem CC {lt:α→α→Bool} {dk:Array α} {x bs n:Nat} (hb:x+2*bs≤n)(hblk:Blk lt bs n dk x):SortedIn lt x (x+bs) dk∧SortedIn lt (x+bs) (x+2*bs) dk :=
 ⟨SortedIn.part hblk.head (SA _) (by omega),SortedIn.part hblk.tail.head (SA _) (by omega)⟩
theorem xZ {lt:α→α→Bool} {dk:Array α} {x bs n:Nat} (h1:x+bs<n)(hb:n<x+2*bs)(hblk:Blk lt bs n dk x):SortedIn lt x (x+bs) dk∧SortedIn lt (x+bs) n dk :=
 ⟨SortedIn.part hblk.head (SA _) (by omega),SortedIn.part hblk.tail.head (SA _) (by omega)⟩
theorem Fg {lt:α→α→Bool} {d dk d2:Array α} {x bs:Nat} (hds:dk.size=d.size)(hx:x≤d.size)(hb:d.size<x+2*bs)(hP:PermIn 0 d.size d dk)(hpre:Pre lt (2*bs) dk x)(h1:PermIn x d.size dk d2)(h2:SortedIn lt x d.size d2) :
 PermIn 0 d.size d d2∧Blk lt (2*bs) d.size d2 0 :=
 ⟨SE _ _ _ _ _ hP (SF _ _ x d.size 0 d.size (by omega) (SA _) (by omega) h1),(hpre.congr fun i hi=>h1.2.1 i (by omega)).join (.go x (SortedIn.part h2 (SA _) (by omega)) (.stop _ (by omega)))⟩
theorem BH {ρ:Ren} (L:SlLaysF0.n20 P ρ)(k:Nat)(aE:∀ w,(isAgg (ρ.t 24)).run P w=.ok true w)(zE:∀ w,(Sx (ρ.t 24)).run P w=.ok k w)(enc:α→List Sy)(cf:α→α→Int)(g:Nat)(cb:Array Sy)(blk off cap a b:Nat)(d0 d:Array α)(w0 w:Sw)
 (eg:∀ args w,(callFunc g args).run P w=.ok (.enter g args) w) (hcmp:CmpLays P g cb enc k cf blk off d0.size w0) (R:RowK enc k w0 blk off d0) (hs:d0.size=d.size) (S:SWK enc k w0 blk off d w) (hO:SWO (ltOf cf)) (hab:a≤b) (hb:b≤d.size) (hsz:d.size<4611686018427387904) :
 Sz P (ρ.f 20) #[.slice (some ⟨blk,off,none⟩) d.size cap,.int .i64 a,.int .i64 b,.func (.func g) #[] cb] w fun e w'=>e=.returned (.tuple #[])∧SWK enc k w0 blk off (SC (ltOf cf) d a b) w':=by
 have hs':(SC (ltOf cf) d a b).size=d.size:=(SG hO d a b hab hb).1.1
 have hC:CmpLays P g cb enc k cf blk off d.size w:=fun m os dk hdk x y=>by
  obtain⟨n0,os0,rfl⟩:=S
  rw [sortWorldK_on enc k w0 blk off n0 m d dk os0 os R.hblk hdk]
  exact hcmp _ _ dk (by omega) x y
 refine(AnyQ.insertionSortCmpFunc L k aE zE enc R.hk R.h1 cf g cb blk off cap a b d w eg hC (S.holds R.hblk R.hH hs.symm) (S.lt R.hblk) hab hb hsz).mono ?_
 rintro e w' ⟨rfl,n,os,rfl⟩
 exact⟨rfl,S.on R.hblk n _ os hs'⟩
theorem x_ (L:xy P)(k:Nat)(aE:∀ w,(isAgg 50).run P w=.ok true w)(zE:∀ w,(Sx 50).run P w=.ok k w)(enc:α→List Sy)(cf:α→α→Int)(hO:SWO (ltOf cf))(g:Nat)(cb:Array Sy)(blk off cap:Nat)(d:Array α)(w:Sw)
 (eg:∀ args w,(callFunc g args).run P w=.ok (.enter g args) w) (hcmp:CmpLays P g cb enc k cf blk off d.size w) (R:RowK enc k w blk off d) (S:SWK enc k w blk off d w) (hsz:d.size<1152921504606846976) :
 Sz P 247 #[.slice (some ⟨blk,off,none⟩) d.size cap,.int .i64 d.size,.func (.func g) #[] cb] w (jo (ltOf cf) enc k w blk off d 0 d.size):=by
 have mixed:=L.mixed;have t0:=L.t0;have a0:=L.a0;have z0:=L.z0;have v0:=L.v0;have t3:=L.t3;have a3:=L.a3;have z3:=L.z3;have v3:=L.v3;have t4:=L.t4;have a4:=L.a4;have z4:=L.z4;have v4:=L.v4;have t24:=L.t24;have a24:=L.a24;have z24:=L.z24;have v24:=L.v24;have t252:=L.t252;have a252:=L.a252;have z252:=L.z252;have v252:=L.v252
 have FG:=L.f247
 have e278:∀ args w,(callFunc 278 args).run P w=.ok (.enter 278 args) w:=enters_of L.f278 (by kernel_rfl) rfl
 have e277:∀ args w,(callFunc 277 args).run P w=.ok (.enter 277 args) w:=L.ins.f20.enters rfl
 have Qo:=h_ (fun(x y:Nat) (dk:Array α) (W:Sw) (h1:d.size=dk.size) (h2:SWK enc k w blk off dk W) (h3:x≤y) (h4:y≤dk.size) =>
  (show Sz P 277 #[.slice (some ⟨blk,off,none⟩) dk.size cap,.int .i64 x,.int .i64 y,.func (.func g) #[] cb] W fun e w'=>e=.returned (.tuple #[])∧SWK enc k w blk off (SC (ltOf cf) dk x y) w' from
   BH L.ins k aE zE enc cf g cb blk off cap x y d dk w W eg hcmp R h1 h2 hO h3 h4 (by omega)))
 have PU:=h_ (fun(x y z:Nat) (dk:Array α) (W:Sw) (h1:d.size=dk.size) (h2:SWK enc k w blk off dk W) (h3:x<y) (h4:y<z) (h5:z≤dk.size) (h6:SortedIn (ltOf cf) x y dk) (h7:SortedIn (ltOf cf) y z dk) =>
  tO L k aE zE enc cf hO g cb blk off cap d w eg hcmp R (by omega) (z-x+1) x y z dk W (by omega) h1 h2 h3 h4 h5 h6 h7)
 have S0:Aside (SWK enc k w blk off d w):=S
 clear S L hcmp
 generalize hQ:jo (ltOf cf) enc k w blk off d 0 d.size=Q
 have HQ:=h_ (fun(dk:Array α) (W:Sw) (h1:dk.size=d.size) (h2:SWK enc k w blk off dk W) (h3:PermIn 0 d.size d dk) (h4:SortedIn (ltOf cf) 0 d.size dk)=>show Q (.returned (.tuple #[])) W from hQ▸⟨rfl,dk,h1,h2,h3,h4⟩)
 clear hQ
 obtain⟨n,hn⟩:∃ n,n=d.size:=⟨_,rfl⟩
 go_enter FG,Tryz.ntmps247
 go_wp2
 go_loopg [7,8] d.size (fun kx s7 s8 wr=>∃ (x:Nat) (dk:Array α),s7=.int .i64 x∧s8=.int .i64 ((x:Int)+20)∧x≤d.size∧d.size-x≤kx∧dk.size=d.size∧Aside (SWK enc k w blk off dk wr)∧Hid (PermIn 0 d.size d dk)∧Hid (Pre (ltOf cf) 20 dk x))
 case atStart=>exact⟨0,d,rfl,by simp,SB _,by omega,rfl,S0,SD _ _ _,.zero⟩
 case round =>
  clear S0
  obtain⟨x,dk,rfl,rfl,hx,hkx,hds,S1,HP,HB⟩:=hrel
  by_cases hlt:x+20≤d.size
  · have hltz:(x:Int)+20≤(d.size:Int):=by omega
    have hC:=Qo.out x (x+20) dk wr (by omega) S1.out (by omega) (by omega)
    rw [hds,show((x+20:Nat):Int)=(x:Int)+20 by omega] at hC
    obtain⟨q1,q2,q3⟩:=L_ hO hds hlt HP.out HB.out
    generalize SC (ltOf cf) dk x (x+20)=d2 at hC q1 q2 q3
    have mH:=h_ hC
    have Q1:=h_ q1
    have Q2:=h_ q2
    have Q3:=h_ q3
    clear hC q1 q2 q3
    go_wp2_with (go_at_fn 277;refine mH.out.mono ?_;rintro e w2 ⟨rfl,S2'⟩)
    have S2:Aside (SWK enc k w blk off d2 w2):=S2'
    go_roundg (d.size-(x+20))
    case measure=>omega
    case rel=>exact⟨x+20,d2,by go_num,by go_num,hlt,SA _,Q3.out,S2,Q1.out,Q2.out⟩
  · have hltz:¬ (x:Int)+20≤(d.size:Int):=by omega
    have hC:=Qo.out x d.size dk wr (by omega) S1.out (by omega) (by omega)
    rw [hds] at hC
    obtain⟨q1,q2,q3⟩:=Ma hO hds hx (by omega) HP.out HB.out
    generalize SC (ltOf cf) dk x d.size=d2 at hC q1 q2 q3
    have mH:=h_ hC
    have Q1:=h_ q1
    have Q2:=h_ q2
    have Q3:=h_ q3
    clear hC q1 q2 q3
    go_wp2_with (go_at_fn 277;refine mH.out.mono ?_;rintro e w2 ⟨rfl,S2'⟩)
    have S2:Aside (SWK enc k w blk off d2 w2):=S2'
    clear S2'
    go_loopg [6,7,8,9] d.size (fun kx s6 s7 s8 s9 wr=>∃ (bs:Nat) (dk:Array α),s6=.int .i64 bs∧0<bs∧bs≤2*d.size+20∧d.size-bs≤kx∧dk.size=d.size∧Aside (SWK enc k w blk off dk wr)∧Hid (PermIn 0 d.size d dk)∧Hid (Blk (ltOf cf) bs d.size dk 0))
    case atStart=>exact⟨20,d2,rfl,by omega,by omega,by omega,Q3.out,S2,Q1.out,Q2.out⟩
    case round =>
     clear S1 S2 HP HB Q1 Q2 Q3 mH hlt hltz hkx hds
     obtain⟨bs,dk,rfl,hbs,hbs2,hkx,hds,S1,HP,HB⟩:=hrel
     by_cases hlt:bs<d.size
     · have hltz:(bs:Int)<(d.size:Int):=by omega
       go_wp2
       go_loopg [7,8] d.size (fun ky s7 s8 wr=>∃ (y:Nat) (dk:Array α),s7=.int .i64 y∧s8=.int .i64 ((y:Int)+2*(bs:Int))∧y≤d.size∧d.size-y≤ky∧dk.size=d.size∧Aside (SWK enc k w blk off dk wr)∧Hid (PermIn 0 d.size d dk)∧Hid (Pre (ltOf cf) (2*bs) dk y)∧Hid (Blk (ltOf cf) bs d.size dk y))
       case atStart=>exact⟨0,dk,rfl,by simp,SB _,by omega,hds,S1,HP,.zero,HB⟩
       case round =>
        clear S1 HP HB hds
        obtain⟨y,dk,rfl,rfl,hy,Rp,hds,S1,HP,HE,HB⟩:=hrel
        by_cases hlt2:y+2*bs≤d.size
        · have zk:(y:Int)+2*(bs:Int)≤(d.size:Int):=by omega
          have hC:=PU.out y (y+bs) (y+2*bs) dk wr (by omega) S1.out (by omega) (by omega) (by omega) (CC hlt2 HB.out).1 (CC hlt2 HB.out).2
          rw [hds,show((y+bs:Nat):Int)=(y:Int)+(bs:Int) by omega,show((y+2*bs:Nat):Int)=(y:Int)+2*(bs:Int) by omega] at hC
          have mH:=h_ hC
          clear hC
          go_wp2_with (go_at_fn 278;refine mH.out.mono ?_;rintro e w2 ⟨rfl,d2,z2,S2',p2,s2⟩)
          obtain⟨q1,q2,q3⟩:=Ln hds hlt2 HP.out HE.out HB.out p2 s2
          have S2:Aside (SWK enc k w blk off d2 w2):=S2'
          go_roundg (d.size-(y+2*bs))
          case measure=>omega
          case rel=>exact⟨y+2*bs,d2,by go_num,by go_num,hlt2,SA _,z2.trans hds,S2,q1,q2,q3⟩
        · have zk:¬ (y:Int)+2*(bs:Int)≤(d.size:Int):=by omega
          by_cases hlt3:y+bs<d.size
          · have OP:(y:Int)+(bs:Int)<(d.size:Int):=by omega
            have hC:=PU.out y (y+bs) d.size dk wr (by omega) S1.out (by omega) (by omega) (by omega) (xZ hlt3 (by omega) HB.out).1 (xZ hlt3 (by omega) HB.out).2
            rw [hds,show((y+bs:Nat):Int)=(y:Int)+(bs:Int) by omega] at hC
            have mH:=h_ hC
            clear hC
            go_wp2_with (go_at_fn 278;refine mH.out.mono ?_;rintro e w2 ⟨rfl,d2,z2,S2',p2,s2⟩)
            obtain⟨q1,q2⟩:=Fg hds hy (by omega) HP.out HE.out p2 s2
            have S2:Aside (SWK enc k w blk off d2 w2):=S2'
            go_roundg (d.size-2*bs)
            case measure=>omega
            case rel=>exact⟨2*bs,d2,by first|rfl|go_num|(congr 1;omega),by omega,by omega,SA _,z2.trans hds,S2,q1,q2⟩
          · have OP:¬ (y:Int)+(bs:Int)<(d.size:Int):=by omega
            have hso:SortedIn (ltOf cf) y d.size dk:=SortedIn.part HB.out.head (SA _) (by omega)
            obtain⟨q1,q2⟩:=Fg hds hy (by omega) HP.out HE.out (SD _ _ _) hso
            have Q1:=h_ q1
            have Q2:=h_ q2
            clear q1 q2 hso
            go_wp2
            go_roundg (d.size-2*bs)
            case measure=>omega
            case rel=>exact⟨2*bs,dk,by first|rfl|go_num|(congr 1;omega),by omega,by omega,SA _,hds,S1,Q1.out,Q2.out⟩
     · have hltz:¬ (bs:Int)<(d.size:Int):=by omega
       go_wp2
       go_end0
       exact HQ.out dk _ hds S1.out HP.out (SortedIn.part HB.out.head (SA _) (by omega))
theorem ri (L:xy P)(k:Nat)(aE:∀ w,(isAgg 50).run P w=.ok true w)(zE:∀ w,(Sx 50).run P w=.ok k w)(enc:α→List Sy)(cf:α→α→Int)(hO:SWO (ltOf cf))(g:Nat)(cb:Array Sy)(blk off cap:Nat)(d:Array α)(w:Sw)
 (eg:∀ args w,(callFunc g args).run P w=.ok (.enter g args) w) (hcmp:CmpLays P g cb enc k cf blk off d.size w) (R:RowK enc k w blk off d) (S:SWK enc k w blk off d w) (hsz:d.size<1152921504606846976) :
 Sz P 185 #[.slice (some ⟨blk,off,none⟩) d.size cap,.func (.func g) #[] cb] w (jo (ltOf cf) enc k w blk off d 0 d.size):=by
 have mixed:=L.mixed;have t0:=L.t0;have a0:=L.a0;have z0:=L.z0;have v0:=L.v0;have t3:=L.t3;have a3:=L.a3;have z3:=L.z3;have v3:=L.v3;have t4:=L.t4;have a4:=L.a4;have z4:=L.z4;have v4:=L.v4;have t24:=L.t24;have a24:=L.a24;have z24:=L.z24;have v24:=L.v24;have t252:=L.t252;have a252:=L.a252;have z252:=L.z252;have v252:=L.v252
 have FG:=L.f185
 have e247:∀ args w,(callFunc 247 args).run P w=.ok (.enter 247 args) w:=enters_of L.f247 (by kernel_rfl) rfl
 have HC:=h_ (x_ L k aE zE enc cf hO g cb blk off cap d w eg hcmp R S hsz)
 clear L hcmp S
 generalize hQ:jo (ltOf cf) enc k w blk off d 0 d.size=Q at HC ⊢
 have HQ:=h_ (fun e W (h:Q e W)=>show e=.returned (.tuple #[]) from(by rw [←hQ] at h;exact h.1))
 clear hQ
 go_enter FG,Tryz.ntmps185
 go_wp2_with fail
 refine HC.out.mono ?_
 intro e w' he
 obtain rfl:=HQ.out _ _ he
 go_wp2_with fail
 go_end0
 exact he
end Go.Proofs.YtnlnmbcaongehaaGreatDoor
