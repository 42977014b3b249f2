/- slices.SortStableFunc's merge in place at events: symMerge. -/
import Derived.Test.YtjebaagkomejaaaGreatDoorK02
set_option linter.unusedVariables false
set_option linter.unusedSimpArgs false
set_option maxRecDepth 100000
set_option maxHeartbeats 12800000
open Go.Lib renaming hid→h_
open Go renaming results_none→Sj,bodyPost_ret→Sk,World→Sl
open Nat renaming le_refl→Sm
open Go.Calls renaming grown_of→Sn
open Go.Sort renaming permIn_refl→Sp,permIn_trans→Sq,permIn_mono→Sr
open Go.Exit renaming inBlock→Ss
namespace Go.Proofs.YtjebaagkomejaaaGreatDoor
open Go.Shelf Go.RowKit Go.Lib Go.Sort
variable {P:Program} {α:Type} [Inhabited α]
theorem pM (L:qV P)(k:Nat)(aE:∀ w,(isAgg 72).run P w=.ok true w)(zE:∀ w,(Go.sizeOf 72).run P w=.ok k w)(enc:α→List Value)(cf:α→α→Int)(hO:SWO (ltOf cf))(g:Nat)(cb:Array Value)(blk off cap:Nat)(d0 d:Array α)(w0 w:Sl)
 (eg:∀ args w,(callFunc g args).run P w=.ok (.enter g args) w) (hcmp:CmpLays P g cb enc k cf blk off d0.size w0) (R:RowK enc k w0 blk off d0) (hs:d0.size=d.size) (S:SWK enc k w0 blk off d w) (hsz:d.size<4611686018427387904) (a m b:Nat) (KT:a+1<m) (hmb:m+1<b) (hb:b≤d.size) (hl:SortedIn (ltOf cf) a m d) (hr:SortedIn (ltOf cf) m b d)
 (ih:∀ (a' m' b':Nat) (dk:Array α) (W:Sl),d0.size=dk.size→SWK enc k w0 blk off dk W→b'-a'<b-a→a'<m'→m'<b'→b'≤dk.size→SortedIn (ltOf cf) a' m' dk→SortedIn (ltOf cf) m' b' dk →
  Calls P 224 #[.slice (some ⟨blk,off,none⟩) dk.size cap,.int .i64 a',.int .i64 m',.int .i64 b',.func (.func g) #[] cb] W (fh (ltOf cf) enc k w0 blk off dk a' b')) :
 Calls P 224 #[.slice (some ⟨blk,off,none⟩) d.size cap,.int .i64 a,.int .i64 m,.int .i64 b,.func (.func g) #[] cb] w (fh (ltOf cf) enc k w0 blk off d a b):=by
 have mixed:=L.mixed;have t0:=L.t0;have a0:=L.a0;have z0:=L.z0;have v0:=L.v0;have t3:=L.t3;have a3:=L.a3;have z3:=L.z3;have v3:=L.v3;have t4:=L.t4;have a4:=L.a4;have z4:=L.z4;have v4:=L.v4;have t24:=L.t24;have a24:=L.a24;have z24:=L.z24;have v24:=L.v24;have t183:=L.t183;have a183:=L.a183;have z183:=L.z183;have v183:=L.v183;have t216:=L.t216;have a216:=L.a216;have z216:=L.z216;have v216:=L.v216
 have FG:=L.f224
 have HC:Aside _:=hcmp
 have S0:Aside (SWK enc k w0 blk off d w):=S
 have HL:=h_ hl
 have HR:=h_ hr
 clear S hcmp hl hr
 generalize hQ:fh (ltOf cf) enc k w0 blk off d a b=Q
 have HQ:=h_ (fun(dk:Array α) (W:Sl) (h1:dk.size=d.size) (h2:SWK enc k w0 blk off dk W) (h3:PermIn a b d dk) (h4:SortedIn (ltOf cf) a b dk)=>show Q (.returned (.tuple #[])) W from hQ▸⟨rfl,dk,h1,h2,h3,h4⟩)
 clear hQ
 have IH:=h_ ih
 have yM:=h_ (fun(x y z:Nat) (W:Sl) (h2:SWK enc k w0 blk off d W) (h3:x<y) (h4:y<z) (h5:z≤d.size)=>sg L k aE zE enc (.func (.func g) #[] cb) blk off cap x y z d0 d w0 W R hs h2 h3 h4 h5 hsz)
 have e290:∀ args w,(callFunc 242 args).run P w=.ok (.enter 242 args) w:=enters_of L.f242 (by kernel_rfl) rfl
 have e278:∀ args w,(callFunc 224 args).run P w=.ok (.enter 224 args) w:=enters_of L.f224 (by kernel_rfl) rfl
 clear L ih
 have L8:((m:Int)-(a:Int)==1)=false:=by simp;omega
 have Jm:((b:Int)-(m:Int)==1)=false:=by simp;omega
 obtain⟨mid,hmid⟩:∃ mid:Nat,mid=(a+b) / 2:=⟨_,rfl⟩
 have hmz:((a:Int)+(b:Int)) / 2=(mid:Int):=by omega
 obtain⟨hm1,hm2⟩:2*mid≤a+b∧a+b≤2*mid+1:=by omega
 clear hmid
 have Mf:a+1<mid:=by omega
 have L7:mid<b:=by omega
 obtain⟨s0,r0,hB,hcase⟩:∃ s0 r0:Nat,(a≤s0∧r0≤m∧s0≤r0∧mid+m≤s0+b∧r0≤mid)∧(((mid:Int)<(m:Int)∧s0+b=mid+m∧r0=mid)∨(¬ (mid:Int)<(m:Int)∧s0=a∧r0=m)):=by
  by_cases h:mid<m
  · exact⟨mid+m-b,mid,by omega,.inl ⟨by omega,by omega,rfl⟩⟩
  · exact⟨a,m,by omega,.inr ⟨by omega,rfl,rfl⟩⟩
 obtain⟨hs0,hr0,GI,hs1,hr1⟩:=hB
 have kA:=h_ (fun(i fin:Nat) (h1:s0≤i) (h2:i≤r0) (h3:i+fin=mid+m) (h4:∀ t,s0≤t→t<i→ltOf cf d[mid+m-1-t]! d[t]! =false) (h5:∀ t,i≤t→t<r0→ltOf cf d[mid+m-1-t]! d[t]! =true) =>
  xy hO d a m b mid s0 r0 i fin hs0 hr0 hs1 hr1 (hcase.imp (fun h=>⟨h.2.1,h.2.2⟩) (fun h=>⟨h.2.1,h.2.2⟩)) HL.out HR.out h1 h2 h3 h4 h5)
 rcases hcase with⟨hcz,hsz0,EB⟩|⟨hcz,hsz0,EB⟩
 · have hsz1:(mid:Int)+(m:Int)-(b:Int)=(s0:Int):=by omega
   go_enter FG,Tryz.ntmps224
   go_wp2
   go_loopg [20,21] b (fun kx s20 JN wr=>∃ i j:Nat,s20=.int .i64 i∧JN=.int .i64 j∧s0≤i∧i≤j∧j≤r0∧j-i≤kx∧Aside (SWK enc k w0 blk off d wr)∧Hid (∀ t,s0≤t→t<i→ltOf cf d[mid+m-1-t]! d[t]! =false)∧Hid (∀ t,j≤t→t<r0→ltOf cf d[mid+m-1-t]! d[t]! =true))
   case atStart=>exact⟨s0,r0,rfl,by rw [EB],Sm _,GI,Sm _,by omega,S0,fun t h1 h2=>by omega,fun t h1 h2=>by omega⟩
   case round =>
    clear S0
    obtain⟨i,j,rfl,rfl,hi,hij,hjr,hkx,S1,HI,HJ⟩:=hrel
    by_cases hlt:i<j
    · have hltz:(i:Int)<(j:Int):=by omega
      obtain⟨c,hh⟩:∃ h:Nat,h=(i+j) / 2:=⟨_,rfl⟩
      have hhz:((i:Int)+(j:Int)) / 2=(c:Int):=by omega
      have h1:i≤c:=by omega
      have h2:c<j:=by omega
      obtain⟨u,hu⟩:∃ u:Nat,u=mid+m-1-c:=⟨_,rfl⟩
      have hu1:m≤u:=by omega
      have hu2:u<b:=by omega
      have Np:IntKind.i64.wrap ((mid:Int)+(m:Int)-1-(c:Int))=(u:Int):=by rw [IntKind.wrap_i64];omega
      have hhd:(c:Int)<(d.size:Int):=by omega
      have hud:(u:Int)<(d.size:Int):=by omega
      have HU:=h_ hu
      clear hh hu
      obtain⟨x,hx⟩:∃ x,d[u]! =x:=⟨_,rfl⟩
      obtain⟨y,hy⟩:∃ y,d[c]! =y:=⟨_,rfl⟩
      have HX:=h_ hx
      have HY:=h_ hy
      clear hx hy
      by_cases hv:cf x y<0
      · skip
        have lx:=S1.out.ld R (by omega) P (u) (by omega)
        have ly:=S1.out.ld R (by omega) P (c) (by omega)
        rw [HX.out] at lx
        rw [HY.out] at ly
        have hc:=S1.out.cmp HC.out (by omega) x y
        have hd:decide (cf x y<0)=true:=decide_eq_true hv
        go_wp2_with fail
        go_quiet_grown (first|(go_at_fn g;refine Sn (hc _ _)))
        have S2:Aside (SWK enc k w0 blk off d (grow (wr.drewN nq) osq)):=S1.out.grown nq osq
        clear lx ly hc
        generalize grow (wr.drewN nq) osq=w2 at S2 ⊢
        clear nq osq
        go_wp2
        go_roundg (c-i)
        case measure=>omega
        case rel=>exact⟨i,c,rfl,rfl,hi,h1,by omega,Sm _,S2,HI,(fun t h3 h4=>(by
         have e1:ltOf cf d[mid+m-1-c]! d[c]! =true:=by rw [←HU.out,HX.out,HY.out];exact decide_eq_true hv
         by_cases e:t=c
         · rw [e];exact e1
         · cases e2:ltOf cf d[mid+m-1-t]! d[t]! with
           | true=>rfl
           | false =>
             have:=hO.ntrans _ _ _ (HR.out (mid+m-1-t) (mid+m-1-c) (by omega) (by omega) (by omega)) (hO.ntrans _ _ _ e2 (HL.out c t (by omega) (by omega) (by omega)))
             rw [e1] at this;cases this))⟩
      · skip
        have lx:=S1.out.ld R (by omega) P (u) (by omega)
        have ly:=S1.out.ld R (by omega) P (c) (by omega)
        rw [HX.out] at lx
        rw [HY.out] at ly
        have hc:=S1.out.cmp HC.out (by omega) x y
        have hd:decide (cf x y<0)=false:=decide_eq_false (by omega)
        go_wp2_with fail
        go_quiet_grown (first|(go_at_fn g;refine Sn (hc _ _)))
        have S2:Aside (SWK enc k w0 blk off d (grow (wr.drewN nq) osq)):=S1.out.grown nq osq
        clear lx ly hc
        generalize grow (wr.drewN nq) osq=w2 at S2 ⊢
        clear nq osq
        go_wp2
        go_roundg (j-(c+1))
        case measure=>omega
        case rel=>exact⟨c+1,j,by go_num,rfl,by omega,by omega,hjr,Sm _,S2,(fun t h3 h4=>(by
         have e1:ltOf cf d[mid+m-1-c]! d[c]! =false:=by rw [←HU.out,HX.out,HY.out];exact decide_eq_false (by omega)
         by_cases e:t=c
         · rw [e];exact e1
         · exact hO.ntrans _ _ _ (HR.out (mid+m-1-c) (mid+m-1-t) (by omega) (by omega) (by omega)) (hO.ntrans _ _ _ e1 (HL.out t c (by omega) (by omega) (by omega))))),HJ⟩
    · obtain rfl:i=j:=by omega
      obtain⟨fin,hf⟩:∃ fin:Nat,i+fin=mid+m:=⟨mid+m-i,by omega⟩
      have hfz:(mid:Int)+(m:Int)-(i:Int)=(fin:Int):=by omega
      obtain⟨hlo,hhi⟩:=kA.out i fin hi hjr hf HI.out HJ.out
      have vL:=h_ hlo
      have BB:=h_ hhi
      clear hlo hhi hlt
      obtain⟨hai,him,NU,kM⟩:a≤i∧i≤m∧m≤fin∧fin≤b:=by omega
      have hltz:¬ (i:Int)<(i:Int):=by omega
      rcases(show(m≤i∧m<mid)∨(m≤i∧mid≤m)∨(i<m∧fin≤m)∨(i<m∧m<fin∧a<i∧fin<b)∨(i<m∧m<fin∧a<i∧b≤fin)∨(i<m∧m<fin∧i≤a∧fin<b)∨(i<m∧m<fin∧i≤a∧b≤fin) by omega) with⟨g1,g2⟩|⟨g1,g2⟩|⟨g1,g2⟩|⟨g1,g2,g3,g4⟩|⟨g1,g2,g3,g4⟩|⟨g1,g2,g3,g4⟩|⟨g1,g2,g3,g4⟩
      · exfalso;omega
      · exfalso;omega
      · skip
        have k1:(i:Int)<(m:Int):=by omega
        have k2:¬ (m:Int)<(fin:Int):=by omega
        have k3:(a:Int)<(i:Int):=by omega
        have k4:¬ (i:Int)<(mid:Int):=by omega
        have k5:(mid:Int)<(fin:Int):=by omega
        have k6:(fin:Int)<(b:Int):=by omega
        obtain⟨d1,hd1⟩:∃ d1,d1=d:=⟨_,rfl⟩
        have hh:=halves hO d d1 a m b i fin mid (by omega) (by omega) (by omega) (by omega) (by omega) HL.out HR.out vL.out BB.out (fun t=>by rw [hd1,sh i m fin t (by omega) (by omega) (by omega)])
        obtain⟨w1,hw1⟩:∃ w1,w1=wr:=⟨_,rfl⟩
        have S2:Aside (SWK enc k w0 blk off d1 w1):=(by rw [hd1,hw1];exact S1.out)
        have Z1:=h_ (show d1.size=d.size by rw [hd1])
        have P1:Aside (PermIn a b d d1):=(by rw [hd1];exact Sp _ _ _)
        rw [←hw1]
        clear hd1 hw1
        have HH:=h_ hh
        clear hh
        obtain⟨d2,hd2⟩:∃ d2,d2=d1:=⟨_,rfl⟩
        obtain⟨w2,hw2⟩:∃ w2,w2=w1:=⟨_,rfl⟩
        have S3:Aside (SWK enc k w0 blk off d2 w2):=(by rw [hd2,hw2];exact S2.out)
        have P2:Aside (PermIn a mid d1 d2):=(by rw [hd2];exact Sp _ _ _)
        have Z2:=h_ (show d2.size=d.size by rw [hd2];exact Z1.out)
        have A2:Aside (SortedIn (ltOf cf) a mid d2):=(by rw [hd2];first|exact SortedIn.part HH.out.2.1 (by omega) (by omega)|exact SortedIn.part HH.out.1 (by omega) (by omega))
        rw [←hw2]
        clear hd2 hw2
        have B1:Aside (SortedIn (ltOf cf) mid fin d2):=(fun p q h1 h2 h3=>by rw [P2.out.2.1 q (by omega),P2.out.2.1 p (by omega)];exact HH.out.2.2.1 p q h1 h2 h3)
        have B2:Aside (SortedIn (ltOf cf) fin b d2):=(fun p q h1 h2 h3=>by rw [P2.out.2.1 q (by omega),P2.out.2.1 p (by omega)];exact HH.out.2.2.2.1 p q h1 h2 h3)
        have hcC:=IH.out mid fin b d2 w2 (by rw [Z2.out];exact hs) S3.out (by omega) (by omega) (by omega) (by rw [Z2.out];omega) B1.out B2.out
        rw [Z2.out] at hcC
        have jc:=h_ hcC
        clear hcC
        go_wp2_with fail
        refine jc.out.mono ?_
        rintro e w3 ⟨rfl,d3,z3,S4',p3',s3⟩
        have S4:Aside (SWK enc k w0 blk off d3 w3):=S4'
        have P3:Aside (PermIn mid b d2 d3):=p3'
        have Z3:=h_ (z3.trans Z2.out)
        have A3:Aside (SortedIn (ltOf cf) mid b d3):=s3
        clear z3 S4' p3' s3 jc
        have hM:=merged d1 d2 d3 a mid b (by omega) (by omega) (by rw [Z1.out];exact hb) HH.out.2.2.2.2 P2.out A2.out P3.out A3.out
        have HM:=h_ hM
        clear hM
        go_wp2
        (first|go_end0|((try simp only [Ss,Exit.then]);refine Sk (Sj rfl _ _ _) rfl ?_))
        exact HQ.out d3 _ Z3.out S4.out (Sq _ _ _ _ _ P1.out HM.out.1) HM.out.2
      · skip
        have k1:(i:Int)<(m:Int):=by omega
        have k2:(m:Int)<(fin:Int):=by omega
        have k3:(a:Int)<(i:Int):=by omega
        have k4:(i:Int)<(mid:Int):=by omega
        have k5:(mid:Int)<(fin:Int):=by omega
        have k6:(fin:Int)<(b:Int):=by omega
        have hcR:=h_ (yM.out i m fin wr S1.out (by omega) (by omega) (by omega))
        go_wp2_with fail
        refine hcR.out.mono ?_
        rintro e w1 ⟨rfl,d1,z1,S2',p1,q1⟩
        have hh:=halves hO d d1 a m b i fin mid (by omega) (by omega) (by omega) (by omega) (by omega) HL.out HR.out vL.out BB.out q1
        have S2:Aside (SWK enc k w0 blk off d1 w1):=S2'
        have Z1:=h_ z1
        have P1:Aside (PermIn a b d d1):=Sr _ _ i fin a b (by omega) (by omega) hb p1
        clear q1 z1 p1 S2' hcR
        have HH:=h_ hh
        clear hh
        have hcB:=IH.out a i mid d1 w1 (by rw [Z1.out];exact hs) S2.out (by omega) (by omega) (by omega) (by rw [Z1.out];omega) HH.out.1 HH.out.2.1
        rw [Z1.out] at hcB
        have oP:=h_ hcB
        clear hcB
        go_wp2_with fail
        refine oP.out.mono ?_
        rintro e w2 ⟨rfl,d2,z2,S3',p2',s2⟩
        have S3:Aside (SWK enc k w0 blk off d2 w2):=S3'
        have P2:Aside (PermIn a mid d1 d2):=p2'
        have Z2:=h_ (z2.trans Z1.out)
        have A2:Aside (SortedIn (ltOf cf) a mid d2):=s2
        clear z2 S3' p2' s2 oP
        have B1:Aside (SortedIn (ltOf cf) mid fin d2):=(fun p q h1 h2 h3=>by rw [P2.out.2.1 q (by omega),P2.out.2.1 p (by omega)];exact HH.out.2.2.1 p q h1 h2 h3)
        have B2:Aside (SortedIn (ltOf cf) fin b d2):=(fun p q h1 h2 h3=>by rw [P2.out.2.1 q (by omega),P2.out.2.1 p (by omega)];exact HH.out.2.2.2.1 p q h1 h2 h3)
        have hcC:=IH.out mid fin b d2 w2 (by rw [Z2.out];exact hs) S3.out (by omega) (by omega) (by omega) (by rw [Z2.out];omega) B1.out B2.out
        rw [Z2.out] at hcC
        have jc:=h_ hcC
        clear hcC
        go_wp2_with fail
        refine jc.out.mono ?_
        rintro e w3 ⟨rfl,d3,z3,S4',p3',s3⟩
        have S4:Aside (SWK enc k w0 blk off d3 w3):=S4'
        have P3:Aside (PermIn mid b d2 d3):=p3'
        have Z3:=h_ (z3.trans Z2.out)
        have A3:Aside (SortedIn (ltOf cf) mid b d3):=s3
        clear z3 S4' p3' s3 jc
        have hM:=merged d1 d2 d3 a mid b (by omega) (by omega) (by rw [Z1.out];exact hb) HH.out.2.2.2.2 P2.out A2.out P3.out A3.out
        have HM:=h_ hM
        clear hM
        go_wp2
        (first|go_end0|((try simp only [Ss,Exit.then]);refine Sk (Sj rfl _ _ _) rfl ?_))
        exact HQ.out d3 _ Z3.out S4.out (Sq _ _ _ _ _ P1.out HM.out.1) HM.out.2
      · skip
        have k1:(i:Int)<(m:Int):=by omega
        have k2:(m:Int)<(fin:Int):=by omega
        have k3:(a:Int)<(i:Int):=by omega
        have k4:(i:Int)<(mid:Int):=by omega
        have k5:(mid:Int)<(fin:Int):=by omega
        have k6:¬ (fin:Int)<(b:Int):=by omega
        have hcR:=h_ (yM.out i m fin wr S1.out (by omega) (by omega) (by omega))
        go_wp2_with fail
        refine hcR.out.mono ?_
        rintro e w1 ⟨rfl,d1,z1,S2',p1,q1⟩
        have hh:=halves hO d d1 a m b i fin mid (by omega) (by omega) (by omega) (by omega) (by omega) HL.out HR.out vL.out BB.out q1
        have S2:Aside (SWK enc k w0 blk off d1 w1):=S2'
        have Z1:=h_ z1
        have P1:Aside (PermIn a b d d1):=Sr _ _ i fin a b (by omega) (by omega) hb p1
        clear q1 z1 p1 S2' hcR
        have HH:=h_ hh
        clear hh
        have hcB:=IH.out a i mid d1 w1 (by rw [Z1.out];exact hs) S2.out (by omega) (by omega) (by omega) (by rw [Z1.out];omega) HH.out.1 HH.out.2.1
        rw [Z1.out] at hcB
        have oP:=h_ hcB
        clear hcB
        go_wp2_with fail
        refine oP.out.mono ?_
        rintro e w2 ⟨rfl,d2,z2,S3',p2',s2⟩
        have S3:Aside (SWK enc k w0 blk off d2 w2):=S3'
        have P2:Aside (PermIn a mid d1 d2):=p2'
        have Z2:=h_ (z2.trans Z1.out)
        have A2:Aside (SortedIn (ltOf cf) a mid d2):=s2
        clear z2 S3' p2' s2 oP
        have B1:Aside (SortedIn (ltOf cf) mid fin d2):=(fun p q h1 h2 h3=>by rw [P2.out.2.1 q (by omega),P2.out.2.1 p (by omega)];exact HH.out.2.2.1 p q h1 h2 h3)
        have B2:Aside (SortedIn (ltOf cf) fin b d2):=(fun p q h1 h2 h3=>by rw [P2.out.2.1 q (by omega),P2.out.2.1 p (by omega)];exact HH.out.2.2.2.1 p q h1 h2 h3)
        obtain⟨d3,hd3⟩:∃ d3,d3=d2:=⟨_,rfl⟩
        obtain⟨w3,hw3⟩:∃ w3,w3=w2:=⟨_,rfl⟩
        have S4:Aside (SWK enc k w0 blk off d3 w3):=(by rw [hd3,hw3];exact S3.out)
        have P3:Aside (PermIn mid b d2 d3):=(by rw [hd3];exact Sp _ _ _)
        have Z3:=h_ (show d3.size=d.size by rw [hd3];exact Z2.out)
        have A3:Aside (SortedIn (ltOf cf) mid b d3):=(by rw [hd3];first|exact SortedIn.part B1.out (by omega) (by omega)|exact SortedIn.part B2.out (by omega) (by omega))
        rw [←hw3]
        clear hd3 hw3
        have hM:=merged d1 d2 d3 a mid b (by omega) (by omega) (by rw [Z1.out];exact hb) HH.out.2.2.2.2 P2.out A2.out P3.out A3.out
        have HM:=h_ hM
        clear hM
        go_wp2
        (first|go_end0|((try simp only [Ss,Exit.then]);refine Sk (Sj rfl _ _ _) rfl ?_))
        exact HQ.out d3 _ Z3.out S4.out (Sq _ _ _ _ _ P1.out HM.out.1) HM.out.2
      · exfalso;omega
      · skip
        have k1:(i:Int)<(m:Int):=by omega
        have k2:(m:Int)<(fin:Int):=by omega
        have k3:¬ (a:Int)<(i:Int):=by omega
        have k5:(mid:Int)<(fin:Int):=by omega
        have k6:¬ (fin:Int)<(b:Int):=by omega
        have hcR:=h_ (yM.out i m fin wr S1.out (by omega) (by omega) (by omega))
        go_wp2_with fail
        refine hcR.out.mono ?_
        rintro e w1 ⟨rfl,d1,z1,S2',p1,q1⟩
        have hh:=halves hO d d1 a m b i fin mid (by omega) (by omega) (by omega) (by omega) (by omega) HL.out HR.out vL.out BB.out q1
        have S2:Aside (SWK enc k w0 blk off d1 w1):=S2'
        have Z1:=h_ z1
        have P1:Aside (PermIn a b d d1):=Sr _ _ i fin a b (by omega) (by omega) hb p1
        clear q1 z1 p1 S2' hcR
        have HH:=h_ hh
        clear hh
        obtain⟨d2,hd2⟩:∃ d2,d2=d1:=⟨_,rfl⟩
        obtain⟨w2,hw2⟩:∃ w2,w2=w1:=⟨_,rfl⟩
        have S3:Aside (SWK enc k w0 blk off d2 w2):=(by rw [hd2,hw2];exact S2.out)
        have P2:Aside (PermIn a mid d1 d2):=(by rw [hd2];exact Sp _ _ _)
        have Z2:=h_ (show d2.size=d.size by rw [hd2];exact Z1.out)
        have A2:Aside (SortedIn (ltOf cf) a mid d2):=(by rw [hd2];first|exact SortedIn.part HH.out.2.1 (by omega) (by omega)|exact SortedIn.part HH.out.1 (by omega) (by omega))
        rw [←hw2]
        clear hd2 hw2
        have B1:Aside (SortedIn (ltOf cf) mid fin d2):=(fun p q h1 h2 h3=>by rw [P2.out.2.1 q (by omega),P2.out.2.1 p (by omega)];exact HH.out.2.2.1 p q h1 h2 h3)
        have B2:Aside (SortedIn (ltOf cf) fin b d2):=(fun p q h1 h2 h3=>by rw [P2.out.2.1 q (by omega),P2.out.2.1 p (by omega)];exact HH.out.2.2.2.1 p q h1 h2 h3)
        obtain⟨d3,hd3⟩:∃ d3,d3=d2:=⟨_,rfl⟩
        obtain⟨w3,hw3⟩:∃ w3,w3=w2:=⟨_,rfl⟩
        have S4:Aside (SWK enc k w0 blk off d3 w3):=(by rw [hd3,hw3];exact S3.out)
        have P3:Aside (PermIn mid b d2 d3):=(by rw [hd3];exact Sp _ _ _)
        have Z3:=h_ (show d3.size=d.size by rw [hd3];exact Z2.out)
        have A3:Aside (SortedIn (ltOf cf) mid b d3):=(by rw [hd3];first|exact SortedIn.part B1.out (by omega) (by omega)|exact SortedIn.part B2.out (by omega) (by omega))
        rw [←hw3]
        clear hd3 hw3
        have hM:=merged d1 d2 d3 a mid b (by omega) (by omega) (by rw [Z1.out];exact hb) HH.out.2.2.2.2 P2.out A2.out P3.out A3.out
        have HM:=h_ hM
        clear hM
        go_wp2
        (first|go_end0|((try simp only [Ss,Exit.then]);refine Sk (Sj rfl _ _ _) rfl ?_))
        exact HQ.out d3 _ Z3.out S4.out (Sq _ _ _ _ _ P1.out HM.out.1) HM.out.2
 · skip
   go_enter FG,Tryz.ntmps224
   go_wp2
   go_loopg [20,21] b (fun kx s20 JN wr=>∃ i j:Nat,s20=.int .i64 i∧JN=.int .i64 j∧s0≤i∧i≤j∧j≤r0∧j-i≤kx∧Aside (SWK enc k w0 blk off d wr)∧Hid (∀ t,s0≤t→t<i→ltOf cf d[mid+m-1-t]! d[t]! =false)∧Hid (∀ t,j≤t→t<r0→ltOf cf d[mid+m-1-t]! d[t]! =true))
   case atStart=>exact⟨s0,r0,by rw [hsz0],by rw [EB],Sm _,GI,Sm _,by omega,S0,fun t h1 h2=>by omega,fun t h1 h2=>by omega⟩
   case round =>
    clear S0
    obtain⟨i,j,rfl,rfl,hi,hij,hjr,hkx,S1,HI,HJ⟩:=hrel
    by_cases hlt:i<j
    · have hltz:(i:Int)<(j:Int):=by omega
      obtain⟨c,hh⟩:∃ h:Nat,h=(i+j) / 2:=⟨_,rfl⟩
      have hhz:((i:Int)+(j:Int)) / 2=(c:Int):=by omega
      have h1:i≤c:=by omega
      have h2:c<j:=by omega
      obtain⟨u,hu⟩:∃ u:Nat,u=mid+m-1-c:=⟨_,rfl⟩
      have hu1:m≤u:=by omega
      have hu2:u<b:=by omega
      have Np:IntKind.i64.wrap ((mid:Int)+(m:Int)-1-(c:Int))=(u:Int):=by rw [IntKind.wrap_i64];omega
      have hhd:(c:Int)<(d.size:Int):=by omega
      have hud:(u:Int)<(d.size:Int):=by omega
      have HU:=h_ hu
      clear hh hu
      obtain⟨x,hx⟩:∃ x,d[u]! =x:=⟨_,rfl⟩
      obtain⟨y,hy⟩:∃ y,d[c]! =y:=⟨_,rfl⟩
      have HX:=h_ hx
      have HY:=h_ hy
      clear hx hy
      by_cases hv:cf x y<0
      · skip
        have lx:=S1.out.ld R (by omega) P (u) (by omega)
        have ly:=S1.out.ld R (by omega) P (c) (by omega)
        rw [HX.out] at lx
        rw [HY.out] at ly
        have hc:=S1.out.cmp HC.out (by omega) x y
        have hd:decide (cf x y<0)=true:=decide_eq_true hv
        go_wp2_with fail
        go_quiet_grown (first|(go_at_fn g;refine Sn (hc _ _)))
        have S2:Aside (SWK enc k w0 blk off d (grow (wr.drewN nq) osq)):=S1.out.grown nq osq
        clear lx ly hc
        generalize grow (wr.drewN nq) osq=w2 at S2 ⊢
        clear nq osq
        go_wp2
        go_roundg (c-i)
        case measure=>omega
        case rel=>exact⟨i,c,rfl,rfl,hi,h1,by omega,Sm _,S2,HI,(fun t h3 h4=>(by
         have e1:ltOf cf d[mid+m-1-c]! d[c]! =true:=by rw [←HU.out,HX.out,HY.out];exact decide_eq_true hv
         by_cases e:t=c
         · rw [e];exact e1
         · cases e2:ltOf cf d[mid+m-1-t]! d[t]! with
           | true=>rfl
           | false =>
             have:=hO.ntrans _ _ _ (HR.out (mid+m-1-t) (mid+m-1-c) (by omega) (by omega) (by omega)) (hO.ntrans _ _ _ e2 (HL.out c t (by omega) (by omega) (by omega)))
             rw [e1] at this;cases this))⟩
      · skip
        have lx:=S1.out.ld R (by omega) P (u) (by omega)
        have ly:=S1.out.ld R (by omega) P (c) (by omega)
        rw [HX.out] at lx
        rw [HY.out] at ly
        have hc:=S1.out.cmp HC.out (by omega) x y
        have hd:decide (cf x y<0)=false:=decide_eq_false (by omega)
        go_wp2_with fail
        go_quiet_grown (first|(go_at_fn g;refine Sn (hc _ _)))
        have S2:Aside (SWK enc k w0 blk off d (grow (wr.drewN nq) osq)):=S1.out.grown nq osq
        clear lx ly hc
        generalize grow (wr.drewN nq) osq=w2 at S2 ⊢
        clear nq osq
        go_wp2
        go_roundg (j-(c+1))
        case measure=>omega
        case rel=>exact⟨c+1,j,by go_num,rfl,by omega,by omega,hjr,Sm _,S2,(fun t h3 h4=>(by
         have e1:ltOf cf d[mid+m-1-c]! d[c]! =false:=by rw [←HU.out,HX.out,HY.out];exact decide_eq_false (by omega)
         by_cases e:t=c
         · rw [e];exact e1
         · exact hO.ntrans _ _ _ (HR.out (mid+m-1-c) (mid+m-1-t) (by omega) (by omega) (by omega)) (hO.ntrans _ _ _ e1 (HL.out t c (by omega) (by omega) (by omega))))),HJ⟩
    · obtain rfl:i=j:=by omega
      obtain⟨fin,hf⟩:∃ fin:Nat,i+fin=mid+m:=⟨mid+m-i,by omega⟩
      have hfz:(mid:Int)+(m:Int)-(i:Int)=(fin:Int):=by omega
      obtain⟨hlo,hhi⟩:=kA.out i fin hi hjr hf HI.out HJ.out
      have vL:=h_ hlo
      have BB:=h_ hhi
      clear hlo hhi hlt
      obtain⟨hai,him,NU,kM⟩:a≤i∧i≤m∧m≤fin∧fin≤b:=by omega
      have hltz:¬ (i:Int)<(i:Int):=by omega
      rcases(show(m≤i∧m<mid)∨(m≤i∧mid≤m)∨(i<m∧fin≤m)∨(i<m∧m<fin∧a<i∧fin<b)∨(i<m∧m<fin∧a<i∧b≤fin)∨(i<m∧m<fin∧i≤a∧fin<b)∨(i<m∧m<fin∧i≤a∧b≤fin) by omega) with⟨g1,g2⟩|⟨g1,g2⟩|⟨g1,g2⟩|⟨g1,g2,g3,g4⟩|⟨g1,g2,g3,g4⟩|⟨g1,g2,g3,g4⟩|⟨g1,g2,g3,g4⟩
      · skip
        have k1:¬ (i:Int)<(m:Int):=by omega
        have k3:(a:Int)<(i:Int):=by omega
        have k4:(i:Int)<(mid:Int):=by omega
        have k5:¬ (mid:Int)<(fin:Int):=by omega
        obtain⟨d1,hd1⟩:∃ d1,d1=d:=⟨_,rfl⟩
        have hh:=halves hO d d1 a m b i fin mid (by omega) (by omega) (by omega) (by omega) (by omega) HL.out HR.out vL.out BB.out (fun t=>by rw [hd1,sh i m fin t (by omega) (by omega) (by omega)])
        obtain⟨w1,hw1⟩:∃ w1,w1=wr:=⟨_,rfl⟩
        have S2:Aside (SWK enc k w0 blk off d1 w1):=(by rw [hd1,hw1];exact S1.out)
        have Z1:=h_ (show d1.size=d.size by rw [hd1])
        have P1:Aside (PermIn a b d d1):=(by rw [hd1];exact Sp _ _ _)
        rw [←hw1]
        clear hd1 hw1
        have HH:=h_ hh
        clear hh
        have hcB:=IH.out a i mid d1 w1 (by rw [Z1.out];exact hs) S2.out (by omega) (by omega) (by omega) (by rw [Z1.out];omega) HH.out.1 HH.out.2.1
        rw [Z1.out] at hcB
        have oP:=h_ hcB
        clear hcB
        go_wp2_with fail
        refine oP.out.mono ?_
        rintro e w2 ⟨rfl,d2,z2,S3',p2',s2⟩
        have S3:Aside (SWK enc k w0 blk off d2 w2):=S3'
        have P2:Aside (PermIn a mid d1 d2):=p2'
        have Z2:=h_ (z2.trans Z1.out)
        have A2:Aside (SortedIn (ltOf cf) a mid d2):=s2
        clear z2 S3' p2' s2 oP
        have B1:Aside (SortedIn (ltOf cf) mid fin d2):=(fun p q h1 h2 h3=>by rw [P2.out.2.1 q (by omega),P2.out.2.1 p (by omega)];exact HH.out.2.2.1 p q h1 h2 h3)
        have B2:Aside (SortedIn (ltOf cf) fin b d2):=(fun p q h1 h2 h3=>by rw [P2.out.2.1 q (by omega),P2.out.2.1 p (by omega)];exact HH.out.2.2.2.1 p q h1 h2 h3)
        obtain⟨d3,hd3⟩:∃ d3,d3=d2:=⟨_,rfl⟩
        obtain⟨w3,hw3⟩:∃ w3,w3=w2:=⟨_,rfl⟩
        have S4:Aside (SWK enc k w0 blk off d3 w3):=(by rw [hd3,hw3];exact S3.out)
        have P3:Aside (PermIn mid b d2 d3):=(by rw [hd3];exact Sp _ _ _)
        have Z3:=h_ (show d3.size=d.size by rw [hd3];exact Z2.out)
        have A3:Aside (SortedIn (ltOf cf) mid b d3):=(by rw [hd3];first|exact SortedIn.part B1.out (by omega) (by omega)|exact SortedIn.part B2.out (by omega) (by omega))
        rw [←hw3]
        clear hd3 hw3
        have hM:=merged d1 d2 d3 a mid b (by omega) (by omega) (by rw [Z1.out];exact hb) HH.out.2.2.2.2 P2.out A2.out P3.out A3.out
        have HM:=h_ hM
        clear hM
        go_wp2
        (first|go_end0|((try simp only [Ss,Exit.then]);refine Sk (Sj rfl _ _ _) rfl ?_))
        exact HQ.out d3 _ Z3.out S4.out (Sq _ _ _ _ _ P1.out HM.out.1) HM.out.2
      · skip
        have k1:¬ (i:Int)<(m:Int):=by omega
        have k3:(a:Int)<(i:Int):=by omega
        have k4:¬ (i:Int)<(mid:Int):=by omega
        have k5:¬ (mid:Int)<(fin:Int):=by omega
        obtain⟨d1,hd1⟩:∃ d1,d1=d:=⟨_,rfl⟩
        have hh:=halves hO d d1 a m b i fin mid (by omega) (by omega) (by omega) (by omega) (by omega) HL.out HR.out vL.out BB.out (fun t=>by rw [hd1,sh i m fin t (by omega) (by omega) (by omega)])
        obtain⟨w1,hw1⟩:∃ w1,w1=wr:=⟨_,rfl⟩
        have S2:Aside (SWK enc k w0 blk off d1 w1):=(by rw [hd1,hw1];exact S1.out)
        have Z1:=h_ (show d1.size=d.size by rw [hd1])
        have P1:Aside (PermIn a b d d1):=(by rw [hd1];exact Sp _ _ _)
        rw [←hw1]
        clear hd1 hw1
        have HH:=h_ hh
        clear hh
        obtain⟨d2,hd2⟩:∃ d2,d2=d1:=⟨_,rfl⟩
        obtain⟨w2,hw2⟩:∃ w2,w2=w1:=⟨_,rfl⟩
        have S3:Aside (SWK enc k w0 blk off d2 w2):=(by rw [hd2,hw2];exact S2.out)
        have P2:Aside (PermIn a mid d1 d2):=(by rw [hd2];exact Sp _ _ _)
        have Z2:=h_ (show d2.size=d.size by rw [hd2];exact Z1.out)
        have A2:Aside (SortedIn (ltOf cf) a mid d2):=(by rw [hd2];first|exact SortedIn.part HH.out.2.1 (by omega) (by omega)|exact SortedIn.part HH.out.1 (by omega) (by omega))
        rw [←hw2]
        clear hd2 hw2
        have B1:Aside (SortedIn (ltOf cf) mid fin d2):=(fun p q h1 h2 h3=>by rw [P2.out.2.1 q (by omega),P2.out.2.1 p (by omega)];exact HH.out.2.2.1 p q h1 h2 h3)
        have B2:Aside (SortedIn (ltOf cf) fin b d2):=(fun p q h1 h2 h3=>by rw [P2.out.2.1 q (by omega),P2.out.2.1 p (by omega)];exact HH.out.2.2.2.1 p q h1 h2 h3)
        obtain⟨d3,hd3⟩:∃ d3,d3=d2:=⟨_,rfl⟩
        obtain⟨w3,hw3⟩:∃ w3,w3=w2:=⟨_,rfl⟩
        have S4:Aside (SWK enc k w0 blk off d3 w3):=(by rw [hd3,hw3];exact S3.out)
        have P3:Aside (PermIn mid b d2 d3):=(by rw [hd3];exact Sp _ _ _)
        have Z3:=h_ (show d3.size=d.size by rw [hd3];exact Z2.out)
        have A3:Aside (SortedIn (ltOf cf) mid b d3):=(by rw [hd3];first|exact SortedIn.part B1.out (by omega) (by omega)|exact SortedIn.part B2.out (by omega) (by omega))
        rw [←hw3]
        clear hd3 hw3
        have hM:=merged d1 d2 d3 a mid b (by omega) (by omega) (by rw [Z1.out];exact hb) HH.out.2.2.2.2 P2.out A2.out P3.out A3.out
        have HM:=h_ hM
        clear hM
        go_wp2
        (first|go_end0|((try simp only [Ss,Exit.then]);refine Sk (Sj rfl _ _ _) rfl ?_))
        exact HQ.out d3 _ Z3.out S4.out (Sq _ _ _ _ _ P1.out HM.out.1) HM.out.2
      · exfalso;omega
      · skip
        have k1:(i:Int)<(m:Int):=by omega
        have k2:(m:Int)<(fin:Int):=by omega
        have k3:(a:Int)<(i:Int):=by omega
        have k4:(i:Int)<(mid:Int):=by omega
        have k5:(mid:Int)<(fin:Int):=by omega
        have k6:(fin:Int)<(b:Int):=by omega
        have hcR:=h_ (yM.out i m fin wr S1.out (by omega) (by omega) (by omega))
        go_wp2_with fail
        refine hcR.out.mono ?_
        rintro e w1 ⟨rfl,d1,z1,S2',p1,q1⟩
        have hh:=halves hO d d1 a m b i fin mid (by omega) (by omega) (by omega) (by omega) (by omega) HL.out HR.out vL.out BB.out q1
        have S2:Aside (SWK enc k w0 blk off d1 w1):=S2'
        have Z1:=h_ z1
        have P1:Aside (PermIn a b d d1):=Sr _ _ i fin a b (by omega) (by omega) hb p1
        clear q1 z1 p1 S2' hcR
        have HH:=h_ hh
        clear hh
        have hcB:=IH.out a i mid d1 w1 (by rw [Z1.out];exact hs) S2.out (by omega) (by omega) (by omega) (by rw [Z1.out];omega) HH.out.1 HH.out.2.1
        rw [Z1.out] at hcB
        have oP:=h_ hcB
        clear hcB
        go_wp2_with fail
        refine oP.out.mono ?_
        rintro e w2 ⟨rfl,d2,z2,S3',p2',s2⟩
        have S3:Aside (SWK enc k w0 blk off d2 w2):=S3'
        have P2:Aside (PermIn a mid d1 d2):=p2'
        have Z2:=h_ (z2.trans Z1.out)
        have A2:Aside (SortedIn (ltOf cf) a mid d2):=s2
        clear z2 S3' p2' s2 oP
        have B1:Aside (SortedIn (ltOf cf) mid fin d2):=(fun p q h1 h2 h3=>by rw [P2.out.2.1 q (by omega),P2.out.2.1 p (by omega)];exact HH.out.2.2.1 p q h1 h2 h3)
        have B2:Aside (SortedIn (ltOf cf) fin b d2):=(fun p q h1 h2 h3=>by rw [P2.out.2.1 q (by omega),P2.out.2.1 p (by omega)];exact HH.out.2.2.2.1 p q h1 h2 h3)
        have hcC:=IH.out mid fin b d2 w2 (by rw [Z2.out];exact hs) S3.out (by omega) (by omega) (by omega) (by rw [Z2.out];omega) B1.out B2.out
        rw [Z2.out] at hcC
        have jc:=h_ hcC
        clear hcC
        go_wp2_with fail
        refine jc.out.mono ?_
        rintro e w3 ⟨rfl,d3,z3,S4',p3',s3⟩
        have S4:Aside (SWK enc k w0 blk off d3 w3):=S4'
        have P3:Aside (PermIn mid b d2 d3):=p3'
        have Z3:=h_ (z3.trans Z2.out)
        have A3:Aside (SortedIn (ltOf cf) mid b d3):=s3
        clear z3 S4' p3' s3 jc
        have hM:=merged d1 d2 d3 a mid b (by omega) (by omega) (by rw [Z1.out];exact hb) HH.out.2.2.2.2 P2.out A2.out P3.out A3.out
        have HM:=h_ hM
        clear hM
        go_wp2
        (first|go_end0|((try simp only [Ss,Exit.then]);refine Sk (Sj rfl _ _ _) rfl ?_))
        exact HQ.out d3 _ Z3.out S4.out (Sq _ _ _ _ _ P1.out HM.out.1) HM.out.2
      · exfalso;omega
      · skip
        have k1:(i:Int)<(m:Int):=by omega
        have k2:(m:Int)<(fin:Int):=by omega
        have k3:¬ (a:Int)<(i:Int):=by omega
        have k5:(mid:Int)<(fin:Int):=by omega
        have k6:(fin:Int)<(b:Int):=by omega
        have hcR:=h_ (yM.out i m fin wr S1.out (by omega) (by omega) (by omega))
        go_wp2_with fail
        refine hcR.out.mono ?_
        rintro e w1 ⟨rfl,d1,z1,S2',p1,q1⟩
        have hh:=halves hO d d1 a m b i fin mid (by omega) (by omega) (by omega) (by omega) (by omega) HL.out HR.out vL.out BB.out q1
        have S2:Aside (SWK enc k w0 blk off d1 w1):=S2'
        have Z1:=h_ z1
        have P1:Aside (PermIn a b d d1):=Sr _ _ i fin a b (by omega) (by omega) hb p1
        clear q1 z1 p1 S2' hcR
        have HH:=h_ hh
        clear hh
        obtain⟨d2,hd2⟩:∃ d2,d2=d1:=⟨_,rfl⟩
        obtain⟨w2,hw2⟩:∃ w2,w2=w1:=⟨_,rfl⟩
        have S3:Aside (SWK enc k w0 blk off d2 w2):=(by rw [hd2,hw2];exact S2.out)
        have P2:Aside (PermIn a mid d1 d2):=(by rw [hd2];exact Sp _ _ _)
        have Z2:=h_ (show d2.size=d.size by rw [hd2];exact Z1.out)
        have A2:Aside (SortedIn (ltOf cf) a mid d2):=(by rw [hd2];first|exact SortedIn.part HH.out.2.1 (by omega) (by omega)|exact SortedIn.part HH.out.1 (by omega) (by omega))
        rw [←hw2]
        clear hd2 hw2
        have B1:Aside (SortedIn (ltOf cf) mid fin d2):=(fun p q h1 h2 h3=>by rw [P2.out.2.1 q (by omega),P2.out.2.1 p (by omega)];exact HH.out.2.2.1 p q h1 h2 h3)
        have B2:Aside (SortedIn (ltOf cf) fin b d2):=(fun p q h1 h2 h3=>by rw [P2.out.2.1 q (by omega),P2.out.2.1 p (by omega)];exact HH.out.2.2.2.1 p q h1 h2 h3)
        have hcC:=IH.out mid fin b d2 w2 (by rw [Z2.out];exact hs) S3.out (by omega) (by omega) (by omega) (by rw [Z2.out];omega) B1.out B2.out
        rw [Z2.out] at hcC
        have jc:=h_ hcC
        clear hcC
        go_wp2_with fail
        refine jc.out.mono ?_
        rintro e w3 ⟨rfl,d3,z3,S4',p3',s3⟩
        have S4:Aside (SWK enc k w0 blk off d3 w3):=S4'
        have P3:Aside (PermIn mid b d2 d3):=p3'
        have Z3:=h_ (z3.trans Z2.out)
        have A3:Aside (SortedIn (ltOf cf) mid b d3):=s3
        clear z3 S4' p3' s3 jc
        have hM:=merged d1 d2 d3 a mid b (by omega) (by omega) (by rw [Z1.out];exact hb) HH.out.2.2.2.2 P2.out A2.out P3.out A3.out
        have HM:=h_ hM
        clear hM
        go_wp2
        (first|go_end0|((try simp only [Ss,Exit.then]);refine Sk (Sj rfl _ _ _) rfl ?_))
        exact HQ.out d3 _ Z3.out S4.out (Sq _ _ _ _ _ P1.out HM.out.1) HM.out.2
      · skip
        have k1:(i:Int)<(m:Int):=by omega
        have k2:(m:Int)<(fin:Int):=by omega
        have k3:¬ (a:Int)<(i:Int):=by omega
        have k5:(mid:Int)<(fin:Int):=by omega
        have k6:¬ (fin:Int)<(b:Int):=by omega
        have hcR:=h_ (yM.out i m fin wr S1.out (by omega) (by omega) (by omega))
        go_wp2_with fail
        refine hcR.out.mono ?_
        rintro e w1 ⟨rfl,d1,z1,S2',p1,q1⟩
        have hh:=halves hO d d1 a m b i fin mid (by omega) (by omega) (by omega) (by omega) (by omega) HL.out HR.out vL.out BB.out q1
        have S2:Aside (SWK enc k w0 blk off d1 w1):=S2'
        have Z1:=h_ z1
        have P1:Aside (PermIn a b d d1):=Sr _ _ i fin a b (by omega) (by omega) hb p1
        clear q1 z1 p1 S2' hcR
        have HH:=h_ hh
        clear hh
        obtain⟨d2,hd2⟩:∃ d2,d2=d1:=⟨_,rfl⟩
        obtain⟨w2,hw2⟩:∃ w2,w2=w1:=⟨_,rfl⟩
        have S3:Aside (SWK enc k w0 blk off d2 w2):=(by rw [hd2,hw2];exact S2.out)
        have P2:Aside (PermIn a mid d1 d2):=(by rw [hd2];exact Sp _ _ _)
        have Z2:=h_ (show d2.size=d.size by rw [hd2];exact Z1.out)
        have A2:Aside (SortedIn (ltOf cf) a mid d2):=(by rw [hd2];first|exact SortedIn.part HH.out.2.1 (by omega) (by omega)|exact SortedIn.part HH.out.1 (by omega) (by omega))
        rw [←hw2]
        clear hd2 hw2
        have B1:Aside (SortedIn (ltOf cf) mid fin d2):=(fun p q h1 h2 h3=>by rw [P2.out.2.1 q (by omega),P2.out.2.1 p (by omega)];exact HH.out.2.2.1 p q h1 h2 h3)
        have B2:Aside (SortedIn (ltOf cf) fin b d2):=(fun p q h1 h2 h3=>by rw [P2.out.2.1 q (by omega),P2.out.2.1 p (by omega)];exact HH.out.2.2.2.1 p q h1 h2 h3)
        obtain⟨d3,hd3⟩:∃ d3,d3=d2:=⟨_,rfl⟩
        obtain⟨w3,hw3⟩:∃ w3,w3=w2:=⟨_,rfl⟩
        have S4:Aside (SWK enc k w0 blk off d3 w3):=(by rw [hd3,hw3];exact S3.out)
        have P3:Aside (PermIn mid b d2 d3):=(by rw [hd3];exact Sp _ _ _)
        have Z3:=h_ (show d3.size=d.size by rw [hd3];exact Z2.out)
        have A3:Aside (SortedIn (ltOf cf) mid b d3):=(by rw [hd3];first|exact SortedIn.part B1.out (by omega) (by omega)|exact SortedIn.part B2.out (by omega) (by omega))
        rw [←hw3]
        clear hd3 hw3
        have hM:=merged d1 d2 d3 a mid b (by omega) (by omega) (by rw [Z1.out];exact hb) HH.out.2.2.2.2 P2.out A2.out P3.out A3.out
        have HM:=h_ hM
        clear hM
        go_wp2
        (first|go_end0|((try simp only [Ss,Exit.then]);refine Sk (Sj rfl _ _ _) rfl ?_))
        exact HQ.out d3 _ Z3.out S4.out (Sq _ _ _ _ _ P1.out HM.out.1) HM.out.2
theorem ob (L:qV P)(k:Nat)(aE:∀ w,(isAgg 72).run P w=.ok true w)(zE:∀ w,(Go.sizeOf 72).run P w=.ok k w)(enc:α→List Value)(cf:α→α→Int)(hO:SWO (ltOf cf))(g:Nat)(cb:Array Value)(blk off cap:Nat)(d0:Array α)(w0:Sl)
 (eg:∀ args w,(callFunc g args).run P w=.ok (.enter g args) w) (hcmp:CmpLays P g cb enc k cf blk off d0.size w0) (R:RowK enc k w0 blk off d0) (hsz:d0.size<4611686018427387904) :
 ∀ (N a m b:Nat) (d:Array α) (w:Sl),b-a<N→d0.size=d.size→SWK enc k w0 blk off d w→a<m→m<b→b≤d.size→SortedIn (ltOf cf) a m d→SortedIn (ltOf cf) m b d →
   Calls P 224 #[.slice (some ⟨blk,off,none⟩) d.size cap,.int .i64 a,.int .i64 m,.int .i64 b,.func (.func g) #[] cb] w (fh (ltOf cf) enc k w0 blk off d a b):=by
 intro N
 induction N with
 | zero=>intro a m b d w h;exact absurd h (Nat.not_lt_zero _)
 | succ N ih =>
   intro a m b d w hN hs S KT hmb hb hl hr
   by_cases h1:m=a+1
   · subst h1
     exact pN L k aE zE enc cf hO g cb blk off cap d0 d w0 w eg hcmp R hs S (by omega) a b hmb hb trivial hr
   · by_cases h2:b=m+1
     · subst h2
       exact oa L k aE zE enc cf hO g cb blk off cap d0 d w0 w eg hcmp R hs S (by omega) a m (by omega) hb hl trivial
     · exact pM L k aE zE enc cf hO g cb blk off cap d0 d w0 w eg hcmp R hs S (by omega) a m b (by omega) (by omega) hb hl hr fun a' m' b' dk W q1 q2 q3 q4 q5 q6 q7 q8=>ih a' m' b' dk W (by omega) q1 q2 q4 q5 q6 q7 q8
end Go.Proofs.YtjebaagkomejaaaGreatDoor
