/- slices.SortStableFunc's merge in place at events: symMerge. Lists of the call's own that grow by append, whose elements have memory of their own. -/
import Derived.Test.YtjebaagkomejaaaGreatDoorH02
set_option linter.unusedVariables false
set_option linter.unusedSimpArgs false
set_option maxRecDepth 100000
set_option maxHeartbeats 12800000
open Go.Lib renaming hid→h_
open Go renaming Value→Sh,World→Si,TypeId→Sj,TypeInfo→Sk
open Nat renaming le_refl→Sl,le_trans→Sm
open Go.Calls renaming grown_of→Sn
open Go.IntKind renaming wrap_i64→Sp,i64→Sq
open Go.Builtin renaming append_→Sr,firstCells→Ss,lenOf→St
namespace Go.Proofs.YtjebaagkomejaaaGreatDoor
open Go.Shelf Go.RowKit Go.Lib Go.Sort
variable {P:Program} {α:Type} [Inhabited α]
def fm (lt:α→α→Bool)(enc:α→List Sh)(k:Nat)(w0:Si)(blk off:Nat)(d:Array α)(a b:Nat)(e:Ending)(w':Si):Prop :=
 e=.returned (.tuple #[])∧∃ d',d'.size=d.size∧SWK enc k w0 blk off d' w'∧PermIn a b d d'∧SortedIn lt a b d'
theorem pE (L:qF P)(k:Nat)(aE:∀ w,(isAgg 72).run P w=.ok true w)(zE:∀ w,(Go.sizeOf 72).run P w=.ok k w)(enc:α→List Sh)(cf:α→α→Int)(hO:SWO (ltOf cf))(g:Nat)(cb:Array Sh)(blk off cap:Nat)(d0 d:Array α)(w0 w:Si)
 (eg:∀ args w,(callFunc g args).run P w=.ok (.enter g args) w) (hcmp:CmpLays P g cb enc k cf blk off d0.size w0) (R:RowK enc k w0 blk off d0) (hs:d0.size=d.size) (S:SWK enc k w0 blk off d w) (hsz:d.size<4611686018427387904) (a b:Nat) (hb1:a+1<b) (hb:b≤d.size) (hl:True) (hr:SortedIn (ltOf cf) (a+1) b d) :
 Calls P 224 #[.slice (some ⟨blk,off,none⟩) d.size cap,.int .i64 a,.int .i64 ((a:Int)+1),.int .i64 b,.func (.func g) #[] cb] w (fm (ltOf cf) enc k w0 blk off d a b):=by
 have mixed:=L.mixed;have t0:=L.t0;have a0:=L.a0;have z0:=L.z0;have v0:=L.v0;have t3:=L.t3;have a3:=L.a3;have z3:=L.z3;have v3:=L.v3;have t4:=L.t4;have a4:=L.a4;have z4:=L.z4;have v4:=L.v4;have t24:=L.t24;have a24:=L.a24;have z24:=L.z24;have v24:=L.v24;have t183:=L.t183;have a183:=L.a183;have z183:=L.z183;have v183:=L.v183;have t216:=L.t216;have a216:=L.a216;have z216:=L.z216;have v216:=L.v216
 have FG:=L.f224
 have HC:Aside _:=hcmp
 have S0:Aside (SWK enc k w0 blk off d w):=S
 have HL:=h_ hl
 have HR:=h_ hr
 clear S hcmp hl hr
 generalize hQ:fm (ltOf cf) enc k w0 blk off d a b=Q
 have HQ:=h_ (fun(dk:Array α) (W:Si) (h1:dk.size=d.size) (h2:SWK enc k w0 blk off dk W) (h3:PermIn a b d dk) (h4:SortedIn (ltOf cf) a b dk)=>show Q (.returned (.tuple #[])) W from hQ▸⟨rfl,dk,h1,h2,h3,h4⟩)
 clear hQ
 clear L
 have Mj:((a:Int)+1-(a:Int)==1)=true:=by simp;omega
 go_enter FG,Tryz.ntmps224
 go_wp2
 go_loopg [10,11] b (fun kx s10 s11 wr=>∃ i j:Nat,s10=.int .i64 i∧s11=.int .i64 j∧a+1≤i∧i≤j∧j≤b∧j-i≤kx∧Aside (SWK enc k w0 blk off d wr)∧Hid (∀ t,a+1≤t→t<i→ltOf cf d[t]! d[a]! =true)∧Hid (∀ t,j≤t→t<b→ltOf cf d[t]! d[a]! =false))
 case atStart=>exact⟨a+1,b,by go_num,rfl,Sl _,by omega,Sl _,by omega,S0,fun t h1 h2=>by omega,fun t h1 h2=>by omega⟩
 case round =>
  clear S0
  obtain⟨i,j,rfl,rfl,hi,hij,hjb,hkx,S1,HI,HJ⟩:=hrel
  by_cases hlt:i<j
  · have hltz:(i:Int)<(j:Int):=by omega
    obtain⟨h,hh⟩:∃ h:Nat,h=(i+j) / 2:=⟨_,rfl⟩
    have hhz:((i:Int)+(j:Int)) / 2=(h:Int):=by omega
    have h1:i≤h:=by omega
    have h2:h<j:=by omega
    have hhd:(h:Int)<(d.size:Int):=by omega
    have had:(a:Int)<(d.size:Int):=by omega
    clear hh
    obtain⟨x,hx⟩:∃ x,d[h]! =x:=⟨_,rfl⟩
    obtain⟨y,hy⟩:∃ y,d[a]! =y:=⟨_,rfl⟩
    have HX:=h_ hx
    have HY:=h_ hy
    clear hx hy
    by_cases hv:cf x y<0
    · skip
      have lx:=S1.out.ld R (by omega) P (h) (by omega)
      have ly:=S1.out.ld R (by omega) P (a) (by omega)
      rw [HX.out] at lx
      rw [HY.out] at ly
      have hc:=S1.out.cmp HC.out (by omega) x y
      have hd:decide (cf x y<0)=true:=decide_eq_true hv
      go_wp2_with fail
      go_quiet_grown (first|(go_at_fn g;refine Sn (hc _ _)))
      have S2:Aside (SWK enc k w0 blk off d (grow (wr.drewN nq) osq)):=S1.out.grown nq osq
      clear lx ly hc
      generalize grow (wr.drewN nq) osq=w2 at S2 ⊢
      clear nq osq
      go_wp2
      go_roundg (j-(h+1))
      case measure=>omega
      case rel=>exact⟨h+1,j,by go_num,rfl,by omega,by omega,hjb,Sl _,S2,(fun t h3 h4=>(by
       have e1:ltOf cf d[h]! d[a]! =true:=by rw [HX.out,HY.out];exact decide_eq_true hv
       by_cases e:t=h
       · rw [e];exact e1
       · cases e2:ltOf cf d[t]! d[a]! with
         | true=>rfl
         | false =>
           have:=hO.ntrans _ _ _ (HR.out t h h3 (by omega) (by omega)) e2
           rw [e1] at this;cases this)),HJ⟩
    · skip
      have lx:=S1.out.ld R (by omega) P (h) (by omega)
      have ly:=S1.out.ld R (by omega) P (a) (by omega)
      rw [HX.out] at lx
      rw [HY.out] at ly
      have hc:=S1.out.cmp HC.out (by omega) x y
      have hd:decide (cf x y<0)=false:=decide_eq_false (by omega)
      go_wp2_with fail
      go_quiet_grown (first|(go_at_fn g;refine Sn (hc _ _)))
      have S2:Aside (SWK enc k w0 blk off d (grow (wr.drewN nq) osq)):=S1.out.grown nq osq
      clear lx ly hc
      generalize grow (wr.drewN nq) osq=w2 at S2 ⊢
      clear nq osq
      go_wp2
      go_roundg (h-i)
      case measure=>omega
      case rel=>exact⟨i,h,rfl,rfl,hi,h1,by omega,Sl _,S2,HI,(fun t h3 h4=>(by
       have e1:ltOf cf d[h]! d[a]! =false:=by rw [HX.out,HY.out];exact decide_eq_false (by omega)
       by_cases e:t=h
       · rw [e];exact e1
       · exact hO.ntrans _ _ _ (HR.out h t (by omega) (by omega) h4) e1))⟩
  · obtain rfl:i=j:=by omega
    go_wp2
    go_loopg [13] b (fun kx s13 wr=>∃ (q:Nat) (dk:Array α),s13=.int .i64 q∧a≤q∧q+1≤i∧i-1-q≤kx∧dk.size=d.size∧Aside (SWK enc k w0 blk off dk wr)∧Hid (PermIn a b d dk)∧Hid (∀ t,dk[t]! =d[cw a (a+1) (q+1) t]!))
    case atStart=>exact⟨a,d,rfl,Sl _,hi,by omega,rfl,S1,permIn_refl _ _ _,fun t=>by rw [rN a (a+1) (a+1) t (.inr rfl) (by omega) (by omega)]⟩
    case round =>
     clear S1
     obtain⟨q,dk,rfl,haq,hqi,KS,hds,S1,HP,HT⟩:=hrel
     by_cases hlt2:q+1<i
     · have sv:(q:Int)<(i:Int)-1:=by omega
       have ea:((q:Int)).toNat=q:=by omega
       have pa:(0:Int)≤(q:Int):=by omega
       have ba:(q:Int)<(d.size:Int):=by omega
       have ra:Sq.wrap ((q:Int))=(q:Int):=by rw [Sp];omega
       have ec:((q:Int)+1).toNat=q+1:=by omega
       have pc:(0:Int)≤(q:Int)+1:=by omega
       have bc:(q:Int)+1<(d.size:Int):=by omega
       have rc:Sq.wrap ((q:Int)+1)=(q:Int)+1:=by rw [Sp];omega
       have S2:Aside (SWK enc k w0 blk off (swp dk (q) (q+1)) ((wr.drew.setCells blk (off+(q)*k) (enc dk[q+1]!)).setCells blk (off+(q+1)*k) (enc dk[q]!))):=S1.out.swapped R (q) (q+1) (by omega) (by omega)
       have la:=S1.out.ld1 R (by omega) P (q) (by omega)
       have lb:=S1.out.ld1 R (by omega) P (q+1) (by omega)
       have sa:=S1.out.st1 R (by omega) P (q) (by omega) dk[q+1]!
       have sb:=S1.out.st2 R (by omega) P (q) (q+1) (by omega) (by omega) dk[q+1]! dk[q]!
       have na:(enc dk[q]!).length=k:=R.hk _
       have nb:(enc dk[q+1]!).length=k:=R.hk _
       generalize enc dk[q]! =cI at S2 la sb na
       generalize enc dk[q+1]! =cJ at S2 lb sa sb nb
       clear S1
       go_wp2_with fail
       go_big_region_o
       clear la lb sa sb
       generalize (wr.drew.setCells blk (off+(q)*k) cJ).setCells blk (off+(q+1)*k) cI=w2 at S2 ⊢
       go_wp2
       go_roundg (i-1-(q+1))
       case measure=>omega
       case rel=>exact⟨q+1,swp dk q (q+1),by go_num,by omega,by omega,Sl _,by rw [size_swp];exact hds,S2,permIn_trans _ _ _ _ _ HP.out (swp_permIn _ _ _ _ _ (by omega) (by omega) (by omega) (by omega) (by omega)),DJ d dk a q haq (by omega) hds HT.out⟩
     · have sv:¬ (q:Int)<(i:Int)-1:=by omega
       go_wp2
       (first|go_end0|((try simp only [Exit.inBlock,Exit.then]);refine bodyPost_ret (results_none rfl _ _ _) rfl ?_))
       have hq:q+1=i:=by omega
       exact HQ.out dk _ hds S1.out HP.out (Gq hO d dk a i b hi hjb HR.out HI.out HJ.out (hq▸HT.out))
theorem nU (L:qF P)(k:Nat)(aE:∀ w,(isAgg 72).run P w=.ok true w)(zE:∀ w,(Go.sizeOf 72).run P w=.ok k w)(enc:α→List Sh)(cf:α→α→Int)(hO:SWO (ltOf cf))(g:Nat)(cb:Array Sh)(blk off cap:Nat)(d0 d:Array α)(w0 w:Si)
 (eg:∀ args w,(callFunc g args).run P w=.ok (.enter g args) w) (hcmp:CmpLays P g cb enc k cf blk off d0.size w0) (R:RowK enc k w0 blk off d0) (hs:d0.size=d.size) (S:SWK enc k w0 blk off d w) (hsz:d.size<4611686018427387904) (a m:Nat) (K8:a+1<m) (hb:m+1≤d.size) (hl:SortedIn (ltOf cf) a m d) (hr:True) :
 Calls P 224 #[.slice (some ⟨blk,off,none⟩) d.size cap,.int .i64 a,.int .i64 m,.int .i64 ((m:Int)+1),.func (.func g) #[] cb] w (fm (ltOf cf) enc k w0 blk off d a (m+1)):=by
 have mixed:=L.mixed;have t0:=L.t0;have a0:=L.a0;have z0:=L.z0;have v0:=L.v0;have t3:=L.t3;have a3:=L.a3;have z3:=L.z3;have v3:=L.v3;have t4:=L.t4;have a4:=L.a4;have z4:=L.z4;have v4:=L.v4;have t24:=L.t24;have a24:=L.a24;have z24:=L.z24;have v24:=L.v24;have t183:=L.t183;have a183:=L.a183;have z183:=L.z183;have v183:=L.v183;have t216:=L.t216;have a216:=L.a216;have z216:=L.z216;have v216:=L.v216
 have FG:=L.f224
 have HC:Aside _:=hcmp
 have S0:Aside (SWK enc k w0 blk off d w):=S
 have HL:=h_ hl
 have HR:=h_ hr
 clear S hcmp hl hr
 generalize hQ:fm (ltOf cf) enc k w0 blk off d a (m+1)=Q
 have HQ:=h_ (fun(dk:Array α) (W:Si) (h1:dk.size=d.size) (h2:SWK enc k w0 blk off dk W) (h3:PermIn a (m+1) d dk) (h4:SortedIn (ltOf cf) a (m+1) dk)=>show Q (.returned (.tuple #[])) W from hQ▸⟨rfl,dk,h1,h2,h3,h4⟩)
 clear hQ
 clear L
 have Mj:((m:Int)-(a:Int)==1)=false:=by simp;omega
 have JH:((m:Int)+1-(m:Int)==1)=true:=by simp;omega
 go_enter FG,Tryz.ntmps224
 go_wp2
 go_loopg [14,15] m (fun kx Kb s15 wr=>∃ i j:Nat,Kb=.int .i64 i∧s15=.int .i64 j∧a≤i∧i≤j∧j≤m∧j-i≤kx∧Aside (SWK enc k w0 blk off d wr)∧Hid (∀ t,a≤t→t<i→ltOf cf d[m]! d[t]! =false)∧Hid (∀ t,j≤t→t<m→ltOf cf d[m]! d[t]! =true))
 case atStart=>exact⟨a,m,rfl,rfl,Sl _,by omega,Sl _,by omega,S0,fun t h1 h2=>by omega,fun t h1 h2=>by omega⟩
 case round =>
  clear S0
  obtain⟨i,j,rfl,rfl,hi,hij,hjm,hkx,S1,HI,HJ⟩:=hrel
  by_cases hlt:i<j
  · have hltz:(i:Int)<(j:Int):=by omega
    obtain⟨h,hh⟩:∃ h:Nat,h=(i+j) / 2:=⟨_,rfl⟩
    have hhz:((i:Int)+(j:Int)) / 2=(h:Int):=by omega
    have h1:i≤h:=by omega
    have h2:h<j:=by omega
    have hhd:(h:Int)<(d.size:Int):=by omega
    have hmd:(m:Int)<(d.size:Int):=by omega
    clear hh
    obtain⟨x,hx⟩:∃ x,d[m]! =x:=⟨_,rfl⟩
    obtain⟨y,hy⟩:∃ y,d[h]! =y:=⟨_,rfl⟩
    have HX:=h_ hx
    have HY:=h_ hy
    clear hx hy
    by_cases hv:cf x y<0
    · skip
      have lx:=S1.out.ld R (by omega) P (m) (by omega)
      have ly:=S1.out.ld R (by omega) P (h) (by omega)
      rw [HX.out] at lx
      rw [HY.out] at ly
      have hc:=S1.out.cmp HC.out (by omega) x y
      have hd:decide (cf x y<0)=true:=decide_eq_true hv
      go_wp2_with fail
      go_quiet_grown (first|(go_at_fn g;refine Sn (hc _ _)))
      have S2:Aside (SWK enc k w0 blk off d (grow (wr.drewN nq) osq)):=S1.out.grown nq osq
      clear lx ly hc
      generalize grow (wr.drewN nq) osq=w2 at S2 ⊢
      clear nq osq
      go_wp2
      go_roundg (h-i)
      case measure=>omega
      case rel=>exact⟨i,h,rfl,rfl,hi,h1,by omega,Sl _,S2,HI,(fun t h3 h4=>(by
       have e1:ltOf cf d[m]! d[h]! =true:=by rw [HX.out,HY.out];exact decide_eq_true hv
       by_cases e:t=h
       · rw [e];exact e1
       · cases e2:ltOf cf d[m]! d[t]! with
         | true=>rfl
         | false =>
           have:=hO.ntrans _ _ _ e2 (HL.out h t (by omega) (by omega) h4)
           rw [e1] at this;cases this))⟩
    · skip
      have lx:=S1.out.ld R (by omega) P (m) (by omega)
      have ly:=S1.out.ld R (by omega) P (h) (by omega)
      rw [HX.out] at lx
      rw [HY.out] at ly
      have hc:=S1.out.cmp HC.out (by omega) x y
      have hd:decide (cf x y<0)=false:=decide_eq_false (by omega)
      go_wp2_with fail
      go_quiet_grown (first|(go_at_fn g;refine Sn (hc _ _)))
      have S2:Aside (SWK enc k w0 blk off d (grow (wr.drewN nq) osq)):=S1.out.grown nq osq
      clear lx ly hc
      generalize grow (wr.drewN nq) osq=w2 at S2 ⊢
      clear nq osq
      go_wp2
      go_roundg (j-(h+1))
      case measure=>omega
      case rel=>exact⟨h+1,j,by go_num,rfl,by omega,by omega,hjm,Sl _,S2,(fun t h3 h4=>(by
       have e1:ltOf cf d[m]! d[h]! =false:=by rw [HX.out,HY.out];exact decide_eq_false (by omega)
       by_cases e:t=h
       · rw [e];exact e1
       · exact hO.ntrans _ _ _ e1 (HL.out t h h3 (by omega) (by omega)))),HJ⟩
  · obtain rfl:i=j:=by omega
    go_wp2
    go_loopg [17] m (fun kx Nk wr=>∃ (q:Nat) (dk:Array α),Nk=.int .i64 q∧i≤q∧q≤m∧q-i≤kx∧dk.size=d.size∧Aside (SWK enc k w0 blk off dk wr)∧Hid (PermIn a (m+1) d dk)∧Hid (∀ t,dk[t]! =d[cw q m (m+1) t]!))
    case atStart=>exact⟨m,d,rfl,hjm,Sl _,by omega,rfl,S1,permIn_refl _ _ _,fun t=>by rw [rN m m (m+1) t (.inl rfl) (by omega) (by omega)]⟩
    case round =>
     clear S1
     obtain⟨q,dk,rfl,Pc,hqm,KS,hds,S1,HP,HT⟩:=hrel
     by_cases hlt2:i<q
     · have sv:(i:Int)<(q:Int):=by omega
       obtain⟨p,rfl⟩:∃ p,q=p+1:=⟨q-1,by omega⟩
       have rp:Sq.wrap (p:Int)=(p:Int):=by rw [Sp];omega
       have ea:((p:Int)+1).toNat=p+1:=by omega
       have pa:(0:Int)≤(p:Int)+1:=by omega
       have ba:(p:Int)+1<(d.size:Int):=by omega
       have ra:Sq.wrap ((p:Int)+1)=(p:Int)+1:=by rw [Sp];omega
       have ec:((p:Int)).toNat=p:=by omega
       have pc:(0:Int)≤(p:Int):=by omega
       have bc:(p:Int)<(d.size:Int):=by omega
       have rc:Sq.wrap ((p:Int))=(p:Int):=by rw [Sp];omega
       have S2:Aside (SWK enc k w0 blk off (swp dk (p+1) (p)) ((wr.drew.setCells blk (off+(p+1)*k) (enc dk[p]!)).setCells blk (off+(p)*k) (enc dk[p+1]!))):=S1.out.swapped R (p+1) (p) (by omega) (by omega)
       have la:=S1.out.ld1 R (by omega) P (p+1) (by omega)
       have lb:=S1.out.ld1 R (by omega) P (p) (by omega)
       have sa:=S1.out.st1 R (by omega) P (p+1) (by omega) dk[p]!
       have sb:=S1.out.st2 R (by omega) P (p+1) (p) (by omega) (by omega) dk[p]! dk[p+1]!
       have na:(enc dk[p+1]!).length=k:=R.hk _
       have nb:(enc dk[p]!).length=k:=R.hk _
       generalize enc dk[p+1]! =cI at S2 la sb na
       generalize enc dk[p]! =cJ at S2 lb sa sb nb
       clear S1
       go_wp2_with fail
       go_big_region_o
       clear la lb sa sb
       generalize (wr.drew.setCells blk (off+(p+1)*k) cJ).setCells blk (off+(p)*k) cI=w2 at S2 ⊢
       go_wp2
       go_roundg (p-i)
       case measure=>omega
       case rel=>exact⟨p,swp dk (p+1) p,by first|rfl|go_num,by omega,by omega,Sl _,by rw [size_swp];exact hds,S2,permIn_trans _ _ _ _ _ HP.out (swp_permIn _ _ _ _ _ (by omega) (by omega) (by omega) (by omega) (by omega)),AS d dk m p (by omega) (by omega) hds HT.out⟩
     · have sv:¬ (i:Int)<(q:Int):=by omega
       go_wp2
       (first|go_end0|((try simp only [Exit.inBlock,Exit.then]);refine bodyPost_ret (results_none rfl _ _ _) rfl ?_))
       have hq:q=i:=by omega
       exact HQ.out dk _ hds S1.out HP.out (Cc hO d dk a i m hi hjm HL.out HI.out HJ.out (hq▸HT.out))
end Go.Proofs.YtjebaagkomejaaaGreatDoor
namespace Go.Proofs.YtjebaagkomejaaaGreatDoor
open Go.RowKit
theorem fi {P:Program} (w:Si)(cs:Array Sh) {ops:Array Oper} {rest:List Oper} {o:Oper} {a:Act} {Q:Exit→Act→Si→Prop} (hgd:o.guard=none)(s x:Operand)(t:Sj)
 (ho:o.op=.call { callee:=.builtin .append,args:=#[s,x],argTypes:=#[t,t] })
 (base:Nat) (e:Sj) (i:Sk) (z:Sh) (size bytes:Nat) (ht:P.underlying t=some (.slice e)) (hi:P.info? e=some i) (hz:i.zero=some z)
 (hsize:i.size=size) (hby:i.bytes=bytes) (hzs:z.cells.size=size) (hsz:0<size)
 (v:Sh) (n:Nat) (xs:List Sh) (hs:a.eval s=v) (hown:w.ownsRow base e size v n xs) (g:Nat) (hx:a.eval x=.slice (some ⟨g,0,none⟩) 1 1) (hg:g=w.heap.size)
 (hcs:cs.size=size) (h1:∀ u∈cs.toList,u.oneCell'=true) (h63:n+1≤maxLen) (hbytes:(n+1)*bytes≤140737488355328) (hbase:base≤w.heap.size)
 (h:∀ v' w2,w2.ownsRow base e size v' (n+1) (xs++cs.toList)→(w.alloc (.cells cs e)).grownBy w2 v.ownBlock→(v'.ownBlock=v.ownBlock∨v'.ownBlock=some (w.heap.size+1))→wpList P ops Q rest (a.put o.dst v') w2):wpList P ops Q (o::rest) a (w.alloc (.cells cs e)):=by
 subst hg
 refine wpList_append_own_at _ hgd s x t ho base e i z size bytes ht hi hz hsize hby hzs hsz v n xs hs (hown.alloc _) ⟨w.heap.size,0,none⟩ 1 1 cs.toList hx (by simpa using hcs) (ny w cs e) h1 h63 hbytes (by simp;omega) ?_
 intro v' w2 h2 h3 _ h4
 refine h v' w2 h2 h3 ?_
 simpa using h4
section
variable {P:Program} {α:Type} {enc:α→List Sh} {Ok:Si→α→Prop} (w:Si)
theorem lU (base:Nat)(t ty e:Sj)(i:Sk)(z:Sh)(size bytes:Nat)(ht:P.underlying t=some (.slice e))(hi:P.info? e=some i)(hz:i.zero=some z)
 (hsize:i.size=size) (hby:i.bytes=bytes) (hzs:z.cells.size=size) (hsz:0<size) (hk:∀ x,(enc x).length=size) (h1:∀ x,∀ v∈enc x,v.oneCell'=true)
 (v:Sh) (n:Nat) (xs:List Sh) (hown:w.ownsRow base e size v n xs) (A:Option Addr) (c:Nat) (ys:List α) (hS:ah size enc Ok w A ys)
 (h63:n+ys.length≤maxLen) (hbytes:(n+ys.length)*bytes≤140737488355328) (hbase:base≤w.heap.size) :
 ∃ v' w',(Sr #[t,t] ty #[v,.slice A ys.length c]).run P w=.ok v' w'∧w'.ownsRow base e size v' (n+ys.length) (xs++ys.flatMap enc)∧w.grownBy w' v.ownBlock∧(v'.ownBlock=v.ownBlock∨v'.ownBlock=some w.heap.size):=by
 rcases A with _|ad
 · have hm:ys=[]:=by
    rcases hS with h|⟨_,_,h,_⟩
    · exact h
    · cases h
   subst hm
   refine⟨v,w,?_,by simpa using hown,⟨rfl,rfl,rfl,Sl _,fun _ _ _=>rfl⟩,.inl rfl⟩
   rcases hown.2 with⟨rfl,rfl⟩|⟨g,cap,cur,rfl,_,_,hnc,_⟩
   · simp [Sr,run_underlying ht,sizeOf,typeInfo,hi,St,Ss]
   · simp [Sr,run_underlying ht,sizeOf,typeInfo,hi,St,Ss,hnc,storeCells]
 · have hcells:∀ j u,(ys.flatMap enc)[j]? =some u→w.cell? (ad.add j)=some u:=by
    intro j u hu
    rcases hS with h|⟨b,off,h,hlt,hc⟩
    · subst h
      simp at hu
    · obtain rfl:=Option.some.inj h
      have h':=fG (Ok:=Ok) hk (.inr ⟨b,off,rfl,hlt,hc⟩) j u hu
      simp only [Addr.add]
      split
      · rename_i h0
        have h0:j=0:=by simpa using h0
        subst h0
        simpa using h'
      · exact h'
   obtain⟨v',w',hrun,h2,h3,_,h5⟩:=run_append_own_at (P:=P) w base t ty e i z size bytes ht hi hz hsize hby hzs hsz v n xs hown ad ys.length c (ys.flatMap enc) (bE enc size hk ys) hcells (ek h1 ys) h63 hbytes hbase
   exact⟨v',w',hrun,h2,h3,h5⟩
theorem iR {o:Oper} {a:Act} {K:Act→Si→Prop} {Q:Exit→Act→Si→Prop} (s x:Operand)(t:Sj)
 (ho:o.op=.call { callee:=.builtin .append,args:=#[s,x],argTypes:=#[t,t] })
 (base:Nat) (e:Sj) (i:Sk) (z:Sh) (size bytes:Nat) (ht:P.underlying t=some (.slice e)) (hi:P.info? e=some i) (hz:i.zero=some z)
 (hsize:i.size=size) (hby:i.bytes=bytes) (hzs:z.cells.size=size) (hsz:0<size) (hk:∀ x,(enc x).length=size) (h1:∀ x,∀ v∈enc x,v.oneCell'=true)
 (v:Sh) (n:Nat) (xs:List Sh) (hs:a.eval s=v) (hown:w.ownsRow base e size v n xs) (A:Option Addr) (c:Nat) (ys:List α) (hx:a.eval x=.slice A ys.length c) (hS:ah size enc Ok w A ys)
 (h63:n+ys.length≤maxLen) (hbytes:(n+ys.length)*bytes≤140737488355328) (hbase:base≤w.heap.size)
 (h:∀ v' w',w'.ownsRow base e size v' (n+ys.length) (xs++ys.flatMap enc)→w.grownBy w' v.ownBlock→(v'.ownBlock=v.ownBlock∨v'.ownBlock=some w.heap.size)→K (a.put o.dst v') w'):o.wp P a w K Q:=by
 obtain⟨v',w',hrun,h2,h3,h4⟩:=lU (P:=P) (enc:=enc) (Ok:=Ok) w base t o.type e i z size bytes ht hi hz hsize hby hzs hsz hk h1 v n xs hown A c ys hS h63 hbytes hbase
 unfold Oper.wp execOp
 simp only [ho,resolve,invoke,builtin,Sem.run_bind,Sem.run_pure,Result.andThen_ok,List.map_toArray,List.map_cons,List.map_nil,hs,hx,hrun]
 exact h v' w' h2 h3 h4
theorem aI {ops:Array Oper} {rest:List Oper} {o:Oper} {a:Act} {Q:Exit→Act→Si→Prop} (hgd:o.guard=none)(s x:Operand)(t:Sj)
 (ho:o.op=.call { callee:=.builtin .append,args:=#[s,x],argTypes:=#[t,t] })
 (base:Nat) (e:Sj) (i:Sk) (z:Sh) (size bytes:Nat) (ht:P.underlying t=some (.slice e)) (hi:P.info? e=some i) (hz:i.zero=some z)
 (hsize:i.size=size) (hby:i.bytes=bytes) (hzs:z.cells.size=size) (hsz:0<size) (hk:∀ x,(enc x).length=size) (h1:∀ x,∀ v∈enc x,v.oneCell'=true)
 (v:Sh) (n:Nat) (xs:List Sh) (hs:a.eval s=v) (hown:w.ownsRow base e size v n xs) (A:Option Addr) (c:Nat) (ys:List α) (hx:a.eval x=.slice A ys.length c) (hS:ah size enc Ok w A ys)
 (h63:n+ys.length≤maxLen) (hbytes:(n+ys.length)*bytes≤140737488355328) (hbase:base≤w.heap.size)
 (h:∀ v' w',w'.ownsRow base e size v' (n+ys.length) (xs++ys.flatMap enc)→w.grownBy w' v.ownBlock→(v'.ownBlock=v.ownBlock∨v'.ownBlock=some w.heap.size)→wpList P ops Q rest (a.put o.dst v') w'):wpList P ops Q (o::rest) a w :=
 wpList_plain hgd fun _ hK=>iR (enc:=enc) (Ok:=Ok) w s x t ho base e i z size bytes ht hi hz hsize hby hzs hsz hk h1 v n xs hs hown A c ys hx hS h63 hbytes hbase fun v' w' h2 h3 h4=>hK _ _ (h v' w' h2 h3 h4)
end
structure Deep {α:Type} (lies:Si→α→Prop)(uses:α→Nat→Prop):Prop where
 frame:∀ x w w',lies w x→w.heap.size≤w'.heap.size→(∀ b,uses x b→w'.heap[b]? =w.heap[b]?)→lies w' x
 lt:∀ x w b,lies w x→uses x b→b<w.heap.size
def jg {α:Type} (T k:Nat)(enc:α→List Sh)(lies:Si→α→Prop)(uses:α→Nat→Prop)(B:Nat)(W0:Si)(v:Sh)(zs:List α)(wr:Si):Prop :=
 wr.ownsRow B T k v zs.length (zs.flatMap enc)∧(∀ z∈zs,lies wr z∧(∀ b,uses z b→v.ownBlock≠some b∧B≤b))∧Below B W0 wr
theorem jg.start {α:Type} {T k:Nat} {enc:α→List Sh} {lies:Si→α→Prop} {uses:α→Nat→Prop} {B:Nat} {W0 wr:Si} (hb:Below B W0 wr):jg T k enc lies uses B W0 (.slice none 0 0) [] wr :=
 ⟨Si.ownsRow_nil _ _ _ _,fun z hz=>by simp at hz,hb⟩
theorem jg.later {α:Type} {T k:Nat} {enc:α→List Sh} {lies:Si→α→Prop} {uses:α→Nat→Prop} (hD:Deep lies uses) {B:Nat} {W0 wr w1:Si} {v:Sh} {zs:List α} (h:jg T k enc lies uses B W0 v zs wr)(hB:B≤W0.heap.size)(hb:Below wr.heap.size wr w1):jg T k enc lies uses B W0 v zs w1:=by
 obtain⟨h1,h2,h3⟩:=h
 exact⟨aJ h1 hb,fun z hz=>⟨hD.frame z wr w1 (h2 z hz).1 hb.size (fun b hu=>hb.block b (hD.lt z wr b (h2 z hz).1 hu)),(h2 z hz).2⟩,h3.trans (hb.mono (Sm hB h3.size))⟩
theorem jg.push {α:Type} {T k:Nat} {enc:α→List Sh} {lies:Si→α→Prop} {uses:α→Nat→Prop} (hD:Deep lies uses) {B:Nat} {W0 w1 w2:Si} {v v':Sh} {zs:List α} {y:α} {cs:Array Sh} (h:jg T k enc lies uses B W0 v zs w1)(hB:B≤W0.heap.size)
 (hcs:cs.toList=enc y) (hown:w2.ownsRow B T k v' (zs.length+1) (zs.flatMap enc++cs.toList)) (hg:(w1.alloc (.cells cs T)).grownBy w2 v.ownBlock) (hat:v'.ownBlock=v.ownBlock∨v'.ownBlock=some (w1.heap.size+1))
 (hy:lies w1 y) (hyu:∀ b,uses y b→v.ownBlock≠some b∧B≤b):jg T k enc lies uses B W0 v' (zs++[y]) w2:=by
 obtain⟨h1,h2,h3⟩:=h
 have hsz:w1.heap.size+1≤w2.heap.size:=by
  have:=hg.size
  simpa using this
 have hblk:∀ b,b<w1.heap.size→v.ownBlock≠some b→w2.heap[b]? =w1.heap[b]?:=fun b hb hne=>by
  rw [hg.block b (by simp;omega) (fun e=>hne e.symm)]
  exact Below.heap_alloc w1 _ b hb
 have hne':∀ b,b<w1.heap.size→v.ownBlock≠some b→v'.ownBlock≠some b:=fun b hb hne e=>by
  rcases hat with e'|e'
  · exact hne (e'▸e)
  · rw [e'] at e
    simp only [Option.some.injEq] at e
    omega
 refine⟨?_,fun z hz=>?_,?_⟩
 · rw [List.length_append,List.flatMap_append]
   simp only [List.length_cons,List.length_nil,List.flatMap_cons,List.flatMap_nil,List.append_nil,←hcs]
   exact hown
 · rcases List.mem_append.1 hz with hz|hz
   · have hl:=(h2 z hz).1
     exact⟨hD.frame z w1 w2 hl (by omega) (fun b hu=>hblk b (hD.lt z w1 b hl hu) ((h2 z hz).2 b hu).1),fun b hu=>⟨hne' b (hD.lt z w1 b hl hu) ((h2 z hz).2 b hu).1,((h2 z hz).2 b hu).2⟩⟩
   · obtain rfl:z=y:=by simpa using hz
     exact⟨hD.frame z w1 w2 hy (by omega) (fun b hu=>hblk b (hD.lt z w1 b hy hu) (hyu b hu).1),fun b hu=>⟨hne' b (hD.lt z w1 b hy hu) (hyu b hu).1,(hyu b hu).2⟩⟩
 · have hB1:B≤w1.heap.size:=Sm hB h3.size
   exact(h3.alloc hB1 _).grown hg (by simp;omega) (fun j hj=>(h1.lt j hj).1)
theorem jg.slice {α:Type} {T k:Nat} {enc:α→List Sh} {lies:Si→α→Prop} {uses:α→Nat→Prop} (hk:∀ x,(enc x).length=k) {B:Nat} {W0 wr:Si} {v:Sh} {zs:List α} (h:jg T k enc lies uses B W0 v zs wr):∃ a cap,v=.slice a zs.length cap∧ah k enc lies wr a zs :=
 aA hk h.1 fun z hz=>(h.2.1 z hz).1
end Go.Proofs.YtjebaagkomejaaaGreatDoor
