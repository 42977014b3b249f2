/- slices.SortStableFunc's merge in place at events: symMerge. The contracts of charset.Valid and charset.Len: what they return for any string. -/
import Derived.Lib.SmallJoins
import Derived.Test.YtjebaagkomejaaaGreatDoorK01
import Derived.Test.YtjebaagkomejaaaGreatDoorK00
set_option linter.unusedVariables false
set_option linter.unusedSimpArgs false
set_option maxRecDepth 100000
set_option maxHeartbeats 12800000
open Go.Lib renaming hid→h_
open Go renaming World→Sj,Value→Sk,Calls→Sl,bodyPost_ret→Sm,heap_alloc_last→Sn,info_parts→Sp,TypeId→Sq
open Nat renaming le_refl→Sr,add_zero→Ss,lt_of_lt_of_le→St,succ_mul→Su,mul_comm→Sv,le_trans→Sw,mul_one→Sx
open Go.Calls renaming grown_of→Sy
open Go.IntKind renaming wrap_i64→Sz,i64→SA
open Go.Lib renaming cell_of_heap→SB,validD→SC,runeCountFrom→SD,iterAt_size→SF,runeCount→SG,IsBuilder→SH,BuilderAt→SI,strCells→SJ
open List renaming getElem?_eq_some_iff→SK,drop_eq_getElem_cons→SL,getElem?_eq_getElem→SM,flatMap_cons→SN,drop_length→SO,eq_nil_of_length_eq_zero→SQ,drop_zero→SR,mem_of_getElem?→SS,length_cons→SU
open Go.Utf8 renaming decode→SV
open Go.RowKit.Below renaming refl→SW
open Array renaming getElem?_eq_some_iff→SX
open Go.Value renaming string→SY
open Go.World renaming size_alloc→SZ,ownsRow_nil→S5
namespace Go.Proofs.YtjebaagkomejaaaGreatDoor
open Go.Shelf Go.RowKit Go.Lib Go.Sort
variable {P:Program} {α:Type} [Inhabited α]
def fh (lt:α→α→Bool)(enc:α→List Sk)(k:Nat)(w0:Sj)(blk off:Nat)(d:Array α)(a b:Nat)(e:Ending)(w':Sj):Prop :=
 e=.returned (.tuple #[])∧∃ d',d'.size=d.size∧SWK enc k w0 blk off d' w'∧PermIn a b d d'∧SortedIn lt a b d'
theorem pN (L:qV P)(k:Nat)(aE:∀ w,(isAgg 72).run P w=.ok true w)(zE:∀ w,(Go.sizeOf 72).run P w=.ok k w)(enc:α→List Sk)(cf:α→α→Int)(hO:SWO (ltOf cf))(g:Nat)(cb:Array Sk)(blk off cap:Nat)(d0 d:Array α)(w0 w:Sj)
 (eg:∀ args w,(callFunc g args).run P w=.ok (.enter g args) w) (hcmp:CmpLays P g cb enc k cf blk off d0.size w0) (R:RowK enc k w0 blk off d0) (hs:d0.size=d.size) (S:SWK enc k w0 blk off d w) (hsz:d.size<4611686018427387904) (a b:Nat) (hb1:a+1<b) (hb:b≤d.size) (hl:True) (hr:SortedIn (ltOf cf) (a+1) b d) :
 Sl P 224 #[.slice (some ⟨blk,off,none⟩) d.size cap,.int .i64 a,.int .i64 ((a:Int)+1),.int .i64 b,.func (.func g) #[] cb] w (fh (ltOf cf) enc k w0 blk off d a b):=by
 have mixed:=L.mixed;have t0:=L.t0;have a0:=L.a0;have z0:=L.z0;have v0:=L.v0;have t3:=L.t3;have a3:=L.a3;have z3:=L.z3;have v3:=L.v3;have t4:=L.t4;have a4:=L.a4;have z4:=L.z4;have v4:=L.v4;have t24:=L.t24;have a24:=L.a24;have z24:=L.z24;have v24:=L.v24;have t183:=L.t183;have a183:=L.a183;have z183:=L.z183;have v183:=L.v183;have t216:=L.t216;have a216:=L.a216;have z216:=L.z216;have v216:=L.v216
 have FG:=L.f224
 have HC:Aside _:=hcmp
 have S0:Aside (SWK enc k w0 blk off d w):=S
 have HL:=h_ hl
 have HR:=h_ hr
 clear S hcmp hl hr
 generalize hQ:fh (ltOf cf) enc k w0 blk off d a b=Q
 have HQ:=h_ (fun(dk:Array α) (W:Sj) (h1:dk.size=d.size) (h2:SWK enc k w0 blk off dk W) (h3:PermIn a b d dk) (h4:SortedIn (ltOf cf) a b dk)=>show Q (.returned (.tuple #[])) W from hQ▸⟨rfl,dk,h1,h2,h3,h4⟩)
 clear hQ
 clear L
 have L8:((a:Int)+1-(a:Int)==1)=true:=by simp;omega
 go_enter FG,Tryz.ntmps224
 go_wp2
 go_loopg [10,11] b (fun kx s10 s11 wr=>∃ i j:Nat,s10=.int .i64 i∧s11=.int .i64 j∧a+1≤i∧i≤j∧j≤b∧j-i≤kx∧Aside (SWK enc k w0 blk off d wr)∧Hid (∀ t,a+1≤t→t<i→ltOf cf d[t]! d[a]! =true)∧Hid (∀ t,j≤t→t<b→ltOf cf d[t]! d[a]! =false))
 case atStart=>exact⟨a+1,b,by go_num,rfl,Sr _,by omega,Sr _,by omega,S0,fun t h1 h2=>by omega,fun t h1 h2=>by omega⟩
 case round =>
  clear S0
  obtain⟨i,j,rfl,rfl,hi,hij,hjb,hkx,S1,HI,HJ⟩:=hrel
  by_cases hlt:i<j
  · have hltz:(i:Int)<(j:Int):=by omega
    obtain⟨h,hh⟩:∃ h:Nat,h=(i+j) / 2:=⟨_,rfl⟩
    have hhz:((i:Int)+(j:Int)) / 2=(h:Int):=by omega
    have h1:i≤h:=by omega
    have h2:h<j:=by omega
    have hhd:(h:Int)<(d.size:Int):=by omega
    have had:(a:Int)<(d.size:Int):=by omega
    clear hh
    obtain⟨x,hx⟩:∃ x,d[h]! =x:=⟨_,rfl⟩
    obtain⟨y,hy⟩:∃ y,d[a]! =y:=⟨_,rfl⟩
    have HX:=h_ hx
    have HY:=h_ hy
    clear hx hy
    by_cases hv:cf x y<0
    · skip
      have lx:=S1.out.ld R (by omega) P (h) (by omega)
      have ly:=S1.out.ld R (by omega) P (a) (by omega)
      rw [HX.out] at lx
      rw [HY.out] at ly
      have hc:=S1.out.cmp HC.out (by omega) x y
      have hd:decide (cf x y<0)=true:=decide_eq_true hv
      go_wp2_with fail
      go_quiet_grown (first|(go_at_fn g;refine Sy (hc _ _)))
      have S2:Aside (SWK enc k w0 blk off d (grow (wr.drewN nq) osq)):=S1.out.grown nq osq
      clear lx ly hc
      generalize grow (wr.drewN nq) osq=w2 at S2 ⊢
      clear nq osq
      go_wp2
      go_roundg (j-(h+1))
      case measure=>omega
      case rel=>exact⟨h+1,j,by go_num,rfl,by omega,by omega,hjb,Sr _,S2,(fun t h3 h4=>(by
       have e1:ltOf cf d[h]! d[a]! =true:=by rw [HX.out,HY.out];exact decide_eq_true hv
       by_cases e:t=h
       · rw [e];exact e1
       · cases e2:ltOf cf d[t]! d[a]! with
         | true=>rfl
         | false =>
           have:=hO.ntrans _ _ _ (HR.out t h h3 (by omega) (by omega)) e2
           rw [e1] at this;cases this)),HJ⟩
    · skip
      have lx:=S1.out.ld R (by omega) P (h) (by omega)
      have ly:=S1.out.ld R (by omega) P (a) (by omega)
      rw [HX.out] at lx
      rw [HY.out] at ly
      have hc:=S1.out.cmp HC.out (by omega) x y
      have hd:decide (cf x y<0)=false:=decide_eq_false (by omega)
      go_wp2_with fail
      go_quiet_grown (first|(go_at_fn g;refine Sy (hc _ _)))
      have S2:Aside (SWK enc k w0 blk off d (grow (wr.drewN nq) osq)):=S1.out.grown nq osq
      clear lx ly hc
      generalize grow (wr.drewN nq) osq=w2 at S2 ⊢
      clear nq osq
      go_wp2
      go_roundg (h-i)
      case measure=>omega
      case rel=>exact⟨i,h,rfl,rfl,hi,h1,by omega,Sr _,S2,HI,(fun t h3 h4=>(by
       have e1:ltOf cf d[h]! d[a]! =false:=by rw [HX.out,HY.out];exact decide_eq_false (by omega)
       by_cases e:t=h
       · rw [e];exact e1
       · exact hO.ntrans _ _ _ (HR.out h t (by omega) (by omega) h4) e1))⟩
  · obtain rfl:i=j:=by omega
    go_wp2
    go_loopg [13] b (fun kx s13 wr=>∃ (q:Nat) (dk:Array α),s13=.int .i64 q∧a≤q∧q+1≤i∧i-1-q≤kx∧dk.size=d.size∧Aside (SWK enc k w0 blk off dk wr)∧Hid (PermIn a b d dk)∧Hid (∀ t,dk[t]! =d[cD a (a+1) (q+1) t]!))
    case atStart=>exact⟨a,d,rfl,Sr _,hi,by omega,rfl,S1,permIn_refl _ _ _,fun t=>by rw [sh a (a+1) (a+1) t (.inr rfl) (by omega) (by omega)]⟩
    case round =>
     clear S1
     obtain⟨q,dk,rfl,haq,hqi,KC,hds,S1,HP,HT⟩:=hrel
     by_cases hlt2:q+1<i
     · have sM:(q:Int)<(i:Int)-1:=by omega
       have ea:((q:Int)).toNat=q:=by omega
       have pa:(0:Int)≤(q:Int):=by omega
       have ba:(q:Int)<(d.size:Int):=by omega
       have ra:SA.wrap ((q:Int))=(q:Int):=by rw [Sz];omega
       have ec:((q:Int)+1).toNat=q+1:=by omega
       have pc:(0:Int)≤(q:Int)+1:=by omega
       have bc:(q:Int)+1<(d.size:Int):=by omega
       have rc:SA.wrap ((q:Int)+1)=(q:Int)+1:=by rw [Sz];omega
       have S2:Aside (SWK enc k w0 blk off (swp dk (q) (q+1)) ((wr.drew.setCells blk (off+(q)*k) (enc dk[q+1]!)).setCells blk (off+(q+1)*k) (enc dk[q]!))):=S1.out.swapped R (q) (q+1) (by omega) (by omega)
       have la:=S1.out.ld1 R (by omega) P (q) (by omega)
       have lb:=S1.out.ld1 R (by omega) P (q+1) (by omega)
       have sa:=S1.out.st1 R (by omega) P (q) (by omega) dk[q+1]!
       have sb:=S1.out.st2 R (by omega) P (q) (q+1) (by omega) (by omega) dk[q+1]! dk[q]!
       have na:(enc dk[q]!).length=k:=R.hk _
       have nb:(enc dk[q+1]!).length=k:=R.hk _
       generalize enc dk[q]! =cI at S2 la sb na
       generalize enc dk[q+1]! =cJ at S2 lb sa sb nb
       clear S1
       go_wp2_with fail
       go_big_region_o
       clear la lb sa sb
       generalize (wr.drew.setCells blk (off+(q)*k) cJ).setCells blk (off+(q+1)*k) cI=w2 at S2 ⊢
       go_wp2
       go_roundg (i-1-(q+1))
       case measure=>omega
       case rel=>exact⟨q+1,swp dk q (q+1),by go_num,by omega,by omega,Sr _,by rw [size_swp];exact hds,S2,permIn_trans _ _ _ _ _ HP.out (swp_permIn _ _ _ _ _ (by omega) (by omega) (by omega) (by omega) (by omega)),DO d dk a q haq (by omega) hds HT.out⟩
     · have sM:¬ (q:Int)<(i:Int)-1:=by omega
       go_wp2
       (first|go_end0|((try simp only [Exit.inBlock,Exit.then]);refine Sm (results_none rfl _ _ _) rfl ?_))
       have hq:q+1=i:=by omega
       exact HQ.out dk _ hds S1.out HP.out (Gw hO d dk a i b hi hjb HR.out HI.out HJ.out (hq▸HT.out))
theorem oa (L:qV P)(k:Nat)(aE:∀ w,(isAgg 72).run P w=.ok true w)(zE:∀ w,(Go.sizeOf 72).run P w=.ok k w)(enc:α→List Sk)(cf:α→α→Int)(hO:SWO (ltOf cf))(g:Nat)(cb:Array Sk)(blk off cap:Nat)(d0 d:Array α)(w0 w:Sj)
 (eg:∀ args w,(callFunc g args).run P w=.ok (.enter g args) w) (hcmp:CmpLays P g cb enc k cf blk off d0.size w0) (R:RowK enc k w0 blk off d0) (hs:d0.size=d.size) (S:SWK enc k w0 blk off d w) (hsz:d.size<4611686018427387904) (a m:Nat) (KT:a+1<m) (hb:m+1≤d.size) (hl:SortedIn (ltOf cf) a m d) (hr:True) :
 Sl P 224 #[.slice (some ⟨blk,off,none⟩) d.size cap,.int .i64 a,.int .i64 m,.int .i64 ((m:Int)+1),.func (.func g) #[] cb] w (fh (ltOf cf) enc k w0 blk off d a (m+1)):=by
 have mixed:=L.mixed;have t0:=L.t0;have a0:=L.a0;have z0:=L.z0;have v0:=L.v0;have t3:=L.t3;have a3:=L.a3;have z3:=L.z3;have v3:=L.v3;have t4:=L.t4;have a4:=L.a4;have z4:=L.z4;have v4:=L.v4;have t24:=L.t24;have a24:=L.a24;have z24:=L.z24;have v24:=L.v24;have t183:=L.t183;have a183:=L.a183;have z183:=L.z183;have v183:=L.v183;have t216:=L.t216;have a216:=L.a216;have z216:=L.z216;have v216:=L.v216
 have FG:=L.f224
 have HC:Aside _:=hcmp
 have S0:Aside (SWK enc k w0 blk off d w):=S
 have HL:=h_ hl
 have HR:=h_ hr
 clear S hcmp hl hr
 generalize hQ:fh (ltOf cf) enc k w0 blk off d a (m+1)=Q
 have HQ:=h_ (fun(dk:Array α) (W:Sj) (h1:dk.size=d.size) (h2:SWK enc k w0 blk off dk W) (h3:PermIn a (m+1) d dk) (h4:SortedIn (ltOf cf) a (m+1) dk)=>show Q (.returned (.tuple #[])) W from hQ▸⟨rfl,dk,h1,h2,h3,h4⟩)
 clear hQ
 clear L
 have L8:((m:Int)-(a:Int)==1)=false:=by simp;omega
 have Jm:((m:Int)+1-(m:Int)==1)=true:=by simp;omega
 go_enter FG,Tryz.ntmps224
 go_wp2
 go_loopg [14,15] m (fun kx JO s15 wr=>∃ i j:Nat,JO=.int .i64 i∧s15=.int .i64 j∧a≤i∧i≤j∧j≤m∧j-i≤kx∧Aside (SWK enc k w0 blk off d wr)∧Hid (∀ t,a≤t→t<i→ltOf cf d[m]! d[t]! =false)∧Hid (∀ t,j≤t→t<m→ltOf cf d[m]! d[t]! =true))
 case atStart=>exact⟨a,m,rfl,rfl,Sr _,by omega,Sr _,by omega,S0,fun t h1 h2=>by omega,fun t h1 h2=>by omega⟩
 case round =>
  clear S0
  obtain⟨i,j,rfl,rfl,hi,hij,hjm,hkx,S1,HI,HJ⟩:=hrel
  by_cases hlt:i<j
  · have hltz:(i:Int)<(j:Int):=by omega
    obtain⟨h,hh⟩:∃ h:Nat,h=(i+j) / 2:=⟨_,rfl⟩
    have hhz:((i:Int)+(j:Int)) / 2=(h:Int):=by omega
    have h1:i≤h:=by omega
    have h2:h<j:=by omega
    have hhd:(h:Int)<(d.size:Int):=by omega
    have hmd:(m:Int)<(d.size:Int):=by omega
    clear hh
    obtain⟨x,hx⟩:∃ x,d[m]! =x:=⟨_,rfl⟩
    obtain⟨y,hy⟩:∃ y,d[h]! =y:=⟨_,rfl⟩
    have HX:=h_ hx
    have HY:=h_ hy
    clear hx hy
    by_cases hv:cf x y<0
    · skip
      have lx:=S1.out.ld R (by omega) P (m) (by omega)
      have ly:=S1.out.ld R (by omega) P (h) (by omega)
      rw [HX.out] at lx
      rw [HY.out] at ly
      have hc:=S1.out.cmp HC.out (by omega) x y
      have hd:decide (cf x y<0)=true:=decide_eq_true hv
      go_wp2_with fail
      go_quiet_grown (first|(go_at_fn g;refine Sy (hc _ _)))
      have S2:Aside (SWK enc k w0 blk off d (grow (wr.drewN nq) osq)):=S1.out.grown nq osq
      clear lx ly hc
      generalize grow (wr.drewN nq) osq=w2 at S2 ⊢
      clear nq osq
      go_wp2
      go_roundg (h-i)
      case measure=>omega
      case rel=>exact⟨i,h,rfl,rfl,hi,h1,by omega,Sr _,S2,HI,(fun t h3 h4=>(by
       have e1:ltOf cf d[m]! d[h]! =true:=by rw [HX.out,HY.out];exact decide_eq_true hv
       by_cases e:t=h
       · rw [e];exact e1
       · cases e2:ltOf cf d[m]! d[t]! with
         | true=>rfl
         | false =>
           have:=hO.ntrans _ _ _ e2 (HL.out h t (by omega) (by omega) h4)
           rw [e1] at this;cases this))⟩
    · skip
      have lx:=S1.out.ld R (by omega) P (m) (by omega)
      have ly:=S1.out.ld R (by omega) P (h) (by omega)
      rw [HX.out] at lx
      rw [HY.out] at ly
      have hc:=S1.out.cmp HC.out (by omega) x y
      have hd:decide (cf x y<0)=false:=decide_eq_false (by omega)
      go_wp2_with fail
      go_quiet_grown (first|(go_at_fn g;refine Sy (hc _ _)))
      have S2:Aside (SWK enc k w0 blk off d (grow (wr.drewN nq) osq)):=S1.out.grown nq osq
      clear lx ly hc
      generalize grow (wr.drewN nq) osq=w2 at S2 ⊢
      clear nq osq
      go_wp2
      go_roundg (j-(h+1))
      case measure=>omega
      case rel=>exact⟨h+1,j,by go_num,rfl,by omega,by omega,hjm,Sr _,S2,(fun t h3 h4=>(by
       have e1:ltOf cf d[m]! d[h]! =false:=by rw [HX.out,HY.out];exact decide_eq_false (by omega)
       by_cases e:t=h
       · rw [e];exact e1
       · exact hO.ntrans _ _ _ e1 (HL.out t h h3 (by omega) (by omega)))),HJ⟩
  · obtain rfl:i=j:=by omega
    go_wp2
    go_loopg [17] m (fun kx Nj wr=>∃ (q:Nat) (dk:Array α),Nj=.int .i64 q∧i≤q∧q≤m∧q-i≤kx∧dk.size=d.size∧Aside (SWK enc k w0 blk off dk wr)∧Hid (PermIn a (m+1) d dk)∧Hid (∀ t,dk[t]! =d[cD q m (m+1) t]!))
    case atStart=>exact⟨m,d,rfl,hjm,Sr _,by omega,rfl,S1,permIn_refl _ _ _,fun t=>by rw [sh m m (m+1) t (.inl rfl) (by omega) (by omega)]⟩
    case round =>
     clear S1
     obtain⟨q,dk,rfl,Pj,hqm,KC,hds,S1,HP,HT⟩:=hrel
     by_cases hlt2:i<q
     · have sM:(i:Int)<(q:Int):=by omega
       obtain⟨p,rfl⟩:∃ p,q=p+1:=⟨q-1,by omega⟩
       have rp:SA.wrap (p:Int)=(p:Int):=by rw [Sz];omega
       have ea:((p:Int)+1).toNat=p+1:=by omega
       have pa:(0:Int)≤(p:Int)+1:=by omega
       have ba:(p:Int)+1<(d.size:Int):=by omega
       have ra:SA.wrap ((p:Int)+1)=(p:Int)+1:=by rw [Sz];omega
       have ec:((p:Int)).toNat=p:=by omega
       have pc:(0:Int)≤(p:Int):=by omega
       have bc:(p:Int)<(d.size:Int):=by omega
       have rc:SA.wrap ((p:Int))=(p:Int):=by rw [Sz];omega
       have S2:Aside (SWK enc k w0 blk off (swp dk (p+1) (p)) ((wr.drew.setCells blk (off+(p+1)*k) (enc dk[p]!)).setCells blk (off+(p)*k) (enc dk[p+1]!))):=S1.out.swapped R (p+1) (p) (by omega) (by omega)
       have la:=S1.out.ld1 R (by omega) P (p+1) (by omega)
       have lb:=S1.out.ld1 R (by omega) P (p) (by omega)
       have sa:=S1.out.st1 R (by omega) P (p+1) (by omega) dk[p]!
       have sb:=S1.out.st2 R (by omega) P (p+1) (p) (by omega) (by omega) dk[p]! dk[p+1]!
       have na:(enc dk[p+1]!).length=k:=R.hk _
       have nb:(enc dk[p]!).length=k:=R.hk _
       generalize enc dk[p+1]! =cI at S2 la sb na
       generalize enc dk[p]! =cJ at S2 lb sa sb nb
       clear S1
       go_wp2_with fail
       go_big_region_o
       clear la lb sa sb
       generalize (wr.drew.setCells blk (off+(p+1)*k) cJ).setCells blk (off+(p)*k) cI=w2 at S2 ⊢
       go_wp2
       go_roundg (p-i)
       case measure=>omega
       case rel=>exact⟨p,swp dk (p+1) p,by first|rfl|go_num,by omega,by omega,Sr _,by rw [size_swp];exact hds,S2,permIn_trans _ _ _ _ _ HP.out (swp_permIn _ _ _ _ _ (by omega) (by omega) (by omega) (by omega) (by omega)),A6 d dk m p (by omega) (by omega) hds HT.out⟩
     · have sM:¬ (i:Int)<(q:Int):=by omega
       go_wp2
       (first|go_end0|((try simp only [Exit.inBlock,Exit.then]);refine Sm (results_none rfl _ _ _) rfl ?_))
       have hq:q=i:=by omega
       exact HQ.out dk _ hds S1.out HP.out (Cf hO d dk a i m hi hjm HL.out HI.out HJ.out (hq▸HT.out))
end Go.Proofs.YtjebaagkomejaaaGreatDoor
namespace Go.Proofs.YtjebaagkomejaaaGreatDoor
open Go.RowKit
def Env (w:Sj):Prop:=Lib.Utf8Tabs 0 1 w∧∃ m,w.cell? ⟨2,0,none⟩=some (.int .i64 m)
theorem Env.below {w w':Sj} {B:Nat} (h:Env w)(hb:Below B w w')(hB:w.heap.size≤B):Env w':=by
 obtain⟨h1,m,h2⟩:=h
 have hb':=hb.mono hB
 exact⟨Utf8Tabs_below h1 hb',m,(hb'.cell (p:=⟨2,0,none⟩) (Sj.block_lt_of_cell? w _ h2)).trans h2⟩
def bw (s:ByteArray):Bool:=SC s.data.toList&&(runes s).all (fun r=>decide (0≤idx r))
def lenB (s:ByteArray):Int:=if bw s then ((runes s).length:Int) else -1
theorem mr (s:ByteArray):∀ b pos,(c_ s b pos).length=SD s b pos
 | 0,_=>rfl
 | b+1,pos=>by
   simp only [c_,SD]
   split
   · rw [SU,mr s b];omega
   · rfl
theorem decode_le (s:ByteArray)(pos:Nat):(SV s pos).1≤1114111:=by
 have hb:∀ k,(s.get! (pos+k)).toNat<256:=fun k=>(s.get! (pos+k)).toNat_lt
 have h0:=hb 0;have h1:=hb 1;have h2:=hb 2;have h3:=hb 3
 simp only [SV]
 repeat' split
 all_goals simp_all [Utf8.runeError,Utf8.valid]
 all_goals omega
theorem BG (s:ByteArray)(w:Sj)(hs:s.size≤4000000)(hE:Env w)(hv:SC s.data.toList=false) :
 Sl Tryz.prog 93 #[.string s] w fun e w'=>e=.returned (.bool (bw s))∧Below w.heap.size w w':=by
 have hn:bw s=false:=by simp [bw,hv]
 have HN:=h_ hn
 have hc:=Tryz.utf8_ValidString s w (by omega) hE.1
 rw [hv] at hc
 have HC:=h_ hc
 clear hn hv hc
 go_enter Tryz.func93,Tryz.ntmps93
 go_wp2_with fail
 refine HC.out.mono ?_
 rintro e w1 ⟨rfl,hb⟩
 go_wp2_with fail
 go_ret
 rw [HN.out]
 exact⟨rfl,hb⟩
def i6 (w:Sj)(s:ByteArray)(g pos:Nat)(wr:Sj):Prop:=wr.heap[g]? =some (.stringIter s pos)∧Below g w wr
theorem i6.pos {w wr:Sj} {s:ByteArray} {g pos:Nat} (h:i6 w s g pos wr):wr.iterPos g=pos:=by simp [Sj.iterPos,h.1]
theorem i6.start (w:Sj)(s:ByteArray):i6 w s w.heap.size 0 (w.alloc (.stringIter s 0)) :=
 ⟨Sj.iter_heap w s 0,(SW _ _).alloc (Sr _) _⟩
theorem i6.lt {w wr:Sj} {s:ByteArray} {g pos:Nat} (h:i6 w s g pos wr):g<wr.heap.size:=(SX.1 h.1).1
theorem i6.step {w wr w2:Sj} {s:ByteArray} {g pos:Nat} (h:i6 w s g pos wr)(pos':Nat)(hb:Below (wr.iterAt g s pos').heap.size (wr.iterAt g s pos') w2):i6 w s g pos' w2:=by
 have hl:=h.lt
 refine⟨?_,(Lib.below_iterAt h.2 (Sr _) s pos').trans (hb.mono (by rw [SF];omega))⟩
 rw [hb.block g (by rw [SF];exact hl)]
 exact Lib.iterAt_heap wr g s pos pos' h.1
theorem Fi (s:ByteArray)(b pos:Nat)(h:¬ pos<s.size)(p:Nat→Bool):(c_ s b pos).all p=true:=by rw [gK s b pos h];rfl
theorem zn (s:ByteArray)(w:Sj)(hs:s.size≤4000000)(hE:Env w)(hv:SC s.data.toList=true) :
 Sl Tryz.prog 93 #[.string s] w fun e w'=>e=.returned (.bool (bw s))∧Below w.heap.size w w':=by
 have hG:bw s=(c_ s s.size 0).all (fun r=>decide (0≤idx r)):=by simp [bw,hv,runes]
 generalize Ow:bw s=G at *
 have H0:=h_ hG.symm
 have hc:=Tryz.utf8_ValidString s w (by omega) hE.1
 rw [hv] at hc
 have HC:=h_ hc
 clear hG Ow hv hc
 go_enter Tryz.func93,Tryz.ntmps93
 go_wp2_with fail
 refine HC.out.mono ?_
 rintro e w1 ⟨rfl,hb1⟩
 go_wp2_with fail
 go_loopw [4] (fun _ wr=>∃ (pos b:Nat),i6 w1 s w1.heap.size pos wr∧(c_ s b pos).all (fun r=>decide (0≤idx r))=G∧s.size≤pos+b) (fun _ wr=>s.size-wr.iterPos w1.heap.size)
 case atStart=>exact⟨0,s.size,i6.start _ _,H0.out,by omega⟩
 case round =>
  obtain⟨pos,b,hI,hp,hb⟩:=hrel
  have hpos:=h_ hI.pos
  by_cases hlt:pos<s.size
  · obtain⟨c,rfl,hn⟩:=ia s b pos hlt hb
    have hwd:=width_pos s pos hlt
    have hle:=decode_le s pos
    have hnx:∀ ty,(Instr.next (.pointer (some ⟨w1.heap.size,0,none⟩)) true ty).run Tryz.prog wr=_:=fun ty=>Lib.run_next_any_at wr w1.heap.size s pos ty hI.1 hlt
    rw [hn,List.all_cons] at hp
    generalize (SV s pos).1=x at *
    generalize (SV s pos).2=d at *
    have HS:=h_ (fun w2=>hI.step (w2:=w2) (pos+d))
    have HP:=h_ hp
    clear hp hn H0 hI
    by_cases hx:0≤idx x
    · go_wp2_with (go_at_call 140;refine(jN _ _ (by omega) (by omega)).mono ?_;rintro e w2 ⟨rfl,hb2⟩)
      have hI2:=HS.out _ hb2
      have hq:=HP.out
      simp only [hx,decide_true,Bool.true_and] at hq
      go_roundw
      case rel=>exact⟨pos+d,c,hI2,hq,by omega⟩
      case measure=>rw [hI2.pos,hpos.out];omega
    · have hx':idx x<0:=by omega
      go_wp2_with (go_at_call 140;refine(jN _ _ (by omega) (by omega)).mono ?_;rintro e w2 ⟨rfl,hb2⟩)
      go_ret
      have hI2:=HS.out _ hb2
      have hq:=HP.out
      rw [show decide (0≤idx (x:Int))=false by simp;omega,Bool.false_and] at hq
      exact⟨by rw [←hq];rfl,hb1.trans (hI2.2.mono hb1.size)⟩
  · have hnx:∀ ty,(Instr.next (.pointer (some ⟨w1.heap.size,0,none⟩)) true ty).run Tryz.prog wr=_:=fun ty=>Lib.run_next_end_at wr w1.heap.size s pos ty hI.1 hlt
    rw [Fi s b pos hlt] at hp
    have HP:=h_ hp
    clear hp H0
    go_wp2_with fail
    go_ret
    exact⟨by rw [←HP.out];rfl,hb1.trans (hI.2.mono hb1.size)⟩
theorem dJ (s:ByteArray)(w:Sj)(hs:s.size≤4000000)(hE:Env w) :
 Sl Tryz.prog 93 #[.string s] w fun e w'=>e=.returned (.bool (bw s))∧Below w.heap.size w w':=by
 cases hv:SC s.data.toList
 · exact BG s w hs hE hv
 · exact zn s w hs hE hv
theorem sy (s:ByteArray)(w:Sj)(hs:s.size≤4000000)(hE:Env w) :
 Sl Tryz.prog 135 #[.string s] w fun e w'=>e=.returned (.int .i64 (lenB s))∧Below w.heap.size w w':=by
 have hL:lenB s=if bw s then (SG s:Int) else -1:=by
  unfold lenB runes SG
  rw [mr]
 have hc:=dJ s w hs hE
 cases hv:bw s
 all_goals
  rw [hv] at hL hc
  have HL:=h_ hL;have HC:=h_ hc
  clear hL hc hv
  go_enter Tryz.func135,Tryz.ntmps135
  go_wp2_with fail
  refine HC.out.mono ?_
  rintro e w1 ⟨rfl,hb⟩
  go_wp2_with fail
 · go_ret
   rw [HL.out]
   exact⟨rfl,hb⟩
 · refine(Tryz.utf8_RuneCountInString s w1 (by omega)).mono ?_
   rintro e w2 ⟨rfl,pos,rfl⟩
   go_wp2_with fail
   go_ret
   rw [HL.out]
   exact⟨rfl,hb.trans (((SW _ _).alloc (Sr _) _).mono hb.size)⟩
theorem Gc:(Tryz.prog.info? 232).map (·.size)=some 2:=by kernel_rfl
theorem oA (b:Nat)(w:Sj)(h0:w.cell? ⟨b,0,none⟩=some (.pointer (some ⟨b,0,none⟩))) :
 Sl Tryz.prog 239 #[.pointer (some ⟨b,0,none⟩)] w fun e w'=>e=.returned (.tuple #[])∧w'=w:=by
 obtain⟨j,hj,_⟩:=Option.map_eq_some_iff.1 Gc
 go_enter Tryz.func239,Tryz.ntmps239
 go_wp2
 rw [Lib.run_neq_ptr_same w _ Tryz.underlying229 hj]
 go_wp2
 go_end0
 exact⟨rfl,rfl⟩
theorem nB (b:Nat)(w:Sj)(h0:w.cell? ⟨b,0,none⟩=some (.pointer none))(hsh:w.shape? b=some (232,2))(hfz:w.frozen? ⟨b,0,none⟩=false) :
 Sl Tryz.prog 239 #[.pointer (some ⟨b,0,none⟩)] w fun e w'=>e=.returned (.tuple #[])∧w'=w.setCell ⟨b,0,none⟩ (.pointer (some ⟨b,0,none⟩)):=by
 obtain⟨j,hj,hjs⟩:=Option.map_eq_some_iff.1 Gc
 go_enter Tryz.func239,Tryz.ntmps239
 go_wp2
 rw [Lib.run_to_unsafe w ⟨b,0,none⟩ Tryz.underlying229 Tryz.underlying256 hj (by rw [hjs];decide) hsh (Nat.zero_lt_succ 1)]
 simp only [Result.andThen]
 rw [Oper.upon_value]
 go_wp2
 rw [run_callFunc_extern Tryz.func249 (by kernel_rfl) (by kernel_rfl) (by kernel_rfl) (e:=Extern.AbiNoEscape.same) (by kernel_rfl)]
 rw [Lib.run_noEscape]
 simp only [Result.andThen]
 rw [Oper.upon_value]
 go_wp2
 rw [Lib.run_from_unsafe w ⟨b,0,none⟩ Tryz.underlying256 Tryz.underlying229 hj hsh Tryz.Builder_Extra_169.liesBuilder]
 simp only [Result.andThen]
 rw [Oper.upon_value]
 go_wp2
 go_end0
 exact⟨rfl,rfl⟩
theorem nC (B b:Nat)(bs:List Sk)(w:Sj)(h:SH 232 5 B b bs w) :
 Sl Tryz.prog 239 #[.pointer (some ⟨b,0,none⟩)] w fun e w'=>e=.returned (.tuple #[])∧(SI 232 5 B b (.pointer (some ⟨b,0,none⟩)) bs w'∧Below B w w'):=by
 rcases h with h|h
 · refine(nB b w h.cell0 h.shape h.frozen0).mono ?_
   rintro e w' ⟨rfl,rfl⟩
   exact⟨rfl,h.used _,(SW B w).setCell (p:=⟨b,0,none⟩) h.1 _⟩
 · refine(oA b w h.cell0).mono ?_
   rintro e w' ⟨rfl,rfl⟩
   exact⟨rfl,h,SW B _⟩
theorem kD (B b:Nat)(bs:List Sk)(s:ByteArray)(w:Sj)(h:SH 232 5 B b bs w)(hlen:bs.length+s.size≤140737488355328)(hBw:B≤w.heap.size) :
 Sl Tryz.prog 219 #[.pointer (some ⟨b,0,none⟩),.string s] w fun e w'=>e=.returned (.tuple #[.int .i64 s.size,.nilIface])∧(SI 232 5 B b (.pointer (some ⟨b,0,none⟩)) (bs++SJ s) w'∧Below B w w'):=by
 obtain⟨i0,hi,hz0,hz1,hz2⟩:=Sp Tryz.Builder_Extra_169.infoByte
 go_enter Tryz.func219,Tryz.ntmps219
 go_wp2_with (go_at_call 239;refine(nC B b bs _ h).mono ?_)
 rintro e w1 ⟨rfl,h1,hb1⟩
 obtain⟨hB,v,hbk,hown,hne⟩:=h1
 have c0:w1.cell? ⟨b,0,none⟩=some (.pointer (some ⟨b,0,none⟩)):=by rw [SB hbk];rfl
 have c1:w1.cell? ⟨b,1,none⟩=some v:=by rw [SB hbk];rfl
 go_wp2_with (at_builtin;refine Lib.wpList_append_own_string _ rfl _ _ 230 9 rfl B 5 i0 Tryz.underlying230 Tryz.underlying9 hi hz0 hz1 hz2 _ _ _ rfl hown s rfl ?c3 ?c4 ?c5 ?_)
 case c3=>unfold maxLen;omega
 case c4=>omega
 case c5=>have:=hb1.size;omega
 intro v' w2 hown' hgrow _
 have hlt:b<w1.heap.size:=by
  rcases Nat.lt_or_ge b w1.heap.size with h'|h'
  · exact h'
  · simp [Array.getElem?_eq_none h'] at hbk
 have hb2:w2.heap[b]? =some (.cells #[.pointer (some ⟨b,0,none⟩),v] 232 (0,0)):=by
  rw [hgrow.block b hlt (fun e=>hne e.symm)]
  exact hbk
 have d0:w2.cell? ⟨b,0,none⟩=some (.pointer (some ⟨b,0,none⟩)):=by rw [SB hb2];rfl
 have d1:w2.cell? ⟨b,1,none⟩=some v:=by rw [SB hb2];rfl
 have f1:w2.frozen? ⟨b,1,none⟩=false:=Lib.frozen_of_heap hb2 1
 obtain⟨ao,n',cap,rfl⟩:∃ ao n' cap,v'=.slice ao n' cap:=by
  rcases hown'.2 with⟨hv,_⟩|⟨g,cap,cur,hv,_⟩
  · exact⟨_,_,_,hv⟩
  · exact⟨_,_,_,hv⟩
 go_wp2
 go_ret2
 refine⟨rfl,?_,?_⟩
 · exact SI.put (T:=232) (e:=5) hB hb2 (bs':=bs++SJ s) (by simpa [Lib.strCells_length] using hown') (by decide)
 · exact(hb1.grown hgrow (by have:=hb1.size;omega) (fun k hk=>(hown.lt k hk).1)).setCell (p:=⟨b,1,none⟩) hB _
theorem aG {k:IntKind} {a b:Int} (h:a=b):Ending.returned (.int k a)=.returned (.int k b):=by rw [h]
theorem zo {c:Prop} [Decidable c] {v a b:Int} (h:c)(h2:v=a):v=if c then a else b:=by rw [if_pos h,h2]
theorem val_neg {c:Prop} [Decidable c] {v a b:Int} (h:¬ c)(h2:v=b):v=if c then a else b:=by rw [if_neg h,h2]
def jP (t l:ByteArray)(r:Int)(d:Bool)(last:Int):Int :=
 if (!bw t)=true then 10 else if 400<t.size then 9 else if (!l.toList.isEmpty)=true∧(!da l)=true then 5 else if (qh r d != 0)=true then qh r d else if last<0∨1099511627776<last then 2 else 0
theorem jK (l:ByteArray):l.toList.length=l.size:=by
 rw [Lib.toList_data]
 simp
theorem kj (l:ByteArray):l.size=0↔l.toList=[]:=by
 have:=jK l
 constructor
 · intro h
   exact SQ (by omega)
 · intro h
   rw [h] at this
   simpa using this.symm
theorem aw (w:Sj)(cs:Array Sk)(t:Sq)(j:Nat)(v:Sk)(h:cs[j]? =some v)(w':Sj)(hb:Below (w.heap.size+1) (w.alloc (.cells cs t)) w'):w'.cell? ⟨w.heap.size,j,none⟩=some v:=by
 rw [hb.cell (p:=⟨w.heap.size,j,none⟩) (by simp)]
 rw [cell_of_row _ _ j cs t (0,0) (Sn w _),h]
theorem bL {w w':Sj} {o:Obj} (hb:Below (w.heap.size+1) (w.alloc o) w'):Below w.heap.size w w' :=
 ((SW _ _).alloc (Sr _) _).trans (hb.mono (by omega))
theorem sO (t l:ByteArray)(r:Int)(d:Bool)(last:Int)(a5 a6 a7:Option Addr)(n5 n6 n7 c5 c6 c7:Nat)(w:Sj)(hE:Env w)(ht:t.size≤4000000)(hl:l.size≤4000000)(h0:0≤r)(h1:r≤255) :
 Sl Tryz.prog 63 #[.agg #[.string t,.string l,.int .u8 r,.bool d,.int .i64 last,.slice a5 n5 c5,.slice a6 n6 c6,.slice a7 n7 c7]] w fun e w'=>e=.returned (.int .i64 (jP t l r d last))∧Below w.heap.size w w':=by
 generalize hG:jP t l r d last=G
 unfold jP at hG
 have HG:=h_ hG
 clear hG
 generalize hcs:#[SY t,.string l,.int .u8 r,.bool d,.int .i64 last,.slice a5 n5 c5,.slice a6 n6 c6,.slice a7 n7 c7]=cs
 have f0:=aw w cs 27 0 (.string t) (by rw [←hcs];rfl)
 have f1:=aw w cs 27 1 (.string l) (by rw [←hcs];rfl)
 have f2:=aw w cs 27 2 (.int .u8 r) (by rw [←hcs];rfl)
 have f3:=aw w cs 27 3 (.bool d) (by rw [←hcs];rfl)
 have f4:=aw w cs 27 4 (.int .i64 last) (by rw [←hcs];rfl)
 have HE:=h_ (fun(w1:Sj) (h:Below (w.heap.size+1) (w.alloc (.cells cs 27)) w1)=>hE.below (bL h) (Sr _))
 have HB:=h_ (fun(w1:Sj) (h:Below (w.heap.size+1) (w.alloc (.cells cs 27)) w1)=>bL h)
 have hb0:Below (w.heap.size+1) (w.alloc (.cells cs 27)) (w.alloc (.cells cs 27)):=SW _ _
 have hsz:(w.alloc (.cells cs 27)).heap.size=w.heap.size+1:=SZ _ _
 generalize hW0:w.alloc (.cells cs 27)=W0 at *
 have HW0:=h_ hW0
 have dI:=h_ hsz
 clear hW0 hsz hE
 go_enter Tryz.func63,Tryz.ntmps63
 subst hcs
 go_wp2_with fail
 rw [HW0.out]
 refine(dJ t _ ht (HE.out _ hb0)).mono ?_
 rintro e w1 ⟨rfl,hb1⟩
 rw [dI.out] at hb1
 clear HW0
 go_wp2_with (first
  | (go_at_call 78;refine(eG _ _ (by assumption)).mono ?_;rintro e w2 ⟨rfl,rfl⟩)
  | (go_at_call 112;refine(xG _ _ _ (by assumption) (by assumption)).mono ?_;rintro e w3 ⟨rfl,hb3⟩;replace hb3:Below (w.heap.size+1) W0 w3:=hb1.trans (hb3.mono (by have:=hb1.size;rw [dI.out] at this;exact this))))
 all_goals
  go_ret
  refine⟨aG ?_,HB.out _ (by first|exact hb3|exact hb1)⟩
  rw [←HG.out]
  clear f0 f1 f2 f3 f4
  repeat (first
   | rfl
   | (refine zo ?_ ?_;focus (first|assumption|omega|(simp only [*];decide)|(simp_all<;>fail)))
   | (refine val_neg ?_ ?_;focus (first|omega|(simp only [*];decide)|(simp_all<;>fail))))
structure Reg where
 name:ByteArray
 top:Int
 aZ:Int
 left:Int
 width:Int
 align:Int
 bottom:Bool
def Reg.enc (x:Reg):List Sk:=[.string x.name,.int .i64 x.top,.int .i64 x.aZ,.int .i64 x.left,.int .i64 x.width,.int .u8 x.align,.bool x.bottom]
def i64 (n:Int):Prop:=-9223372036854775808≤n∧n≤9223372036854775807
def Reg.fits (x:Reg):Prop:=x.name.size≤4000000∧i64 x.top∧i64 x.aZ∧i64 x.left∧i64 x.width∧0≤x.align∧x.align≤255
def inB (n lo hi:Int):Bool:=decide (lo≤n∧n≤hi)
theorem qt {n lo hi:Int} (h:lo≤n)(h':n≤hi):inB n lo hi=true:=by simp [inB,h,h']
theorem mW {n lo hi:Int} (h:¬ (lo≤n∧n≤hi)):inB n lo hi=false:=by unfold inB;exact decide_eq_false h
theorem yp (n lo hi:Int)(w:Sj):Sl Tryz.prog 125 #[.int .i64 n,.int .i64 lo,.int .i64 hi] w fun e w'=>e=.returned (.bool (inB n lo hi))∧w=w':=by
 by_cases h1:lo≤n
 · by_cases h2:n≤hi
   · have HI:=h_ (qt h1 h2)
     go_enter Tryz.func125,Tryz.ntmps125
     go_wp2
     go_ret
     rw [HI.out];exact⟨rfl,rfl⟩
   · have HI:=h_ (mW (n:=n) (lo:=lo) (hi:=hi) (by omega))
     have h2':decide (n≤hi)=false:=by simpa using h2
     go_enter Tryz.func125,Tryz.ntmps125
     go_wp2
     go_ret
     rw [HI.out];exact⟨rfl,rfl⟩
 · have HI:=h_ (mW (n:=n) (lo:=lo) (hi:=hi) (by omega))
   have h1':decide (lo≤n)=false:=by simpa using h1
   go_enter Tryz.func125,Tryz.ntmps125
   go_wp2
   go_ret
   rw [HI.out];exact⟨rfl,rfl⟩
def H7 (x:Reg):Bool:=inB x.top 0 14&&inB x.aZ 1 (15-x.top)&&inB x.left 0 31&&inB x.width 1 (32-x.left)
def fj (x:Reg):Int:=if (!da x.name)=true then 5 else if (!H7 x)=true then 2 else if x.align<1∨3<x.align then 3 else 0
theorem gq (x:Reg)(w:Sj)(hf:x.fits) :
 Sl Tryz.prog 80 #[.agg x.enc.toArray] w fun e w'=>e=.returned (.int .i64 (fj x))∧Below w.heap.size w w':=by
 obtain⟨nm,top,aZ,left,width,align,bottom⟩:=x
 obtain⟨hs,hT,hH,hL,hW,ha0,ha1⟩:=hf
 simp only [i64] at hs hT hH hL hW ha0 ha1
 simp only [Reg.enc]
 generalize hG:fj ⟨nm,top,aZ,left,width,align,bottom⟩=G
 simp only [fj,H7] at hG
 have HG:=h_ hG
 clear hG
 rcases(show(¬ (0≤top∧top≤14))∨((0≤top∧top≤14)∧¬ (0≤left∧left≤31))∨((0≤top∧top≤14)∧(0≤left∧left≤31)) by omega) with h|⟨⟨t0,t1⟩,h⟩|⟨⟨t0,t1⟩,⟨l0,l1⟩⟩
 case' inl =>
  have i1:=mW h
 case' inr.inl =>
  have i1:=qt t0 t1
  have i3:=mW h
 case' inr.inr =>
  have i1:=qt t0 t1
  have i3:=qt l0 l1
 all_goals
  go_enter Tryz.func80,Tryz.ntmps80
  go_wp2_with (first
   | (go_at_call 78;refine(eG _ _ (by assumption)).mono ?_;rintro e w2 ⟨rfl,rfl⟩)
   | (go_at_call 125;refine(yp _ _ _ _).mono ?_;rintro e w2 ⟨rfl,rfl⟩))
  all_goals
   go_ret
   refine⟨aG ?_,(SW _ _).alloc (Sr _) _⟩
   rw [←HG.out]
   repeat (first
    | rfl
    | (refine zo ?_ ?_;focus (first|assumption|omega|(simp only [*];decide)|(simp_all<;>fail)))
    | (refine val_neg ?_ ?_;focus (first|omega|(simp only [*];decide)|(simp_all<;>fail))))
def ah {α:Type} (k:Nat)(enc:α→List Sk)(Ok:Sj→α→Prop)(w:Sj)(a:Option Addr)(xs:List α):Prop :=
 xs=[]∨∃ b off,a=some ⟨b,off,none⟩∧b<w.heap.size∧∀ i x,xs[i]? =some x→(∀ j v,(enc x)[j]? =some v→w.cell? ⟨b,off+i*k+j,none⟩=some v)∧Ok w x
def Flat {α:Type} (_:Sj)(_:α):Prop:=True
theorem ah.at_ {α:Type} {k:Nat} {enc:α→List Sk} {Ok:Sj→α→Prop} {w:Sj} {a:Option Addr} {xs:List α} (h:ah k enc Ok w a xs) {i:Nat} (hi:i<xs.length) :
 ∃ b off x,a=some ⟨b,off,none⟩∧b<w.heap.size∧xs[i]? =some x∧(∀ j v,(enc x)[j]? =some v→w.cell? ⟨b,off+i*k+j,none⟩=some v)∧Ok w x:=by
 rcases h with rfl|⟨b,off,rfl,hb,hc⟩
 · simp at hi
 · have:=hc i xs[i] (SM hi)
   exact⟨b,off,xs[i],rfl,hb,SM hi,this.1,this.2⟩
def Keeps {α:Type} (Ok:Sj→α→Prop):Prop:=∀ (w w':Sj) (x:α),Below w.heap.size w w'→Ok w x→Ok w' x
theorem Flat.keeps {α:Type}:Keeps (Flat (α:=α)):=fun _ _ _ _ _=>trivial
theorem ah.keeps {α:Type} {k:Nat} {enc:α→List Sk} {Ok:Sj→α→Prop} (hk:Keeps Ok)(w w':Sj)(a:Option Addr)(xs:List α)(hb:Below w.heap.size w w')(h:ah k enc Ok w a xs):ah k enc Ok w' a xs:=by
 rcases h with h|⟨b,off,rfl,hlt,hc⟩
 · exact .inl h
 · refine .inr ⟨b,off,rfl,St hlt hb.size,fun i x hx=>⟨fun j v hv=>?_,hk w w' x hb (hc i x hx).2⟩⟩
   rw [hb.cell (p:=⟨b,off+i*k+j,none⟩) hlt]
   exact(hc i x hx).1 j v hv
def Regs (w:Sj)(a:Option Addr)(xs:List Reg):Prop:=ah 7 Reg.enc Flat w a xs
theorem Regs.later {w w':Sj} {a:Option Addr} {xs:List Reg} (h:Regs w a xs)(hb:Below w.heap.size w w'):Regs w' a xs:=ah.keeps Flat.keeps w w' a xs hb h
def jC:Reg:=⟨⟨#[]⟩,11,4,0,32,2,true⟩
def gn:Reg:=⟨⟨#[]⟩,0,0,0,0,0,false⟩
theorem km (w:Sj):Sl Tryz.prog 176 #[] w fun e w'=>e=.returned (.agg jC.enc.toArray)∧Below w.heap.size w w':=by
 simp only [jC,Reg.enc]
 go_enter Tryz.func176,Tryz.ntmps176
 go_wp2
 exact Sm (v:=.agg #[.string ⟨#[]⟩,.int .i64 11,.int .i64 4,.int .i64 0,.int .i64 32,.int .u8 2,.bool true]) (by simp [results,Tryz.results176,go_sem]) rfl ⟨rfl,(SW _ _).alloc (Sr _) _⟩
def Ah (x:Reg):Bool:=(x.name.toList==[])&&(x.top==11)&&(x.aZ==4)&&(x.left==0)&&(x.width==32)&&(x.align==2)&&(x.bottom==true)
def kE (x:Reg):Bool:=Ah x||fj x==0
theorem zD (x:Reg)(w:Sj):(binOp .eql 37 (.agg x.enc.toArray) (.agg jC.enc.toArray)).run Tryz.prog w=.ok (.bool (Ah x)) w:=by
 simp [go_sem,Reg.enc,jC,Ah]
 repeat' split
 all_goals simp_all
theorem kZ (x:Reg)(w:Sj)(hf:x.fits) :
 Sl Tryz.prog 179 #[.agg x.enc.toArray] w fun e w'=>e=.returned (.bool (kE x))∧Below w.heap.size w w':=by
 have hU:kE x=(Ah x||fj x==0):=rfl
 have hq:=zD x
 have hc:=fun w=>gq x w hf
 have hd:=fun w=>km w
 obtain⟨nm,top,aZ,left,width,align,bottom⟩:=x
 generalize fj ⟨nm,top,aZ,left,width,align,bottom⟩=E at *
 generalize kE ⟨nm,top,aZ,left,width,align,bottom⟩=U at *
 generalize hD:Ah ⟨nm,top,aZ,left,width,align,bottom⟩=D at *
 simp only [Reg.enc,jC] at hq hc hd ⊢
 have HC:=h_ hc;have HD:=h_ hd
 clear hc hd hf hD
 generalize hcs:#[SY nm,.int .i64 top,.int .i64 aZ,.int .i64 left,.int .i64 width,.int .u8 align,.bool bottom]=cs
 have f0:=aw w cs 37 0 (.string nm) (by rw [←hcs];rfl)
 have f1:=aw w cs 37 1 (.int .i64 top) (by rw [←hcs];rfl)
 have f2:=aw w cs 37 2 (.int .i64 aZ) (by rw [←hcs];rfl)
 have f3:=aw w cs 37 3 (.int .i64 left) (by rw [←hcs];rfl)
 have f4:=aw w cs 37 4 (.int .i64 width) (by rw [←hcs];rfl)
 have f5:=aw w cs 37 5 (.int .u8 align) (by rw [←hcs];rfl)
 have f6:=aw w cs 37 6 (.bool bottom) (by rw [←hcs];rfl)
 have HB:=h_ (fun(w1:Sj) (h:Below (w.heap.size+1) (w.alloc (.cells cs 37)) w1)=>bL h)
 have hb0:Below (w.heap.size+1) (w.alloc (.cells cs 37)) (w.alloc (.cells cs 37)).drew:=(SW _ _).drew
 have hsz:(w.alloc (.cells cs 37)).heap.size=w.heap.size+1:=SZ _ _
 generalize hW0:w.alloc (.cells cs 37)=W0 at *
 have HW0:=h_ hW0
 have dI:=h_ hsz
 clear hW0 hsz
 go_enter Tryz.func179,Tryz.ntmps179
 subst hcs
 go_wp2_with fail
 rw [HW0.out]
 cases D
 · cases hE:E==0
   all_goals
    rw [hE] at hU
    have HU:=h_ hU
    clear hU
    go_region_with (first
     | (go_at_call 176;refine(HD.out _).mono ?_;rintro e w1 ⟨rfl,hb1⟩;replace hb1:Below (w.heap.size+1) W0 w1:=hb0.trans (hb1.mono (by have:=hb0.size;rw [dI.out] at this;exact this)))
     | (go_at_call 80;refine(HC.out _).mono ?_;rintro e w2 ⟨rfl,hb2⟩;replace hb2:Below (w.heap.size+1) W0 w2:=hb1.trans (hb2.mono (by have:=hb1.size;rw [dI.out] at this;exact this))))
    all_goals
     go_wp2_with fail
     go_ret
     rw [HU.out]
     exact⟨rfl,HB.out _ hb2⟩
 · have HU:=h_ hU
   clear hU
   go_region_with (first
    | (go_at_call 176;refine(HD.out _).mono ?_;rintro e w1 ⟨rfl,hb1⟩;replace hb1:Below (w.heap.size+1) W0 w1:=hb0.trans (hb1.mono (by have:=hb0.size;rw [dI.out] at this;exact this))))
   all_goals
    go_wp2_with fail
    go_ret
    rw [HU.out]
    exact⟨rfl,HB.out _ hb1⟩
theorem cK {α:Type} (enc:α→List Sk)(k:Nat)(hk:∀ x,(enc x).length=k):∀ (xs:List α)(i:Nat)(x:α)(j:Nat)(v:Sk),xs[i]? =some x→(enc x)[j]? =some v→(xs.flatMap enc)[i*k+j]? =some v
 | [],i,x,j,v,h,_=>by simp at h
 | y::xs,0,x,j,v,h,hv=>by
   obtain rfl:y=x:=by simpa using h
   have hj:j<(enc y).length:=(SK.1 hv).1
   rw [SN,show 0*k+j=j by omega,List.getElem?_append_left hj]
   exact hv
 | y::xs,i+1,x,j,v,h,hv=>by
   have hx:xs[i]? =some x:=by simpa using h
   have:=hk y
   rw [SN,Su,List.getElem?_append_right (by omega),show i*k+k+j-(enc y).length=i*k+j by omega]
   exact cK enc k hk xs i x j v hx hv
theorem bz {α:Type} (enc:α→List Sk)(k:Nat)(hk:∀ x,(enc x).length=k):∀ xs:List α,(xs.flatMap enc).length=xs.length*k
 | []=>by simp
 | x::xs=>by rw [SN,List.length_append,hk,bz enc k hk xs,SU,Su];omega
theorem ei {α:Type} {enc:α→List Sk} (h1:∀ x,∀ v∈enc x,v.oneCell'=true)(xs:List α):∀ u∈xs.flatMap enc,u.oneCell'=true:=by
 intro u hu
 obtain⟨x,_,hx⟩:=List.mem_flatMap.1 hu
 exact h1 x u hx
theorem fD {α:Type} {k:Nat} {enc:α→List Sk} {Ok:Sj→α→Prop} (hk:∀ x,(enc x).length=k) {w:Sj} {b off:Nat} {xs:List α} (h:ah k enc Ok w (some ⟨b,off,none⟩) xs)(j:Nat)(u:Sk)(hu:(xs.flatMap enc)[j]? =some u):w.cell? ⟨b,off+j,none⟩=some u:=by
 have hj:j<xs.length*k:=by rw [←bz enc k hk xs];exact(SK.1 hu).1
 have hk0:0<k:=by
  rcases Nat.eq_zero_or_pos k with h0|h0
  · rw [h0] at hj;omega
  · exact h0
 have hi:j / k<xs.length:=Nat.div_lt_of_lt_mul (by rw [Sv];exact hj)
 have hm:j % k<k:=Nat.mod_lt _ hk0
 have he:j / k*k+j % k=j:=by rw [Sv];exact Nat.div_add_mod j k
 obtain⟨b',off',x,hab,_,hx,hc,_⟩:=h.at_ hi
 simp only [Option.some.injEq,Addr.mk.injEq,and_true] at hab
 obtain⟨rfl,rfl⟩:=hab
 obtain⟨u',hv⟩:∃ u',(enc x)[j % k]? =some u':=⟨_,SM (by rw [hk];exact hm)⟩
 have:=cK enc k hk xs (j / k) x (j % k) _ hx hv
 rw [he,hu] at this
 have hc2:=hc (j % k) _ hv
 rw [show off+j / k*k+j % k=off+j by omega] at hc2
 rw [hc2,this]
theorem aA {α:Type} {k:Nat} {enc:α→List Sk} {Ok:Sj→α→Prop} (hk:∀ x,(enc x).length=k) {w:Sj} {base T:Nat} {v:Sk} {xs:List α} (h:w.ownsRow base T k v xs.length (xs.flatMap enc))(ho:∀ x∈xs,Ok w x):∃ a cap,v=.slice a xs.length cap∧ah k enc Ok w a xs:=by
 have h':=h
 rcases h.2 with⟨rfl,h0⟩|⟨g,cap,cur,rfl,hb,hg,_⟩
 · exact⟨none,0,by rw [h0],.inl (SQ h0)⟩
 · refine⟨_,cap,rfl,.inr ⟨g,0,rfl,(SX.1 hg).1,fun i x hx=>⟨fun j v hv=>?_,ho x (SS hx)⟩⟩⟩
   have hi:i<xs.length:=(SK.1 hx).1
   have hj:j<k:=by rw [←hk x];exact(SK.1 hv).1
   have hfl:=cK enc k hk xs i x j v hx hv
   have hlen:=bz enc k hk xs
   have hb2:i*k+j<xs.length*k:=by rw [←hlen];exact(SK.1 hfl).1
   rw [show 0+i*k+j=i*k+j by omega,h'.cellAt (i*k+j) hb2]
   exact hfl
theorem dD {w:Sj} {base e size n:Nat} {v:Sk} {xs:List Sk} (h:w.ownsRow base e size v n xs)(hn:0<n):∃ g cap,v=.slice (some ⟨g,0,none⟩) n cap:=by
 rcases h.2 with⟨_,h0⟩|⟨g,cap,_,h1,_⟩
 · omega
 · exact⟨g,cap,h1⟩
theorem aI {B e k n:Nat} {v:Sk} {xs:List Sk} {w w':Sj} (h:w.ownsRow B e k v n xs)(hb:Below w.heap.size w w'):w'.ownsRow B e k v n xs:=by
 refine⟨h.1,?_⟩
 rcases h.2 with h0|⟨g,cap,cur,h1,h2,h3,h4⟩
 · exact .inl h0
 · exact .inr ⟨g,cap,cur,h1,h2,by rw [hb.block g (SX.1 h3).1];exact h3,h4⟩
def bp {α:Type} (a:Option Addr)(xs:List α)(b:Nat):Prop:=xs≠[]∧∃ ad,a=some ad∧ad.block=b
theorem aP {α:Type} {k:Nat} {enc:α→List Sk} {Ok:Sj→α→Prop} {w:Sj} {a:Option Addr} {xs:List α} (h:ah k enc Ok w a xs) {b:Nat} (hu:bp a xs b):b<w.heap.size:=by
 obtain⟨hne,ad,rfl,rfl⟩:=hu
 rcases h with h|⟨b,off,he,hlt,_⟩
 · exact absurd h hne
 · obtain rfl:=Option.some.inj he
   exact hlt
theorem ah.frame {α:Type} {k:Nat} {enc:α→List Sk} {Ok:Sj→α→Prop} {w w':Sj} {a:Option Addr} {xs:List α} (h:ah k enc Ok w a xs)(hs:w.heap.size≤w'.heap.size)(hb:∀ b,bp a xs b→w'.heap[b]? =w.heap[b]?)(hok:∀ x∈xs,Ok w x→Ok w' x):ah k enc Ok w' a xs:=by
 by_cases hne:xs=[]
 · exact .inl hne
 · rcases h with h|⟨b,off,rfl,hlt,hc⟩
   · exact .inl h
   · refine .inr ⟨b,off,rfl,St hlt hs,fun i x hx=>⟨fun j v hv=>?_,hok x (SS hx) (hc i x hx).2⟩⟩
     rw [Sj.cell?_of_block (w:=w) (hb b ⟨hne,_,rfl,rfl⟩)]
     exact(hc i x hx).1 j v hv
def kP (nm:ByteArray):List Reg→Reg × Bool
 | []=>(gn,false)
 | x::l=>if x.name.toList==nm.toList then (x,true) else kP nm l
def kd (xs:List Reg)(nm:ByteArray):Reg × Bool:=if nm.toList=[] then (jC,true) else kP nm xs
theorem ow (nm:ByteArray)(xs:List Reg)(k:Nat)(x:Reg)(hx:xs[k]? =some x)(h:(x.name.toList==nm.toList)=true):kP nm (xs.drop k)=(x,true):=by
 have hk:k<xs.length:=(SK.1 hx).1
 have e:xs[k]=x:=(SK.1 hx).2
 rw [SL hk,e,kP,if_pos h]
theorem qF (nm:ByteArray)(xs:List Reg)(k:Nat)(x:Reg)(hx:xs[k]? =some x)(h:(x.name.toList==nm.toList)=false):kP nm (xs.drop k)=kP nm (xs.drop (k+1)):=by
 have hk:k<xs.length:=(SK.1 hx).1
 have e:xs[k]=x:=(SK.1 hx).2
 rw [SL hk,e,kP,if_neg (by simp [h])]
theorem eH (w:Sj)(cs:Array Sk)(t:Sq)(j:Nat)(w':Sj)(hb:Below (w.heap.size+1) (w.alloc (.cells cs t)) w'):w'.frozen? ⟨w.heap.size,j,none⟩=false:=by
 rw [hb.frozen (p:=⟨w.heap.size,j,none⟩) (by simp)]
 exact frozen_of_row _ _ j cs t (Sn w _)
def rC (r:Reg × Bool)(w:Sj)(e:Ending)(w':Sj):Prop:=e=.returned (.tuple #[.agg r.1.enc.toArray,.bool r.2])∧Below w.heap.size w w'
structure qU (b:Nat)(w:Sj):Prop where
 c0:w.cell? ⟨b,0,none⟩=some (.string ⟨#[]⟩)
 c1:w.cell? ⟨b,1,none⟩=some (.int .i64 0)
 c2:w.cell? ⟨b,2,none⟩=some (.int .i64 0)
 c3:w.cell? ⟨b,3,none⟩=some (.int .i64 0)
 c4:w.cell? ⟨b,4,none⟩=some (.int .i64 0)
 c5:w.cell? ⟨b,5,none⟩=some (.int .u8 0)
 c6:w.cell? ⟨b,6,none⟩=some (.bool false)
 z0:w.frozen? ⟨b,0,none⟩=false
 z1:w.frozen? ⟨b,1,none⟩=false
 z2:w.frozen? ⟨b,2,none⟩=false
 z3:w.frozen? ⟨b,3,none⟩=false
 z4:w.frozen? ⟨b,4,none⟩=false
 z5:w.frozen? ⟨b,5,none⟩=false
 z6:w.frozen? ⟨b,6,none⟩=false
def zeroCells:Array Sk:=#[.string ⟨#[]⟩,.int .i64 0,.int .i64 0,.int .i64 0,.int .i64 0,.int .u8 0,.bool false]
theorem qU.of (w w':Sj)(hb:Below (w.heap.size+1) (w.alloc (.cells zeroCells 37)) w'):qU w.heap.size w' :=
 ⟨aw w _ _ 0 _ rfl w' hb,aw w _ _ 1 _ rfl w' hb,aw w _ _ 2 _ rfl w' hb,aw w _ _ 3 _ rfl w' hb,aw w _ _ 4 _ rfl w' hb,aw w _ _ 5 _ rfl w' hb,aw w _ _ 6 _ rfl w' hb,
  eH w _ _ 0 w' hb,eH w _ _ 1 w' hb,eH w _ _ 2 w' hb,eH w _ _ 3 w' hb,eH w _ _ 4 w' hb,eH w _ _ 5 w' hb,eH w _ _ 6 w' hb⟩
theorem iz {w w':Sj} {b:Nat} (hb:Below w.heap.size w w')(h:w.heap.size≤b)(v0 v1 v2 v3 v4 v5 v6:Sk) :
 Below w.heap.size w (((((((w'.setCell ⟨b,0,none⟩ v0).setCell ⟨b,1,none⟩ v1).setCell ⟨b,2,none⟩ v2).setCell ⟨b,3,none⟩ v3).setCell ⟨b,4,none⟩ v4).setCell ⟨b,5,none⟩ v5).setCell ⟨b,6,none⟩ v6) :=
 ((((((hb.setCell h _).setCell h _).setCell h _).setCell h _).setCell h _).setCell h _).setCell h _
theorem kS {w w':Sj} {b:Nat} (hb:Below w.heap.size w w')(h:w.heap.size≤b)(v0 v1 v2 v3 v4 v5 v6:Sk)(o:Obj) :
 Below w.heap.size w ((((((((w'.setCell ⟨b,0,none⟩ v0).setCell ⟨b,1,none⟩ v1).setCell ⟨b,2,none⟩ v2).setCell ⟨b,3,none⟩ v3).setCell ⟨b,4,none⟩ v4).setCell ⟨b,5,none⟩ v5).setCell ⟨b,6,none⟩ v6).alloc o) :=
 (iz hb h v0 v1 v2 v3 v4 v5 v6).alloc (iz hb h v0 v1 v2 v3 v4 v5 v6).size o
theorem AU (a:Option Addr)(cap:Nat)(xs:List Reg)(nm:ByteArray)(w:Sj)(hm:nm.toList=[]) :
 Sl Tryz.prog 113 #[.slice a xs.length cap,.string nm] w (rC (kd xs nm) w):=by
 have hF:kd xs nm=(jC,true):=by rw [kd,if_pos hm]
 rw [hF]
 have HD:=h_ (fun w=>km w)
 clear hF
 go_enter Tryz.func113,Tryz.ntmps113
 go_wp2_with fail
 refine(HD.out _).mono ?_
 rintro e w1 ⟨rfl,hb1⟩
 rw [SZ] at hb1
 obtain⟨c0,c1,c2,c3,c4,c5,c6,z0,z1,z2,z3,z4,z5,z6⟩:=qU.of w w1 hb1
 have HB:=h_ (bL hb1)
 have hlt:w.heap.size<w1.heap.size:=by have:=hb1.size;rw [SZ] at this;omega
 clear hb1 HD
 simp only [jC,Reg.enc]
 go_wp2_with fail
 exact Sm (v:=.tuple #[.agg #[.string ⟨#[]⟩,.int .i64 11,.int .i64 4,.int .i64 0,.int .i64 32,.int .u8 2,.bool true],.bool true]) (by simp [results,Tryz.results113,go_sem, *]) rfl ⟨rfl,iz HB.out (Sr _) _ _ _ _ _ _ _⟩
theorem below_alloc1 {W0 wr:Sj} {B:Nat} (h:Below B W0 wr)(hB:B≤W0.heap.size)(o:Obj):Below B W0 (wr.alloc o):=h.alloc (Sw hB h.size) o
theorem AS (a:Option Addr)(cap:Nat)(xs:List Reg)(nm:ByteArray)(w:Sj)(hR:Regs w a xs)(hm:¬ nm.toList=[])(hl:xs.length≤4000000) :
 Sl Tryz.prog 113 #[.slice a xs.length cap,.string nm] w (rC (kd xs nm) w):=by
 have hF:kd xs nm=kP nm xs:=by rw [kd,if_neg hm]
 rw [hF]
 generalize hG:kP nm xs=G
 have H0:=h_ (show kP nm (xs.drop 0)=G by rw [SR];exact hG)
 have hsz:(w.alloc (.cells zeroCells 37)).heap.size=w.heap.size+1:=SZ _ _
 have hme:nm.toList.isEmpty=false:=by simpa using hm
 clear hF hG
 go_enter Tryz.func113,Tryz.ntmps113
 go_wp2_with fail
 go_loopw [13] (fun i wr=>∃ k:Nat,k≤xs.length∧i=.int .i64 k∧kP nm (xs.drop k)=G∧Below (w.heap.size+1) (w.alloc (.cells zeroCells 37)) wr) (fun i _=>xs.length-(intOf i).toNat)
 case atStart=>exact⟨0,by omega,rfl,H0.out,SW _ _⟩
 case round =>
  obtain⟨k,hk,rfl,hp,hb⟩:=hrel
  have hbw:=bL hb
  obtain⟨c0,c1,c2,c3,c4,c5,c6,z0,z1,z2,z3,z4,z5,z6⟩:=qU.of w wr hb
  have GZ:w.heap.size<wr.heap.size:=by have:=hb.size;rw [hsz] at this;omega
  by_cases hlt:k<xs.length
  · obtain⟨b,off,x,rfl,hbl,hx,hc,_⟩:=(hR.later hbw).at_ hlt
    cases he:x.name.toList==nm.toList
    · have hP:=qF nm xs k x hx he
      rw [hP] at hp
      obtain⟨xn,xt,xh,xl,xw,xa,xb⟩:=x
      have d0:=hc 0 _ rfl;have d1:=hc 1 _ rfl;have d2:=hc 2 _ rfl;have d3:=hc 3 _ rfl;have d4:=hc 4 _ rfl;have d5:=hc 5 _ rfl;have d6:=hc 6 _ rfl
      simp only [Ss] at he d0 d1 d2 d3 d4 d5 d6
      have HP:=h_ hp
      have HB:=h_ (fun o=>below_alloc1 hb (by rw [hsz];omega) o)
      clear hp hP hc hx H0 c0 c1 c2 c3 c4 c5 c6 z0 z1 z2 z3 z4 z5 z6 hsz hR hb hbw
      go_wp2_with fail
      go_roundw
      case rel=>exact⟨k+1,by omega,by go_num,HP.out,HB.out _⟩
      case measure=>simp [intOf];omega
    · have hP:=ow nm xs k x hx he
      rw [hP] at hp
      obtain⟨xn,xt,xh,xl,xw,xa,xb⟩:=x
      have d0:=hc 0 _ rfl;have d1:=hc 1 _ rfl;have d2:=hc 2 _ rfl;have d3:=hc 3 _ rfl;have d4:=hc 4 _ rfl;have d5:=hc 5 _ rfl;have d6:=hc 6 _ rfl
      simp only [Ss] at he d0 d1 d2 d3 d4 d5 d6
      have HP:=h_ hp
      have HB:=h_ hbw
      clear hp hP hc hx H0 hsz hR hb hbw
      go_wp2_with fail
      exact Sm (v:=.tuple #[.agg #[.string xn,.int .i64 xt,.int .i64 xh,.int .i64 xl,.int .i64 xw,.int .u8 xa,.bool xb],.bool true]) (by simp [results,Tryz.results113,go_sem, *]) rfl
       ⟨by rw [←HP.out];rfl,kS HB.out (Sr _) _ _ _ _ _ _ _ _⟩
  · obtain rfl:k=xs.length:=by omega
    rw [SO] at hp
    have HP:=h_ hp
    have HB:=h_ hbw
    clear hp H0 hsz hR hb hbw
    go_wp2_with fail
    exact Sm (v:=.tuple #[.agg #[.string ⟨#[]⟩,.int .i64 0,.int .i64 0,.int .i64 0,.int .i64 0,.int .u8 0,.bool false],.bool false]) (by simp [results,Tryz.results113,go_sem, *]) rfl
     ⟨by rw [←HP.out];rfl,iz HB.out (Sr _) _ _ _ _ _ _ _⟩
theorem yq (a:Option Addr)(cap:Nat)(xs:List Reg)(nm:ByteArray)(w:Sj)(hR:Regs w a xs)(hl:xs.length≤4000000) :
 Sl Tryz.prog 113 #[.slice a xs.length cap,.string nm] w (rC (kd xs nm) w):=by
 by_cases hm:nm.toList=[]
 · exact AU a cap xs nm w hm
 · exact AS a cap xs nm w hR hm hl
def Ints (w:Sj)(a:Option Addr)(zs:List Int):Prop:=ah 1 (fun z=>[Sk.int .i64 z]) Flat w a zs
theorem Ints.later {w w':Sj} {a:Option Addr} {xs:List Int} (h:Ints w a xs)(hb:Below w.heap.size w w'):Ints w' a xs:=ah.keeps Flat.keeps w w' a xs hb h
def ef (width:Int):List Int→Int
 | []=>0
 | n::l=>if n<0 then 2 else if width<n then 11 else ef width l
def eN (x:Reg)(zs:List Int):Int:=if (!kE x)=true then 1 else if x.aZ<zs.length then 9 else ef x.width zs
theorem ll (width:Int)(zs:List Int)(k:Nat)(z:Int)(hz:zs[k]? =some z):ef width (zs.drop k)=if z<0 then 2 else if width<z then 11 else ef width (zs.drop (k+1)):=by
 have hk:k<zs.length:=(SK.1 hz).1
 have e:zs[k]=z:=(SK.1 hz).2
 rw [SL hk,e,ef]
theorem Tryz.info199:(Tryz.prog.info? 199).map (fun i=>(i.zero,i.size,i.bytes))=some (some (.agg #[.int .i64 0,.int .i64 0,.int .i64 0]),3,24):=by kernel_rfl
theorem nG (w:Sj)(cs:Array Sk)(t:Sq):∀ j u,cs.toList[j]? =some u→(w.alloc (.cells cs t)).cell? ((⟨w.heap.size,0,none⟩:Addr).add j)=some u:=by
 intro j u hu
 have hadd:(⟨w.heap.size,0,none⟩:Addr).add j=⟨w.heap.size,j,none⟩:=by unfold Addr.add;split<;>simp_all
 rw [hadd,cell_of_row _ _ j cs t (0,0) (Sn w _)]
 simpa using hu
theorem aX {P:Program} (w:Sj)(cs:Array Sk) {ops:Array Oper} {rest:List Oper} {o:Oper} {a:Act} {Q:Exit→Act→Sj→Prop} (hgd:o.guard=none)(s x:Operand)(t:Sq)
 (ho:o.op=.call { callee:=.builtin .append,args:=#[s,x],argTypes:=#[t,t] })
 (base:Nat) (e:Sq) (i:TypeInfo) (z:Sk) (size bytes:Nat) (ht:P.underlying t=some (.slice e)) (hi:P.info? e=some i) (hz:i.zero=some z)
 (hsize:i.size=size) (hby:i.bytes=bytes) (hzs:z.cells.size=size) (hsz:0<size)
 (v:Sk) (n:Nat) (xs:List Sk) (hs:a.eval s=v) (hown:w.ownsRow base e size v n xs) (g:Nat) (hx:a.eval x=.slice (some ⟨g,0,none⟩) 1 1) (hg:g=w.heap.size)
 (hcs:cs.size=size) (h1:∀ u∈cs.toList,u.oneCell'=true) (h63:n+1≤maxLen) (hbytes:(n+1)*bytes≤140737488355328) (hbase:base≤w.heap.size)
 (h:∀ v' w2,w2.ownsRow base e size v' (n+1) (xs++cs.toList)→(w.alloc (.cells cs e)).grownBy w2 v.ownBlock→wpList P ops Q rest (a.put o.dst v') w2):wpList P ops Q (o::rest) a (w.alloc (.cells cs e)):=by
 subst hg
 refine wpList_append_own _ hgd s x t ho base e i z size bytes ht hi hz hsize hby hzs hsz v n xs hs (hown.alloc _) ⟨w.heap.size,0,none⟩ 1 1 cs.toList hx (by simpa using hcs) (nG w cs e) h1 h63 hbytes (by simp;omega) ?_
 intro v' w2 h2 h3 _
 exact h v' w2 h2 h3
def nL (E:Int)(w:Sj)(e:Ending)(w':Sj):Prop:=∃ v,e=.returned (.tuple #[v,.int .i64 E])∧Below w.heap.size w w'
theorem gp {k:IntKind} {v:Sk} {a b:Int} (h:a=b):Ending.returned (.tuple #[v,.int k a])=.returned (.tuple #[v,.int k b]):=by rw [h]
def vQ (b:Nat)(W0:Sj)(k:Nat)(v:Sk)(wr:Sj):Prop:=(∃ xs,wr.ownsRow b 199 3 v k xs)∧Below b W0 wr
theorem vQ.step {b k:Nat} {W0 wr w2:Sj} {v v':Sk} {o o':Obj} {xs:List Sk} (h:vQ b W0 k v wr)(hW:b≤W0.heap.size)(hown:w2.ownsRow b 199 3 v' (k+1) xs)
 (hg:((wr.alloc o).alloc o').grownBy w2 v.ownBlock):vQ b W0 (k+1) v' w2:=by
 obtain⟨⟨ys,ho⟩,hb⟩:=h
 have h1:b≤wr.heap.size:=Sw hW hb.size
 exact⟨⟨xs,hown⟩,((hb.alloc h1 o).alloc (by simp;omega) o').grown hg (by simp;omega) (fun j hj=>(ho.lt j hj).1)⟩
theorem uH (x:Reg)(a:Option Addr)(cap:Nat)(zs:List Int)(w:Sj)(hf:x.fits)(hI:Ints w a zs)(hl:zs.length≤4000000)(hB:x.bottom=false) :
 Sl Tryz.prog 116 #[.agg x.enc.toArray,.slice a zs.length cap] w (nL (eN x zs) w):=by
 have hU:=fun w=>kZ x w hf
 generalize hG:eN x zs=G
 unfold eN at hG
 obtain⟨nm,top,aZ,left,width,align,bottom⟩:=x
 obtain⟨_,hT,hH,hL,hW,ha0,ha1⟩:=hf
 simp only [i64] at hT hH hL hW ha0 ha1
 simp only at hB
 subst hB
 generalize kE ⟨nm,top,aZ,left,width,align,false⟩=U at *
 simp only [Reg.enc] at hU hG ⊢
 have HU:=h_ hU
 have HG:=h_ hG
 clear hU hG
 rcases(show U=false∨(U=true∧aZ<zs.length∧decide (aZ<(zs.length:Int))=true)∨(U=true∧zs.length≤aZ∧decide (aZ<(zs.length:Int))=false) by cases U<;>simp<;>omega) with rfl|⟨rfl,hlh,hld⟩|⟨rfl,hlh,hld⟩
 all_goals
  generalize hcs:#[SY nm,.int .i64 top,.int .i64 aZ,.int .i64 left,.int .i64 width,.int .u8 align,.bool false]=cs
  have f0:=aw w cs 37 0 (.string nm) (by rw [←hcs];rfl)
  have f1:=aw w cs 37 1 (.int .i64 top) (by rw [←hcs];rfl)
  have f2:=aw w cs 37 2 (.int .i64 aZ) (by rw [←hcs];rfl)
  have f3:=aw w cs 37 3 (.int .i64 left) (by rw [←hcs];rfl)
  have f4:=aw w cs 37 4 (.int .i64 width) (by rw [←hcs];rfl)
  have f5:=aw w cs 37 5 (.int .u8 align) (by rw [←hcs];rfl)
  have f6:=aw w cs 37 6 (.bool false) (by rw [←hcs];rfl)
  have HB:=h_ (fun(w1:Sj) (h:Below (w.heap.size+1) (w.alloc (.cells cs 37)) w1)=>bL h)
  have hb0:Below (w.heap.size+1) (w.alloc (.cells cs 37)) (w.alloc (.cells cs 37)):=SW _ _
  have hsz:(w.alloc (.cells cs 37)).heap.size=w.heap.size+1:=SZ _ _
  generalize hW0:w.alloc (.cells cs 37)=W0 at *
  have HW0:=h_ hW0
  have dI:=h_ hsz
  clear hW0 hsz
  go_enter Tryz.func116,Tryz.ntmps116
  subst hcs
  go_wp2_with fail
  rw [HW0.out]
  refine(HU.out _).mono ?_
  rintro e w1 ⟨rfl,hb1⟩
  rw [dI.out] at hb1
  clear HW0
  go_wp2_with fail
 · go_ret2
   exact⟨.slice none 0 0,gp (by rw [←HG.out,if_pos (by decide)]),HB.out _ hb1⟩
 · go_ret2
   exact⟨.slice none 0 0,gp (by rw [←HG.out,if_neg (by decide),if_pos hlh]),HB.out _ hb1⟩
 · obtain⟨i0,hi,hz0,hz1,hz2⟩:=Sp Tryz.info199
   have HI:=h_ hi;have H0:=h_ hz0;have H1:=h_ hz1;have H2:=h_ hz2
   clear hi hz0 hz1 hz2
   have hp0:ef width (zs.drop 0)=G:=by
    rw [SR,←HG.out,if_neg (by decide),if_neg (by omega)]
   have FA:=h_ hp0
   clear hp0 HG
   go_loopw [7,34] (fun v i wr=>∃ k:Nat,k≤zs.length∧i=.int .i64 k∧ef width (zs.drop k)=G∧vQ (w.heap.size+1) W0 k v wr) (fun _ i _=>zs.length-(intOf i).toNat)
   case atStart=>exact⟨0,by omega,rfl,FA.out,⟨[],S5 _ _ _ _⟩,hb1⟩
   case round =>
    obtain⟨k,hk,rfl,hp,CA⟩:=hrel
    have hbr:=CA.2
    have GZ:w.heap.size<wr.heap.size:=by have:=hbr.size;rw [dI.out] at this;omega
    by_cases hlt:k<zs.length
    · obtain⟨b,off,z,rfl,hbl,hz,hc,_⟩:=(hI.later (HB.out _ hbr)).at_ hlt
      have d0:=hc 0 _ rfl
      simp only [Ss,Sx] at d0
      rw [ll width zs k z hz] at hp
      have HP:=h_ hp
      clear hp hc hz FA hI
      rcases(show z<0∨(0≤z∧width<z)∨(0≤z∧z≤width) by omega) with h|⟨h,h'⟩|⟨h,h'⟩
      · go_wp2_with fail
        go_ret2
        exact⟨.slice none 0 0,gp (by rw [←HP.out,if_pos h]),HB.out _ hbr⟩
      · go_wp2_with fail
        go_ret2
        exact⟨.slice none 0 0,gp (by rw [←HP.out,if_neg (by omega),if_pos h']),HB.out _ hbr⟩
      · rw [if_neg (by omega),if_neg (by omega)] at HP
        have hal:(align=3∨align=2∨((align==3)=false∧(align==2)=false)):=by
         by_cases h3:align=3
         · exact .inl h3
         · by_cases h2:align=2
           · exact .inr (.inl h2)
           · exact .inr (.inr ⟨by simpa using h3,by simpa using h2⟩)
        rcases hal with rfl|rfl|⟨e3,e2⟩
        all_goals
         obtain⟨xs,hown⟩:=CA.1
         go_wp2_with (at_builtin;refine aX _ _ rfl (.tmp 75) (.tmp 77) 159 rfl (w.heap.size+1) 199 i0 _ 3 24 Tryz.underlying159 HI.out H0.out H1.out H2.out rfl (by decide) _ _ _ rfl (hown.alloc _) _ rfl (by simp) rfl ?h1 ?h63 ?hb ?hbase ?_)
         case h1=>exact⟨rfl,rfl,rfl⟩
         case h63=>unfold maxLen;omega
         case hb=>omega
         case hbase=>simp;omega
         intro v' w2 hown' hgrow
         have R:=vQ.step CA (by rw [dI.out];omega) hown' hgrow
         clear hown' hgrow CA hown
         go_wp2_with fail
         go_roundw
         case rel=>exact⟨k+1,by omega,by go_num,HP.out,R⟩
         case measure=>simp [intOf];omega
    · obtain rfl:k=zs.length:=by omega
      rw [SO] at hp
      have HP:=h_ hp
      clear hp FA
      go_wp2_with fail
      go_ret2
      exact⟨_,gp (by rw [←HP.out];rfl),HB.out _ hbr⟩
theorem xI (x:Reg)(a:Option Addr)(cap:Nat)(zs:List Int)(w:Sj)(hf:x.fits)(hI:Ints w a zs)(hl:zs.length≤4000000)(hB:x.bottom=true) :
 Sl Tryz.prog 116 #[.agg x.enc.toArray,.slice a zs.length cap] w (nL (eN x zs) w):=by
 have hU:=fun w=>kZ x w hf
 generalize hG:eN x zs=G
 unfold eN at hG
 obtain⟨nm,top,aZ,left,width,align,bottom⟩:=x
 obtain⟨_,hT,hH,hL,hW,ha0,ha1⟩:=hf
 simp only [i64] at hT hH hL hW ha0 ha1
 simp only at hB
 subst hB
 generalize kE ⟨nm,top,aZ,left,width,align,true⟩=U at *
 simp only [Reg.enc] at hU hG ⊢
 have HU:=h_ hU
 have HG:=h_ hG
 clear hU hG
 rcases(show U=false∨(U=true∧aZ<zs.length∧decide (aZ<(zs.length:Int))=true)∨(U=true∧zs.length≤aZ∧decide (aZ<(zs.length:Int))=false) by cases U<;>simp<;>omega) with rfl|⟨rfl,hlh,hld⟩|⟨rfl,hlh,hld⟩
 all_goals
  generalize hcs:#[SY nm,.int .i64 top,.int .i64 aZ,.int .i64 left,.int .i64 width,.int .u8 align,.bool true]=cs
  have f0:=aw w cs 37 0 (.string nm) (by rw [←hcs];rfl)
  have f1:=aw w cs 37 1 (.int .i64 top) (by rw [←hcs];rfl)
  have f2:=aw w cs 37 2 (.int .i64 aZ) (by rw [←hcs];rfl)
  have f3:=aw w cs 37 3 (.int .i64 left) (by rw [←hcs];rfl)
  have f4:=aw w cs 37 4 (.int .i64 width) (by rw [←hcs];rfl)
  have f5:=aw w cs 37 5 (.int .u8 align) (by rw [←hcs];rfl)
  have f6:=aw w cs 37 6 (.bool true) (by rw [←hcs];rfl)
  have HB:=h_ (fun(w1:Sj) (h:Below (w.heap.size+1) (w.alloc (.cells cs 37)) w1)=>bL h)
  have hb0:Below (w.heap.size+1) (w.alloc (.cells cs 37)) (w.alloc (.cells cs 37)):=SW _ _
  have hsz:(w.alloc (.cells cs 37)).heap.size=w.heap.size+1:=SZ _ _
  generalize hW0:w.alloc (.cells cs 37)=W0 at *
  have HW0:=h_ hW0
  have dI:=h_ hsz
  clear hW0 hsz
  go_enter Tryz.func116,Tryz.ntmps116
  subst hcs
  go_wp2_with fail
  rw [HW0.out]
  refine(HU.out _).mono ?_
  rintro e w1 ⟨rfl,hb1⟩
  rw [dI.out] at hb1
  clear HW0
  go_wp2_with fail
 · go_ret2
   exact⟨.slice none 0 0,gp (by rw [←HG.out,if_pos (by decide)]),HB.out _ hb1⟩
 · go_ret2
   exact⟨.slice none 0 0,gp (by rw [←HG.out,if_neg (by decide),if_pos hlh]),HB.out _ hb1⟩
 · obtain⟨i0,hi,hz0,hz1,hz2⟩:=Sp Tryz.info199
   have HI:=h_ hi;have H0:=h_ hz0;have H1:=h_ hz1;have H2:=h_ hz2
   clear hi hz0 hz1 hz2
   have hp0:ef width (zs.drop 0)=G:=by
    rw [SR,←HG.out,if_neg (by decide),if_neg (by omega)]
   have FA:=h_ hp0
   clear hp0 HG
   go_loopw [7,34] (fun v i wr=>∃ k:Nat,k≤zs.length∧i=.int .i64 k∧ef width (zs.drop k)=G∧vQ (w.heap.size+1) W0 k v wr) (fun _ i _=>zs.length-(intOf i).toNat)
   case atStart=>exact⟨0,by omega,rfl,FA.out,⟨[],S5 _ _ _ _⟩,hb1⟩
   case round =>
    obtain⟨k,hk,rfl,hp,CA⟩:=hrel
    have hbr:=CA.2
    have GZ:w.heap.size<wr.heap.size:=by have:=hbr.size;rw [dI.out] at this;omega
    by_cases hlt:k<zs.length
    · obtain⟨b,off,z,rfl,hbl,hz,hc,_⟩:=(hI.later (HB.out _ hbr)).at_ hlt
      have d0:=hc 0 _ rfl
      simp only [Ss,Sx] at d0
      rw [ll width zs k z hz] at hp
      have HP:=h_ hp
      clear hp hc hz FA hI
      rcases(show z<0∨(0≤z∧width<z)∨(0≤z∧z≤width) by omega) with h|⟨h,h'⟩|⟨h,h'⟩
      · go_wp2_with fail
        go_ret2
        exact⟨.slice none 0 0,gp (by rw [←HP.out,if_pos h]),HB.out _ hbr⟩
      · go_wp2_with fail
        go_ret2
        exact⟨.slice none 0 0,gp (by rw [←HP.out,if_neg (by omega),if_pos h']),HB.out _ hbr⟩
      · rw [if_neg (by omega),if_neg (by omega)] at HP
        have hal:(align=3∨align=2∨((align==3)=false∧(align==2)=false)):=by
         by_cases h3:align=3
         · exact .inl h3
         · by_cases h2:align=2
           · exact .inr (.inl h2)
           · exact .inr (.inr ⟨by simpa using h3,by simpa using h2⟩)
        rcases hal with rfl|rfl|⟨e3,e2⟩
        all_goals
         obtain⟨xs,hown⟩:=CA.1
         go_wp2_with (at_builtin;refine aX _ _ rfl (.tmp 75) (.tmp 77) 159 rfl (w.heap.size+1) 199 i0 _ 3 24 Tryz.underlying159 HI.out H0.out H1.out H2.out rfl (by decide) _ _ _ rfl (hown.alloc _) _ rfl (by simp) rfl ?h1 ?h63 ?hb ?hbase ?_)
         case h1=>exact⟨rfl,rfl,rfl⟩
         case h63=>unfold maxLen;omega
         case hb=>omega
         case hbase=>simp;omega
         intro v' w2 hown' hgrow
         have R:=vQ.step CA (by rw [dI.out];omega) hown' hgrow
         clear hown' hgrow CA hown
         go_wp2_with fail
         go_roundw
         case rel=>exact⟨k+1,by omega,by go_num,HP.out,R⟩
         case measure=>simp [intOf];omega
    · obtain rfl:k=zs.length:=by omega
      rw [SO] at hp
      have HP:=h_ hp
      clear hp FA
      go_wp2_with fail
      go_ret2
      exact⟨_,gp (by rw [←HP.out];rfl),HB.out _ hbr⟩
theorem lk (x:Reg)(a:Option Addr)(cap:Nat)(zs:List Int)(w:Sj)(hf:x.fits)(hI:Ints w a zs)(hl:zs.length≤4000000) :
 Sl Tryz.prog 116 #[.agg x.enc.toArray,.slice a zs.length cap] w (nL (eN x zs) w):=by
 cases hB:x.bottom
 · exact uH x a cap zs w hf hI hl hB
 · exact xI x a cap zs w hf hI hl hB
end Go.Proofs.YtjebaagkomejaaaGreatDoor
