/- slices.SortStableFunc at events: a permutation of what the row held, ascending. The contract of style.Check: the first error of a row. The contract of event.row: the error of a row of an event. -/
import Derived.Lib.OwnBridge
import Derived.Deep.RegionHeld3
import Derived.Test.YtjebaagkomejaaaGreatDoorK03
import Derived.Test.YtjebaagkomejaaaGreatDoorK04
set_option linter.unusedVariables false
set_option linter.unusedSimpArgs false
set_option maxRecDepth 100000
set_option maxHeartbeats 12800000
open Go.Lib renaming hid→h_
open Go renaming World→Sj,Value→Sk,Calls→Sl
open Go.Sort renaming insertionSort→Sm
open Nat renaming le_refl→Sn,add_zero→Sp,zero_le→Sq
open Go.RowKit.Below renaming refl→Sr
open Go.World renaming size_alloc→Ss,cell?_alloc_lt→St
open Go.Lib renaming toList_data→Su,contains→Sv
namespace Go.Proofs.YtjebaagkomejaaaGreatDoor
open Go.Shelf Go.RowKit Go.Lib Go.Sort
variable {P:Program} {α:Type} [Inhabited α]
theorem rQ (L:qV P)(k:Nat)(aE:∀ w,(isAgg 72).run P w=.ok true w)(zE:∀ w,(Go.sizeOf 72).run P w=.ok k w)(enc:α→List Sk)(cf:α→α→Int)(hO:SWO (ltOf cf))(g:Nat)(cb:Array Sk)(blk off cap:Nat)(d:Array α)(w:Sj)
 (eg:∀ args w,(callFunc g args).run P w=.ok (.enter g args) w) (hcmp:CmpLays P g cb enc k cf blk off d.size w) (R:RowK enc k w blk off d) (S:SWK enc k w blk off d w) (hsz:d.size<1152921504606846976) :
 Sl P 187 #[.slice (some ⟨blk,off,none⟩) d.size cap,.int .i64 d.size,.func (.func g) #[] cb] w (fh (ltOf cf) enc k w blk off d 0 d.size):=by
 have mixed:=L.mixed;have t0:=L.t0;have a0:=L.a0;have z0:=L.z0;have v0:=L.v0;have t3:=L.t3;have a3:=L.a3;have z3:=L.z3;have v3:=L.v3;have t4:=L.t4;have a4:=L.a4;have z4:=L.z4;have v4:=L.v4;have t24:=L.t24;have a24:=L.a24;have z24:=L.z24;have v24:=L.v24;have t183:=L.t183;have a183:=L.a183;have z183:=L.z183;have v183:=L.v183
 have FG:=L.f187
 have e278:∀ args w,(callFunc 224 args).run P w=.ok (.enter 224 args) w:=enters_of L.f224 (by kernel_rfl) rfl
 have e277:∀ args w,(callFunc 223 args).run P w=.ok (.enter 223 args) w:=L.ins.f20.enters rfl
 have nO:=h_ (fun(x y:Nat) (dk:Array α) (W:Sj) (h1:d.size=dk.size) (h2:SWK enc k w blk off dk W) (h3:x≤y) (h4:y≤dk.size) =>
  (show Sl P 223 #[.slice (some ⟨blk,off,none⟩) dk.size cap,.int .i64 x,.int .i64 y,.func (.func g) #[] cb] W fun e w'=>e=.returned (.tuple #[])∧SWK enc k w blk off (Sm (ltOf cf) dk x y) w' from
   uS L.ins k aE zE enc cf g cb blk off cap x y d dk w W eg hcmp R h1 h2 hO h3 h4 (by omega)))
 have Ij:=h_ (fun(x y z:Nat) (dk:Array α) (W:Sj) (h1:d.size=dk.size) (h2:SWK enc k w blk off dk W) (h3:x<y) (h4:y<z) (h5:z≤dk.size) (h6:SortedIn (ltOf cf) x y dk) (h7:SortedIn (ltOf cf) y z dk) =>
  ob L k aE zE enc cf hO g cb blk off cap d w eg hcmp R (by omega) (z-x+1) x y z dk W (by omega) h1 h2 h3 h4 h5 h6 h7)
 have S0:Aside (SWK enc k w blk off d w):=S
 clear S L hcmp
 generalize hQ:fh (ltOf cf) enc k w blk off d 0 d.size=Q
 have HQ:=h_ (fun(dk:Array α) (W:Sj) (h1:dk.size=d.size) (h2:SWK enc k w blk off dk W) (h3:PermIn 0 d.size d dk) (h4:SortedIn (ltOf cf) 0 d.size dk)=>show Q (.returned (.tuple #[])) W from hQ▸⟨rfl,dk,h1,h2,h3,h4⟩)
 clear hQ
 obtain⟨n,hn⟩:∃ n,n=d.size:=⟨_,rfl⟩
 go_enter FG,Tryz.ntmps187
 go_wp2
 go_loopg [7,8] d.size (fun kx s7 s8 wr=>∃ (x:Nat) (dk:Array α),s7=.int .i64 x∧s8=.int .i64 ((x:Int)+20)∧x≤d.size∧d.size-x≤kx∧dk.size=d.size∧Aside (SWK enc k w blk off dk wr)∧Hid (PermIn 0 d.size d dk)∧Hid (Pre (ltOf cf) 20 dk x))
 case atStart=>exact⟨0,d,rfl,by simp,Sq _,by omega,rfl,S0,permIn_refl _ _ _,.zero⟩
 case round =>
  clear S0
  obtain⟨x,dk,rfl,rfl,hx,hkx,hds,S1,HP,HB⟩:=hrel
  by_cases hlt:x+20≤d.size
  · have hltz:(x:Int)+20≤(d.size:Int):=by omega
    have hC:=nO.out x (x+20) dk wr (by omega) S1.out (by omega) (by omega)
    rw [hds,show((x+20:Nat):Int)=(x:Int)+20 by omega] at hC
    obtain⟨q1,q2,q3⟩:=Ej hO hds hlt HP.out HB.out
    generalize Sm (ltOf cf) dk x (x+20)=d2 at hC q1 q2 q3
    have jc:=h_ hC
    have Q1:=h_ q1
    have Q2:=h_ q2
    have Q3:=h_ q3
    clear hC q1 q2 q3
    go_wp2_with (go_at_fn 223;refine jc.out.mono ?_;rintro e w2 ⟨rfl,S2'⟩)
    have S2:Aside (SWK enc k w blk off d2 w2):=S2'
    go_roundg (d.size-(x+20))
    case measure=>omega
    case rel=>exact⟨x+20,d2,by go_num,by go_num,hlt,Sn _,Q3.out,S2,Q1.out,Q2.out⟩
  · have hltz:¬ (x:Int)+20≤(d.size:Int):=by omega
    have hC:=nO.out x d.size dk wr (by omega) S1.out (by omega) (by omega)
    rw [hds] at hC
    obtain⟨q1,q2,q3⟩:=Ek hO hds hx (by omega) HP.out HB.out
    generalize Sm (ltOf cf) dk x d.size=d2 at hC q1 q2 q3
    have jc:=h_ hC
    have Q1:=h_ q1
    have Q2:=h_ q2
    have Q3:=h_ q3
    clear hC q1 q2 q3
    go_wp2_with (go_at_fn 223;refine jc.out.mono ?_;rintro e w2 ⟨rfl,S2'⟩)
    have S2:Aside (SWK enc k w blk off d2 w2):=S2'
    clear S2'
    go_loopg [6,7,8,9] d.size (fun kx s6 s7 s8 s9 wr=>∃ (bs:Nat) (dk:Array α),s6=.int .i64 bs∧0<bs∧bs≤2*d.size+20∧d.size-bs≤kx∧dk.size=d.size∧Aside (SWK enc k w blk off dk wr)∧Hid (PermIn 0 d.size d dk)∧Hid (Blk (ltOf cf) bs d.size dk 0))
    case atStart=>exact⟨20,d2,rfl,by omega,by omega,by omega,Q3.out,S2,Q1.out,Q2.out⟩
    case round =>
     clear S1 S2 HP HB Q1 Q2 Q3 jc hlt hltz hkx hds
     obtain⟨bs,dk,rfl,hbs,Oc,hkx,hds,S1,HP,HB⟩:=hrel
     by_cases hlt:bs<d.size
     · have hltz:(bs:Int)<(d.size:Int):=by omega
       go_wp2
       go_loopg [7,8] d.size (fun ky s7 s8 wr=>∃ (y:Nat) (dk:Array α),s7=.int .i64 y∧s8=.int .i64 ((y:Int)+2*(bs:Int))∧y≤d.size∧d.size-y≤ky∧dk.size=d.size∧Aside (SWK enc k w blk off dk wr)∧Hid (PermIn 0 d.size d dk)∧Hid (Pre (ltOf cf) (2*bs) dk y)∧Hid (Blk (ltOf cf) bs d.size dk y))
       case atStart=>exact⟨0,dk,rfl,by simp,Sq _,by omega,hds,S1,HP,.zero,HB⟩
       case round =>
        clear S1 HP HB hds
        obtain⟨y,dk,rfl,rfl,hy,Ph,hds,S1,HP,HE,HB⟩:=hrel
        by_cases hlt2:y+2*bs≤d.size
        · have sM:(y:Int)+2*(bs:Int)≤(d.size:Int):=by omega
          have hC:=Ij.out y (y+bs) (y+2*bs) dk wr (by omega) S1.out (by omega) (by omega) (by omega) (vT hlt2 HB.out).1 (vT hlt2 HB.out).2
          rw [hds,show((y+bs:Nat):Int)=(y:Int)+(bs:Int) by omega,show((y+2*bs:Nat):Int)=(y:Int)+2*(bs:Int) by omega] at hC
          have jc:=h_ hC
          clear hC
          go_wp2_with (go_at_fn 224;refine jc.out.mono ?_;rintro e w2 ⟨rfl,d2,z2,S2',p2,s2⟩)
          obtain⟨q1,q2,q3⟩:=DP hds hlt2 HP.out HE.out HB.out p2 s2
          have S2:Aside (SWK enc k w blk off d2 w2):=S2'
          go_roundg (d.size-(y+2*bs))
          case measure=>omega
          case rel=>exact⟨y+2*bs,d2,by go_num,by go_num,hlt2,Sn _,z2.trans hds,S2,q1,q2,q3⟩
        · have sM:¬ (y:Int)+2*(bs:Int)≤(d.size:Int):=by omega
          by_cases hlt3:y+bs<d.size
          · have GY:(y:Int)+(bs:Int)<(d.size:Int):=by omega
            have hC:=Ij.out y (y+bs) d.size dk wr (by omega) S1.out (by omega) (by omega) (by omega) (rP hlt3 (by omega) HB.out).1 (rP hlt3 (by omega) HB.out).2
            rw [hds,show((y+bs:Nat):Int)=(y:Int)+(bs:Int) by omega] at hC
            have jc:=h_ hC
            clear hC
            go_wp2_with (go_at_fn 224;refine jc.out.mono ?_;rintro e w2 ⟨rfl,d2,z2,S2',p2,s2⟩)
            obtain⟨q1,q2⟩:=zu hds hy (by omega) HP.out HE.out p2 s2
            have S2:Aside (SWK enc k w blk off d2 w2):=S2'
            go_roundg (d.size-2*bs)
            case measure=>omega
            case rel=>exact⟨2*bs,d2,by first|rfl|go_num|(congr 1;omega),by omega,by omega,Sn _,z2.trans hds,S2,q1,q2⟩
          · have GY:¬ (y:Int)+(bs:Int)<(d.size:Int):=by omega
            have hso:SortedIn (ltOf cf) y d.size dk:=SortedIn.part HB.out.head (Sn _) (by omega)
            obtain⟨q1,q2⟩:=zu hds hy (by omega) HP.out HE.out (permIn_refl _ _ _) hso
            have Q1:=h_ q1
            have Q2:=h_ q2
            clear q1 q2 hso
            go_wp2
            go_roundg (d.size-2*bs)
            case measure=>omega
            case rel=>exact⟨2*bs,dk,by first|rfl|go_num|(congr 1;omega),by omega,by omega,Sn _,hds,S1,Q1.out,Q2.out⟩
     · have hltz:¬ (bs:Int)<(d.size:Int):=by omega
       go_wp2
       go_end0
       exact HQ.out dk _ hds S1.out HP.out (SortedIn.part HB.out.head (Sn _) (by omega))
theorem lQ (L:qV P)(k:Nat)(aE:∀ w,(isAgg 72).run P w=.ok true w)(zE:∀ w,(Go.sizeOf 72).run P w=.ok k w)(enc:α→List Sk)(cf:α→α→Int)(hO:SWO (ltOf cf))(g:Nat)(cb:Array Sk)(blk off cap:Nat)(d:Array α)(w:Sj)
 (eg:∀ args w,(callFunc g args).run P w=.ok (.enter g args) w) (hcmp:CmpLays P g cb enc k cf blk off d.size w) (R:RowK enc k w blk off d) (S:SWK enc k w blk off d w) (hsz:d.size<1152921504606846976) :
 Sl P 133 #[.slice (some ⟨blk,off,none⟩) d.size cap,.func (.func g) #[] cb] w (fh (ltOf cf) enc k w blk off d 0 d.size):=by
 have mixed:=L.mixed;have t0:=L.t0;have a0:=L.a0;have z0:=L.z0;have v0:=L.v0;have t3:=L.t3;have a3:=L.a3;have z3:=L.z3;have v3:=L.v3;have t4:=L.t4;have a4:=L.a4;have z4:=L.z4;have v4:=L.v4;have t24:=L.t24;have a24:=L.a24;have z24:=L.z24;have v24:=L.v24;have t183:=L.t183;have a183:=L.a183;have z183:=L.z183;have v183:=L.v183
 have FG:=L.f133
 have e247:∀ args w,(callFunc 187 args).run P w=.ok (.enter 187 args) w:=enters_of L.f187 (by kernel_rfl) rfl
 have HC:=h_ (rQ L k aE zE enc cf hO g cb blk off cap d w eg hcmp R S hsz)
 clear L hcmp S
 generalize hQ:fh (ltOf cf) enc k w blk off d 0 d.size=Q at HC ⊢
 have HQ:=h_ (fun e W (h:Q e W)=>show e=.returned (.tuple #[]) from(by rw [←hQ] at h;exact h.1))
 clear hQ
 go_enter FG,Tryz.ntmps133
 go_wp2_with fail
 refine HC.out.mono ?_
 intro e w' he
 obtain rfl:=HQ.out _ _ he
 go_wp2_with fail
 go_end0
 exact he
end Go.Proofs.YtjebaagkomejaaaGreatDoor
namespace Go.Proofs.YtjebaagkomejaaaGreatDoor
open Go.RowKit
theorem sf (r:Row)(w:Sj)(hE:Env w)(hr:r.lies w)(hf:r.fits)(hn:r.runs.length≤16) :
 Sl Tryz.prog 126 #[.agg r.enc.toArray] w fun e w'=>e=.returned (.int .i64 (fT r.runs))∧Below w.heap.size w w':=by
 obtain⟨a,cap,xs⟩:=r
 obtain⟨hfx,hl,hsum⟩:=hf
 simp only [Row.lies] at hr
 simp only [Row.enc] at *
 rw [fT,if_neg (by omega)]
 generalize hG:eK none xs=G
 have H0:=h_ (show eK (dC xs 0) (xs.drop 0)=G by rw [List.drop_zero];exact hG)
 have hn2:decide ((16:Int)<(xs.length:Int))=false:=by simp;omega
 clear hG
 go_enter Tryz.func126,Tryz.ntmps126
 go_wp2_with fail
 go_loopw [12] (fun i wr=>∃ k:Nat,k≤xs.length∧i=.int .i64 k∧eK (dC xs k) (xs.drop k)=G∧Below (w.heap.size+1) (w.alloc (.cells #[.slice a xs.length cap] 75)) wr) (fun i _=>xs.length-(intOf i).toNat)
 case atStart=>exact⟨0,by omega,rfl,H0.out,Sr _ _⟩
 case round =>
  obtain⟨k,hk,rfl,hp,hb0⟩:=hrel
  have hb:=bL hb0
  by_cases hlt:k<xs.length
  · have hRr:=hr.later hb
    obtain⟨b,off,x,rfl,hbl,hx,hc,_⟩:=hRr.at_ hlt
    have hft:=hfx x (List.mem_of_getElem? hx)
    have HN:=h_ (pZ xs k x hx (dC xs k))
    have HS:=h_ (pY xs k x hx (dC xs k))
    have HP:=h_ hp
    have hcs:=zF x
    have kM:=aw w #[.slice (some ⟨b,off,none⟩) xs.length cap] 75 0 _ rfl
    have M0:=h_ (fun w1 (h:Below (wr.heap.size+1) (wr.alloc (.cells x.enc.toArray 77)) w1)=>kM w1 ((hb0.alloc (by have:=hb0.size;rw [Ss] at this;exact this) _).trans (h.mono (by have:=hb0.size;rw [Ss] at this;omega))))
    have HB:=h_ (fun w1 (h:Below (wr.heap.size+1) (wr.alloc (.cells x.enc.toArray 77)) w1)=>eI hb _ h)
    have HB0:=h_ (fun w1 (h:Below (wr.heap.size+1) (wr.alloc (.cells x.enc.toArray 77)) w1)=>(hb0.alloc (by have:=hb0.size;rw [Ss] at this;exact this) _).trans (h.mono (by have:=hb0.size;rw [Ss] at this;omega)))
    obtain⟨f1,f2,f3,f4⟩:=hft
    have hsE:∀ p,jy x≠0→fE p x=jy x:=fun p h=>by unfold fE;rw [if_pos (by simpa using h)]
    have kA:=h_ hsE
    have hg:=fun j v h=>aw wr x.enc.toArray 77 j v h
    obtain⟨t,c,i,u,ru⟩:=x
    have d0:=hc 0 _ rfl;have d1:=hc 1 _ rfl;have d2:=hc 2 _ rfl;have d3:=hc 3 _ rfl;have d4:=hc 4 _ rfl
    have g0:=hg 0 _ rfl;have g1:=hg 1 _ rfl;have g2:=hg 2 _ rfl;have g3:=hg 3 _ rfl;have g4:=hg 4 _ rfl
    simp only [Sp,Run.enc] at d0 d1 d2 d3 d4 g0 g1 g2 g3 g4 HB HB0 M0 f1 f2 f3 f4 hcs
    have HE:=h_ (fun w1 (h:Below (wr.heap.size+1) (wr.alloc (.cells #[.string t,.int .u8 c,.bool i,.bool u,.string ru] 77)) w1)=>hE.below (HB.out w1 h) (Sn _))
    have hq0:Below (wr.heap.size+1) (wr.alloc (.cells #[.string t,.int .u8 c,.bool i,.bool u,.string ru] 77)) (wr.alloc (.cells #[.string t,.int .u8 c,.bool i,.bool u,.string ru] 77)):=Sr _ _
    have hsz1:(wr.alloc (.cells #[.string t,.int .u8 c,.bool i,.bool u,.string ru] 77)).heap.size=wr.heap.size+1:=Ss _ _
    have HV:=h_ (fun s (hs:s.size≤4000000) w1 (h:Below (wr.heap.size+1) (wr.alloc (.cells #[.string t,.int .u8 c,.bool i,.bool u,.string ru] 77)) w1)=>dJ s w1 hs (HE.out w1 h))
    generalize hW1:wr.alloc (.cells #[.string t,.int .u8 c,.bool i,.bool u,.string ru] 77)=W1 at *
    have HW1:=h_ hW1
    have dI:=h_ hsz1
    clear hW1 hsz1 hc hg hsE kM hp H0 hfx
    rcases hcs with⟨v1,he⟩|⟨v1,v2,he⟩|⟨v1,v2,v3,he⟩|⟨v1,v2,v3,v4,he⟩|⟨v1,v2,v3,v4,he⟩
    · have hst:=h_ (kA.out (dC xs k) (by rw [he];decide))
      have dV:=h_ he
      clear he hRr
      go_wp2_with fail
      rw [HW1.out]
      refine(HV.out t f1 _ hq0).mono ?_
      rintro e w1 ⟨rfl,hb1⟩
      rw [dI.out] at hb1
      go_wp2_with fail
      go_ret
      exact⟨aG (by rw [←HP.out,HS.out (by rw [hst.out,dV.out];rfl),hst.out,dV.out]),HB.out _ hb1⟩
    · have hst:=h_ (kA.out (dC xs k) (by rw [he];decide))
      have dV:=h_ he
      clear he hRr
      have v2':t.toList.isEmpty=true:=by simpa using v2
      go_wp2_with fail
      rw [HW1.out]
      refine(HV.out t f1 _ hq0).mono ?_
      rintro e w1 ⟨rfl,hb1⟩
      rw [dI.out] at hb1
      go_wp2_with fail
      go_ret
      exact⟨aG (by rw [←HP.out,HS.out (by rw [hst.out,dV.out];rfl),hst.out,dV.out]),HB.out _ hb1⟩
    · have hst:=h_ (kA.out (dC xs k) (by rw [he];decide))
      have dV:=h_ he
      clear he hRr
      have v2':t.toList.isEmpty=false:=by simpa using v2
      have v3':decide (c≤6)=false:=by simpa using v3
      go_wp2_with fail
      rw [HW1.out]
      refine(HV.out t f1 _ hq0).mono ?_
      rintro e w1 ⟨rfl,hb1⟩
      rw [dI.out] at hb1
      go_wp2_with fail
      refine(cC c i u _).mono ?_
      rintro e w2 ⟨rfl,hb2⟩
      replace hb2:Below (wr.heap.size+1) W1 w2:=hb1.trans (hb2.mono (by have:=hb1.size;rw [dI.out] at this;exact this))
      go_wp2_with fail
      go_ret
      exact⟨aG (by rw [←HP.out,HS.out (by rw [hst.out,dV.out];rfl),hst.out,dV.out]),HB.out _ hb2⟩
    · have hst:=h_ (kA.out (dC xs k) (by rw [he];decide))
      have dV:=h_ he
      clear he hRr
      have v2':t.toList.isEmpty=false:=by simpa using v2
      have v3':decide (c≤6)=true:=by simpa using v3
      go_wp2_with fail
      rw [HW1.out]
      refine(HV.out t f1 _ hq0).mono ?_
      rintro e w1 ⟨rfl,hb1⟩
      rw [dI.out] at hb1
      go_wp2_with fail
      refine(cC c i u _).mono ?_
      rintro e w2 ⟨rfl,hb2⟩
      replace hb2:Below (wr.heap.size+1) W1 w2:=hb1.trans (hb2.mono (by have:=hb1.size;rw [dI.out] at this;exact this))
      go_wp2_with fail
      refine(HV.out ru f2 _ hb2).mono ?_
      rintro e w3 ⟨rfl,hb3⟩
      replace hb3:Below (wr.heap.size+1) W1 w3:=hb2.trans (hb3.mono (by have:=hb2.size;rw [dI.out] at this;exact this))
      go_wp2_with fail
      go_ret
      exact⟨aG (by rw [←HP.out,HS.out (by rw [hst.out,dV.out];rfl),hst.out,dV.out]),HB.out _ hb3⟩
    · have dV:=h_ he
      clear he
      have v2':t.toList.isEmpty=false:=by simpa using v2
      have v3':decide (c≤6)=true:=by simpa using v3
      rcases Nat.eq_zero_or_pos k with hk0|hk0
      · have hst:=h_ (show fE (dC xs k) ⟨t,c,i,u,ru⟩=0 by rw [hk0];simp [fE,dC,dV.out])
        have hkd:decide (0<k)=false:=by simp;omega
        clear hRr hk0
        go_wp2_with fail
        rw [HW1.out]
        refine(HV.out t f1 _ hq0).mono ?_
        rintro e w1 ⟨rfl,hb1⟩
        rw [dI.out] at hb1
        go_wp2_with fail
        refine(cC c i u _).mono ?_
        rintro e w2 ⟨rfl,hb2⟩
        replace hb2:Below (wr.heap.size+1) W1 w2:=hb1.trans (hb2.mono (by have:=hb1.size;rw [dI.out] at this;exact this))
        go_wp2_with fail
        refine(HV.out ru f2 _ hb2).mono ?_
        rintro e w3 ⟨rfl,hb3⟩
        replace hb3:Below (wr.heap.size+1) W1 w3:=hb2.trans (hb3.mono (by have:=hb2.size;rw [dI.out] at this;exact this))
        go_wp2_with fail
        go_quiet (fail)
        go_wp2_with fail
        go_roundw
        case rel=>exact⟨k+1,by omega,by go_num,by rw [←HN.out hst.out];exact HP.out,Go.below_drewN (HB0.out _ hb3) _⟩
        case measure=>simp [intOf];omega
      · obtain⟨b',off',y,hab,_,hy,hcy,_⟩:=hRr.at_ (show k-1<xs.length by omega)
        simp only [Option.some.injEq,Addr.mk.injEq,and_true] at hab
        obtain⟨rfl,rfl⟩:=hab
        have hpv:dC xs k=some y:=by
         obtain⟨j,rfl⟩:∃ j,k=j+1:=⟨k-1,by omega⟩
         simp only [Nat.add_sub_cancel] at hy
         simp [dC,hy]
        have hst:fE (dC xs k) ⟨t,c,i,u,ru⟩=if eu y ⟨t,c,i,u,ru⟩=true then 8 else 0:=by
         rw [hpv];simp [fE,dV.out]
        have hpc:∀ j v,y.enc[j]? =some v→∀ w1,Below (wr.heap.size+1) W1 w1→w1.cell? ⟨b,off+(k-1)*5+j,none⟩=some v:=fun j v hv w1 h=>by
         rw [h.cell (p:=⟨b,off+(k-1)*5+j,none⟩) (by simp;omega),←HW1.out,St _ _ _ (by simpa using hbl)]
         exact hcy j v hv
        have hal:=fun w=>nI y ⟨t,c,i,u,ru⟩ w
        obtain⟨yt,yc,yi,yu,yr⟩:=y
        generalize eu ⟨yt,yc,yi,yu,yr⟩ ⟨t,c,i,u,ru⟩=AL at *
        have p0:=hpc 0 _ rfl;have p1:=hpc 1 _ rfl;have p2:=hpc 2 _ rfl;have p3:=hpc 3 _ rfl;have p4:=hpc 4 _ rfl
        simp only [Sp,Run.enc] at p0 p1 p2 p3 p4 hal
        have FR:=h_ hal
        have kM:=M0.out
        have hkd:decide (0<k)=true:=by simp;omega
        have hk1:1≤k:=hk0
        have hkz:(1:Int)≤(k:Int):=by omega
        have hkl:(k:Int)-1<(xs.length:Int):=by omega
        have hwr:IntKind.i64.wrap ((k:Int)-1)=(k:Int)-1:=IntWalk.i64_in _ (by omega)
        have hkn:((k:Int)-1).toNat=k-1:=by omega
        clear hpc hpv hRr hcy hy hk0 hal
        cases AL
        · rw [if_neg (by decide)] at hst
          have HST:=h_ hst
          clear hst
          go_wp2_with fail
          rw [HW1.out]
          refine(HV.out t f1 _ hq0).mono ?_
          rintro e w1 ⟨rfl,hb1⟩
          rw [dI.out] at hb1
          go_wp2_with fail
          refine(cC c i u _).mono ?_
          rintro e w2 ⟨rfl,hb2⟩
          replace hb2:Below (wr.heap.size+1) W1 w2:=hb1.trans (hb2.mono (by have:=hb1.size;rw [dI.out] at this;exact this))
          go_wp2_with fail
          refine(HV.out ru f2 _ hb2).mono ?_
          rintro e w3 ⟨rfl,hb3⟩
          replace hb3:Below (wr.heap.size+1) W1 w3:=hb2.trans (hb3.mono (by have:=hb2.size;rw [dI.out] at this;exact this))
          go_wp2_with fail
          have AI:Below (wr.heap.size+1) W1 w3.drew:=hb3.drew
          go_region_with (go_at_call 183;refine(FR.out _).mono ?_;rintro e w4 ⟨rfl,hb4⟩;replace hb4:Below (wr.heap.size+1) W1 w4:=AI.trans (hb4.mono (by have:=AI.size;rw [dI.out] at this;exact this)))
          all_goals
           go_wp2_with fail
           go_roundw
           case rel=>exact⟨k+1,by omega,by go_num,by rw [←HN.out HST.out];exact HP.out,HB0.out _ hb4⟩
           case measure=>simp [intOf];omega
        · rw [if_pos rfl] at hst
          have HST:=h_ hst
          clear hst
          go_wp2_with fail
          rw [HW1.out]
          refine(HV.out t f1 _ hq0).mono ?_
          rintro e w1 ⟨rfl,hb1⟩
          rw [dI.out] at hb1
          go_wp2_with fail
          refine(cC c i u _).mono ?_
          rintro e w2 ⟨rfl,hb2⟩
          replace hb2:Below (wr.heap.size+1) W1 w2:=hb1.trans (hb2.mono (by have:=hb1.size;rw [dI.out] at this;exact this))
          go_wp2_with fail
          refine(HV.out ru f2 _ hb2).mono ?_
          rintro e w3 ⟨rfl,hb3⟩
          replace hb3:Below (wr.heap.size+1) W1 w3:=hb2.trans (hb3.mono (by have:=hb2.size;rw [dI.out] at this;exact this))
          go_wp2_with fail
          have AI:Below (wr.heap.size+1) W1 w3.drew:=hb3.drew
          go_region_with (go_at_call 183;refine(FR.out _).mono ?_;rintro e w4 ⟨rfl,hb4⟩;replace hb4:Below (wr.heap.size+1) W1 w4:=AI.trans (hb4.mono (by have:=AI.size;rw [dI.out] at this;exact this)))
          all_goals
           go_wp2_with fail
           go_ret
           exact⟨aG (by rw [←HP.out,HS.out (by rw [HST.out];rfl),HST.out]),HB.out _ hb4⟩
  · obtain rfl:k=xs.length:=by omega
    rw [List.drop_length] at hp
    have HP:=h_ hp
    clear hp H0
    go_wp2_with fail
    go_ret
    exact⟨aG (by rw [←HP.out];cases dC xs xs.length<;>rfl),hb⟩
theorem jz (r:Row)(w:Sj)(hE:Env w)(hr:r.lies w)(hf:r.fits) :
 Sl Tryz.prog 126 #[.agg r.enc.toArray] w fun e w'=>e=.returned (.int .i64 (fT r.runs))∧Below w.heap.size w w':=by
 by_cases hn:16<r.runs.length
 · exact p_ r w hn
 · exact sf r w hE hr hf (by omega)
def untidy (t:ByteArray):Bool:=(t.data.toList.isEmpty||(t.data.toList.headD 0).toNat==32)||((t.data.toList.getLastD 0).toNat==32||Sv t.data.toList [32,32])
def eO (runs:List Run):Int:=if (fT runs != 0)=true then fT runs else if untidy (plain runs)=true then 4 else if 32<rowLen runs then 11 else 0
theorem Ad (s:ByteArray)(h:0<s.size):s.data.toList.getLastD 0=s[s.size-1]:=by
 have hl:s.data.toList.length=s.size:=by simp
 have hne:s.data.toList≠[]:=by intro e;rw [e] at hl;simp at hl;omega
 rw [List.getLastD_eq_getLast?,List.getLast?_eq_getElem?]
 rw [List.getElem?_eq_getElem (by omega)]
 simp only [Option.getD_some]
 have:s[s.size-1]=s.data.toList[s.size-1]:=rfl
 simp only [this,hl]
theorem rM (t:ByteArray):(t.size=0∧untidy t=true)∨(∃ h:0<t.size,(t[0].toNat=32∧untidy t=true)∨(t[0].toNat≠32∧t[t.size-1].toNat=32∧untidy t=true)∨(t[0].toNat≠32∧t[t.size-1].toNat≠32∧untidy t=Sv t.data.toList [32,32])):=by
 by_cases h:0<t.size
 · refine .inr ⟨h,?_⟩
   have hne:t.data.toList.isEmpty=false:=by
    rw [List.isEmpty_eq_false_iff];intro e
    have hl:t.data.toList.length=t.size:=by simp
    rw [e] at hl;simp at hl;omega
   unfold untidy
   rw [kc t h,Ad t h,hne]
   by_cases h1:t[0].toNat=32
   · exact .inl ⟨h1,by simp only [h1];simp⟩
   · by_cases h2:t[t.size-1].toNat=32
     · exact .inr (.inl ⟨h1,h2,by simp only [h2];simp⟩)
     · refine .inr (.inr ⟨h1,h2,?_⟩)
       rw [beq_eq_false_iff_ne.2 h1,beq_eq_false_iff_ne.2 h2]
       simp
 · refine .inl ⟨by omega,?_⟩
   have hl:t.data.toList.length=t.size:=by simp
   have:t.data.toList=[]:=List.eq_nil_of_length_eq_zero (by omega)
   unfold untidy
   rw [this]
   rfl
theorem nt (r:Row)(w:Sj)(hE:Env w)(hr:r.lies w)(hf:r.fits) :
 Sl Tryz.prog 115 #[.agg r.enc.toArray] w fun e w'=>e=.returned (.int .i64 (eO r.runs))∧Below w.heap.size w w':=by
 have hC:=fun w1 h1 h2=>jz r w1 h1 h2 hf
 have hP:=fun w1 h2=>mI r w1 h2 hf
 have hL:=fun w1 h1 h2=>eQ r w1 h1 h2 hf
 have hps:(plain r.runs).size≤4000000:=by
  have h2:=hf.2.2
  show(iC r.runs).toArray.size≤4000000
  rw [List.size_toArray,gQ];exact h2
 obtain⟨a,cap,xs⟩:=r
 simp only [Row.enc,Row.lies] at *
 generalize hG:eO xs=G
 unfold eO at hG
 have hun:=rM (plain xs)
 generalize fT xs=E at *
 generalize plain xs=T at *
 generalize rowLen xs=L at *
 generalize Oj:untidy T=UT at *
 have HG:=h_ hG
 generalize hcs:#[Sk.slice a xs.length cap]=cs at *
 have f0:=aw w cs 75 0 (.slice a xs.length cap) (by rw [←hcs];rfl)
 have HB:=h_ (fun(w1:Sj) (h:Below (w.heap.size+1) (w.alloc (.cells cs 75)) w1)=>bL h)
 have HE:=h_ (fun(w1:Sj) (h:Below (w.heap.size+1) (w.alloc (.cells cs 75)) w1)=>hE.below (bL h) (Sn _))
 have HR:=h_ (fun(w1:Sj) (h:Below (w.heap.size+1) (w.alloc (.cells cs 75)) w1)=>hr.later (bL h))
 have hb0:Below (w.heap.size+1) (w.alloc (.cells cs 75)) (w.alloc (.cells cs 75)):=Sr _ _
 have hsz:(w.alloc (.cells cs 75)).heap.size=w.heap.size+1:=Ss _ _
 have HC:=h_ hC;have MI:=h_ hP;have HL:=h_ hL
 generalize hW0:w.alloc (.cells cs 75)=W0 at *
 have HW0:=h_ hW0
 have dI:=h_ hsz
 clear hW0 hsz hE hr hC hP hL hG Oj
 go_enter Tryz.func115,Tryz.ntmps115
 subst hcs
 go_wp2_with fail
 rw [HW0.out]
 refine(HC.out _ (HE.out _ hb0) (HR.out _ hb0)).mono ?_
 rintro e w1 ⟨rfl,hb1⟩
 rw [dI.out] at hb1
 clear HW0 HC
 cases hE1:E != 0
 · have hE0:E=0:=by simpa using hE1
   rw [hE1] at HG
   clear hE1
   subst hE0
   go_wp2_with fail
   refine(MI.out _ (HR.out _ hb1)).mono ?_
   rintro e w2 ⟨rfl,hb2⟩
   replace hb2:Below (w.heap.size+1) W0 w2:=hb1.trans (hb2.mono (by have:=hb1.size;rw [dI.out] at this;exact this))
   obtain⟨m,hm⟩:=(HE.out _ hb2).2
   clear MI
   have JG:=h_ (Tryz.strings_Contains T ⟨#[32,32]⟩ m w2 (by omega) hm)
   clear hm
   rcases hun with⟨ht,hu⟩|⟨ht,⟨h1,hu⟩|⟨h1,h2,hu⟩|⟨h1,h2,hu⟩⟩
   · have t0:T.toList=[]:=(kj T).1 ht
     have t1:T.toList.isEmpty=true:=by simpa using t0
     have HU:=h_ hu
     clear hu ht
     go_wp2_with fail
     go_ret
     exact⟨aG (by rw [←HG.out,HU.out];rfl),HB.out _ hb2⟩
   · have t0:¬ T.toList=[]:=fun h=>by have:=(kj T).2 h;omega
     have t1:T.toList.isEmpty=false:=by simpa using t0
     have t2:((T[0].toNat:Int)==32)=true:=by simp only [h1];decide
     have HU:=h_ hu
     clear hu h1
     go_wp2_with fail
     go_ret
     exact⟨aG (by rw [←HG.out,HU.out];rfl),HB.out _ hb2⟩
   · have t0:¬ T.toList=[]:=fun h=>by have:=(kj T).2 h;omega
     have t1:T.toList.isEmpty=false:=by simpa using t0
     have t2:((T[0].toNat:Int)==32)=false:=by rw [beq_eq_false_iff_ne];omega
     have t3:((T[T.size-1].toNat:Int)==32)=true:=by simp only [h2];decide
     have HU:=h_ hu
     clear hu h1 h2
     go_wp2_with fail
     go_ret
     exact⟨aG (by rw [←HG.out,HU.out];rfl),HB.out _ hb2⟩
   · have t0:¬ T.toList=[]:=fun h=>by have:=(kj T).2 h;omega
     have t1:T.toList.isEmpty=false:=by simpa using t0
     have t2:((T[0].toNat:Int)==32)=false:=by rw [beq_eq_false_iff_ne];omega
     have t3:((T[T.size-1].toNat:Int)==32)=false:=by rw [beq_eq_false_iff_ne];omega
     have hcc:Sv T.data.toList (⟨#[32,32]⟩:ByteArray).data.toList=UT:=by rw [hu]
     have HU:=h_ hu
     rw [hcc] at JG
     clear hu h1 h2 hcc
     cases UT
     · rw [if_neg (by decide),if_neg (by decide)] at HG
       by_cases hL:32<L
       · rw [if_pos hL] at HG
         go_wp2_with (first
          | (go_at_call 178;refine JG.out.mono ?_;rintro e w9 ⟨rfl,rfl⟩)
          | (go_at_call 88;refine(HL.out _ (HE.out _ hb2) (HR.out _ hb2)).mono ?_;rintro e w3 ⟨rfl,hb3⟩))
         go_ret
         exact⟨aG HG.out,HB.out _ (hb2.trans (hb3.mono (by have:=hb2.size;rw [dI.out] at this;exact this)))⟩
       · rw [if_neg hL] at HG
         have hL':L≤32:=by omega
         go_wp2_with (first
          | (go_at_call 178;refine JG.out.mono ?_;rintro e w9 ⟨rfl,rfl⟩)
          | (go_at_call 88;refine(HL.out _ (HE.out _ hb2) (HR.out _ hb2)).mono ?_;rintro e w3 ⟨rfl,hb3⟩))
         go_ret
         exact⟨aG HG.out,HB.out _ (hb2.trans (hb3.mono (by have:=hb2.size;rw [dI.out] at this;exact this)))⟩
     · rw [if_neg (by decide),if_pos rfl] at HG
       go_wp2_with (go_at_call 178;refine JG.out.mono ?_;rintro e w9 ⟨rfl,rfl⟩)
       go_ret
       exact⟨aG HG.out,HB.out _ hb2⟩
 · rw [hE1,if_pos rfl] at HG
   go_wp2_with fail
   go_ret
   exact⟨aG HG.out,HB.out _ hb1⟩
theorem Tryz.info9:(Tryz.prog.info? 9).map (fun i=>(i.zero,i.size,i.bytes))=some (some (.string ⟨#[]⟩),1,16):=by kernel_rfl
def kz {α β:Type} (K:Nat)(enc:β→Sk)(key:α→β)(zs:List α)(W:Sj)(k:Nat)(v:Sk)(wr:Sj):Prop :=
 wr.ownsRow W.heap.size K 1 v k (((zs.take k).map key).map enc)∧Below W.heap.size W wr
theorem kz.step {α β:Type} {K:Nat} {enc:β→Sk} {key:α→β} {zs:List α} {W w1 w2:Sj} {k:Nat} {v v':Sk} {x:α} {cs:Array Sk} (hx:zs[k]? =some x)(hb:Below W.heap.size W w1)(ho:w1.ownsRow W.heap.size K 1 v k (((zs.take k).map key).map enc))(hcs:cs.toList=[enc (key x)])
 (hown:w2.ownsRow W.heap.size K 1 v' (k+1) (((zs.take k).map key).map enc++cs.toList)) (hg:(w1.alloc (.cells cs K)).grownBy w2 v.ownBlock):kz K enc key zs W (k+1) v' w2:=by
 refine⟨?_,(hb.alloc hb.size _).grown hg (by have:=hb.size;simp;omega) (fun j hj=>(ho.lt j hj).1)⟩
 rw [List.take_add_one,hx]
 simp only [Option.toList_some,List.map_append,List.map_cons,List.map_nil]
 rw [hcs] at hown
 exact hown
theorem kz.all {α β:Type} {K:Nat} {enc:β→Sk} {key:α→β} {zs:List α} {W wr:Sj} {v:Sk} (h:kz K enc key zs W zs.length v wr):wr.ownsRow W.heap.size K 1 v (zs.map key).length ((zs.map key).map enc):=by
 have:=h.1
 rw [List.take_length] at this
 simpa using this
def bV {α:Type} (p:α→Bool):List α→Nat→Int
 | [],_=>-1
 | x::l,i=>if p x=true then (i:Int) else bV p l (i+1)
def posOf {α:Type} (p:α→Bool)(xs:List α):Int:=bV p xs 0
theorem mH {α:Type} [Inhabited α] (p:α→Bool)(xs:List α):Lib.idxBy (fun _ y=>p y) xs default=posOf p xs:=by
 unfold Lib.idxBy posOf
 generalize 0=i
 induction xs generalizing i with
 | nil=>rfl
 | cons x l ih=>simp only [Lib.idxByFrom,bV,ih]
theorem pd {α:Type} (p:α→Bool):∀ (xs:List α)(i:Nat),bV p xs i=-1∨((i:Int)≤bV p xs i∧bV p xs i<(i:Int)+xs.length)
 | [],i=>.inl rfl
 | x::l,i=>by
   unfold bV
   split
   · right;simp;omega
   · rcases pd p l (i+1) with h|h
     · exact .inl h
     · right;simp only [List.length_cons];omega
theorem BX {α:Type} (p:α→Bool)(xs:List α):posOf p xs=-1∨(0≤posOf p xs∧posOf p xs<xs.length):=by
 rcases pd p xs 0 with h|h
 · exact .inl h
 · exact .inr ⟨by unfold posOf;omega,by unfold posOf;omega⟩
theorem qG (x:Ev)(g:Nat)(id:Int)(w:Sj)(hg:w.cell? ⟨g,0,none⟩=some (.int .i64 id))(hl:g<w.heap.size) :
 Sl Tryz.prog 128 #[.agg x.enc.toArray,.pointer (some ⟨g,0,none⟩)] w fun e w'=>e=.returned (.bool (x.id==id))∧Below w.heap.size w w':=by
 obtain⟨id',inn,out,region,kind,speaker,a,cap,xs⟩:=x
 simp only [Ev.enc]
 have hg2:∀ o,(w.alloc o).cell? ⟨g,0,none⟩=some (.int .i64 id):=fun o=>(St _ _ _ (by simpa using hl)).trans hg
 go_enter Tryz.func128,Tryz.ntmps128
 go_wp2_with fail
 go_ret
 exact⟨rfl,(Sr _ _).alloc (Sn _) _⟩
theorem xW (a:Option Addr)(cap:Nat)(v:Sk)(w:Sj):Sl Tryz.prog 127 #[.slice a 0 cap,v] w fun e w'=>e=.returned (.int .i64 (-1))∧w=w':=by
 go_enter Tryz.func127,Tryz.ntmps127
 go_wp2_with fail
 refine wp_loop_rounds 1 ?_
 rw [rounds_succ]
 go_wp2_with fail
 go_ret
 exact⟨rfl,rfl⟩
instance:Inhabited Ev:=⟨⟨0,0,0,⟨#[]⟩,0,⟨#[]⟩,none,0,[]⟩⟩
def iu (id:Int)(x:Ev):Bool:=x.id==id
theorem uW (a:Option Addr)(cap:Nat)(xs:List Ev)(g:Nat)(id:Int)(w:Sj)(hr:dy w a xs)(hl:xs.length≤4000000)(hg:w.cell? ⟨g,0,none⟩=some (.int .i64 id))(hgl:g<w.heap.size) :
 Sl Tryz.prog 127 #[.slice a xs.length cap,.func (.func 128) #[] #[.pointer (some ⟨g,0,none⟩)]] w fun e w'=>e=.returned (.int .i64 (posOf (iu id) xs))∧Below w.heap.size w w':=by
 rcases hr with rfl|⟨b,off,rfl,hb,hc⟩
 · exact(xW a cap _ w).mono fun e w' ⟨he,hw⟩=>⟨he,hw▸Sr _ _⟩
 · have h:=Tryz.slices_IndexFunc_f127 7 (fun w=>by kernel_rfl) (fun w=>by kernel_rfl) Ev.enc (fun _=>rfl) (iu id) 128 #[.pointer (some ⟨g,0,none⟩)] (fun args w=>by kernel_rfl) b off xs.length cap xs w
    (fun W x hW=>(qG x g id W ((hW.cell (p:=⟨g,0,none⟩) hgl).trans hg) (Nat.lt_of_lt_of_le hgl hW.size)).mono fun e w' ⟨he,hw⟩=>⟨he,hW.trans (hw.mono hW.size)⟩)
    (Sn _) (by omega) hb (fun j hj i v hv=>(hc j _ (jR xs j hj)).1 i v hv)
   rw [List.take_length,mH] at h
   exact h
theorem cW (d:Doc)(id:Int)(w:Sj)(hr:dy w d.ea d.eV)(hl:d.eV.length≤4000000) :
 Sl Tryz.prog 82 #[.agg d.enc.toArray,.int .i64 id] w fun e w'=>e=.returned (.int .i64 (posOf (iu id) d.eV))∧Below w.heap.size w w':=by
 have hb2:=fun o=>((Sr w.heap.size w).alloc (Sn _) o)
 have HC:=h_ (uW d.ea d.ec d.eV (w.heap.size+1) id ((w.alloc (.cells d.enc.toArray 27)).alloc (.cells #[.int .i64 id] 2)) (hr.later (((Sr _ _).alloc (Sn _) _).alloc (by simp) _)) hl (bB w d.enc.toArray #[.int .i64 id] 27 2 0 _ rfl _ (Sr _ _)) (by simp))
 obtain⟨title,lA,rate,drop,last,ra,rc,rG,ea,ec,eV,ca,cc,cM⟩:=d
 simp only [Doc.enc] at HC ⊢
 clear hb2
 go_enter Tryz.func82,Tryz.ntmps82
 go_wp2_with fail
 refine HC.out.mono ?_
 rintro e w1 ⟨rfl,hb⟩
 have hb':=dU (hb.mono (by simp))
 go_wp2_with fail
 go_ret
 exact⟨rfl,hb'⟩
def tg {α:Type} (p:α→Bool):List α→Nat→Option (α × Nat)
 | [],_=>none
 | x::l,i=>if p x=true then some (x,i) else tg p l (i+1)
def first {α:Type} (p:α→Bool)(xs:List α):Option (α × Nat):=tg p xs 0
def oS:Ev:=⟨0,0,0,⟨#[]⟩,0,⟨#[]⟩,none,0,[]⟩
theorem gV {a b:ByteArray} (h:a.toList=b.toList):a=b:=by
 rw [Su,Su] at h
 cases a;cases b
 congr 1
 exact Array.toList_inj.1 h
theorem Fh (a b:ByteArray):Op.bytesLess a.toList b.toList=true↔a.data.toList<b.data.toList:=by
 rw [bytesLess_eq,Su,Su]
 simp
def baLt (a b:ByteArray):Prop:=a.data.toList<b.data.toList
theorem CN {a b:List UInt8} (h1:¬ a<b)(h2:¬ a=b):b<a:=by
 rcases Classical.em (b<a) with h|h
 · exact h
 · exact absurd (List.le_antisymm (List.not_lt.1 h) (List.not_lt.1 h1)) h2
end Go.Proofs.YtjebaagkomejaaaGreatDoor
