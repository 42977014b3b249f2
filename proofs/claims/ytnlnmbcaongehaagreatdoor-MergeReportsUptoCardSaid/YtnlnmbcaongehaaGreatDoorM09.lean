/- slices.SortStableFunc at events: a permutation of what the row held, ascending. The stable sort at events: how two events compare, and the contract of slices.SortStableFunc with document.Sort's comparison. The error of a document hangs on its contents alone; what a document without an error holds. The contract of diff.allowed. (printed by gen_apply.py) The contract of document.Sort: copies of the events, in order. The contract of diff.apply, section by section. (printed by gen_apply.py) -/
import Derived.Test.YtnlnmbcaongehaaGreatDoorM08
set_option linter.unusedVariables false
set_option linter.unusedSimpArgs false
set_option maxRecDepth 100000
set_option maxHeartbeats 12800000
open Go.Lib renaming hid→h_
open Go.Sort renaming insertionSort→fm,alloc_eq_grow→fp,insertionSort_holds→ft,permIn_trans→fu,permIn_mono→fw,putCells→fB,putRowK→fC,heap_grow_old→fD,size_flatK→fE,grow_grow→fF,mapBlock→fG,putRow→fH,flatK→fI
open Nat renaming le_refl→fJ,zero_le→fK,lt_of_lt_of_le→fL,mul_comm→fM,le_trans→fN
open Go renaming World→fO,Value→fP,Calls→fQ,wp_loop_rounds→fR,rounds_succ→fS,cell_of_row→fT,sizeOf→fU,heap_alloc_last→fV
open Go.Lib renaming compareInt→fW,allEq→fX,toList_data→fY
open Go.Value renaming int→fZ,agg→f_
open List renaming getElem?_eq_getElem→gd,getElem?_eq_some_iff→gf,map_cons→gh,size_toArray→gj,getElem?_map→gl,map_append→gp
open Bool renaming and_eq_true→gq
open Array renaming getElem?_eq_some_iff→gu,getElem?_eq_getElem→gv,getElem?_toList→gw,getElem?_modify→gx
namespace Go.Proofs.YtnlnmbcaongehaaGreatDoor
open Go.Shelf Go.RowKit Go.Lib Go.Sort
variable {P:Program} {α:Type} [Inhabited α]
theorem zkk {lt:α→α→Bool} (hO:SWO lt) {d dk:Array α} {x bs:Nat} (hds:dk.size=d.size)(hb:x+bs≤d.size)(hP:PermIn 0 d.size d dk)(hpre:Pre lt bs dk x) :
 PermIn 0 d.size d (fm lt dk x (x+bs))∧Pre lt bs (fm lt dk x (x+bs)) (x+bs)∧(fm lt dk x (x+bs)).size=d.size:=by
 obtain⟨h1,h2⟩:=ft (lt:=lt) hO dk x (x+bs) (by omega) (by omega)
 refine⟨fu _ _ _ _ _ hP (fw _ _ x (x+bs) 0 d.size (by omega) hb (by omega) h1),.snoc x (hpre.congr fun i hi=>h1.2.1 i (by omega)) h2,h1.1.trans hds⟩
theorem zkl {lt:α→α→Bool} (hO:SWO lt) {d dk:Array α} {x bs:Nat} (hds:dk.size=d.size)(hx:x≤d.size)(hb:d.size<x+bs)(hP:PermIn 0 d.size d dk)(hpre:Pre lt bs dk x) :
 PermIn 0 d.size d (fm lt dk x d.size)∧Blk lt bs d.size (fm lt dk x d.size) 0∧(fm lt dk x d.size).size=d.size:=by
 obtain⟨h1,h2⟩:=ft (lt:=lt) hO dk x d.size hx (by omega)
 refine⟨fu _ _ _ _ _ hP (fw _ _ x d.size 0 d.size (by omega) (fJ _) (by omega) h1),(hpre.congr fun i hi=>h1.2.1 i (by omega)).join (.go x (SortedIn.part h2 (fJ _) (by omega)) (.stop _ (by omega))),h1.1.trans hds⟩
theorem zj5 {lt:α→α→Bool} {d dk d2:Array α} {x bs:Nat} (hds:dk.size=d.size)(hb:x+2*bs≤d.size)(hP:PermIn 0 d.size d dk)(hpre:Pre lt (2*bs) dk x)(hblk:Blk lt bs d.size dk x)(h1:PermIn x (x+2*bs) dk d2)(h2:SortedIn lt x (x+2*bs) d2) :
 PermIn 0 d.size d d2∧Pre lt (2*bs) d2 (x+2*bs)∧Blk lt bs d.size d2 (x+2*bs):=by
 refine⟨fu _ _ _ _ _ hP (fw _ _ x (x+2*bs) 0 d.size (by omega) hb (by omega) h1),.snoc x (hpre.congr fun i hi=>h1.2.1 i (by omega)) h2,?_⟩
 have:=hblk.tail.tail
 rw [show x+bs+bs=x+2*bs by omega] at this
 exact this.congr fun i hi=>h1.2.1 i (by omega)
theorem zgt {lt:α→α→Bool} {dk:Array α} {x bs n:Nat} (hb:x+2*bs≤n)(hblk:Blk lt bs n dk x):SortedIn lt x (x+bs) dk∧SortedIn lt (x+bs) (x+2*bs) dk :=
 ⟨SortedIn.part hblk.head (fJ _) (by omega),SortedIn.part hblk.tail.head (fJ _) (by omega)⟩
theorem zeV {lt:α→α→Bool} {dk:Array α} {x bs n:Nat} (h1:x+bs<n)(hb:n<x+2*bs)(hblk:Blk lt bs n dk x):SortedIn lt x (x+bs) dk∧SortedIn lt (x+bs) n dk :=
 ⟨SortedIn.part hblk.head (fJ _) (by omega),SortedIn.part hblk.tail.head (fJ _) (by omega)⟩
theorem zh4 {lt:α→α→Bool} {d dk d2:Array α} {x bs:Nat} (hds:dk.size=d.size)(hx:x≤d.size)(hb:d.size<x+2*bs)(hP:PermIn 0 d.size d dk)(hpre:Pre lt (2*bs) dk x)(h1:PermIn x d.size dk d2)(h2:SortedIn lt x d.size d2) :
 PermIn 0 d.size d d2∧Blk lt (2*bs) d.size d2 0 :=
 ⟨fu _ _ _ _ _ hP (fw _ _ x d.size 0 d.size (by omega) (fJ _) (by omega) h1),(hpre.congr fun i hi=>h1.2.1 i (by omega)).join (.go x (SortedIn.part h2 (fJ _) (by omega)) (.stop _ (by omega)))⟩
theorem zf3 {ρ:Ren} (L:SlLaysF0.n20 P ρ)(k:Nat)(aE:∀ w,(isAgg (ρ.t 24)).run P w=.ok true w)(zE:∀ w,(fU (ρ.t 24)).run P w=.ok k w)(enc:α→List fP)(cf:α→α→Int)(g:Nat)(cb:Array fP)(blk off cap a b:Nat)(d0 d:Array α)(w0 w:fO)
 (eg:∀ args w,(callFunc g args).run P w=.ok (.enter g args) w) (hcmp:CmpLays P g cb enc k cf blk off d0.size w0) (R:RowK enc k w0 blk off d0) (hs:d0.size=d.size) (S:SWK enc k w0 blk off d w) (hO:SWO (ltOf cf)) (hab:a≤b) (hb:b≤d.size) (hsz:d.size<4611686018427387904) :
 fQ P (ρ.f 20) #[.slice (some ⟨blk,off,none⟩) d.size cap,.int .i64 a,.int .i64 b,.func (.func g) #[] cb] w fun e w'=>e=.returned (.tuple #[])∧SWK enc k w0 blk off (fm (ltOf cf) d a b) w':=by
 have hs':(fm (ltOf cf) d a b).size=d.size:=(ft hO d a b hab hb).1.1
 have hC:CmpLays P g cb enc k cf blk off d.size w:=fun m os dk hdk x y=>by
  obtain⟨n0,os0,rfl⟩:=S
  rw [sortWorldK_on enc k w0 blk off n0 m d dk os0 os R.hblk hdk]
  exact hcmp _ _ dk (by omega) x y
 refine(AnyQ.insertionSortCmpFunc L k aE zE enc R.hk R.h1 cf g cb blk off cap a b d w eg hC (S.holds R.hblk R.hH hs.symm) (S.lt R.hblk) hab hb hsz).mono ?_
 rintro e w' ⟨rfl,n,os,rfl⟩
 exact⟨rfl,S.on R.hblk n _ os hs'⟩
theorem zeW (L:zeK P)(k:Nat)(aE:∀ w,(isAgg 50).run P w=.ok true w)(zE:∀ w,(fU 50).run P w=.ok k w)(enc:α→List fP)(cf:α→α→Int)(hO:SWO (ltOf cf))(g:Nat)(cb:Array fP)(blk off cap:Nat)(d:Array α)(w:fO)
 (eg:∀ args w,(callFunc g args).run P w=.ok (.enter g args) w) (hcmp:CmpLays P g cb enc k cf blk off d.size w) (R:RowK enc k w blk off d) (S:SWK enc k w blk off d w) (hsz:d.size<1152921504606846976) :
 fQ P 247 #[.slice (some ⟨blk,off,none⟩) d.size cap,.int .i64 d.size,.func (.func g) #[] cb] w (cP (ltOf cf) enc k w blk off d 0 d.size):=by
 have mixed:=L.mixed;have t0:=L.t0;have a0:=L.a0;have z0:=L.z0;have v0:=L.v0;have t3:=L.t3;have a3:=L.a3;have z3:=L.z3;have v3:=L.v3;have t4:=L.t4;have a4:=L.a4;have z4:=L.z4;have v4:=L.v4;have t24:=L.t24;have a24:=L.a24;have z24:=L.z24;have v24:=L.v24;have t252:=L.t252;have a252:=L.a252;have z252:=L.z252;have v252:=L.v252
 have FG:=L.f247
 have e278:∀ args w,(callFunc 278 args).run P w=.ok (.enter 278 args) w:=enters_of L.f278 (by kernel_rfl) rfl
 have e277:∀ args w,(callFunc 277 args).run P w=.ok (.enter 277 args) w:=L.ins.f20.enters rfl
 have HINS:=h_ (fun(x y:Nat) (dk:Array α) (W:fO) (h1:d.size=dk.size) (h2:SWK enc k w blk off dk W) (h3:x≤y) (h4:y≤dk.size) =>
  (show fQ P 277 #[.slice (some ⟨blk,off,none⟩) dk.size cap,.int .i64 x,.int .i64 y,.func (.func g) #[] cb] W fun e w'=>e=.returned (.tuple #[])∧SWK enc k w blk off (fm (ltOf cf) dk x y) w' from
   zf3 L.ins k aE zE enc cf g cb blk off cap x y d dk w W eg hcmp R h1 h2 hO h3 h4 (by omega)))
 have HSYM:=h_ (fun(x y z:Nat) (dk:Array α) (W:fO) (h1:d.size=dk.size) (h2:SWK enc k w blk off dk W) (h3:x<y) (h4:y<z) (h5:z≤dk.size) (h6:SortedIn (ltOf cf) x y dk) (h7:SortedIn (ltOf cf) y z dk) =>
  zdb L k aE zE enc cf hO g cb blk off cap d w eg hcmp R (by omega) (z-x+1) x y z dk W (by omega) h1 h2 h3 h4 h5 h6 h7)
 have S0:Aside (SWK enc k w blk off d w):=S
 clear S L hcmp
 generalize hQ:cP (ltOf cf) enc k w blk off d 0 d.size=Q
 have HQ:=h_ (fun(dk:Array α) (W:fO) (h1:dk.size=d.size) (h2:SWK enc k w blk off dk W) (h3:PermIn 0 d.size d dk) (h4:SortedIn (ltOf cf) 0 d.size dk)=>show Q (.returned (.tuple #[])) W from hQ▸⟨rfl,dk,h1,h2,h3,h4⟩)
 clear hQ
 obtain⟨n,hn⟩:∃ n,n=d.size:=⟨_,rfl⟩
 go_enter FG,Tryz.ntmps247
 go_wp2
 go_loopg [7,8] d.size (fun kx s7 s8 wr=>∃ (x:Nat) (dk:Array α),s7=.int .i64 x∧s8=.int .i64 ((x:Int)+20)∧x≤d.size∧d.size-x≤kx∧dk.size=d.size∧Aside (SWK enc k w blk off dk wr)∧Hid (PermIn 0 d.size d dk)∧Hid (Pre (ltOf cf) 20 dk x))
 case atStart=>exact⟨0,d,rfl,by simp,fK _,by omega,rfl,S0,permIn_refl _ _ _,.zero⟩
 case round =>
  clear S0
  obtain⟨x,dk,rfl,rfl,hx,hkx,hds,S1,HP,HB⟩:=hrel
  by_cases hlt:x+20≤d.size
  · have hltz:(x:Int)+20≤(d.size:Int):=by omega
    have hC:=HINS.out x (x+20) dk wr (by omega) S1.out (by omega) (by omega)
    rw [hds,show((x+20:Nat):Int)=(x:Int)+20 by omega] at hC
    obtain⟨q1,q2,q3⟩:=zkk hO hds hlt HP.out HB.out
    generalize fm (ltOf cf) dk x (x+20)=d2 at hC q1 q2 q3
    have HCC:=h_ hC
    have Q1:=h_ q1
    have Q2:=h_ q2
    have Q3:=h_ q3
    clear hC q1 q2 q3
    go_wp2_with (go_at_fn 277;refine HCC.out.mono ?_;rintro e w2 ⟨rfl,S2'⟩)
    have S2:Aside (SWK enc k w blk off d2 w2):=S2'
    go_roundg (d.size-(x+20))
    case measure=>omega
    case rel=>exact⟨x+20,d2,by go_num,by go_num,hlt,fJ _,Q3.out,S2,Q1.out,Q2.out⟩
  · have hltz:¬ (x:Int)+20≤(d.size:Int):=by omega
    have hC:=HINS.out x d.size dk wr (by omega) S1.out (by omega) (by omega)
    rw [hds] at hC
    obtain⟨q1,q2,q3⟩:=zkl hO hds hx (by omega) HP.out HB.out
    generalize fm (ltOf cf) dk x d.size=d2 at hC q1 q2 q3
    have HCC:=h_ hC
    have Q1:=h_ q1
    have Q2:=h_ q2
    have Q3:=h_ q3
    clear hC q1 q2 q3
    go_wp2_with (go_at_fn 277;refine HCC.out.mono ?_;rintro e w2 ⟨rfl,S2'⟩)
    have S2:Aside (SWK enc k w blk off d2 w2):=S2'
    clear S2'
    go_loopg [6,7,8,9] d.size (fun kx s6 s7 s8 s9 wr=>∃ (bs:Nat) (dk:Array α),s6=.int .i64 bs∧0<bs∧bs≤2*d.size+20∧d.size-bs≤kx∧dk.size=d.size∧Aside (SWK enc k w blk off dk wr)∧Hid (PermIn 0 d.size d dk)∧Hid (Blk (ltOf cf) bs d.size dk 0))
    case atStart=>exact⟨20,d2,rfl,by omega,by omega,by omega,Q3.out,S2,Q1.out,Q2.out⟩
    case round =>
     clear S1 S2 HP HB Q1 Q2 Q3 HCC hlt hltz hkx hds
     obtain⟨bs,dk,rfl,hbs,hbs2,hkx,hds,S1,HP,HB⟩:=hrel
     by_cases hlt:bs<d.size
     · have hltz:(bs:Int)<(d.size:Int):=by omega
       go_wp2
       go_loopg [7,8] d.size (fun ky s7 s8 wr=>∃ (y:Nat) (dk:Array α),s7=.int .i64 y∧s8=.int .i64 ((y:Int)+2*(bs:Int))∧y≤d.size∧d.size-y≤ky∧dk.size=d.size∧Aside (SWK enc k w blk off dk wr)∧Hid (PermIn 0 d.size d dk)∧Hid (Pre (ltOf cf) (2*bs) dk y)∧Hid (Blk (ltOf cf) bs d.size dk y))
       case atStart=>exact⟨0,dk,rfl,by simp,fK _,by omega,hds,S1,HP,.zero,HB⟩
       case round =>
        clear S1 HP HB hds
        obtain⟨y,dk,rfl,rfl,hy,hky,hds,S1,HP,HE,HB⟩:=hrel
        by_cases hlt2:y+2*bs≤d.size
        · have hlt2z:(y:Int)+2*(bs:Int)≤(d.size:Int):=by omega
          have hC:=HSYM.out y (y+bs) (y+2*bs) dk wr (by omega) S1.out (by omega) (by omega) (by omega) (zgt hlt2 HB.out).1 (zgt hlt2 HB.out).2
          rw [hds,show((y+bs:Nat):Int)=(y:Int)+(bs:Int) by omega,show((y+2*bs:Nat):Int)=(y:Int)+2*(bs:Int) by omega] at hC
          have HCC:=h_ hC
          clear hC
          go_wp2_with (go_at_fn 278;refine HCC.out.mono ?_;rintro e w2 ⟨rfl,d2,z2,S2',p2,s2⟩)
          obtain⟨q1,q2,q3⟩:=zj5 hds hlt2 HP.out HE.out HB.out p2 s2
          have S2:Aside (SWK enc k w blk off d2 w2):=S2'
          go_roundg (d.size-(y+2*bs))
          case measure=>omega
          case rel=>exact⟨y+2*bs,d2,by go_num,by go_num,hlt2,fJ _,z2.trans hds,S2,q1,q2,q3⟩
        · have hlt2z:¬ (y:Int)+2*(bs:Int)≤(d.size:Int):=by omega
          by_cases hlt3:y+bs<d.size
          · have hlt3z:(y:Int)+(bs:Int)<(d.size:Int):=by omega
            have hC:=HSYM.out y (y+bs) d.size dk wr (by omega) S1.out (by omega) (by omega) (by omega) (zeV hlt3 (by omega) HB.out).1 (zeV hlt3 (by omega) HB.out).2
            rw [hds,show((y+bs:Nat):Int)=(y:Int)+(bs:Int) by omega] at hC
            have HCC:=h_ hC
            clear hC
            go_wp2_with (go_at_fn 278;refine HCC.out.mono ?_;rintro e w2 ⟨rfl,d2,z2,S2',p2,s2⟩)
            obtain⟨q1,q2⟩:=zh4 hds hy (by omega) HP.out HE.out p2 s2
            have S2:Aside (SWK enc k w blk off d2 w2):=S2'
            go_roundg (d.size-2*bs)
            case measure=>omega
            case rel=>exact⟨2*bs,d2,by first|rfl|go_num|(congr 1;omega),by omega,by omega,fJ _,z2.trans hds,S2,q1,q2⟩
          · have hlt3z:¬ (y:Int)+(bs:Int)<(d.size:Int):=by omega
            have hso:SortedIn (ltOf cf) y d.size dk:=SortedIn.part HB.out.head (fJ _) (by omega)
            obtain⟨q1,q2⟩:=zh4 hds hy (by omega) HP.out HE.out (permIn_refl _ _ _) hso
            have Q1:=h_ q1
            have Q2:=h_ q2
            clear q1 q2 hso
            go_wp2
            go_roundg (d.size-2*bs)
            case measure=>omega
            case rel=>exact⟨2*bs,dk,by first|rfl|go_num|(congr 1;omega),by omega,by omega,fJ _,hds,S1,Q1.out,Q2.out⟩
     · have hltz:¬ (bs:Int)<(d.size:Int):=by omega
       go_wp2
       go_end0
       exact HQ.out dk _ hds S1.out HP.out (SortedIn.part HB.out.head (fJ _) (by omega))
theorem zbZ (L:zeK P)(k:Nat)(aE:∀ w,(isAgg 50).run P w=.ok true w)(zE:∀ w,(fU 50).run P w=.ok k w)(enc:α→List fP)(cf:α→α→Int)(hO:SWO (ltOf cf))(g:Nat)(cb:Array fP)(blk off cap:Nat)(d:Array α)(w:fO)
 (eg:∀ args w,(callFunc g args).run P w=.ok (.enter g args) w) (hcmp:CmpLays P g cb enc k cf blk off d.size w) (R:RowK enc k w blk off d) (S:SWK enc k w blk off d w) (hsz:d.size<1152921504606846976) :
 fQ P 185 #[.slice (some ⟨blk,off,none⟩) d.size cap,.func (.func g) #[] cb] w (cP (ltOf cf) enc k w blk off d 0 d.size):=by
 have mixed:=L.mixed;have t0:=L.t0;have a0:=L.a0;have z0:=L.z0;have v0:=L.v0;have t3:=L.t3;have a3:=L.a3;have z3:=L.z3;have v3:=L.v3;have t4:=L.t4;have a4:=L.a4;have z4:=L.z4;have v4:=L.v4;have t24:=L.t24;have a24:=L.a24;have z24:=L.z24;have v24:=L.v24;have t252:=L.t252;have a252:=L.a252;have z252:=L.z252;have v252:=L.v252
 have FG:=L.f185
 have e247:∀ args w,(callFunc 247 args).run P w=.ok (.enter 247 args) w:=enters_of L.f247 (by kernel_rfl) rfl
 have HC:=h_ (zeW L k aE zE enc cf hO g cb blk off cap d w eg hcmp R S hsz)
 clear L hcmp S
 generalize hQ:cP (ltOf cf) enc k w blk off d 0 d.size=Q at HC ⊢
 have HQ:=h_ (fun e W (h:Q e W)=>show e=.returned (.tuple #[]) from(by rw [←hQ] at h;exact h.1))
 clear hQ
 go_enter FG,Tryz.ntmps185
 go_wp2_with fail
 refine HC.out.mono ?_
 intro e w' he
 obtain rfl:=HQ.out _ _ he
 go_wp2_with fail
 go_end0
 exact he
end Go.Proofs.YtnlnmbcaongehaaGreatDoor
namespace Go.Proofs.YtnlnmbcaongehaaGreatDoor
open Go.RowKit
theorem Tryz.stLay:zeK Tryz.prog:={
 mixed:=by kernel_rfl
 f299:=Tryz.func299
 f290:=Tryz.func290
 f278:=Tryz.func278
 f247:=Tryz.func247
 f185:=Tryz.func185
 ins:={ mixed:=by kernel_rfl,f20:=⟨Tryz.f277.name,by decide,Tryz.func277.trans (congrArg some (by kernel_rfl))⟩,t0:=Tryz.underlying0,a0:=Tryz.isAgg0,z0:=Tryz.sizeOf0,v0:=Tryz.zeroValue0,t3:=Tryz.underlying3,a3:=Tryz.isAgg3,z3:=Tryz.sizeOf3,v3:=Tryz.zeroValue3,t4:=Tryz.underlying4,a4:=Tryz.isAgg4,z4:=Tryz.sizeOf4,v4:=Tryz.zeroValue4,t22:=Tryz.underlying24,a22:=Tryz.isAgg24,z22:=Tryz.sizeOf24,v22:=Tryz.zeroValue24,t25:=Tryz.underlying252,a25:=Tryz.isAgg252,z25:=Tryz.sizeOf252,v25:=Tryz.zeroValue252 }
 t0:=Tryz.underlying0
 a0:=Tryz.isAgg0
 z0:=Tryz.sizeOf0
 v0:=Tryz.zeroValue0
 t3:=Tryz.underlying3
 a3:=Tryz.isAgg3
 z3:=Tryz.sizeOf3
 v3:=Tryz.zeroValue3
 t4:=Tryz.underlying4
 a4:=Tryz.isAgg4
 z4:=Tryz.sizeOf4
 v4:=Tryz.zeroValue4
 t24:=Tryz.underlying24
 a24:=Tryz.isAgg24
 z24:=Tryz.sizeOf24
 v24:=Tryz.zeroValue24
 t238:=Tryz.underlying238
 a238:=Tryz.isAgg238
 z238:=Tryz.sizeOf238
 v238:=Tryz.zeroValue238
 t252:=Tryz.underlying252
 a252:=Tryz.isAgg252
 z252:=Tryz.sizeOf252
 v252:=Tryz.zeroValue252 }
def zcW (x y:Ev):Int:=orL [fW x.inn y.inn,fW x.id y.id]
theorem zkK (w:fO)(o o' o'':Obj):∃ q os',(((w.alloc o).alloc o').alloc o'').drew=Sort.grow (w.drewN q) os':=⟨1,#[o,o',o''],by
 rw [fp,fp,fp,fF,fF];rfl⟩
theorem zeb (x y:Ev)(w:fO):fQ Tryz.prog 186 (#[.agg x.enc.toArray,.agg y.enc.toArray]++#[]) w fun e w'=>e=.returned (.int .i64 (zcW x y))∧∃ q os',w'=Sort.grow (w.drewN q) os':=by
 unfold zcW
 obtain⟨id,inn,out,region,kind,speaker,a,cap,xs⟩:=x
 obtain⟨id',inn',out',region',kind',speaker',a',cap',xs'⟩:=y
 simp only [Ev.enc]
 rw [show(#[f_ [fZ .i64 id,.int .i64 inn,.int .i64 out,.string region,.int .u8 kind,.string speaker,.slice a xs.length cap].toArray,.agg [fZ .i64 id',.int .i64 inn',.int .i64 out',.string region',.int .u8 kind',.string speaker',.slice a' xs'.length cap'].toArray]++#[]:Array fP)=#[f_ [fZ .i64 id,.int .i64 inn,.int .i64 out,.string region,.int .u8 kind,.string speaker,.slice a xs.length cap].toArray,.agg [fZ .i64 id',.int .i64 inn',.int .i64 out',.string region',.int .u8 kind',.string speaker',.slice a' xs'.length cap'].toArray] by simp]
 have HC:=h_ (fun p q w=>Tryz.cmp_Compare_int p q w)
 have hc1:∀ (cs cs':Array fP) (j:Nat),((w.alloc (.cells cs 50)).alloc (.cells cs' 50)).cell? ⟨w.heap.size,j,none⟩=cs[j]?:=fun cs cs' j=>by
  rw [fO.cell?_alloc_lt _ _ _ (by simp),fT _ _ j cs 50 (0,0) (fV w _)]
 have hc2:∀ (cs cs':Array fP) (j:Nat),((w.alloc (.cells cs 50)).alloc (.cells cs' 50)).cell? ⟨w.heap.size+1,j,none⟩=cs'[j]?:=fun cs cs' j=>by
  rw [fT _ _ j cs' 50 (0,0) (zcd w _ _)]
 obtain⟨cs,hcs⟩:∃ cs:Array fP,cs=#[.int .i64 id,.int .i64 inn,.int .i64 out,.string region,.int .u8 kind,.string speaker,.slice a xs.length cap]:=⟨_,rfl⟩
 obtain⟨cs',hcs'⟩:∃ cs:Array fP,cs=#[.int .i64 id',.int .i64 inn',.int .i64 out',.string region',.int .u8 kind',.string speaker',.slice a' xs'.length cap']:=⟨_,rfl⟩
 have HG:=h_ (fun o=>zkK w (.cells cs 50) (.cells cs' 50) o)
 have e1:=(hc1 cs cs' 0).trans (show _=some (fZ .i64 id) by rw [hcs];rfl)
 have e2:=(hc1 cs cs' 1).trans (show _=some (fZ .i64 inn) by rw [hcs];rfl)
 have e3:=(hc2 cs cs' 0).trans (show _=some (fZ .i64 id') by rw [hcs'];rfl)
 have e4:=(hc2 cs cs' 1).trans (show _=some (fZ .i64 inn') by rw [hcs'];rfl)
 rw [hcs,hcs'] at e1 e2 e3 e4 HG
 generalize hW:(w.alloc (.cells #[.int .i64 id,.int .i64 inn,.int .i64 out,.string region,.int .u8 kind,.string speaker,.slice a xs.length cap] 50)).alloc (.cells #[.int .i64 id',.int .i64 inn',.int .i64 out',.string region',.int .u8 kind',.string speaker',.slice a' xs'.length cap'] 50)=W at *
 have HW:=h_ hW
 clear hW hc1 hc2 hcs hcs' cs cs'
 go_enter Tryz.func186,Tryz.ntmps186
 go_wp2_with fail
 rw [HW.out]
 refine wp_region_still_tail 12 (by kernel_rfl) (by kernel_rfl) ?_
 simp only [List.take_succ_cons,List.take_zero,List.drop_succ_cons,List.drop_zero]
 repeat still_step
 still_call (HC.out _ _ _)
 repeat still_step
 still_call (HC.out _ _ _)
 refine wpStill_nil ?_
 have HI:Hid (∀ w2:fO,Ints (w2.alloc (.cells #[.int .i64 (fW inn inn'),.int .i64 (fW id id')] 3)) (some ⟨w2.heap.size,0,none⟩) [fW inn inn',fW id id']):=h_ (fun w2=>by
  refine .inr ⟨w2.heap.size,0,rfl,by simp,fun i z hz=>⟨fun j v hv=>?_,trivial⟩⟩
  match j,hv with
  | 0,hv =>
    simp at hv
    subst hv
    rw [show 0+i*1+0=i by omega,fT _ _ i _ 3 (0,0) (fV w2 _)]
    match i,hz with
    | 0,hz=>simp at hz;subst hz;rfl
    | 1,hz=>simp at hz;subst hz;rfl)
 have HI2:Hid (Ints ((W.alloc (.cells #[.int .i64 (fW inn inn'),.int .i64 (fW id id')] 3)).drew) (some ⟨W.heap.size,0,none⟩) [fW inn inn',fW id id']):=h_ (HI.out W)
 go_wp2_with fail
 refine(zgA _ _ [fW inn inn',fW id id'] _ HI2.out (by simp)).mono ?_
 rintro e w' ⟨rfl,rfl⟩
 go_wp2_with fail
 go_ret
 exact⟨rfl,HG.out _⟩
theorem zkc (p q:Int):orL [p,q]=if p=0 then q else p:=by
 simp only [orL]
 repeat' split
 all_goals simp_all
theorem zbV (x y:Int):(fW x y=-1∧x<y)∨(fW x y=0∧x=y)∨(fW x y=1∧y<x):=by
 unfold fW
 repeat' split
 all_goals omega
theorem za5 (x y:Ev):ltOf zcW x y=decide (x.inn<y.inn∨(x.inn=y.inn∧x.id<y.id)):=by
 unfold ltOf zcW
 rw [zkc]
 congr 1
 rcases zbV x.inn y.inn with⟨h,h1⟩|⟨h,h1⟩|⟨h,h1⟩<;>rcases zbV x.id y.id with⟨k,k1⟩|⟨k,k1⟩|⟨k,k1⟩<;>rw [h,k]<;>simp<;>omega
theorem ziX:Sort.SWO (ltOf zcW) where
 irrefl x:=by rw [za5];simp
 trans x y z h1 h2:=by rw [za5] at *;simp at *;omega
 ntrans x y z h1 h2:=by rw [za5] at *;simp at *;omega
theorem zaJ:∀ xs ys:List Row,xs.map Row.runs=ys.map Row.runs→cA xs=cA ys
 | [],[],_=>rfl
 | [],y::l,h=>by simp at h
 | x::l,[],h=>by simp at h
 | x::l,y::m,h=>by
   simp only [gh,List.cons.injEq] at h
   rw [cA,cA,h.1,zaJ l m h.2]
theorem zcE {xs ys:List Row} (h:xs.map Row.runs=ys.map Row.runs):bh xs=bh ys:=by
 have e:∀ zs:List Row,bh zs=(zs.map Row.runs).map rowLen:=fun zs=>by unfold bh;rw [List.map_map];rfl
 rw [e,e,h]
theorem zey {α β:Type} {f:α→β} {xs ys:List α} (h:xs.map f=ys.map f):xs.length=ys.length:=by
 have:=congrArg List.length h
 simpa using this
theorem zdX {x y:Ev} (h:x.c=y.c)(rG:List Reg):zbv x rG=zbv y rG:=by
 obtain⟨id,inn,out,reg,kind,sp,a,c,rows⟩:=x
 obtain⟨id',inn',out',reg',kind',sp',a',c',rows'⟩:=y
 simp only [Ev.c,EvC.mk.injEq] at h
 obtain⟨rfl,rfl,rfl,rfl,rfl,rfl,hr⟩:=h
 unfold zbv eD zfO
 simp only [zey hr,zaJ _ _ hr,zcE hr]
theorem zhz {x y x' y':Ev} (h:x.c=x'.c)(h':y.c=y'.c):zex x y=zex x' y':=by
 have h1:x.id=x'.id:=congrArg EvC.id h
 have h2:x.inn=x'.inn:=congrArg EvC.inn h
 have h3:y.id=y'.id:=congrArg EvC.id h'
 have h4:y.inn=y'.inn:=congrArg EvC.inn h'
 unfold zex
 rw [h1,h2,h3,h4]
theorem at_like {xs ys:List Ev} (h:xs.map Ev.c=ys.map Ev.c)(k:Nat):(xs[k]? =none∧ys[k]? =none)∨∃ x y,xs[k]? =some x∧ys[k]? =some y∧x.c=y.c:=by
 have e:(xs.map Ev.c)[k]? =(ys.map Ev.c)[k]?:=by rw [h]
 rw [gl,gl] at e
 cases hx:xs[k]? with
 | none =>
   rw [hx] at e
   cases hy:ys[k]? with
   | none=>exact .inl ⟨rfl,rfl⟩
   | some y=>rw [hy] at e;simp at e
 | some x =>
   rw [hx] at e
   cases hy:ys[k]? with
   | none=>rw [hy] at e;simp at e
   | some y =>
     rw [hy] at e
     exact .inr ⟨x,y,rfl,rfl,by simpa using e⟩
theorem zaq {xs ys:List Ev} (h:xs.map Ev.c=ys.map Ev.c):∀ k,aU xs k=aU ys k
 | 0=>rfl
 | k+1=>by
   funext z
   have ih:=zaq h k
   simp only [aU]
   rcases at_like h k with⟨h1,h2⟩|⟨x,y,h1,h2,h3⟩
   · rw [h1,h2,ih]
   · have hid:x.id=y.id:=congrArg EvC.id h3
     rw [h1,h2]
     simp only [hid,ih]
theorem zgb {xs ys:List Ev} (h:xs.map Ev.c=ys.map Ev.c)(k:Nat) {x y:Ev} (hxy:x.c=y.c):eC (aL xs k) x=eC (aL ys k) y:=by
 cases k with
 | zero=>rfl
 | succ k =>
   show eC xs[k]? x=eC ys[k]? y
   rcases at_like h k with⟨h1,h2⟩|⟨p,q,h1,h2,h3⟩
   · rw [h1,h2]
     rfl
   · rw [h1,h2]
     simp only [eC,zhz h3 hxy]
theorem zdW {xs ys:List Ev} (h:xs.map Ev.c=ys.map Ev.c)(rG:List Reg)(last:Int):∀ n k,zcL rG last xs k n=zcL rG last ys k n
 | 0,k=>rfl
 | n+1,k=>by
   have ih:=zdW h rG last n (k+1)
   rw [zcL,zcL]
   rcases at_like h k with⟨h1,h2⟩|⟨x,y,h1,h2,h3⟩
   · rw [h1,h2]
   · have hid:x.id=y.id:=congrArg EvC.id h3
     have he:cS rG last (aU xs k) (aL xs k) x=cS rG last (aU ys k) (aL ys k) y:=by
      unfold cS
      rw [zdX h3,hid,zgb h k h3,zaq h k]
     rw [h1,h2]
     simp only [he,ih]
theorem zhM {xs ys:List Row} (h:xs.map Row.runs=ys.map Row.runs):eY xs=eY ys:=by
 unfold eY
 rw [zcE h,zey h]
theorem zhQ {xs ys:List Ev} (h:xs.map Ev.c=ys.map Ev.c)(last:Int)(f:Int→Option Nat)(p:Option Cm)(c:Cm):dw last f xs p c=dw last f ys p c:=by
 have ha:aW last f xs c=aW last f ys c:=by
  unfold aW
  cases f c.ev with
  | none=>rfl
  | some i =>
    have:eY ((xs[i]?.map Ev.rows).getD [])=eY ((ys[i]?.map Ev.rows).getD []):=by
     rcases at_like h i with⟨h1,h2⟩|⟨x,y,h1,h2,h3⟩
     · rw [h1,h2]
     · rw [h1,h2]
       exact zhM (congrArg EvC.rows h3)
    simp only [this]
 unfold dw
 rw [ha]
theorem zbT {xs ys:List Ev} (h:xs.map Ev.c=ys.map Ev.c)(last:Int)(f:Int→Option Nat):∀ (cms:List Cm)(p:Option Cm),bF last f xs p cms=bF last f ys p cms
 | [],p=>rfl
 | c::l,p=>by rw [bF,bF,zhQ h,zbT h last f l]
theorem zge {a b:Doc} (h:a.c=b.c):aG a=aG b:=by
 obtain⟨title,lang,rate,drop,last,ra,rc,rG,ea,ec,evs,ca,cc,cms⟩:=a
 obtain⟨title',lang',rate',drop',last',ra',rc',regs',ea',ec',evs',ca',cc',cms'⟩:=b
 simp only [Doc.c,Doc.hd,DocC.mk.injEq,Hd.mk.injEq] at h
 obtain⟨⟨rfl,rfl,rfl,rfl,rfl⟩,rfl,he,rfl⟩:=h
 have hl:=zey he
 have hc:dW last (aU evs evs.length) evs cms=dW last (aU evs' evs'.length) evs' cms:=by
  unfold dW
  rw [hl,zaq he,zbT he]
 have hr:bU rG last evs cms 0=bU rG last evs' cms 0:=by
  unfold bU
  rw [zdW he,hc,hl]
 unfold aG
 simp only [hl,hr]
theorem zk7 {x y:Hd} (h:hdEq x y=true):x=y:=by
 obtain⟨a,b,c,d,e⟩:=x
 obtain⟨a',b',c',d',e'⟩:=y
 simp only [hdEq,gq,beq_iff_eq] at h
 obtain⟨⟨⟨⟨h1,h2⟩,rfl⟩,rfl⟩,rfl⟩:=h
 obtain rfl:=eF h1
 obtain rfl:=eF h2
 rfl
theorem zkD {x y:Reg} (h:d_ x y=true):x=y:=by
 obtain⟨a,b,c,d,e,f,g⟩:=x
 obtain⟨a',b',c',d',e',f',g'⟩:=y
 simp only [d_,gq,beq_iff_eq] at h
 obtain⟨⟨⟨⟨⟨⟨h1,rfl⟩,rfl⟩,rfl⟩,rfl⟩,rfl⟩,rfl⟩:=h
 obtain rfl:=eF h1
 rfl
theorem zk9 {x y:Cm} (h:cmEq x y=true):x=y:=by
 obtain⟨a,b,c,d,e,f,g,i⟩:=x
 obtain⟨a',b',c',d',e',f',g',i'⟩:=y
 simp only [cmEq,gq,beq_iff_eq] at h
 obtain⟨⟨⟨⟨⟨⟨⟨rfl,rfl⟩,rfl⟩,rfl⟩,h1⟩,h2⟩,rfl⟩,rfl⟩:=h
 obtain rfl:=eF h1
 obtain rfl:=eF h2
 rfl
theorem run_eq {x y:Run} (h:eL x y=true):x=y:=by
 obtain⟨a,b,c,d,e⟩:=x
 obtain⟨a',b',c',d',e'⟩:=y
 simp only [eL,gq,beq_iff_eq] at h
 obtain⟨⟨h1,⟨rfl,rfl⟩,rfl⟩,h2⟩:=h
 obtain rfl:=eF h1
 obtain rfl:=eF h2
 rfl
theorem zgT {α:Type} (eq:α→α→Bool)(h:∀ x y,eq x y=true→x=y):∀ xs ys:List α,fX eq xs ys=true→xs=ys
 | [],[],_=>rfl
 | [],y::l,h'=>by simp [fX] at h'
 | x::l,[],h'=>by simp [fX] at h'
 | x::l,y::m,h'=>by
   simp only [fX,gq] at h'
   rw [h x y h'.1,zgT eq h l m h'.2]
theorem zic:∀ xs ys:List Row,bS xs ys=true→xs.map Row.runs=ys.map Row.runs
 | [],[],_=>rfl
 | [],y::l,h=>by simp [bS,fX] at h
 | x::l,[],h=>by simp [bS,fX] at h
 | x::l,y::m,h=>by
   unfold bS at h
   simp only [fX,gq] at h
   have h1:x.runs=y.runs:=zgT _ (fun a b=>run_eq) _ _ h.1
   rw [gh,gh,h1,zic l m h.2]
theorem zk8 {x y:Ev} (h:evEq x y=true):x.c=y.c:=by
 obtain⟨id,inn,out,reg,kind,sp,a,c,rows⟩:=x
 obtain⟨id',inn',out',reg',kind',sp',a',c',rows'⟩:=y
 simp only [evEq,gq,beq_iff_eq] at h
 obtain⟨⟨⟨⟨⟨rfl,rfl,rfl⟩,h1⟩,rfl⟩,h2⟩,hr⟩:=h
 obtain rfl:=eF h1
 obtain rfl:=eF h2
 simp only [Ev.c,zic _ _ hr]
def EvC.lt (x y:EvC):Prop:=x.inn<y.inn∨(x.inn=y.inn∧x.id<y.id)
structure zjT (c:DocC):Prop where
 rG:c.rG.Pairwise fun x y=>baLt x.name y.name
 cms:c.cms.Pairwise fun x y=>x.id<y.id
 ids:c.evs.Pairwise fun x y=>x.id≠y.id
 ord:c.evs.Pairwise EvC.lt
theorem zhU {a b c:ByteArray} (h:baLt a b)(h':baLt b c):baLt a c:=List.lt_trans h h'
theorem zhV {a b:ByteArray} (h1:¬ baLt a b)(h2:¬ a=b):baLt b a:=zeI h1 fun h=>h2 (eF (by rw [fY,fY,h]))
theorem zfx (rG:List Reg)(last:Int)(evs:List Ev):∀ n k,zcL rG last evs k n=0→∀ j x,k≤j→j<k+n→evs[j]? =some x→cS rG last (aU evs j) (aL evs j) x=0
 | 0,k,_,j,x,h1,h2,_=>by omega
 | n+1,k,h,j,x,h1,h2,hx=>by
   rw [zcL] at h
   have hk:k<evs.length:=by have:=(gf.1 hx).1;omega
   rw [gd hk] at h
   simp only at h
   split at h
   · rename_i hne
     rw [h] at hne
     cases hne
   · rename_i hne
     by_cases hj:j=k
     · subst hj
       rw [gd hk] at hx
       obtain rfl:evs[j]=x:=by simpa using hx
       simpa using hne
     · exact zfx rG last evs n (k+1) h j x (by omega) (by omega) hx
theorem za2 {d:Doc} (h:aG d=0):ef d.title d.lang d.rate d.drop d.last=0∧dK d.rG=0∧d.evs.length≤400∧(∀ j x,d.evs[j]? =some x→cS d.rG d.last (aU d.evs j) (aL d.evs j) x=0)∧dW d.last (aU d.evs d.evs.length) d.evs d.cms=0:=by
 unfold aG at h
 split at h
 · rename_i hne;rw [h] at hne;cases hne
 · rename_i hhd
   split at h
   · rename_i hne;rw [h] at hne;cases hne
   · rename_i hli
     split at h
     · cases h
     · rename_i h4
       unfold bU at h
       split at h
       · rename_i hne;rw [h] at hne;cases hne
       · rename_i hne
         refine⟨by simpa using hhd,by simpa using hli,by omega,fun j x hx=>?_,h⟩
         exact zfx d.rG d.last d.evs _ 0 (by simpa using hne) j x (fK _) (by have:=(gf.1 hx).1;omega) hx
theorem zab {d:Doc} (h:aG d=0):d.rG.length≤16∧d.evs.length≤400∧d.cms.length≤64:=by
 obtain⟨_,h2,h3,_,h5⟩:=za2 h
 refine⟨?_,h3,?_⟩
 · unfold dK at h2
   split at h2
   · cases h2
   · omega
 · unfold dW at h5
   split at h5
   · cases h5
   · omega
def zbz (ad t s:Bool):Int:=if (ad&&t)=true then 7 else if (!ad&&!t)=true then 6 else if (!ad&&!s)=true then 16 else 0
end Go.Proofs.YtnlnmbcaongehaaGreatDoor
namespace Go.Proofs.YtnlnmbcaongehaaGreatDoor
open Go.RowKit
section
variable {α:Type} [Inhabited α] {enc:α→List fP} {k:Nat} (hk:∀ x,(enc x).length=k)
include hk
theorem zdV (hk0:0<k)(d:Array α)(t:Nat)(ht:t<d.size*k):(d.toList.flatMap enc)[t]? =some (fI enc k d)[t]!:=by
 have hi:t / k<d.size:=Nat.div_lt_of_lt_mul (by rw [fM];exact ht)
 have hm:t % k<k:=Nat.mod_lt _ hk0
 have he:t / k*k+t % k=t:=by rw [fM];exact Nat.div_add_mod t k
 have hx:d.toList[t / k]? =some d[t / k]!:=by
  rw [getElem!_pos d (t / k) hi,gw,gv hi]
 have hv:(enc d[t / k]!)[t % k]? =some (enc d[t / k]!)[t % k]!:=by
  rw [getElem!_pos _ (t % k) (by rw [hk];exact hm),gd (by rw [hk];exact hm)]
 have:=zbr enc k hk d.toList (t / k) _ (t % k) _ hx hv
 rw [he] at this
 rw [this,Sort.get_flatK enc k d t ht]
theorem zf5 (hk0:0<k) {w:fO} {base T g cap:Nat} {zs:List α} (h:w.ownsRow base T k (.slice (some ⟨g,0,none⟩) zs.length cap) zs.length (zs.flatMap enc)):Sort.HoldsK enc k w g 0 zs.toArray:=by
 intro t ht
 rw [fE] at ht
 have ht':t<zs.length*k:=by simpa using ht
 refine⟨?_,?_⟩
 · rw [show 0+t=t by omega,h.cellAt t ht']
   exact zdV hk hk0 zs.toArray t ht
 · rw [show 0+t=t by omega]
   exact h.frozenAt t
theorem zfb (hk0:0<k) {w:fO} {base T g cap n q:Nat} {os:Array Obj} {zs:List α} {d':Array α} (h:w.ownsRow base T k (.slice (some ⟨g,0,none⟩) n cap) n (zs.flatMap enc))(hd:d'.size=n) :
 (sortWorldK enc k w g 0 q d' os).ownsRow base T k (.slice (some ⟨g,0,none⟩) n cap) n (d'.toList.flatMap enc):=by
 have hlen:(d'.toList.flatMap enc).length=n*k:=by rw [cG enc k hk];simp [hd]
 rcases h.2 with⟨e0,_⟩|⟨g',cap',cur,e0,hb,hg,hn,hm,hs,ht⟩
 · cases e0
 · injection e0 with e1 _ e3
   injection e1 with e1
   injection e1 with e1
   subst e1;subst e3
   have hgl:g<w.heap.size:=(gu.1 hg).1
   refine⟨hlen,.inr ⟨g,cap,fB id 0 (fI enc k d') cur,rfl,hb,?_,hn,hm,by simpa [fB] using hs,?_⟩⟩
   · unfold sortWorldK fC
     rw [fD _ _ (by simpa using hgl)]
     simp [fH,fG,Sort.ahead,gx,hg,Sort.onCells]
   · apply List.ext_getElem?
     intro j
     rw [List.getElem?_take,gw]
     by_cases hj:j<n*k
     · have hjc:j<cur.size:=by
        rw [hs]
        exact fL hj (Nat.mul_le_mul_right k hn)
       simp only [if_pos hj,fB,Array.getElem?_mapIdx,gv hjc,Option.map_some]
       rw [if_pos ⟨fK _,by rw [fE,hd];omega⟩,zdV hk hk0 d' j (by rw [hd];exact hj)]
       rfl
     · rw [if_neg hj,List.getElem?_eq_none (by rw [hlen];omega)]
end
theorem zbO {α:Type} [Inhabited α] (enc:α→List fP)(k:Nat)(w:fO)(g q b:Nat)(d':Array α)(os:Array Obj)(hb:b<w.heap.size)(hne:b≠g):(sortWorldK enc k w g 0 q d' os).heap[b]? =w.heap[b]?:=by
 unfold sortWorldK fC
 rw [fD _ _ (by simpa using hb)]
 simp only [fH,fG,gx]
 rw [if_neg (fun e=>hne e.symm)]
 rfl
theorem zbD {α:Type} [Inhabited α] (enc:α→List fP)(k:Nat)(w:fO)(g q:Nat)(d':Array α)(os:Array Obj):w.heap.size≤(sortWorldK enc k w g 0 q d' os).heap.size:=by
 unfold sortWorldK fC
 simp
theorem Ev.deep:Deep Ev.lies Ev.uses:=⟨fun x w w' h hs hb=>Ev.frame h hs hb,fun x w b h hu=>Ev.uses_lt h hu⟩
abbrev zc3:=cY 50 7 Ev.enc Ev.lies Ev.uses
def zkw (B:Nat)(W0:fO)(v:fP)(zs:List Ev)(e:Ending)(w':fO):Prop :=
 e=.returned (.tuple #[])∧∃ ys,zc3 B W0 v ys w'∧ys.Perm zs∧ys.Pairwise (fun x y=>ltOf zcW y x=false)
theorem zkM:∀ (x:Ev)(v:fP),v∈x.enc→v.oneCell'=true:=Ev.one
theorem zjD (w:fO)(fv:fP):fQ Tryz.prog 277 #[.slice none 0 0,.int .i64 0,.int .i64 0,fv] w fun e w'=>e=.returned (.tuple #[])∧w=w':=by
 go_enter Tryz.func277,Tryz.ntmps277
 go_wp2_with fail
 refine fR 1 ?_
 rw [fS]
 go_wp2_with fail
 go_end0
 exact⟨rfl,rfl⟩
theorem zjk (w:fO)(fv:fP):fQ Tryz.prog 247 #[.slice none 0 0,.int .i64 0,fv] w fun e w'=>e=.returned (.tuple #[])∧w=w':=by
 have HI:=h_ (zjD w fv)
 go_enter Tryz.func247,Tryz.ntmps247
 go_wp2_with fail
 refine fR 1 ?_
 rw [fS]
 go_wp2_with fail
 refine HI.out.mono ?_
 rintro e w1 ⟨rfl,rfl⟩
 go_wp2_with fail
 refine fR 1 ?_
 rw [fS]
 go_wp2_with fail
 go_end0
 exact⟨rfl,rfl⟩
theorem zfK (w:fO)(fv:fP):fQ Tryz.prog 185 #[.slice none 0 0,fv] w fun e w'=>e=.returned (.tuple #[])∧w=w':=by
 have HI:=h_ (zjk w fv)
 go_enter Tryz.func185,Tryz.ntmps185
 go_wp2_with fail
 refine HI.out.mono ?_
 rintro e w1 ⟨rfl,rfl⟩
 go_wp2_with fail
 go_end0
 exact⟨rfl,rfl⟩
theorem zd9 (B:Nat)(W0:fO)(v:fP)(zs:List Ev)(w:fO)(h:zc3 B W0 v zs w)(hl:zs.length≤4000000)(hB:B≤W0.heap.size) :
 fQ Tryz.prog 185 #[v,.func (.func 186) #[] #[]] w (zkw B W0 v zs):=by
 obtain⟨h1,h2,h3⟩:=h
 have hB1:B≤w.heap.size:=fN hB h3.size
 rcases h1.2 with⟨rfl,h0⟩|⟨g,cap,cur,rfl,hb,hg,_⟩
 · have hz:zs=[]:=List.eq_nil_of_length_eq_zero h0
   subst hz
   exact(zfK w _).mono fun e w' ⟨he,hw⟩=>⟨he,[],⟨hw▸h1,fun z hz=>by simp at hz,hw▸h3⟩,.nil,.nil⟩
 · have hgl:g<w.heap.size:=(gu.1 hg).1
   have hH:=zf5 (enc:=Ev.enc) (k:=7) (fun _=>rfl) (by decide) h1
   have hC:CmpLays Tryz.prog 186 #[] Ev.enc 7 zcW g 0 zs.toArray.size w:=fun m os dk _ x y=>zeb x y _
   have R:RowK Ev.enc 7 w g 0 zs.toArray:=⟨fun _=>rfl,zkM,hH,hgl⟩
   have S:SWK Ev.enc 7 w g 0 zs.toArray w:=⟨0,#[],by unfold sortWorldK;rw [Sort.grow_empty];exact(Sort.putRowK_self Ev.enc 7 w g 0 zs.toArray hH).symm⟩
   have hcall:=zbZ Tryz.stLay 7 (fun w=>by kernel_rfl) (fun w=>by kernel_rfl) Ev.enc zcW ziX 186 #[] g 0 cap zs.toArray w (fun args w=>by kernel_rfl) hC R S (by simp;omega)
   simp only [gj] at hcall
   refine hcall.mono fun e w' ⟨he,d',hd,⟨q,os,hw⟩,hp,hs⟩=>?_
   subst hw
   simp only [gj] at hd
   have hperm:d'.toList.Perm zs:=by
    have hpp:=hp.2.2
    have e1:d'.extract 0 zs.length=d':=by rw [←hd];simp
    have e2:zs.toArray.extract 0 zs.length=zs.toArray:=by simp
    rw [e1,e2] at hpp
    simpa using hpp
   have hlen:d'.toList.length=zs.length:=by simpa using hd
   refine⟨he,d'.toList,⟨?_,fun z hz=>?_,?_⟩,hperm,?_⟩
   · rw [hlen]
     exact zfb (enc:=Ev.enc) (k:=7) (fun _=>rfl) (by decide) h1 hd
   · obtain⟨hl,hu⟩:=h2 z (hperm.mem_iff.1 hz)
     refine⟨Ev.frame hl (zbD ..) (fun b hb=>zbO _ _ _ _ _ _ _ _ (Ev.uses_lt hl hb) (fun e=>(hu b hb).1 (by rw [e];rfl))),hu⟩
   · exact h3.trans ⟨rfl,rfl,rfl,zbD ..,fun b hb'=>zbO _ _ _ _ _ _ _ _ (fL hb' hB1) (by omega)⟩
   · rw [List.pairwise_iff_getElem]
     intro i j hi hj hij
     have hi':i<d'.size:=by simpa using hi
     have hj':j<d'.size:=by simpa using hj
     have:=hs i j (fK _) hij (by omega)
     rw [getElem!_pos d' i hi',getElem!_pos d' j hj'] at this
     simpa using this
def zbB (xs:List Ev)(w:fO)(e:Ending)(w':fO):Prop :=
 ∃ v ys,e=.returned v∧zc3 w.heap.size w v ys w'∧(ys.map Ev.c).Perm (xs.map Ev.c)∧ys.Pairwise (fun x y=>ltOf zcW y x=false)
def eo (xs:List Ev)(w:fO)(k:Nat)(v:fP)(wr:fO):Prop:=∃ zs,zs.length=k∧zs.map Ev.c=(xs.take k).map Ev.c∧zc3 w.heap.size w v zs wr
theorem cj {α:Type} (xs:List α)(k:Nat)(x:α)(h:xs[k]? =some x):xs.take (k+1)=xs.take k++[x]:=by
 rw [List.take_add_one,h]
 rfl
theorem eo.step {xs:List Ev} {w wr w1 w2:fO} {k:Nat} {v v':fP} {zs:List Ev} {x y:Ev} {cs:Array fP} (hx:xs[k]? =some x)(h1:zs.length=k)(h2:zs.map Ev.c=(xs.take k).map Ev.c)(h3:zc3 w.heap.size w v zs wr)(hb:Below wr.heap.size wr w1)(hyc:y.c=x.c)(hyl:y.lies w1)(hyu:∀ b,y.uses b→wr.heap.size≤b)
 (hcs:cs.toList=y.enc) (hown:w2.ownsRow w.heap.size 50 7 v' (k+1) (zs.flatMap Ev.enc++cs.toList)) (hg:(w1.alloc (.cells cs 50)).grownBy w2 v.ownBlock) (hat:v'.ownBlock=v.ownBlock∨v'.ownBlock=some (w1.heap.size+1)):eo xs w (k+1) v' w2:=by
 subst h1
 refine⟨zs++[y],by simp,by rw [gp,cj xs _ x hx,gp,h2];simp [hyc],?_⟩
 have h3':=cY.later Ev.deep h3 (fJ _) hb
 refine cY.push Ev.deep h3' (fJ _) hcs hown hg hat hyl (fun b hu=>⟨fun e=>?_,fN h3.2.2.size (hyu b hu)⟩)
 have:=(h3.1.lt b e).2
 have:=hyu b hu
 omega
theorem zeE (a:Option Addr)(cap:Nat)(xs:List Ev)(w:fO)(h:zai w a xs)(hf:∀ x∈xs,x.fits)(hl:xs.length≤4000000) :
 fQ Tryz.prog 111 #[.slice a xs.length cap] w (zbB xs w):=by
 have HX:=h_ h
 have HF:=h_ hf
 have HQ:=h_ (fun(v:fP) (ys zs:List Ev) (w':fO) (h1:zc3 w.heap.size w v ys w') (h2:ys.Perm zs) (h3:ys.Pairwise (fun x y=>ltOf zcW y x=false)) (h4:zs.map Ev.c=(xs.take xs.length).map Ev.c)=>(show zbB xs w (.returned v) w' from⟨v,ys,rfl,h1,by rw [List.take_length] at h4;rw [←h4];exact h2.map _,h3⟩))
 obtain⟨j0,hj,hy0,hy1,hy2⟩:=info_parts Tryz.info50
 have JI:=h_ hj;have J0:=h_ hy0;have J1:=h_ hy1;have J2:=h_ hy2
 generalize zbB xs w=Q at *
 clear hj hy0 hy1 hy2 h hf
 go_enter Tryz.func111,Tryz.ntmps111
 go_wp2_with fail
 go_loopw [3,8] (fun v i wr=>∃ k:Nat,k≤xs.length∧i=.int .i64 k∧eo xs w k v wr) (fun _ i _=>xs.length-(intOf i).toNat)
 case atStart=>exact⟨0,by omega,rfl,[],rfl,rfl,cY.start (Below.refl _ _)⟩
 case round =>
  obtain⟨k,hk,rfl,zs,hzl,hzc,hgr⟩:=hrel
  by_cases hlt:k<xs.length
  · have hb:=hgr.2.2
    obtain⟨b,off,x,rfl,hbl,hx,hc,hok⟩:=(HX.out.later hb).at_ hlt
    have hfx:=HF.out x (List.mem_of_getElem? hx)
    have hbs:=hb.size
    have HC:=h_ (fun o=>ej x (wr.alloc o) (Ev.keeps _ _ _ ((Below.refl _ _).alloc (fJ _) o) hok) (fun r hr=>(hfx.2.2.2.2.2.2.2.1 r hr).2.1) hfx.2.2.2.2.2.2.2.2)
    have HST:=h_ (fun(w1 w2:fO) (v':fP) (y:Ev) (cs:Array fP) (hb:Below wr.heap.size wr w1) (hyc:y.c=x.c) (hyl:y.lies w1) (hyu:∀ b,y.uses b→wr.heap.size≤b) (hcs:cs.toList=y.enc) (hown:w2.ownsRow w.heap.size 50 7 v' (k+1) (zs.flatMap Ev.enc++cs.toList)) (hg:(w1.alloc (.cells cs 50)).grownBy w2 u3.ownBlock) (hat:v'.ownBlock=u3.ownBlock∨v'.ownBlock=some (w1.heap.size+1))=>eo.step hx hzl hzc hgr hb hyc hyl hyu hcs hown hg hat)
    have hown0:=hgr.1
    rw [hzl] at hown0
    have HO:=h_ (fun(w1:fO) (hb:Below wr.heap.size wr w1)=>aq hown0 hb)
    obtain⟨zf,hzf⟩:∃ zf,zf=zs.flatMap Ev.enc:=⟨_,rfl⟩
    rw [←hzf] at HO HST
    have HBA:=h_ (fun(o:Obj) (w1:fO) (h1:Below (wr.alloc o).heap.size (wr.alloc o) w1)=>(show Below wr.heap.size wr w1 from((Below.refl _ _).alloc (fJ _) _).trans (h1.mono (by simp))))
    have HXC:=h_ (show x.c=x.c from rfl)
    generalize x.c=xc at HC HST
    have d0:=hc 0 _ rfl;have d1:=hc 1 _ rfl;have d2:=hc 2 _ rfl;have d3:=hc 3 _ rfl;have d4:=hc 4 _ rfl;have d5:=hc 5 _ rfl;have d6:=hc 6 _ rfl
    obtain⟨xid,xin,xout,xreg,xkind,xsp,xa,xcap,xrows⟩:=x
    simp only [Ev.enc,Nat.add_zero] at HC d0 d1 d2 d3 d4 d5 d6
    clear hc hx hok hgr hzc hzl hfx hown0 hzf HXC hb
    go_wp2_with fail
    refine(HC.out _).mono ?_
    rintro e w1 ⟨y,rfl,hyc,hyl,hyu,hyb⟩
    have hbw:=HBA.out _ _ hyb
    have hs1:=hbw.size
    have HO1:=h_ (HO.out _ hbw)
    have HY:=h_ (fun w2 v' cs=>HST.out w1 w2 v' y cs hbw hyc hyl (fun b hu=>by have:=hyu b hu;simp at this;omega))
    obtain⟨yid,yin,yout,yreg,ykind,ysp,ya,ycap,yrows⟩:=y
    simp only [Ev.enc] at HY ⊢
    clear hyc hyl hyu hyb hbw HC HO HST HBA d0 d1 d2 d3 d4 d5 d6
    go_wp2_with (at_builtin;refine aA _ _ rfl (.tmp 12) (.tmp 15) 24 rfl w.heap.size 50 j0 _ 7 88 Tryz.underlying24 JI.out J0.out J1.out J2.out rfl (by decide) _ _ _ rfl HO1.out _ rfl rfl rfl ?h1 ?h63 ?hb ?hbase ?_)
    case h1=>first|exact⟨rfl,rfl,rfl,rfl,rfl,rfl,rfl⟩|(intro u hu;simp at hu;rcases hu with rfl|rfl|rfl|rfl|rfl|rfl|rfl<;>rfl)
    case h63=>unfold maxLen;omega
    case hb=>omega
    case hbase=>omega
    intro v' w2 hown' hgrow hat
    have R:=h_ (HY.out w2 v' _ rfl hown' hgrow hat)
    clear hown' hgrow hat
    go_wp2_with fail
    go_roundw
    case rel=>exact⟨k+1,by omega,by go_num,R.out⟩
    case measure=>simp [intOf];omega
  · obtain rfl:k=xs.length:=by omega
    have HS:=h_ (zd9 w.heap.size w u3 zs wr hgr (by omega) (fJ _))
    obtain⟨av,cv,rfl,_⟩:=cY.slice (k:=7) (enc:=Ev.enc) (fun _=>rfl) hgr
    have HZ:=h_ hzc
    clear hgr hzc hzl
    go_wp2_with fail
    refine HS.out.mono ?_
    rintro e w1 ⟨rfl,ys,hg1,hp,hs⟩
    have HF2:=h_ (HQ.out _ ys zs w1 hg1 hp hs HZ.out)
    clear hg1 hp hs HS
    go_wp2_with fail
    exact HF2.out
end Go.Proofs.YtnlnmbcaongehaaGreatDoor
namespace Go.Proofs.YtnlnmbcaongehaaGreatDoor
open Go.RowKit
attribute [local go_sem ↓] Go.wp_at_zero Go.wp_at_succ
def zc7 (err:Int)(c':DocC)(d:Doc)(g:Nat)(w:fO)(e:Ending)(w':fO):Prop :=
 e=.returned (.int .i64 err)∧∃ d':Doc,w'.heap[g]? =some (.cells d'.enc.toArray 27 (0,0))∧d'.c=c'∧d'.lies w'∧(∀ b,d'.uses b→b≠g∧(d.uses b∨w.heap.size≤b))∧w.grownBy w' (some g)
def Aside (w5:fO)(g:Nat)(w':fO):Prop:=∀ b,b<w5.heap.size→b≠g→w'.heap[b]? =w5.heap[b]?
structure zdI (d:Doc)(g:Nat)(w:fO):Prop where
 cells:w.heap[g]? =some (.cells d.enc.toArray 27 (0,0))
 lies:d.lies w
 apart:∀ b,d.uses b→b≠g
theorem zdI.below {d:Doc} {g:Nat} {w w':fO} (h:zdI d g w)(hb:Below w.heap.size w w'):zdI d g w' :=
 ⟨(hb.block g (gu.1 h.cells).1).trans h.cells,Doc.later h.lies hb,h.apart⟩
theorem zdI.same {d:Doc} {g:Nat} {w w':fO} (h:zdI d g w)(hb:Below w.heap.size w w')(err:Int):zc7 err d.c d g w (.returned (.int .i64 err)) w':=by
 have h':=h.below hb
 exact⟨rfl,d,h'.cells,rfl,h'.lies,fun b hu=>⟨h'.apart b hu,.inl hu⟩,⟨hb.os,hb.tape,hb.output,hb.size,fun k hk _=>hb.block k hk⟩⟩
def zfd (c:Chg):Reg:=⟨c.name,c.nr.top,c.nr.height,c.nr.left,c.nr.width,c.nr.align,c.nr.bottom⟩
end Go.Proofs.YtnlnmbcaongehaaGreatDoor
