/- slices.SortStableFunc at events: a permutation of what the row held, ascending. The stable sort at events: how two events compare, and the contract of slices.SortStableFunc with document.Sort's comparison. The contract of document.Sort: copies of the events, in order. -/
import Derived.Test.YtnlnmbcaongehaaGreatDoorB14
set_option linter.unusedVariables false
set_option linter.unusedSimpArgs false
set_option maxRecDepth 100000
set_option maxHeartbeats 12800000
open Go.Lib renaming hid→h_
open Go.Sort renaming insertionSort→e_,alloc_eq_grow→fb,insertionSort_holds→fe,permIn_trans→ff,permIn_mono→fg,putCells→fh,putRowK→fi,heap_grow_old→fj,size_flatK→fk,grow_grow→fm,mapBlock→fo,putRow→fp,flatK→fq
open Nat renaming le_refl→fr,zero_le→ft,lt_of_lt_of_le→fu,mul_comm→fw,le_trans→fx
open Go renaming World→fy,Value→fz,Calls→fA,wp_loop_rounds→fB,rounds_succ→fC,cell_of_row→fD,sizeOf→fE,heap_alloc_last→fF
open Go.Proofs.Tryz renaming prog→fG,underlying24→fH,underlying252→fI,zeroValue252→fJ,zeroValue24→fK,underlying4→fL,underlying3→fM,underlying0→fN,zeroValue4→fO,zeroValue3→fP,zeroValue0→fQ,sizeOf252→fR,sizeOf24→fS,ntmps247→fT,ntmps185→fU,isAgg252→fV,sizeOf4→fW,sizeOf3→fX,sizeOf0→fY,isAgg24→fZ,func277→f_,func247→ga,func185→gb,isAgg4→gd,isAgg3→gf,isAgg0→gg
open Go.Lib renaming compareInt→gh
open Go.Value renaming int→gi,agg→gj
open Array renaming getElem?_eq_some_iff→gk,getElem?_eq_getElem→gl,getElem?_toList→gm,getElem?_modify→gp
open List renaming size_toArray→gq,map_append→gr
namespace Go.Proofs.YtnlnmbcaongehaaGreatDoor
open Go.Shelf Go.RowKit Go.Lib Go.Sort
variable {P:Program} {α:Type} [Inhabited α]
theorem zlV {lt:α→α→Bool} (hO:SWO lt) {d dk:Array α} {x bs:Nat} (hds:dk.size=d.size)(hb:x+bs≤d.size)(hP:PermIn 0 d.size d dk)(hpre:Pre lt bs dk x) :
 PermIn 0 d.size d (e_ lt dk x (x+bs))∧Pre lt bs (e_ lt dk x (x+bs)) (x+bs)∧(e_ lt dk x (x+bs)).size=d.size:=by
 obtain⟨h1,h2⟩:=fe (lt:=lt) hO dk x (x+bs) (by omega) (by omega)
 refine⟨ff _ _ _ _ _ hP (fg _ _ x (x+bs) 0 d.size (by omega) hb (by omega) h1),.snoc x (hpre.congr fun i hi=>h1.2.1 i (by omega)) h2,h1.1.trans hds⟩
theorem zlW {lt:α→α→Bool} (hO:SWO lt) {d dk:Array α} {x bs:Nat} (hds:dk.size=d.size)(hx:x≤d.size)(hb:d.size<x+bs)(hP:PermIn 0 d.size d dk)(hpre:Pre lt bs dk x) :
 PermIn 0 d.size d (e_ lt dk x d.size)∧Blk lt bs d.size (e_ lt dk x d.size) 0∧(e_ lt dk x d.size).size=d.size:=by
 obtain⟨h1,h2⟩:=fe (lt:=lt) hO dk x d.size hx (by omega)
 refine⟨ff _ _ _ _ _ hP (fg _ _ x d.size 0 d.size (by omega) (fr _) (by omega) h1),(hpre.congr fun i hi=>h1.2.1 i (by omega)).join (.go x (SortedIn.part h2 (fr _) (by omega)) (.stop _ (by omega))),h1.1.trans hds⟩
theorem zlN {lt:α→α→Bool} {d dk d2:Array α} {x bs:Nat} (hds:dk.size=d.size)(hb:x+2*bs≤d.size)(hP:PermIn 0 d.size d dk)(hpre:Pre lt (2*bs) dk x)(hblk:Blk lt bs d.size dk x)(h1:PermIn x (x+2*bs) dk d2)(h2:SortedIn lt x (x+2*bs) d2) :
 PermIn 0 d.size d d2∧Pre lt (2*bs) d2 (x+2*bs)∧Blk lt bs d.size d2 (x+2*bs):=by
 refine⟨ff _ _ _ _ _ hP (fg _ _ x (x+2*bs) 0 d.size (by omega) hb (by omega) h1),.snoc x (hpre.congr fun i hi=>h1.2.1 i (by omega)) h2,?_⟩
 have:=hblk.tail.tail
 rw [show x+bs+bs=x+2*bs by omega] at this
 exact this.congr fun i hi=>h1.2.1 i (by omega)
theorem ziA {lt:α→α→Bool} {dk:Array α} {x bs n:Nat} (hb:x+2*bs≤n)(hblk:Blk lt bs n dk x):SortedIn lt x (x+bs) dk∧SortedIn lt (x+bs) (x+2*bs) dk :=
 ⟨SortedIn.part hblk.head (fr _) (by omega),SortedIn.part hblk.tail.head (fr _) (by omega)⟩
theorem zgG {lt:α→α→Bool} {dk:Array α} {x bs n:Nat} (h1:x+bs<n)(hb:n<x+2*bs)(hblk:Blk lt bs n dk x):SortedIn lt x (x+bs) dk∧SortedIn lt (x+bs) n dk :=
 ⟨SortedIn.part hblk.head (fr _) (by omega),SortedIn.part hblk.tail.head (fr _) (by omega)⟩
theorem zjU {lt:α→α→Bool} {d dk d2:Array α} {x bs:Nat} (hds:dk.size=d.size)(hx:x≤d.size)(hb:d.size<x+2*bs)(hP:PermIn 0 d.size d dk)(hpre:Pre lt (2*bs) dk x)(h1:PermIn x d.size dk d2)(h2:SortedIn lt x d.size d2) :
 PermIn 0 d.size d d2∧Blk lt (2*bs) d.size d2 0 :=
 ⟨ff _ _ _ _ _ hP (fg _ _ x d.size 0 d.size (by omega) (fr _) (by omega) h1),(hpre.congr fun i hi=>h1.2.1 i (by omega)).join (.go x (SortedIn.part h2 (fr _) (by omega)) (.stop _ (by omega)))⟩
theorem zh9 {ρ:Ren} (L:SlLaysF0.n20 P ρ)(k:Nat)(aE:∀ w,(isAgg (ρ.t 24)).run P w=.ok true w)(zE:∀ w,(fE (ρ.t 24)).run P w=.ok k w)(enc:α→List fz)(cf:α→α→Int)(g:Nat)(cb:Array fz)(blk off cap a b:Nat)(d0 d:Array α)(w0 w:fy)
 (eg:∀ args w,(callFunc g args).run P w=.ok (.enter g args) w) (hcmp:CmpLays P g cb enc k cf blk off d0.size w0) (R:RowK enc k w0 blk off d0) (hs:d0.size=d.size) (S:SWK enc k w0 blk off d w) (hO:SWO (ltOf cf)) (hab:a≤b) (hb:b≤d.size) (hsz:d.size<4611686018427387904) :
 fA P (ρ.f 20) #[.slice (some ⟨blk,off,none⟩) d.size cap,.int .i64 a,.int .i64 b,.func (.func g) #[] cb] w fun e w'=>e=.returned (.tuple #[])∧SWK enc k w0 blk off (e_ (ltOf cf) d a b) w':=by
 have hs':(e_ (ltOf cf) d a b).size=d.size:=(fe hO d a b hab hb).1.1
 have hC:CmpLays P g cb enc k cf blk off d.size w:=fun m os dk hdk x y=>by
  obtain⟨n0,os0,rfl⟩:=S
  rw [sortWorldK_on enc k w0 blk off n0 m d dk os0 os R.hblk hdk]
  exact hcmp _ _ dk (by omega) x y
 refine(AnyQ.insertionSortCmpFunc L k aE zE enc R.hk R.h1 cf g cb blk off cap a b d w eg hC (S.holds R.hblk R.hH hs.symm) (S.lt R.hblk) hab hb hsz).mono ?_
 rintro e w' ⟨rfl,n,os,rfl⟩
 exact⟨rfl,S.on R.hblk n _ os hs'⟩
theorem zgH (L:zgy P)(k:Nat)(aE:∀ w,(isAgg 50).run P w=.ok true w)(zE:∀ w,(fE 50).run P w=.ok k w)(enc:α→List fz)(cf:α→α→Int)(hO:SWO (ltOf cf))(g:Nat)(cb:Array fz)(blk off cap:Nat)(d:Array α)(w:fy)
 (eg:∀ args w,(callFunc g args).run P w=.ok (.enter g args) w) (hcmp:CmpLays P g cb enc k cf blk off d.size w) (R:RowK enc k w blk off d) (S:SWK enc k w blk off d w) (hsz:d.size<1152921504606846976) :
 fA P 247 #[.slice (some ⟨blk,off,none⟩) d.size cap,.int .i64 d.size,.func (.func g) #[] cb] w (dS (ltOf cf) enc k w blk off d 0 d.size):=by
 have mixed:=L.mixed;have t0:=L.t0;have a0:=L.a0;have z0:=L.z0;have v0:=L.v0;have t3:=L.t3;have a3:=L.a3;have z3:=L.z3;have v3:=L.v3;have t4:=L.t4;have a4:=L.a4;have z4:=L.z4;have v4:=L.v4;have t24:=L.t24;have a24:=L.a24;have z24:=L.z24;have v24:=L.v24;have t252:=L.t252;have a252:=L.a252;have z252:=L.z252;have v252:=L.v252
 have FG:=L.f247
 have e278:∀ args w,(callFunc 278 args).run P w=.ok (.enter 278 args) w:=enters_of L.f278 (by kernel_rfl) rfl
 have e277:∀ args w,(callFunc 277 args).run P w=.ok (.enter 277 args) w:=L.ins.f20.enters rfl
 have HINS:=h_ (fun(x y:Nat) (dk:Array α) (W:fy) (h1:d.size=dk.size) (h2:SWK enc k w blk off dk W) (h3:x≤y) (h4:y≤dk.size) =>
  (show fA P 277 #[.slice (some ⟨blk,off,none⟩) dk.size cap,.int .i64 x,.int .i64 y,.func (.func g) #[] cb] W fun e w'=>e=.returned (.tuple #[])∧SWK enc k w blk off (e_ (ltOf cf) dk x y) w' from
   zh9 L.ins k aE zE enc cf g cb blk off cap x y d dk w W eg hcmp R h1 h2 hO h3 h4 (by omega)))
 have HSYM:=h_ (fun(x y z:Nat) (dk:Array α) (W:fy) (h1:d.size=dk.size) (h2:SWK enc k w blk off dk W) (h3:x<y) (h4:y<z) (h5:z≤dk.size) (h6:SortedIn (ltOf cf) x y dk) (h7:SortedIn (ltOf cf) y z dk) =>
  zeB L k aE zE enc cf hO g cb blk off cap d w eg hcmp R (by omega) (z-x+1) x y z dk W (by omega) h1 h2 h3 h4 h5 h6 h7)
 have S0:Aside (SWK enc k w blk off d w):=S
 clear S L hcmp
 generalize hQ:dS (ltOf cf) enc k w blk off d 0 d.size=Q
 have HQ:=h_ (fun(dk:Array α) (W:fy) (h1:dk.size=d.size) (h2:SWK enc k w blk off dk W) (h3:PermIn 0 d.size d dk) (h4:SortedIn (ltOf cf) 0 d.size dk)=>show Q (.returned (.tuple #[])) W from hQ▸⟨rfl,dk,h1,h2,h3,h4⟩)
 clear hQ
 obtain⟨n,hn⟩:∃ n,n=d.size:=⟨_,rfl⟩
 go_enter FG,fT
 go_wp2
 go_loopg [7,8] d.size (fun kx s7 s8 wr=>∃ (x:Nat) (dk:Array α),s7=.int .i64 x∧s8=.int .i64 ((x:Int)+20)∧x≤d.size∧d.size-x≤kx∧dk.size=d.size∧Aside (SWK enc k w blk off dk wr)∧Hid (PermIn 0 d.size d dk)∧Hid (Pre (ltOf cf) 20 dk x))
 case atStart=>exact⟨0,d,rfl,by simp,ft _,by omega,rfl,S0,permIn_refl _ _ _,.zero⟩
 case round =>
  clear S0
  obtain⟨x,dk,rfl,rfl,hx,hkx,hds,S1,HP,HB⟩:=hrel
  by_cases hlt:x+20≤d.size
  · have hltz:(x:Int)+20≤(d.size:Int):=by omega
    have hC:=HINS.out x (x+20) dk wr (by omega) S1.out (by omega) (by omega)
    rw [hds,show((x+20:Nat):Int)=(x:Int)+20 by omega] at hC
    obtain⟨q1,q2,q3⟩:=zlV hO hds hlt HP.out HB.out
    generalize e_ (ltOf cf) dk x (x+20)=d2 at hC q1 q2 q3
    have HCC:=h_ hC
    have Q1:=h_ q1
    have Q2:=h_ q2
    have Q3:=h_ q3
    clear hC q1 q2 q3
    go_wp2_with (go_at_fn 277;refine HCC.out.mono ?_;rintro e w2 ⟨rfl,S2'⟩)
    have S2:Aside (SWK enc k w blk off d2 w2):=S2'
    go_roundg (d.size-(x+20))
    case measure=>omega
    case rel=>exact⟨x+20,d2,by go_num,by go_num,hlt,fr _,Q3.out,S2,Q1.out,Q2.out⟩
  · have hltz:¬ (x:Int)+20≤(d.size:Int):=by omega
    have hC:=HINS.out x d.size dk wr (by omega) S1.out (by omega) (by omega)
    rw [hds] at hC
    obtain⟨q1,q2,q3⟩:=zlW hO hds hx (by omega) HP.out HB.out
    generalize e_ (ltOf cf) dk x d.size=d2 at hC q1 q2 q3
    have HCC:=h_ hC
    have Q1:=h_ q1
    have Q2:=h_ q2
    have Q3:=h_ q3
    clear hC q1 q2 q3
    go_wp2_with (go_at_fn 277;refine HCC.out.mono ?_;rintro e w2 ⟨rfl,S2'⟩)
    have S2:Aside (SWK enc k w blk off d2 w2):=S2'
    clear S2'
    go_loopg [6,7,8,9] d.size (fun kx s6 s7 s8 s9 wr=>∃ (bs:Nat) (dk:Array α),s6=.int .i64 bs∧0<bs∧bs≤2*d.size+20∧d.size-bs≤kx∧dk.size=d.size∧Aside (SWK enc k w blk off dk wr)∧Hid (PermIn 0 d.size d dk)∧Hid (Blk (ltOf cf) bs d.size dk 0))
    case atStart=>exact⟨20,d2,rfl,by omega,by omega,by omega,Q3.out,S2,Q1.out,Q2.out⟩
    case round =>
     clear S1 S2 HP HB Q1 Q2 Q3 HCC hlt hltz hkx hds
     obtain⟨bs,dk,rfl,hbs,hbs2,hkx,hds,S1,HP,HB⟩:=hrel
     by_cases hlt:bs<d.size
     · have hltz:(bs:Int)<(d.size:Int):=by omega
       go_wp2
       go_loopg [7,8] d.size (fun ky s7 s8 wr=>∃ (y:Nat) (dk:Array α),s7=.int .i64 y∧s8=.int .i64 ((y:Int)+2*(bs:Int))∧y≤d.size∧d.size-y≤ky∧dk.size=d.size∧Aside (SWK enc k w blk off dk wr)∧Hid (PermIn 0 d.size d dk)∧Hid (Pre (ltOf cf) (2*bs) dk y)∧Hid (Blk (ltOf cf) bs d.size dk y))
       case atStart=>exact⟨0,dk,rfl,by simp,ft _,by omega,hds,S1,HP,.zero,HB⟩
       case round =>
        clear S1 HP HB hds
        obtain⟨y,dk,rfl,rfl,hy,hky,hds,S1,HP,HE,HB⟩:=hrel
        by_cases hlt2:y+2*bs≤d.size
        · have hlt2z:(y:Int)+2*(bs:Int)≤(d.size:Int):=by omega
          have hC:=HSYM.out y (y+bs) (y+2*bs) dk wr (by omega) S1.out (by omega) (by omega) (by omega) (ziA hlt2 HB.out).1 (ziA hlt2 HB.out).2
          rw [hds,show((y+bs:Nat):Int)=(y:Int)+(bs:Int) by omega,show((y+2*bs:Nat):Int)=(y:Int)+2*(bs:Int) by omega] at hC
          have HCC:=h_ hC
          clear hC
          go_wp2_with (go_at_fn 278;refine HCC.out.mono ?_;rintro e w2 ⟨rfl,d2,z2,S2',p2,s2⟩)
          obtain⟨q1,q2,q3⟩:=zlN hds hlt2 HP.out HE.out HB.out p2 s2
          have S2:Aside (SWK enc k w blk off d2 w2):=S2'
          go_roundg (d.size-(y+2*bs))
          case measure=>omega
          case rel=>exact⟨y+2*bs,d2,by go_num,by go_num,hlt2,fr _,z2.trans hds,S2,q1,q2,q3⟩
        · have hlt2z:¬ (y:Int)+2*(bs:Int)≤(d.size:Int):=by omega
          by_cases hlt3:y+bs<d.size
          · have hlt3z:(y:Int)+(bs:Int)<(d.size:Int):=by omega
            have hC:=HSYM.out y (y+bs) d.size dk wr (by omega) S1.out (by omega) (by omega) (by omega) (zgG hlt3 (by omega) HB.out).1 (zgG hlt3 (by omega) HB.out).2
            rw [hds,show((y+bs:Nat):Int)=(y:Int)+(bs:Int) by omega] at hC
            have HCC:=h_ hC
            clear hC
            go_wp2_with (go_at_fn 278;refine HCC.out.mono ?_;rintro e w2 ⟨rfl,d2,z2,S2',p2,s2⟩)
            obtain⟨q1,q2⟩:=zjU hds hy (by omega) HP.out HE.out p2 s2
            have S2:Aside (SWK enc k w blk off d2 w2):=S2'
            go_roundg (d.size-2*bs)
            case measure=>omega
            case rel=>exact⟨2*bs,d2,by first|rfl|go_num|(congr 1;omega),by omega,by omega,fr _,z2.trans hds,S2,q1,q2⟩
          · have hlt3z:¬ (y:Int)+(bs:Int)<(d.size:Int):=by omega
            have hso:SortedIn (ltOf cf) y d.size dk:=SortedIn.part HB.out.head (fr _) (by omega)
            obtain⟨q1,q2⟩:=zjU hds hy (by omega) HP.out HE.out (permIn_refl _ _ _) hso
            have Q1:=h_ q1
            have Q2:=h_ q2
            clear q1 q2 hso
            go_wp2
            go_roundg (d.size-2*bs)
            case measure=>omega
            case rel=>exact⟨2*bs,dk,by first|rfl|go_num|(congr 1;omega),by omega,by omega,fr _,hds,S1,Q1.out,Q2.out⟩
     · have hltz:¬ (bs:Int)<(d.size:Int):=by omega
       go_wp2
       go_end0
       exact HQ.out dk _ hds S1.out HP.out (SortedIn.part HB.out.head (fr _) (by omega))
theorem zde (L:zgy P)(k:Nat)(aE:∀ w,(isAgg 50).run P w=.ok true w)(zE:∀ w,(fE 50).run P w=.ok k w)(enc:α→List fz)(cf:α→α→Int)(hO:SWO (ltOf cf))(g:Nat)(cb:Array fz)(blk off cap:Nat)(d:Array α)(w:fy)
 (eg:∀ args w,(callFunc g args).run P w=.ok (.enter g args) w) (hcmp:CmpLays P g cb enc k cf blk off d.size w) (R:RowK enc k w blk off d) (S:SWK enc k w blk off d w) (hsz:d.size<1152921504606846976) :
 fA P 185 #[.slice (some ⟨blk,off,none⟩) d.size cap,.func (.func g) #[] cb] w (dS (ltOf cf) enc k w blk off d 0 d.size):=by
 have mixed:=L.mixed;have t0:=L.t0;have a0:=L.a0;have z0:=L.z0;have v0:=L.v0;have t3:=L.t3;have a3:=L.a3;have z3:=L.z3;have v3:=L.v3;have t4:=L.t4;have a4:=L.a4;have z4:=L.z4;have v4:=L.v4;have t24:=L.t24;have a24:=L.a24;have z24:=L.z24;have v24:=L.v24;have t252:=L.t252;have a252:=L.a252;have z252:=L.z252;have v252:=L.v252
 have FG:=L.f185
 have e247:∀ args w,(callFunc 247 args).run P w=.ok (.enter 247 args) w:=enters_of L.f247 (by kernel_rfl) rfl
 have HC:=h_ (zgH L k aE zE enc cf hO g cb blk off cap d w eg hcmp R S hsz)
 clear L hcmp S
 generalize hQ:dS (ltOf cf) enc k w blk off d 0 d.size=Q at HC ⊢
 have HQ:=h_ (fun e W (h:Q e W)=>show e=.returned (.tuple #[]) from(by rw [←hQ] at h;exact h.1))
 clear hQ
 go_enter FG,fU
 go_wp2_with fail
 refine HC.out.mono ?_
 intro e w' he
 obtain rfl:=HQ.out _ _ he
 go_wp2_with fail
 go_end0
 exact he
end Go.Proofs.YtnlnmbcaongehaaGreatDoor
namespace Go.Proofs.YtnlnmbcaongehaaGreatDoor
open Go.RowKit
theorem Tryz.stLay:zgy fG:={
 mixed:=by kernel_rfl
 f299:=Tryz.func299
 f290:=Tryz.func290
 f278:=Tryz.func278
 f247:=ga
 f185:=gb
 ins:={ mixed:=by kernel_rfl,f20:=⟨Tryz.f277.name,by decide,f_.trans (congrArg some (by kernel_rfl))⟩,t0:=fN,a0:=gg,z0:=fY,v0:=fQ,t3:=fM,a3:=gf,z3:=fX,v3:=fP,t4:=fL,a4:=gd,z4:=fW,v4:=fO,t22:=fH,a22:=fZ,z22:=fS,v22:=fK,t25:=fI,a25:=fV,z25:=fR,v25:=fJ }
 t0:=fN
 a0:=gg
 z0:=fY
 v0:=fQ
 t3:=fM
 a3:=gf
 z3:=fX
 v3:=fP
 t4:=fL
 a4:=gd
 z4:=fW
 v4:=fO
 t24:=fH
 a24:=fZ
 z24:=fS
 v24:=fK
 t238:=Tryz.underlying238
 a238:=Tryz.isAgg238
 z238:=Tryz.sizeOf238
 v238:=Tryz.zeroValue238
 t252:=fI
 a252:=fV
 z252:=fR
 v252:=fJ }
def zco (x y:Ev):Int:=orL [gh x.inn y.inn,gh x.id y.id]
theorem zmv (w:fy)(o o' o'':Obj):∃ q os',(((w.alloc o).alloc o').alloc o'').drew=Sort.grow (w.drewN q) os':=⟨1,#[o,o',o''],by
 rw [fb,fb,fb,fm,fm];rfl⟩
theorem zfL (x y:Ev)(w:fy):fA fG 186 (#[.agg x.enc.toArray,.agg y.enc.toArray]++#[]) w fun e w'=>e=.returned (.int .i64 (zco x y))∧∃ q os',w'=Sort.grow (w.drewN q) os':=by
 unfold zco
 obtain⟨id,inn,out,region,kind,speaker,a,cap,xs⟩:=x
 obtain⟨id',inn',out',region',kind',speaker',a',cap',xs'⟩:=y
 simp only [Ev.enc]
 rw [show(#[gj [gi .i64 id,.int .i64 inn,.int .i64 out,.string region,.int .u8 kind,.string speaker,.slice a xs.length cap].toArray,.agg [gi .i64 id',.int .i64 inn',.int .i64 out',.string region',.int .u8 kind',.string speaker',.slice a' xs'.length cap'].toArray]++#[]:Array fz)=#[gj [gi .i64 id,.int .i64 inn,.int .i64 out,.string region,.int .u8 kind,.string speaker,.slice a xs.length cap].toArray,.agg [gi .i64 id',.int .i64 inn',.int .i64 out',.string region',.int .u8 kind',.string speaker',.slice a' xs'.length cap'].toArray] by simp]
 have HC:=h_ (fun p q w=>Tryz.cmp_Compare_int p q w)
 have hc1:∀ (cs cs':Array fz) (j:Nat),((w.alloc (.cells cs 50)).alloc (.cells cs' 50)).cell? ⟨w.heap.size,j,none⟩=cs[j]?:=fun cs cs' j=>by
  rw [fy.cell?_alloc_lt _ _ _ (by simp),fD _ _ j cs 50 (0,0) (fF w _)]
 have hc2:∀ (cs cs':Array fz) (j:Nat),((w.alloc (.cells cs 50)).alloc (.cells cs' 50)).cell? ⟨w.heap.size+1,j,none⟩=cs'[j]?:=fun cs cs' j=>by
  rw [fD _ _ j cs' 50 (0,0) (zdA w _ _)]
 obtain⟨cs,hcs⟩:∃ cs:Array fz,cs=#[.int .i64 id,.int .i64 inn,.int .i64 out,.string region,.int .u8 kind,.string speaker,.slice a xs.length cap]:=⟨_,rfl⟩
 obtain⟨cs',hcs'⟩:∃ cs:Array fz,cs=#[.int .i64 id',.int .i64 inn',.int .i64 out',.string region',.int .u8 kind',.string speaker',.slice a' xs'.length cap']:=⟨_,rfl⟩
 have HG:=h_ (fun o=>zmv w (.cells cs 50) (.cells cs' 50) o)
 have e1:=(hc1 cs cs' 0).trans (show _=some (gi .i64 id) by rw [hcs];rfl)
 have e2:=(hc1 cs cs' 1).trans (show _=some (gi .i64 inn) by rw [hcs];rfl)
 have e3:=(hc2 cs cs' 0).trans (show _=some (gi .i64 id') by rw [hcs'];rfl)
 have e4:=(hc2 cs cs' 1).trans (show _=some (gi .i64 inn') by rw [hcs'];rfl)
 rw [hcs,hcs'] at e1 e2 e3 e4 HG
 generalize hW:(w.alloc (.cells #[.int .i64 id,.int .i64 inn,.int .i64 out,.string region,.int .u8 kind,.string speaker,.slice a xs.length cap] 50)).alloc (.cells #[.int .i64 id',.int .i64 inn',.int .i64 out',.string region',.int .u8 kind',.string speaker',.slice a' xs'.length cap'] 50)=W at *
 have HW:=h_ hW
 clear hW hc1 hc2 hcs hcs' cs cs'
 go_enter Tryz.func186,Tryz.ntmps186
 go_wp2_with fail
 rw [HW.out]
 refine wp_region_still_tail 12 (by kernel_rfl) (by kernel_rfl) ?_
 simp only [List.take_succ_cons,List.take_zero,List.drop_succ_cons,List.drop_zero]
 repeat still_step
 still_call (HC.out _ _ _)
 repeat still_step
 still_call (HC.out _ _ _)
 refine wpStill_nil ?_
 have HI:Hid (∀ w2:fy,Ints (w2.alloc (.cells #[.int .i64 (gh inn inn'),.int .i64 (gh id id')] 3)) (some ⟨w2.heap.size,0,none⟩) [gh inn inn',gh id id']):=h_ (fun w2=>by
  refine .inr ⟨w2.heap.size,0,rfl,by simp,fun i z hz=>⟨fun j v hv=>?_,trivial⟩⟩
  match j,hv with
  | 0,hv =>
    simp at hv
    subst hv
    rw [show 0+i*1+0=i by omega,fD _ _ i _ 3 (0,0) (fF w2 _)]
    match i,hz with
    | 0,hz=>simp at hz;subst hz;rfl
    | 1,hz=>simp at hz;subst hz;rfl)
 have HI2:Hid (Ints ((W.alloc (.cells #[.int .i64 (gh inn inn'),.int .i64 (gh id id')] 3)).drew) (some ⟨W.heap.size,0,none⟩) [gh inn inn',gh id id']):=h_ (HI.out W)
 go_wp2_with fail
 refine(ziH _ _ [gh inn inn',gh id id'] _ HI2.out (by simp)).mono ?_
 rintro e w' ⟨rfl,rfl⟩
 go_wp2_with fail
 go_ret
 exact⟨rfl,HG.out _⟩
theorem zlQ (p q:Int):orL [p,q]=if p=0 then q else p:=by
 simp only [orL]
 repeat' split
 all_goals simp_all
theorem zc8 (x y:Int):(gh x y=-1∧x<y)∨(gh x y=0∧x=y)∨(gh x y=1∧y<x):=by
 unfold gh
 repeat' split
 all_goals omega
theorem zaL (x y:Ev):ltOf zco x y=decide (x.inn<y.inn∨(x.inn=y.inn∧x.id<y.id)):=by
 unfold ltOf zco
 rw [zlQ]
 congr 1
 rcases zc8 x.inn y.inn with⟨h,h1⟩|⟨h,h1⟩|⟨h,h1⟩<;>rcases zc8 x.id y.id with⟨k,k1⟩|⟨k,k1⟩|⟨k,k1⟩<;>rw [h,k]<;>simp<;>omega
theorem zkz:Sort.SWO (ltOf zco) where
 irrefl x:=by rw [zaL];simp
 trans x y z h1 h2:=by rw [zaL] at *;simp at *;omega
 ntrans x y z h1 h2:=by rw [zaL] at *;simp at *;omega
end Go.Proofs.YtnlnmbcaongehaaGreatDoor
namespace Go.Proofs.YtnlnmbcaongehaaGreatDoor
open Go.RowKit
section
variable {α:Type} [Inhabited α] {enc:α→List fz} {k:Nat} (hk:∀ x,(enc x).length=k)
include hk
theorem zfr (hk0:0<k)(d:Array α)(t:Nat)(ht:t<d.size*k):(d.toList.flatMap enc)[t]? =some (fq enc k d)[t]!:=by
 have hi:t / k<d.size:=Nat.div_lt_of_lt_mul (by rw [fw];exact ht)
 have hm:t % k<k:=Nat.mod_lt _ hk0
 have he:t / k*k+t % k=t:=by rw [fw];exact Nat.div_add_mod t k
 have hx:d.toList[t / k]? =some d[t / k]!:=by
  rw [getElem!_pos d (t / k) hi,gm,gl hi]
 have hv:(enc d[t / k]!)[t % k]? =some (enc d[t / k]!)[t % k]!:=by
  rw [getElem!_pos _ (t % k) (by rw [hk];exact hm),List.getElem?_eq_getElem (by rw [hk];exact hm)]
 have:=er enc k hk d.toList (t / k) _ (t % k) _ hx hv
 rw [he] at this
 rw [this,Sort.get_flatK enc k d t ht]
theorem zib (hk0:0<k) {w:fy} {base T g cap:Nat} {zs:List α} (h:w.ownsRow base T k (.slice (some ⟨g,0,none⟩) zs.length cap) zs.length (zs.flatMap enc)):Sort.HoldsK enc k w g 0 zs.toArray:=by
 intro t ht
 rw [fk] at ht
 have ht':t<zs.length*k:=by simpa using ht
 refine⟨?_,?_⟩
 · rw [show 0+t=t by omega,h.cellAt t ht']
   exact zfr hk hk0 zs.toArray t ht
 · rw [show 0+t=t by omega]
   exact h.frozenAt t
theorem zg8 (hk0:0<k) {w:fy} {base T g cap n q:Nat} {os:Array Obj} {zs:List α} {d':Array α} (h:w.ownsRow base T k (.slice (some ⟨g,0,none⟩) n cap) n (zs.flatMap enc))(hd:d'.size=n) :
 (sortWorldK enc k w g 0 q d' os).ownsRow base T k (.slice (some ⟨g,0,none⟩) n cap) n (d'.toList.flatMap enc):=by
 have hlen:(d'.toList.flatMap enc).length=n*k:=by rw [aC enc k hk];simp [hd]
 rcases h.2 with⟨e0,_⟩|⟨g',cap',cur,e0,hb,hg,hn,hm,hs,ht⟩
 · cases e0
 · injection e0 with e1 _ e3
   injection e1 with e1
   injection e1 with e1
   subst e1;subst e3
   have hgl:g<w.heap.size:=(gk.1 hg).1
   refine⟨hlen,.inr ⟨g,cap,fh id 0 (fq enc k d') cur,rfl,hb,?_,hn,hm,by simpa [fh] using hs,?_⟩⟩
   · unfold sortWorldK fi
     rw [fj _ _ (by simpa using hgl)]
     simp [fp,fo,Sort.ahead,gp,hg,Sort.onCells]
   · apply List.ext_getElem?
     intro j
     rw [List.getElem?_take,gm]
     by_cases hj:j<n*k
     · have hjc:j<cur.size:=by
        rw [hs]
        exact fu hj (Nat.mul_le_mul_right k hn)
       simp only [if_pos hj,fh,Array.getElem?_mapIdx,gl hjc,Option.map_some]
       rw [if_pos ⟨ft _,by rw [fk,hd];omega⟩,zfr hk hk0 d' j (by rw [hd];exact hj)]
       rfl
     · rw [if_neg hj,List.getElem?_eq_none (by rw [hlen];omega)]
end
theorem zc1 {α:Type} [Inhabited α] (enc:α→List fz)(k:Nat)(w:fy)(g q b:Nat)(d':Array α)(os:Array Obj)(hb:b<w.heap.size)(hne:b≠g):(sortWorldK enc k w g 0 q d' os).heap[b]? =w.heap[b]?:=by
 unfold sortWorldK fi
 rw [fj _ _ (by simpa using hb)]
 simp only [fp,fo,gp]
 rw [if_neg (fun e=>hne e.symm)]
 rfl
theorem zcH {α:Type} [Inhabited α] (enc:α→List fz)(k:Nat)(w:fy)(g q:Nat)(d':Array α)(os:Array Obj):w.heap.size≤(sortWorldK enc k w g 0 q d' os).heap.size:=by
 unfold sortWorldK fi
 simp
theorem Ev.deep:Deep Ev.lies Ev.uses:=⟨fun x w w' h hs hb=>Ev.frame h hs hb,fun x w b h hu=>Ev.uses_lt h hu⟩
abbrev zb6:=cM 50 7 Ev.enc Ev.lies Ev.uses
def zma (B:Nat)(W0:fy)(v:fz)(zs:List Ev)(e:Ending)(w':fy):Prop :=
 e=.returned (.tuple #[])∧∃ ys,zb6 B W0 v ys w'∧ys.Perm zs∧ys.Pairwise (fun x y=>ltOf zco y x=false)
theorem zmx:∀ (x:Ev)(v:fz),v∈x.enc→v.oneCell'=true:=Ev.one
theorem zlo (w:fy)(fv:fz):fA fG 277 #[.slice none 0 0,.int .i64 0,.int .i64 0,fv] w fun e w'=>e=.returned (.tuple #[])∧w=w':=by
 go_enter f_,Tryz.ntmps277
 go_wp2_with fail
 refine fB 1 ?_
 rw [fC]
 go_wp2_with fail
 go_end0
 exact⟨rfl,rfl⟩
theorem zk4 (w:fy)(fv:fz):fA fG 247 #[.slice none 0 0,.int .i64 0,fv] w fun e w'=>e=.returned (.tuple #[])∧w=w':=by
 have HI:=h_ (zlo w fv)
 go_enter ga,fT
 go_wp2_with fail
 refine fB 1 ?_
 rw [fC]
 go_wp2_with fail
 refine HI.out.mono ?_
 rintro e w1 ⟨rfl,rfl⟩
 go_wp2_with fail
 refine fB 1 ?_
 rw [fC]
 go_wp2_with fail
 go_end0
 exact⟨rfl,rfl⟩
theorem zhL (w:fy)(fv:fz):fA fG 185 #[.slice none 0 0,fv] w fun e w'=>e=.returned (.tuple #[])∧w=w':=by
 have HI:=h_ (zk4 w fv)
 go_enter gb,fU
 go_wp2_with fail
 refine HI.out.mono ?_
 rintro e w1 ⟨rfl,rfl⟩
 go_wp2_with fail
 go_end0
 exact⟨rfl,rfl⟩
theorem zfK (B:Nat)(W0:fy)(v:fz)(zs:List Ev)(w:fy)(h:zb6 B W0 v zs w)(hl:zs.length≤4000000)(hB:B≤W0.heap.size) :
 fA fG 185 #[v,.func (.func 186) #[] #[]] w (zma B W0 v zs):=by
 obtain⟨h1,h2,h3⟩:=h
 have hB1:B≤w.heap.size:=fx hB h3.size
 rcases h1.2 with⟨rfl,h0⟩|⟨g,cap,cur,rfl,hb,hg,_⟩
 · have hz:zs=[]:=List.eq_nil_of_length_eq_zero h0
   subst hz
   exact(zhL w _).mono fun e w' ⟨he,hw⟩=>⟨he,[],⟨hw▸h1,fun z hz=>by simp at hz,hw▸h3⟩,.nil,.nil⟩
 · have hgl:g<w.heap.size:=(gk.1 hg).1
   have hH:=zib (enc:=Ev.enc) (k:=7) (fun _=>rfl) (by decide) h1
   have hC:CmpLays fG 186 #[] Ev.enc 7 zco g 0 zs.toArray.size w:=fun m os dk _ x y=>zfL x y _
   have R:RowK Ev.enc 7 w g 0 zs.toArray:=⟨fun _=>rfl,zmx,hH,hgl⟩
   have S:SWK Ev.enc 7 w g 0 zs.toArray w:=⟨0,#[],by unfold sortWorldK;rw [Sort.grow_empty];exact(Sort.putRowK_self Ev.enc 7 w g 0 zs.toArray hH).symm⟩
   have hcall:=zde Tryz.stLay 7 (fun w=>by kernel_rfl) (fun w=>by kernel_rfl) Ev.enc zco zkz 186 #[] g 0 cap zs.toArray w (fun args w=>by kernel_rfl) hC R S (by simp;omega)
   simp only [gq] at hcall
   refine hcall.mono fun e w' ⟨he,d',hd,⟨q,os,hw⟩,hp,hs⟩=>?_
   subst hw
   simp only [gq] at hd
   have hperm:d'.toList.Perm zs:=by
    have hpp:=hp.2.2
    have e1:d'.extract 0 zs.length=d':=by rw [←hd];simp
    have e2:zs.toArray.extract 0 zs.length=zs.toArray:=by simp
    rw [e1,e2] at hpp
    simpa using hpp
   have hlen:d'.toList.length=zs.length:=by simpa using hd
   refine⟨he,d'.toList,⟨?_,fun z hz=>?_,?_⟩,hperm,?_⟩
   · rw [hlen]
     exact zg8 (enc:=Ev.enc) (k:=7) (fun _=>rfl) (by decide) h1 hd
   · obtain⟨hl,hu⟩:=h2 z (hperm.mem_iff.1 hz)
     refine⟨Ev.frame hl (zcH ..) (fun b hb=>zc1 _ _ _ _ _ _ _ _ (Ev.uses_lt hl hb) (fun e=>(hu b hb).1 (by rw [e];rfl))),hu⟩
   · exact h3.trans ⟨rfl,rfl,rfl,zcH ..,fun b hb'=>zc1 _ _ _ _ _ _ _ _ (fu hb' hB1) (by omega)⟩
   · rw [List.pairwise_iff_getElem]
     intro i j hi hj hij
     have hi':i<d'.size:=by simpa using hi
     have hj':j<d'.size:=by simpa using hj
     have:=hs i j (ft _) hij (by omega)
     rw [getElem!_pos d' i hi',getElem!_pos d' j hj'] at this
     simpa using this
def zcx (xs:List Ev)(w:fy)(e:Ending)(w':fy):Prop :=
 ∃ v ys,e=.returned v∧zb6 w.heap.size w v ys w'∧(ys.map Ev.c).Perm (xs.map Ev.c)∧ys.Pairwise (fun x y=>ltOf zco y x=false)
def dw (xs:List Ev)(w:fy)(k:Nat)(v:fz)(wr:fy):Prop:=∃ zs,zs.length=k∧zs.map Ev.c=(xs.take k).map Ev.c∧zb6 w.heap.size w v zs wr
theorem zi2 {α:Type} (xs:List α)(k:Nat)(x:α)(h:xs[k]? =some x):xs.take (k+1)=xs.take k++[x]:=by
 rw [List.take_add_one,h]
 rfl
theorem dw.step {xs:List Ev} {w wr w1 w2:fy} {k:Nat} {v v':fz} {zs:List Ev} {x y:Ev} {cs:Array fz} (hx:xs[k]? =some x)(h1:zs.length=k)(h2:zs.map Ev.c=(xs.take k).map Ev.c)(h3:zb6 w.heap.size w v zs wr)(hb:Below wr.heap.size wr w1)(hyc:y.c=x.c)(hyl:y.lies w1)(hyu:∀ b,y.uses b→wr.heap.size≤b)
 (hcs:cs.toList=y.enc) (hown:w2.ownsRow w.heap.size 50 7 v' (k+1) (zs.flatMap Ev.enc++cs.toList)) (hg:(w1.alloc (.cells cs 50)).grownBy w2 v.ownBlock) (hat:v'.ownBlock=v.ownBlock∨v'.ownBlock=some (w1.heap.size+1)):dw xs w (k+1) v' w2:=by
 subst h1
 refine⟨zs++[y],by simp,by rw [gr,zi2 xs _ x hx,gr,h2];simp [hyc],?_⟩
 have h3':=cM.later Ev.deep h3 (fr _) hb
 refine cM.push Ev.deep h3' (fr _) hcs hown hg hat hyl (fun b hu=>⟨fun e=>?_,fx h3.2.2.size (hyu b hu)⟩)
 have:=(h3.1.lt b e).2
 have:=hyu b hu
 omega
theorem zgi (a:Option Addr)(cap:Nat)(xs:List Ev)(w:fy)(h:bK w a xs)(hf:∀ x∈xs,x.fits)(hl:xs.length≤4000000) :
 fA fG 111 #[.slice a xs.length cap] w (zcx xs w):=by
 have HX:=h_ h
 have HF:=h_ hf
 have HQ:=h_ (fun(v:fz) (ys zs:List Ev) (w':fy) (h1:zb6 w.heap.size w v ys w') (h2:ys.Perm zs) (h3:ys.Pairwise (fun x y=>ltOf zco y x=false)) (h4:zs.map Ev.c=(xs.take xs.length).map Ev.c)=>(show zcx xs w (.returned v) w' from⟨v,ys,rfl,h1,by rw [List.take_length] at h4;rw [←h4];exact h2.map _,h3⟩))
 obtain⟨j0,hj,hy0,hy1,hy2⟩:=info_parts Tryz.info50
 have JI:=h_ hj;have J0:=h_ hy0;have J1:=h_ hy1;have J2:=h_ hy2
 generalize zcx xs w=Q at *
 clear hj hy0 hy1 hy2 h hf
 go_enter Tryz.func111,Tryz.ntmps111
 go_wp2_with fail
 go_loopw [3,8] (fun v i wr=>∃ k:Nat,k≤xs.length∧i=.int .i64 k∧dw xs w k v wr) (fun _ i _=>xs.length-(intOf i).toNat)
 case atStart=>exact⟨0,by omega,rfl,[],rfl,rfl,cM.start (Below.refl _ _)⟩
 case round =>
  obtain⟨k,hk,rfl,zs,hzl,hzc,hgr⟩:=hrel
  by_cases hlt:k<xs.length
  · have hb:=hgr.2.2
    obtain⟨b,off,x,rfl,hbl,hx,hc,hok⟩:=(HX.out.later hb).at_ hlt
    have hfx:=HF.out x (List.mem_of_getElem? hx)
    have hbs:=hb.size
    have HC:=h_ (fun o=>cU x (wr.alloc o) (Ev.keeps _ _ _ ((Below.refl _ _).alloc (fr _) o) hok) (fun r hr=>(hfx.2.2.2.2.2.2.2.1 r hr).2.1) hfx.2.2.2.2.2.2.2.2)
    have HST:=h_ (fun(w1 w2:fy) (v':fz) (y:Ev) (cs:Array fz) (hb:Below wr.heap.size wr w1) (hyc:y.c=x.c) (hyl:y.lies w1) (hyu:∀ b,y.uses b→wr.heap.size≤b) (hcs:cs.toList=y.enc) (hown:w2.ownsRow w.heap.size 50 7 v' (k+1) (zs.flatMap Ev.enc++cs.toList)) (hg:(w1.alloc (.cells cs 50)).grownBy w2 u3.ownBlock) (hat:v'.ownBlock=u3.ownBlock∨v'.ownBlock=some (w1.heap.size+1))=>dw.step hx hzl hzc hgr hb hyc hyl hyu hcs hown hg hat)
    have hown0:=hgr.1
    rw [hzl] at hown0
    have HO:=h_ (fun(w1:fy) (hb:Below wr.heap.size wr w1)=>aM hown0 hb)
    obtain⟨zf,hzf⟩:∃ zf,zf=zs.flatMap Ev.enc:=⟨_,rfl⟩
    rw [←hzf] at HO HST
    have HBA:=h_ (fun(o:Obj) (w1:fy) (h1:Below (wr.alloc o).heap.size (wr.alloc o) w1)=>(show Below wr.heap.size wr w1 from((Below.refl _ _).alloc (fr _) _).trans (h1.mono (by simp))))
    have HXC:=h_ (show x.c=x.c from rfl)
    generalize x.c=xc at HC HST
    have d0:=hc 0 _ rfl;have d1:=hc 1 _ rfl;have d2:=hc 2 _ rfl;have d3:=hc 3 _ rfl;have d4:=hc 4 _ rfl;have d5:=hc 5 _ rfl;have d6:=hc 6 _ rfl
    obtain⟨xid,xin,xout,xreg,xkind,xsp,xa,xcap,xrows⟩:=x
    simp only [Ev.enc,Nat.add_zero] at HC d0 d1 d2 d3 d4 d5 d6
    clear hc hx hok hgr hzc hzl hfx hown0 hzf HXC hb
    go_wp2_with fail
    refine(HC.out _).mono ?_
    rintro e w1 ⟨y,rfl,hyc,hyl,hyu,hyb⟩
    have hbw:=HBA.out _ _ hyb
    have hs1:=hbw.size
    have HO1:=h_ (HO.out _ hbw)
    have HY:=h_ (fun w2 v' cs=>HST.out w1 w2 v' y cs hbw hyc hyl (fun b hu=>by have:=hyu b hu;simp at this;omega))
    obtain⟨yid,yin,yout,yreg,ykind,ysp,ya,ycap,yrows⟩:=y
    simp only [Ev.enc] at HY ⊢
    clear hyc hyl hyu hyb hbw HC HO HST HBA d0 d1 d2 d3 d4 d5 d6
    go_wp2_with (at_builtin;refine ak _ _ rfl (.tmp 12) (.tmp 15) 24 rfl w.heap.size 50 j0 _ 7 88 fH JI.out J0.out J1.out J2.out rfl (by decide) _ _ _ rfl HO1.out _ rfl rfl rfl ?h1 ?h63 ?hb ?hbase ?_)
    case h1=>first|exact⟨rfl,rfl,rfl,rfl,rfl,rfl,rfl⟩|(intro u hu;simp at hu;rcases hu with rfl|rfl|rfl|rfl|rfl|rfl|rfl<;>rfl)
    case h63=>unfold maxLen;omega
    case hb=>omega
    case hbase=>omega
    intro v' w2 hown' hgrow hat
    have R:=h_ (HY.out w2 v' _ rfl hown' hgrow hat)
    clear hown' hgrow hat
    go_wp2_with fail
    go_roundw
    case rel=>exact⟨k+1,by omega,by go_num,R.out⟩
    case measure=>simp [intOf];omega
  · obtain rfl:k=xs.length:=by omega
    have HS:=h_ (zfK w.heap.size w u3 zs wr hgr (by omega) (fr _))
    obtain⟨av,cv,rfl,_⟩:=cM.slice (k:=7) (enc:=Ev.enc) (fun _=>rfl) hgr
    have HZ:=h_ hzc
    clear hgr hzc hzl
    go_wp2_with fail
    refine HS.out.mono ?_
    rintro e w1 ⟨rfl,ys,hg1,hp,hs⟩
    have HF2:=h_ (HQ.out _ ys zs w1 hg1 hp hs HZ.out)
    clear hg1 hp hs HS
    go_wp2_with fail
    exact HF2.out
end Go.Proofs.YtnlnmbcaongehaaGreatDoor
