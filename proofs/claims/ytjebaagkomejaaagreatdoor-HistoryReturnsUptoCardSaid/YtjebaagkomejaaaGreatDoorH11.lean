/- slices.SortStableFunc at events: a permutation of what the row held, ascending. The contract of document.Sort: copies of the events, in order. -/
import Derived.Deep.DrawnRows
import Derived.Test.YtjebaagkomejaaaGreatDoorH05
import Derived.Test.YtjebaagkomejaaaGreatDoorH09
set_option linter.unusedVariables false
set_option linter.unusedSimpArgs false
set_option maxRecDepth 100000
set_option maxHeartbeats 12800000
open Go.Lib renaming hid→h_
open Go renaming World→Sh,Value→Si,Calls→Sj,wp_loop_rounds→Sk,rounds_succ→Sl
open Go.Sort renaming insertionSort→Sm,putCells→Sn,putRowK→Sp,heap_grow_old→Sq,size_flatK→Sr,mapBlock→Ss,putRow→St,flatK→Su
open Nat renaming le_refl→Sv,add_zero→Sw,zero_le→Sx,lt_of_lt_of_le→Sy,mul_comm→Sz,le_trans→SA
open Array renaming getElem?_eq_some_iff→SB,getElem?_eq_getElem→SC,getElem?_toList→SD,getElem?_modify→SF
open List renaming drop_eq_nil_of_le→SG,mem_of_getElem?→SH,drop_length→SI,size_toArray→SJ,map_append→SK
open Go.RowKit.Below renaming refl→SL
open Go.Lib renaming allEq→SM
namespace Go.Proofs.YtjebaagkomejaaaGreatDoor
open Go.Shelf Go.RowKit Go.Lib Go.Sort
variable {P:Program} {α:Type} [Inhabited α]
theorem rz (L:qF P)(k:Nat)(aE:∀ w,(isAgg 72).run P w=.ok true w)(zE:∀ w,(Go.sizeOf 72).run P w=.ok k w)(enc:α→List Si)(cf:α→α→Int)(hO:SWO (ltOf cf))(g:Nat)(cb:Array Si)(blk off cap:Nat)(d:Array α)(w:Sh)
 (eg:∀ args w,(callFunc g args).run P w=.ok (.enter g args) w) (hcmp:CmpLays P g cb enc k cf blk off d.size w) (R:RowK enc k w blk off d) (S:SWK enc k w blk off d w) (hsz:d.size<1152921504606846976) :
 Sj P 187 #[.slice (some ⟨blk,off,none⟩) d.size cap,.int .i64 d.size,.func (.func g) #[] cb] w (fm (ltOf cf) enc k w blk off d 0 d.size):=by
 have mixed:=L.mixed;have t0:=L.t0;have a0:=L.a0;have z0:=L.z0;have v0:=L.v0;have t3:=L.t3;have a3:=L.a3;have z3:=L.z3;have v3:=L.v3;have t4:=L.t4;have a4:=L.a4;have z4:=L.z4;have v4:=L.v4;have t24:=L.t24;have a24:=L.a24;have z24:=L.z24;have v24:=L.v24;have t183:=L.t183;have a183:=L.a183;have z183:=L.z183;have v183:=L.v183
 have FG:=L.f187
 have e278:∀ args w,(callFunc 224 args).run P w=.ok (.enter 224 args) w:=enters_of L.f224 (by kernel_rfl) rfl
 have e277:∀ args w,(callFunc 223 args).run P w=.ok (.enter 223 args) w:=L.ins.f20.enters rfl
 have nI:=h_ (fun(x y:Nat) (dk:Array α) (W:Sh) (h1:d.size=dk.size) (h2:SWK enc k w blk off dk W) (h3:x≤y) (h4:y≤dk.size) =>
  (show Sj P 223 #[.slice (some ⟨blk,off,none⟩) dk.size cap,.int .i64 x,.int .i64 y,.func (.func g) #[] cb] W fun e w'=>e=.returned (.tuple #[])∧SWK enc k w blk off (Sm (ltOf cf) dk x y) w' from
   ur L.ins k aE zE enc cf g cb blk off cap x y d dk w W eg hcmp R h1 h2 hO h3 h4 (by omega)))
 have Ip:=h_ (fun(x y z:Nat) (dk:Array α) (W:Sh) (h1:d.size=dk.size) (h2:SWK enc k w blk off dk W) (h3:x<y) (h4:y<z) (h5:z≤dk.size) (h6:SortedIn (ltOf cf) x y dk) (h7:SortedIn (ltOf cf) y z dk) =>
  nV L k aE zE enc cf hO g cb blk off cap d w eg hcmp R (by omega) (z-x+1) x y z dk W (by omega) h1 h2 h3 h4 h5 h6 h7)
 have S0:Aside (SWK enc k w blk off d w):=S
 clear S L hcmp
 generalize hQ:fm (ltOf cf) enc k w blk off d 0 d.size=Q
 have HQ:=h_ (fun(dk:Array α) (W:Sh) (h1:dk.size=d.size) (h2:SWK enc k w blk off dk W) (h3:PermIn 0 d.size d dk) (h4:SortedIn (ltOf cf) 0 d.size dk)=>show Q (.returned (.tuple #[])) W from hQ▸⟨rfl,dk,h1,h2,h3,h4⟩)
 clear hQ
 obtain⟨n,hn⟩:∃ n,n=d.size:=⟨_,rfl⟩
 go_enter FG,Tryz.ntmps187
 go_wp2
 go_loopg [7,8] d.size (fun kx s7 s8 wr=>∃ (x:Nat) (dk:Array α),s7=.int .i64 x∧s8=.int .i64 ((x:Int)+20)∧x≤d.size∧d.size-x≤kx∧dk.size=d.size∧Aside (SWK enc k w blk off dk wr)∧Hid (PermIn 0 d.size d dk)∧Hid (Pre (ltOf cf) 20 dk x))
 case atStart=>exact⟨0,d,rfl,by simp,Sx _,by omega,rfl,S0,permIn_refl _ _ _,.zero⟩
 case round =>
  clear S0
  obtain⟨x,dk,rfl,rfl,hx,hkx,hds,S1,HP,HB⟩:=hrel
  by_cases hlt:x+20≤d.size
  · have hltz:(x:Int)+20≤(d.size:Int):=by omega
    have hC:=nI.out x (x+20) dk wr (by omega) S1.out (by omega) (by omega)
    rw [hds,show((x+20:Nat):Int)=(x:Int)+20 by omega] at hC
    obtain⟨q1,q2,q3⟩:=Ec hO hds hlt HP.out HB.out
    generalize Sm (ltOf cf) dk x (x+20)=d2 at hC q1 q2 q3
    have jf:=h_ hC
    have Q1:=h_ q1
    have Q2:=h_ q2
    have Q3:=h_ q3
    clear hC q1 q2 q3
    go_wp2_with (go_at_fn 223;refine jf.out.mono ?_;rintro e w2 ⟨rfl,S2'⟩)
    have S2:Aside (SWK enc k w blk off d2 w2):=S2'
    go_roundg (d.size-(x+20))
    case measure=>omega
    case rel=>exact⟨x+20,d2,by go_num,by go_num,hlt,Sv _,Q3.out,S2,Q1.out,Q2.out⟩
  · have hltz:¬ (x:Int)+20≤(d.size:Int):=by omega
    have hC:=nI.out x d.size dk wr (by omega) S1.out (by omega) (by omega)
    rw [hds] at hC
    obtain⟨q1,q2,q3⟩:=Ee hO hds hx (by omega) HP.out HB.out
    generalize Sm (ltOf cf) dk x d.size=d2 at hC q1 q2 q3
    have jf:=h_ hC
    have Q1:=h_ q1
    have Q2:=h_ q2
    have Q3:=h_ q3
    clear hC q1 q2 q3
    go_wp2_with (go_at_fn 223;refine jf.out.mono ?_;rintro e w2 ⟨rfl,S2'⟩)
    have S2:Aside (SWK enc k w blk off d2 w2):=S2'
    clear S2'
    go_loopg [6,7,8,9] d.size (fun kx s6 s7 s8 s9 wr=>∃ (bs:Nat) (dk:Array α),s6=.int .i64 bs∧0<bs∧bs≤2*d.size+20∧d.size-bs≤kx∧dk.size=d.size∧Aside (SWK enc k w blk off dk wr)∧Hid (PermIn 0 d.size d dk)∧Hid (Blk (ltOf cf) bs d.size dk 0))
    case atStart=>exact⟨20,d2,rfl,by omega,by omega,by omega,Q3.out,S2,Q1.out,Q2.out⟩
    case round =>
     clear S1 S2 HP HB Q1 Q2 Q3 jf hlt hltz hkx hds
     obtain⟨bs,dk,rfl,hbs,N9,hkx,hds,S1,HP,HB⟩:=hrel
     by_cases hlt:bs<d.size
     · have hltz:(bs:Int)<(d.size:Int):=by omega
       go_wp2
       go_loopg [7,8] d.size (fun ky s7 s8 wr=>∃ (y:Nat) (dk:Array α),s7=.int .i64 y∧s8=.int .i64 ((y:Int)+2*(bs:Int))∧y≤d.size∧d.size-y≤ky∧dk.size=d.size∧Aside (SWK enc k w blk off dk wr)∧Hid (PermIn 0 d.size d dk)∧Hid (Pre (ltOf cf) (2*bs) dk y)∧Hid (Blk (ltOf cf) bs d.size dk y))
       case atStart=>exact⟨0,dk,rfl,by simp,Sx _,by omega,hds,S1,HP,.zero,HB⟩
       case round =>
        clear S1 HP HB hds
        obtain⟨y,dk,rfl,rfl,hy,Pb,hds,S1,HP,HE,HB⟩:=hrel
        by_cases hlt2:y+2*bs≤d.size
        · have sv:(y:Int)+2*(bs:Int)≤(d.size:Int):=by omega
          have hC:=Ip.out y (y+bs) (y+2*bs) dk wr (by omega) S1.out (by omega) (by omega) (by omega) (vu hlt2 HB.out).1 (vu hlt2 HB.out).2
          rw [hds,show((y+bs:Nat):Int)=(y:Int)+(bs:Int) by omega,show((y+2*bs:Nat):Int)=(y:Int)+2*(bs:Int) by omega] at hC
          have jf:=h_ hC
          clear hC
          go_wp2_with (go_at_fn 224;refine jf.out.mono ?_;rintro e w2 ⟨rfl,d2,z2,S2',p2,s2⟩)
          obtain⟨q1,q2,q3⟩:=DK hds hlt2 HP.out HE.out HB.out p2 s2
          have S2:Aside (SWK enc k w blk off d2 w2):=S2'
          go_roundg (d.size-(y+2*bs))
          case measure=>omega
          case rel=>exact⟨y+2*bs,d2,by go_num,by go_num,hlt2,Sv _,z2.trans hds,S2,q1,q2,q3⟩
        · have sv:¬ (y:Int)+2*(bs:Int)≤(d.size:Int):=by omega
          by_cases hlt3:y+bs<d.size
          · have GY:(y:Int)+(bs:Int)<(d.size:Int):=by omega
            have hC:=Ip.out y (y+bs) d.size dk wr (by omega) S1.out (by omega) (by omega) (by omega) (ry hlt3 (by omega) HB.out).1 (ry hlt3 (by omega) HB.out).2
            rw [hds,show((y+bs:Nat):Int)=(y:Int)+(bs:Int) by omega] at hC
            have jf:=h_ hC
            clear hC
            go_wp2_with (go_at_fn 224;refine jf.out.mono ?_;rintro e w2 ⟨rfl,d2,z2,S2',p2,s2⟩)
            obtain⟨q1,q2⟩:=yU hds hy (by omega) HP.out HE.out p2 s2
            have S2:Aside (SWK enc k w blk off d2 w2):=S2'
            go_roundg (d.size-2*bs)
            case measure=>omega
            case rel=>exact⟨2*bs,d2,by first|rfl|go_num|(congr 1;omega),by omega,by omega,Sv _,z2.trans hds,S2,q1,q2⟩
          · have GY:¬ (y:Int)+(bs:Int)<(d.size:Int):=by omega
            have hso:SortedIn (ltOf cf) y d.size dk:=SortedIn.part HB.out.head (Sv _) (by omega)
            obtain⟨q1,q2⟩:=yU hds hy (by omega) HP.out HE.out (permIn_refl _ _ _) hso
            have Q1:=h_ q1
            have Q2:=h_ q2
            clear q1 q2 hso
            go_wp2
            go_roundg (d.size-2*bs)
            case measure=>omega
            case rel=>exact⟨2*bs,dk,by first|rfl|go_num|(congr 1;omega),by omega,by omega,Sv _,hds,S1,Q1.out,Q2.out⟩
     · have hltz:¬ (bs:Int)<(d.size:Int):=by omega
       go_wp2
       go_end0
       exact HQ.out dk _ hds S1.out HP.out (SortedIn.part HB.out.head (Sv _) (by omega))
theorem lT (L:qF P)(k:Nat)(aE:∀ w,(isAgg 72).run P w=.ok true w)(zE:∀ w,(Go.sizeOf 72).run P w=.ok k w)(enc:α→List Si)(cf:α→α→Int)(hO:SWO (ltOf cf))(g:Nat)(cb:Array Si)(blk off cap:Nat)(d:Array α)(w:Sh)
 (eg:∀ args w,(callFunc g args).run P w=.ok (.enter g args) w) (hcmp:CmpLays P g cb enc k cf blk off d.size w) (R:RowK enc k w blk off d) (S:SWK enc k w blk off d w) (hsz:d.size<1152921504606846976) :
 Sj P 133 #[.slice (some ⟨blk,off,none⟩) d.size cap,.func (.func g) #[] cb] w (fm (ltOf cf) enc k w blk off d 0 d.size):=by
 have mixed:=L.mixed;have t0:=L.t0;have a0:=L.a0;have z0:=L.z0;have v0:=L.v0;have t3:=L.t3;have a3:=L.a3;have z3:=L.z3;have v3:=L.v3;have t4:=L.t4;have a4:=L.a4;have z4:=L.z4;have v4:=L.v4;have t24:=L.t24;have a24:=L.a24;have z24:=L.z24;have v24:=L.v24;have t183:=L.t183;have a183:=L.a183;have z183:=L.z183;have v183:=L.v183
 have FG:=L.f133
 have e247:∀ args w,(callFunc 187 args).run P w=.ok (.enter 187 args) w:=enters_of L.f187 (by kernel_rfl) rfl
 have HC:=h_ (rz L k aE zE enc cf hO g cb blk off cap d w eg hcmp R S hsz)
 clear L hcmp S
 generalize hQ:fm (ltOf cf) enc k w blk off d 0 d.size=Q at HC ⊢
 have HQ:=h_ (fun e W (h:Q e W)=>show e=.returned (.tuple #[]) from(by rw [←hQ] at h;exact h.1))
 clear hQ
 go_enter FG,Tryz.ntmps133
 go_wp2_with fail
 refine HC.out.mono ?_
 intro e w' he
 obtain rfl:=HQ.out _ _ he
 go_wp2_with fail
 go_end0
 exact he
end Go.Proofs.YtjebaagkomejaaaGreatDoor
namespace Go.Proofs.YtjebaagkomejaaaGreatDoor
open Go.RowKit
section
variable {α:Type} [Inhabited α] {enc:α→List Si} {k:Nat} (hk:∀ x,(enc x).length=k)
include hk
theorem o5 (hk0:0<k)(d:Array α)(t:Nat)(ht:t<d.size*k):(d.toList.flatMap enc)[t]? =some (Su enc k d)[t]!:=by
 have hi:t / k<d.size:=Nat.div_lt_of_lt_mul (by rw [Sz];exact ht)
 have hm:t % k<k:=Nat.mod_lt _ hk0
 have he:t / k*k+t % k=t:=by rw [Sz];exact Nat.div_add_mod t k
 have hx:d.toList[t / k]? =some d[t / k]!:=by
  rw [getElem!_pos d (t / k) hi,SD,SC hi]
 have hv:(enc d[t / k]!)[t % k]? =some (enc d[t / k]!)[t % k]!:=by
  rw [getElem!_pos _ (t % k) (by rw [hk];exact hm),List.getElem?_eq_getElem (by rw [hk];exact hm)]
 have:=cD enc k hk d.toList (t / k) _ (t % k) _ hx hv
 rw [he] at this
 rw [this,Sort.get_flatK enc k d t ht]
theorem uG (hk0:0<k) {w:Sh} {base T g cap:Nat} {zs:List α} (h:w.ownsRow base T k (.slice (some ⟨g,0,none⟩) zs.length cap) zs.length (zs.flatMap enc)):Sort.HoldsK enc k w g 0 zs.toArray:=by
 intro t ht
 rw [Sr] at ht
 have ht':t<zs.length*k:=by simpa using ht
 refine⟨?_,?_⟩
 · rw [show 0+t=t by omega,h.cellAt t ht']
   exact o5 hk hk0 zs.toArray t ht
 · rw [show 0+t=t by omega]
   exact h.frozenAt t
theorem rV (hk0:0<k) {w:Sh} {base T g cap n q:Nat} {os:Array Obj} {zs:List α} {d':Array α} (h:w.ownsRow base T k (.slice (some ⟨g,0,none⟩) n cap) n (zs.flatMap enc))(hd:d'.size=n) :
 (sortWorldK enc k w g 0 q d' os).ownsRow base T k (.slice (some ⟨g,0,none⟩) n cap) n (d'.toList.flatMap enc):=by
 have hlen:(d'.toList.flatMap enc).length=n*k:=by rw [bE enc k hk];simp [hd]
 rcases h.2 with⟨e0,_⟩|⟨g',cap',cur,e0,hb,hg,hn,hm,hs,ht⟩
 · cases e0
 · injection e0 with e1 _ e3
   injection e1 with e1
   injection e1 with e1
   subst e1;subst e3
   have hgl:g<w.heap.size:=(SB.1 hg).1
   refine⟨hlen,.inr ⟨g,cap,Sn id 0 (Su enc k d') cur,rfl,hb,?_,hn,hm,by simpa [Sn] using hs,?_⟩⟩
   · unfold sortWorldK Sp
     rw [Sq _ _ (by simpa using hgl)]
     simp [St,Ss,Sort.ahead,SF,hg,Sort.onCells]
   · apply List.ext_getElem?
     intro j
     rw [List.getElem?_take,SD]
     by_cases hj:j<n*k
     · have hjc:j<cur.size:=by
        rw [hs]
        exact Sy hj (Nat.mul_le_mul_right k hn)
       simp only [if_pos hj,Sn,Array.getElem?_mapIdx,SC hjc,Option.map_some]
       rw [if_pos ⟨Sx _,by rw [Sr,hd];omega⟩,o5 hk hk0 d' j (by rw [hd];exact hj)]
       rfl
     · rw [if_neg hj,List.getElem?_eq_none (by rw [hlen];omega)]
end
theorem lB {α:Type} [Inhabited α] (enc:α→List Si)(k:Nat)(w:Sh)(g q b:Nat)(d':Array α)(os:Array Obj)(hb:b<w.heap.size)(hne:b≠g):(sortWorldK enc k w g 0 q d' os).heap[b]? =w.heap[b]?:=by
 unfold sortWorldK Sp
 rw [Sq _ _ (by simpa using hb)]
 simp only [St,Ss,SF]
 rw [if_neg (fun e=>hne e.symm)]
 rfl
theorem lj {α:Type} [Inhabited α] (enc:α→List Si)(k:Nat)(w:Sh)(g q:Nat)(d':Array α)(os:Array Obj):w.heap.size≤(sortWorldK enc k w g 0 q d' os).heap.size:=by
 unfold sortWorldK Sp
 simp
theorem Ev.deep:Deep Ev.lies Ev.uses:=⟨fun x w w' h hs hb=>Ev.frame h hs hb,fun x w b h hu=>Ev.uses_lt h hu⟩
abbrev pA:=jg 72 7 Ev.enc Ev.lies Ev.uses
def Fg (B:Nat)(W0:Sh)(v:Si)(zs:List Ev)(e:Ending)(w':Sh):Prop :=
 e=.returned (.tuple #[])∧∃ ys,pA B W0 v ys w'∧ys.Perm zs∧ys.Pairwise (fun x y=>ltOf lW y x=false)
theorem Ia:∀ (x:Ev)(v:Si),v∈x.enc→v.oneCell'=true:=Ev.one
theorem Cb (w:Sh)(fv:Si):Sj Tryz.prog 223 #[.slice none 0 0,.int .i64 0,.int .i64 0,fv] w fun e w'=>e=.returned (.tuple #[])∧w=w':=by
 go_enter Tryz.func223,Tryz.ntmps223
 go_wp2_with fail
 refine Sk 1 ?_
 rw [Sl]
 go_wp2_with fail
 go_end0
 exact⟨rfl,rfl⟩
theorem BD (w:Sh)(fv:Si):Sj Tryz.prog 187 #[.slice none 0 0,.int .i64 0,fv] w fun e w'=>e=.returned (.tuple #[])∧w=w':=by
 have HI:=h_ (Cb w fv)
 go_enter Tryz.func187,Tryz.ntmps187
 go_wp2_with fail
 refine Sk 1 ?_
 rw [Sl]
 go_wp2_with fail
 refine HI.out.mono ?_
 rintro e w1 ⟨rfl,rfl⟩
 go_wp2_with fail
 refine Sk 1 ?_
 rw [Sl]
 go_wp2_with fail
 go_end0
 exact⟨rfl,rfl⟩
theorem tF (w:Sh)(fv:Si):Sj Tryz.prog 133 #[.slice none 0 0,fv] w fun e w'=>e=.returned (.tuple #[])∧w=w':=by
 have HI:=h_ (BD w fv)
 go_enter Tryz.func133,Tryz.ntmps133
 go_wp2_with fail
 refine HI.out.mono ?_
 rintro e w1 ⟨rfl,rfl⟩
 go_wp2_with fail
 go_end0
 exact⟨rfl,rfl⟩
theorem pF (B:Nat)(W0:Sh)(v:Si)(zs:List Ev)(w:Sh)(h:pA B W0 v zs w)(hl:zs.length≤4000000)(hB:B≤W0.heap.size) :
 Sj Tryz.prog 133 #[v,.func (.func 134) #[] #[]] w (Fg B W0 v zs):=by
 obtain⟨h1,h2,h3⟩:=h
 have hB1:B≤w.heap.size:=SA hB h3.size
 rcases h1.2 with⟨rfl,h0⟩|⟨g,cap,cur,rfl,hb,hg,_⟩
 · have hz:zs=[]:=List.eq_nil_of_length_eq_zero h0
   subst hz
   exact(tF w _).mono fun e w' ⟨he,hw⟩=>⟨he,[],⟨hw▸h1,fun z hz=>by simp at hz,hw▸h3⟩,.nil,.nil⟩
 · have hgl:g<w.heap.size:=(SB.1 hg).1
   have hH:=uG (enc:=Ev.enc) (k:=7) (fun _=>rfl) (by decide) h1
   have hC:CmpLays Tryz.prog 134 #[] Ev.enc 7 lW g 0 zs.toArray.size w:=fun m os dk _ x y=>pG x y _
   have R:RowK Ev.enc 7 w g 0 zs.toArray:=⟨fun _=>rfl,Ia,hH,hgl⟩
   have S:SWK Ev.enc 7 w g 0 zs.toArray w:=⟨0,#[],by unfold sortWorldK;rw [Sort.grow_empty];exact(Sort.putRowK_self Ev.enc 7 w g 0 zs.toArray hH).symm⟩
   have hcall:=lT Tryz.stLay 7 (fun w=>by kernel_rfl) (fun w=>by kernel_rfl) Ev.enc lW AU 134 #[] g 0 cap zs.toArray w (fun args w=>by kernel_rfl) hC R S (by simp;omega)
   simp only [SJ] at hcall
   refine hcall.mono fun e w' ⟨he,d',hd,⟨q,os,hw⟩,hp,hs⟩=>?_
   subst hw
   simp only [SJ] at hd
   have hperm:d'.toList.Perm zs:=by
    have Mg:=hp.2.2
    have e1:d'.extract 0 zs.length=d':=by rw [←hd];simp
    have e2:zs.toArray.extract 0 zs.length=zs.toArray:=by simp
    rw [e1,e2] at Mg
    simpa using Mg
   have hlen:d'.toList.length=zs.length:=by simpa using hd
   refine⟨he,d'.toList,⟨?_,fun z hz=>?_,?_⟩,hperm,?_⟩
   · rw [hlen]
     exact rV (enc:=Ev.enc) (k:=7) (fun _=>rfl) (by decide) h1 hd
   · obtain⟨hl,hu⟩:=h2 z (hperm.mem_iff.1 hz)
     refine⟨Ev.frame hl (lj ..) (fun b hb=>lB _ _ _ _ _ _ _ _ (Ev.uses_lt hl hb) (fun e=>(hu b hb).1 (by rw [e];rfl))),hu⟩
   · exact h3.trans ⟨rfl,rfl,rfl,lj ..,fun b hb'=>lB _ _ _ _ _ _ _ _ (Sy hb' hB1) (by omega)⟩
   · rw [List.pairwise_iff_getElem]
     intro i j hi hj hij
     have hi':i<d'.size:=by simpa using hi
     have hj':j<d'.size:=by simpa using hj
     have:=hs i j (Sx _) hij (by omega)
     rw [getElem!_pos d' i hi',getElem!_pos d' j hj'] at this
     simpa using this
def kX (xs:List Ev)(w:Sh)(e:Ending)(w':Sh):Prop :=
 ∃ v ys,e=.returned v∧pA w.heap.size w v ys w'∧(ys.map Ev.c).Perm (xs.map Ev.c)∧ys.Pairwise (fun x y=>ltOf lW y x=false)
def iH (xs:List Ev)(w:Sh)(k:Nat)(v:Si)(wr:Sh):Prop:=∃ zs,zs.length=k∧zs.map Ev.c=(xs.take k).map Ev.c∧pA w.heap.size w v zs wr
theorem wD {α:Type} (xs:List α)(k:Nat)(x:α)(h:xs[k]? =some x):xs.take (k+1)=xs.take k++[x]:=by
 rw [List.take_add_one,h]
 rfl
theorem iH.step {xs:List Ev} {w wr w1 w2:Sh} {k:Nat} {v v':Si} {zs:List Ev} {x y:Ev} {cs:Array Si} (hx:xs[k]? =some x)(h1:zs.length=k)(h2:zs.map Ev.c=(xs.take k).map Ev.c)(h3:pA w.heap.size w v zs wr)(hb:Below wr.heap.size wr w1)(fP:y.c=x.c)(hyl:y.lies w1)(hyu:∀ b,y.uses b→wr.heap.size≤b)
 (hcs:cs.toList=y.enc) (hown:w2.ownsRow w.heap.size 72 7 v' (k+1) (zs.flatMap Ev.enc++cs.toList)) (hg:(w1.alloc (.cells cs 72)).grownBy w2 v.ownBlock) (hat:v'.ownBlock=v.ownBlock∨v'.ownBlock=some (w1.heap.size+1)):iH xs w (k+1) v' w2:=by
 subst h1
 refine⟨zs++[y],by simp,by rw [SK,wD xs _ x hx,SK,h2];simp [fP],?_⟩
 have h3':=jg.later Ev.deep h3 (Sv _) hb
 refine jg.push Ev.deep h3' (Sv _) hcs hown hg hat hyl (fun b hu=>⟨fun e=>?_,SA h3.2.2.size (hyu b hu)⟩)
 have:=(h3.1.lt b e).2
 have:=hyu b hu
 omega
theorem iE (a:Option Addr)(cap:Nat)(xs:List Ev)(w:Sh)(h:dG w a xs)(hf:∀ x∈xs,x.fits)(hl:xs.length≤4000000) :
 Sj Tryz.prog 85 #[.slice a xs.length cap] w (kX xs w):=by
 have HX:=h_ h
 have HF:=h_ hf
 have HQ:=h_ (fun(v:Si) (ys zs:List Ev) (w':Sh) (h1:pA w.heap.size w v ys w') (h2:ys.Perm zs) (h3:ys.Pairwise (fun x y=>ltOf lW y x=false)) (h4:zs.map Ev.c=(xs.take xs.length).map Ev.c)=>(show kX xs w (.returned v) w' from⟨v,ys,rfl,h1,by rw [List.take_length] at h4;rw [←h4];exact h2.map _,h3⟩))
 obtain⟨j0,hj,hy0,hy1,hy2⟩:=info_parts Tryz.info72
 have JI:=h_ hj;have J0:=h_ hy0;have J1:=h_ hy1;have J2:=h_ hy2
 generalize kX xs w=Q at *
 clear hj hy0 hy1 hy2 h hf
 go_enter Tryz.func85,Tryz.ntmps85
 go_wp2_with fail
 go_loopw [3,8] (fun v i wr=>∃ k:Nat,k≤xs.length∧i=.int .i64 k∧iH xs w k v wr) (fun _ i _=>xs.length-(intOf i).toNat)
 case atStart=>exact⟨0,by omega,rfl,[],rfl,rfl,jg.start (SL _ _)⟩
 case round =>
  obtain⟨k,hk,rfl,zs,hzl,hzc,hgr⟩:=hrel
  by_cases hlt:k<xs.length
  · have hb:=hgr.2.2
    obtain⟨b,off,x,rfl,hbl,hx,hc,hok⟩:=(HX.out.later hb).at_ hlt
    have hfx:=HF.out x (SH hx)
    have hbs:=hb.size
    have HC:=h_ (fun o=>kh x (wr.alloc o) (Ev.keeps _ _ _ ((SL _ _).alloc (Sv _) o) hok) (fun r hr=>(hfx.2.2.2.2.2.2.2.1 r hr).2.1) hfx.2.2.2.2.2.2.2.2)
    have HST:=h_ (fun(w1 w2:Sh) (v':Si) (y:Ev) (cs:Array Si) (hb:Below wr.heap.size wr w1) (fP:y.c=x.c) (hyl:y.lies w1) (hyu:∀ b,y.uses b→wr.heap.size≤b) (hcs:cs.toList=y.enc) (hown:w2.ownsRow w.heap.size 72 7 v' (k+1) (zs.flatMap Ev.enc++cs.toList)) (hg:(w1.alloc (.cells cs 72)).grownBy w2 u3.ownBlock) (hat:v'.ownBlock=u3.ownBlock∨v'.ownBlock=some (w1.heap.size+1))=>iH.step hx hzl hzc hgr hb fP hyl hyu hcs hown hg hat)
    have hown0:=hgr.1
    rw [hzl] at hown0
    have HO:=h_ (fun(w1:Sh) (hb:Below wr.heap.size wr w1)=>aJ hown0 hb)
    obtain⟨zf,FP⟩:∃ zf,zf=zs.flatMap Ev.enc:=⟨_,rfl⟩
    rw [←FP] at HO HST
    have oH:=h_ (fun(o:Obj) (w1:Sh) (h1:Below (wr.alloc o).heap.size (wr.alloc o) w1)=>(show Below wr.heap.size wr w1 from((SL _ _).alloc (Sv _) _).trans (h1.mono (by simp))))
    have qY:=h_ (show x.c=x.c from rfl)
    generalize x.c=xc at HC HST
    have d0:=hc 0 _ rfl;have d1:=hc 1 _ rfl;have d2:=hc 2 _ rfl;have d3:=hc 3 _ rfl;have d4:=hc 4 _ rfl;have d5:=hc 5 _ rfl;have d6:=hc 6 _ rfl
    obtain⟨xid,xin,xout,xreg,xkind,xsp,xa,xcap,xrows⟩:=x
    simp only [Ev.enc,Sw] at HC d0 d1 d2 d3 d4 d5 d6
    clear hc hx hok hgr hzc hzl hfx hown0 FP qY hb
    go_wp2_with fail
    refine(HC.out _).mono ?_
    rintro e w1 ⟨y,rfl,fP,hyl,hyu,hyb⟩
    have hbw:=oH.out _ _ hyb
    have hs1:=hbw.size
    have Bx:=h_ (HO.out _ hbw)
    have HY:=h_ (fun w2 v' cs=>HST.out w1 w2 v' y cs hbw fP hyl (fun b hu=>by have:=hyu b hu;simp at this;omega))
    obtain⟨yid,yin,yout,yreg,ykind,ysp,ya,ycap,yrows⟩:=y
    simp only [Ev.enc] at HY ⊢
    clear fP hyl hyu hyb hbw HC HO HST oH d0 d1 d2 d3 d4 d5 d6
    go_wp2_with (at_builtin;refine fi _ _ rfl (.tmp 12) (.tmp 15) 24 rfl w.heap.size 72 j0 _ 7 88 Tryz.underlying24 JI.out J0.out J1.out J2.out rfl (by decide) _ _ _ rfl Bx.out _ rfl rfl rfl ?h1 ?h63 ?hb ?hbase ?_)
    case h1=>first|exact⟨rfl,rfl,rfl,rfl,rfl,rfl,rfl⟩|(intro u hu;simp at hu;rcases hu with rfl|rfl|rfl|rfl|rfl|rfl|rfl<;>rfl)
    case h63=>unfold maxLen;omega
    case hb=>omega
    case hbase=>omega
    intro v' w2 hown' hgrow hat
    have R:=h_ (HY.out w2 v' _ rfl hown' hgrow hat)
    clear hown' hgrow hat
    go_wp2_with fail
    go_roundw
    case rel=>exact⟨k+1,by omega,by go_num,R.out⟩
    case measure=>simp [intOf];omega
  · obtain rfl:k=xs.length:=by omega
    have HS:=h_ (pF w.heap.size w u3 zs wr hgr (by omega) (Sv _))
    obtain⟨av,cv,rfl,_⟩:=jg.slice (k:=7) (enc:=Ev.enc) (fun _=>rfl) hgr
    have HZ:=h_ hzc
    clear hgr hzc hzl
    go_wp2_with fail
    refine HS.out.mono ?_
    rintro e w1 ⟨rfl,ys,hg1,hp,hs⟩
    have Da:=h_ (HQ.out _ ys zs w1 hg1 hp hs HZ.out)
    clear hg1 hp hs HS
    go_wp2_with fail
    exact Da.out
end Go.Proofs.YtjebaagkomejaaaGreatDoor
namespace Go.Proofs.YtjebaagkomejaaaGreatDoor
open Go.RowKit
attribute [local go_sem ↓] Go.wp_at_zero Go.wp_at_succ
theorem allEq_len {α:Type} (eq:α→α→Bool):∀ xs ys:List α,xs.length≠ys.length→SM eq xs ys=false
 | [],[],h=>absurd rfl h
 | [],_::_,_=>rfl
 | _::_,[],_=>rfl
 | x::xs,y::ys,h=>by
   have:=allEq_len eq xs ys (by simpa using h)
   simp only [SM,this,Bool.and_false]
theorem oh (a b:Option Addr)(c c':Nat)(xs ys:List Reg)(w:Sh)(hx:ah 7 Reg.enc Flat w a xs)(hy:ah 7 Reg.enc Flat w b ys)(hl:xs.length≤4000000)(hl':ys.length≤4000000) :
 Sj Tryz.prog 48 #[.slice a xs.length c,.slice b ys.length c'] w fun e w'=>e=.returned (.bool (SM gV xs ys))∧Below w.heap.size w w':=by
 generalize hR:SM gV xs ys=R
 by_cases hle:xs.length=ys.length
 · have HX:=h_ (fun(w1:Sh) (h:Below w.heap.size w w1)=>ah.keeps Flat.keeps _ _ _ _ h hx)
   have HY:=h_ (fun(w1:Sh) (h:Below w.heap.size w w1)=>ah.keeps Flat.keeps _ _ _ _ h hy)
   have H0:=h_ (show SM gV (xs.drop 0) (ys.drop 0)=R from hR)
   rw [←hle]
   have po:=h_ hle
   clear hle hx hy hl' hR
   go_enter Tryz.func48,Tryz.ntmps48
   go_wp2_with fail
   go_loopw [13] (fun i wr=>∃ k:Nat,k≤xs.length∧i=.int .i64 k∧SM gV (xs.drop k) (ys.drop k)=R∧Below w.heap.size w wr) (fun i _=>xs.length-(intOf i).toNat)
   case atStart=>exact⟨0,by omega,rfl,H0.out,SL _ _⟩
   case round =>
    clear H0
    obtain⟨k,hk,rfl,hp,hb⟩:=hrel
    by_cases hlt:k<xs.length
    · obtain⟨b0,off,x,rfl,hbl,hxk,hcx,_⟩:=(HX.out _ hb).at_ hlt
      obtain⟨b0',off',y,rfl,As,hyk,hcy,_⟩:=(HY.out _ hb).at_ (show k<ys.length from by have:=po.out;omega)
      rw [ch xs k x hxk,ch ys k y hyk,SM] at hp
      have r1:=fun wx=>zh x y wx
      have d0:=hcx 0 _ rfl;have d1:=hcx 1 _ rfl;have d2:=hcx 2 _ rfl;have d3:=hcx 3 _ rfl;have d4:=hcx 4 _ rfl;have d5:=hcx 5 _ rfl;have d6:=hcx 6 _ rfl;have e0:=hcy 0 _ rfl;have e1:=hcy 1 _ rfl;have e2:=hcy 2 _ rfl;have e3:=hcy 3 _ rfl;have e4:=hcy 4 _ rfl;have e5:=hcy 5 _ rfl;have e6:=hcy 6 _ rfl
      generalize hQ:gV x y=EQ at hp r1
      obtain⟨xnm,xtop,xheight,xleft,xwidth,xalign,xbottom⟩:=x
      obtain⟨ynm,ytop,yheight,yleft,ywidth,yalign,ybottom⟩:=y
      simp only [Reg.enc,Sw] at r1 d0 e0 d1 e1 d2 e2 d3 e3 d4 e4 d5 e5 d6 e6
      have Jl:=h_ (fun n=>below_drewN hb n)
      clear hcx hcy hxk hyk hQ
      cases EQ with
      | true =>
        have HP:=h_ (by simpa using hp)
        clear hp
        go_wp2_with fail
        go_quiet (fail)
        go_wp2_with fail
        go_roundw
        case rel=>exact⟨k+1,by omega,by go_num,HP.out,Jl.out _⟩
        all_goals first|(simp [intOf];done)|(simp [intOf];omega)
      | false =>
        have HP:=h_ (show R=false from by rw [←hp];rfl)
        clear hp
        go_wp2_with fail
        go_quiet (fail)
        go_wp2_with fail
        go_ret
        exact⟨by rw [HP.out];rfl,Jl.out _⟩
    · obtain rfl:k=xs.length:=by omega
      have HP:=h_ (show R=true from by
       rw [←hp,SI,SG (by have:=po.out;omega)]
       rfl)
      clear hp
      go_wp2_with fail
      go_ret
      exact⟨by rw [HP.out];rfl,hb⟩
 · have HP:=h_ (show R=false from by rw [←hR];exact allEq_len _ _ _ hle)
   have hne:(((xs.length:Nat):Int) != ((ys.length:Nat):Int))=true:=by
    simp only [bne_iff_ne,ne_eq]
    omega
   clear hx hy hR hle
   go_enter Tryz.func48,Tryz.ntmps48
   go_wp2_with fail
   go_ret
   exact⟨by rw [HP.out];rfl,SL _ _⟩
theorem qt (a b:Option Addr)(c c':Nat)(xs ys:List Cm)(w:Sh)(hx:ah 8 Cm.enc Flat w a xs)(hy:ah 8 Cm.enc Flat w b ys)(hl:xs.length≤4000000)(hl':ys.length≤4000000) :
 Sj Tryz.prog 51 #[.slice a xs.length c,.slice b ys.length c'] w fun e w'=>e=.returned (.bool (SM cmEq xs ys))∧Below w.heap.size w w':=by
 generalize hR:SM cmEq xs ys=R
 by_cases hle:xs.length=ys.length
 · have HX:=h_ (fun(w1:Sh) (h:Below w.heap.size w w1)=>ah.keeps Flat.keeps _ _ _ _ h hx)
   have HY:=h_ (fun(w1:Sh) (h:Below w.heap.size w w1)=>ah.keeps Flat.keeps _ _ _ _ h hy)
   have H0:=h_ (show SM cmEq (xs.drop 0) (ys.drop 0)=R from hR)
   rw [←hle]
   have po:=h_ hle
   clear hle hx hy hl' hR
   go_enter Tryz.func51,Tryz.ntmps51
   go_wp2_with fail
   go_loopw [13] (fun i wr=>∃ k:Nat,k≤xs.length∧i=.int .i64 k∧SM cmEq (xs.drop k) (ys.drop k)=R∧Below w.heap.size w wr) (fun i _=>xs.length-(intOf i).toNat)
   case atStart=>exact⟨0,by omega,rfl,H0.out,SL _ _⟩
   case round =>
    clear H0
    obtain⟨k,hk,rfl,hp,hb⟩:=hrel
    by_cases hlt:k<xs.length
    · obtain⟨b0,off,x,rfl,hbl,hxk,hcx,_⟩:=(HX.out _ hb).at_ hlt
      obtain⟨b0',off',y,rfl,As,hyk,hcy,_⟩:=(HY.out _ hb).at_ (show k<ys.length from by have:=po.out;omega)
      rw [ch xs k x hxk,ch ys k y hyk,SM] at hp
      have r1:=fun wx=>BI x y wx
      have d0:=hcx 0 _ rfl;have d1:=hcx 1 _ rfl;have d2:=hcx 2 _ rfl;have d3:=hcx 3 _ rfl;have d4:=hcx 4 _ rfl;have d5:=hcx 5 _ rfl;have d6:=hcx 6 _ rfl;have d7:=hcx 7 _ rfl;have e0:=hcy 0 _ rfl;have e1:=hcy 1 _ rfl;have e2:=hcy 2 _ rfl;have e3:=hcy 3 _ rfl;have e4:=hcy 4 _ rfl;have e5:=hcy 5 _ rfl;have e6:=hcy 6 _ rfl;have e7:=hcy 7 _ rfl
      generalize hQ:cmEq x y=EQ at hp r1
      obtain⟨xid,xev,xfrm,xtil,xau,xtx,xdn,xlo⟩:=x
      obtain⟨yid,yev,yfrm,ytil,yau,ytx,ydn,ylo⟩:=y
      simp only [Cm.enc,Sw] at r1 d0 e0 d1 e1 d2 e2 d3 e3 d4 e4 d5 e5 d6 e6 d7 e7
      have Jl:=h_ (fun n=>below_drewN hb n)
      clear hcx hcy hxk hyk hQ
      cases EQ with
      | true =>
        have HP:=h_ (by simpa using hp)
        clear hp
        go_wp2_with fail
        go_quiet (fail)
        go_wp2_with fail
        go_roundw
        case rel=>exact⟨k+1,by omega,by go_num,HP.out,Jl.out _⟩
        all_goals first|(simp [intOf];done)|(simp [intOf];omega)
      | false =>
        have HP:=h_ (show R=false from by rw [←hp];rfl)
        clear hp
        go_wp2_with fail
        go_quiet (fail)
        go_wp2_with fail
        go_ret
        exact⟨by rw [HP.out];rfl,Jl.out _⟩
    · obtain rfl:k=xs.length:=by omega
      have HP:=h_ (show R=true from by
       rw [←hp,SI,SG (by have:=po.out;omega)]
       rfl)
      clear hp
      go_wp2_with fail
      go_ret
      exact⟨by rw [HP.out];rfl,hb⟩
 · have HP:=h_ (show R=false from by rw [←hR];exact allEq_len _ _ _ hle)
   have hne:(((xs.length:Nat):Int) != ((ys.length:Nat):Int))=true:=by
    simp only [bne_iff_ne,ne_eq]
    omega
   clear hx hy hR hle
   go_enter Tryz.func51,Tryz.ntmps51
   go_wp2_with fail
   go_ret
   exact⟨by rw [HP.out];rfl,SL _ _⟩
theorem qq (a b:Option Addr)(c c':Nat)(xs ys:List Ev)(w:Sh)(hx:dG w a xs)(hy:dG w b ys)(hf:∀ x∈xs,x.rows.length≤4000000∧∀ r∈x.rows,r.runs.length≤4000000)(hf':∀ x∈ys,x.rows.length≤4000000∧∀ r∈x.rows,r.runs.length≤4000000)(hl:xs.length≤4000000)(hl':ys.length≤4000000) :
 Sj Tryz.prog 49 #[.slice a xs.length c,.slice b ys.length c',.func (.func 50) #[] #[]] w fun e w'=>e=.returned (.bool (SM evEq xs ys))∧Below w.heap.size w w':=by
 generalize hR:SM evEq xs ys=R
 by_cases hle:xs.length=ys.length
 · have HX:=h_ (fun(w1:Sh) (h:Below w.heap.size w w1)=>hx.later h)
   have HY:=h_ (fun(w1:Sh) (h:Below w.heap.size w w1)=>hy.later h)
   have H0:=h_ (show SM evEq (xs.drop 0) (ys.drop 0)=R from hR)
   have HF:=h_ hf
   have HG:=h_ hf'
   rw [←hle]
   have po:=h_ hle
   clear hle hx hy hl' hR hf hf'
   go_enter Tryz.func49,Tryz.ntmps49
   go_wp2_with fail
   go_loopw [17] (fun i wr=>∃ k:Nat,k≤xs.length∧i=.int .i64 k∧SM evEq (xs.drop k) (ys.drop k)=R∧Below w.heap.size w wr) (fun i _=>xs.length-(intOf i).toNat)
   case atStart=>exact⟨0,by omega,rfl,H0.out,SL _ _⟩
   case round =>
    clear H0
    obtain⟨k,hk,rfl,hp,hb⟩:=hrel
    by_cases hlt:k<xs.length
    · obtain⟨b0,off,x,rfl,hbl,hxk,hcx,hxl⟩:=(HX.out _ hb).at_ hlt
      obtain⟨b0',off',y,rfl,As,hyk,hcy,hyl⟩:=(HY.out _ hb).at_ (show k<ys.length from by have:=po.out;omega)
      rw [ch xs k x hxk,ch ys k y hyk,SM] at hp
      have hfx:=HF.out x (SH hxk)
      have Mn:=HG.out y (SH hyk)
      have JZ:=h_ (fun(w1:Sh) (h:Below wr.heap.size wr w1)=>sK x y w1 (Ev.keeps _ _ _ h hxl) (Ev.keeps _ _ _ h hyl) hfx.2 Mn.2 hfx.1)
      have hcell:∀ (w1:Sh),Below wr.heap.size wr w1→∀ (q:Nat) (u:Si),y.enc[q]? =some u→w1.cell? ⟨b0',off'+k*7+q,none⟩=some u:=fun w1 h q u e=>(h.cell (p:=⟨b0',off'+k*7+q,none⟩) As).trans (hcy q u e)
      have d0:=hcx 0 _ rfl;have d1:=hcx 1 _ rfl;have d2:=hcx 2 _ rfl;have d3:=hcx 3 _ rfl;have d4:=hcx 4 _ rfl;have d5:=hcx 5 _ rfl;have d6:=hcx 6 _ rfl
      have HA1:=h_ (fun(o:Obj)=>((SL wr.heap.size wr).alloc (Sv _) o))
      have HA2:=h_ (fun(o o':Obj)=>(((SL wr.heap.size wr).alloc (Sv _) o).alloc (by simp) o':Below wr.heap.size wr ((wr.alloc o).alloc o')))
      have e0:=fun(o:Obj)=>hcell _ (HA1.out o) 0 _ rfl
      have e1:=fun(o:Obj)=>hcell _ (HA1.out o) 1 _ rfl
      have e2:=fun(o:Obj)=>hcell _ (HA1.out o) 2 _ rfl
      have e3:=fun(o:Obj)=>hcell _ (HA1.out o) 3 _ rfl
      have e4:=fun(o:Obj)=>hcell _ (HA1.out o) 4 _ rfl
      have e5:=fun(o:Obj)=>hcell _ (HA1.out o) 5 _ rfl
      have e6:=fun(o:Obj)=>hcell _ (HA1.out o) 6 _ rfl
      generalize hQ:evEq x y=EQ at hp JZ
      obtain⟨xid,xin,xout,xreg,xkind,xsp,xa,xc,xrows⟩:=x
      obtain⟨yid,yin,yout,yreg,ykind,ysp,ya,yc,yrows⟩:=y
      simp only [Ev.enc,Sw] at JZ d0 e0
      have jT:=h_ hb
      clear hcx hcy hxk hyk hQ hcell hfx Mn hxl hyl
      go_wp2_with fail
      refine(JZ.out _ (HA2.out _ _)).mono ?_
      rintro e w5 ⟨rfl,hb5⟩
      have iL:=h_ (jT.out.trans (((HA2.out _ _).trans (hb5.mono (HA2.out _ _).size)).mono jT.out.size))
      clear hb5 JZ
      cases EQ with
      | true =>
        have HP:=h_ (by simpa using hp)
        clear hp
        go_wp2_with fail
        go_roundw
        case rel=>exact⟨k+1,by omega,by go_num,HP.out,iL.out⟩
        all_goals first|(simp [intOf];done)|(simp [intOf];omega)
      | false =>
        have HP:=h_ (show R=false from by rw [←hp];rfl)
        clear hp
        go_wp2_with fail
        go_ret
        exact⟨by rw [HP.out];rfl,iL.out⟩
    · obtain rfl:k=xs.length:=by omega
      have HP:=h_ (show R=true from by
       rw [←hp,SI,SG (by have:=po.out;omega)]
       rfl)
      clear hp
      go_wp2_with fail
      go_ret
      exact⟨by rw [HP.out];rfl,hb⟩
 · have HP:=h_ (show R=false from by rw [←hR];exact allEq_len _ _ _ hle)
   have hne:(((xs.length:Nat):Int) != ((ys.length:Nat):Int))=true:=by
    simp only [bne_iff_ne,ne_eq]
    omega
   clear hx hy hR hle hf hf'
   go_enter Tryz.func49,Tryz.ntmps49
   go_wp2_with fail
   go_ret
   exact⟨by rw [HP.out];rfl,SL _ _⟩
end Go.Proofs.YtjebaagkomejaaaGreatDoor
