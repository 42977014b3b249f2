/- slices.SortStableFunc's helpers at events: swapRange and rotate, over any program that bears their bodies (so that an element's cells stay one row). The contracts of charset.Valid and charset.Len: what they return for any string. -/
import Derived.Shelf.SlSortCmp.KitK
import Derived.Lib.SmallJoins
import Derived.Test.YtjebaagkomejaaaGreatDoorH00
import Derived.Test.YtjebaagkomejaaaGreatDoorH01
set_option linter.unusedVariables false
set_option linter.unusedSimpArgs false
set_option maxRecDepth 100000
set_option maxHeartbeats 12800000
open Go.Lib renaming hid→h_
open Go renaming World→Sh,Value→Si,Calls→Sj,sizeOf→Sk,bodyPost_ret→Sl,heap_alloc_last→Sm,info_parts→Sn,TypeId→Sp
open Go.IntKind renaming i64→Sq,wrap_i64→Sr,u64→Ss
open Go.Value renaming string→St,int→Su
open Nat renaming le_refl→Sv,add_zero→Sw,lt_of_lt_of_le→Sx,succ_mul→Sy,mul_comm→Sz,le_trans→SA,mul_one→SB
open Go.Sort renaming permIn_trans→SC,permIn_mono→SD
open Go.Lib renaming cell_of_heap→SF,validD→SG,runeCountFrom→SH,iterAt_size→SI,runeCount→SJ,IsBuilder→SK,BuilderAt→SL,strCells→SM
open List renaming getElem?_eq_some_iff→SN,drop_eq_getElem_cons→SO,getElem?_eq_getElem→SQ,flatMap_cons→SR,drop_length→SS,eq_nil_of_length_eq_zero→SU,drop_zero→SV,mem_of_getElem?→SW,length_cons→SX
open Go.Utf8 renaming decode→SY
open Go.RowKit.Below renaming refl→SZ
open Array renaming getElem?_eq_some_iff→S5
open Go.World renaming size_alloc→S6,ownsRow_nil→S7
namespace Go.Proofs.YtjebaagkomejaaaGreatDoor
open Go.Shelf Go.RowKit Go.Lib Go.Sort
variable {P:Program} {α:Type} [Inhabited α]
structure qF (P:Program):Prop where
 mixed:P.follows .mixedOrders=true
 f255:P.funcs[255]? =some Tryz.f255
 f242:P.funcs[242]? =some Tryz.f242
 f224:P.funcs[224]? =some Tryz.f224
 f187:P.funcs[187]? =some Tryz.f187
 f133:P.funcs[133]? =some Tryz.f133
 ins:SlLaysF0.n20 P ⟨fun|20=>223|n=>n,fun|22=>24|24=>72|25=>183|n=>n,fun n=>n⟩
 t0:P.underlying 0=some (TypeDesc.tuple #[])
 a0:∀ w,(isAgg 0).run P w=.ok false w
 z0:∀ w,(Sk 0).run P w=.ok 1 w
 v0:∀ w,(zeroValue 0).run P w=.ok (Si.tuple #[]) w
 t3:P.underlying 3=some (TypeDesc.int Sq)
 a3:∀ w,(isAgg 3).run P w=.ok false w
 z3:∀ w,(Sk 3).run P w=.ok 1 w
 v3:∀ w,(zeroValue 3).run P w=.ok (Su Sq 0) w
 t4:P.underlying 4=some (TypeDesc.bool)
 a4:∀ w,(isAgg 4).run P w=.ok false w
 z4:∀ w,(Sk 4).run P w=.ok 1 w
 v4:∀ w,(zeroValue 4).run P w=.ok (Si.bool false) w
 t24:P.underlying 24=some (TypeDesc.slice 72)
 a24:∀ w,(isAgg 24).run P w=.ok false w
 z24:∀ w,(Sk 24).run P w=.ok 1 w
 v24:∀ w,(zeroValue 24).run P w=.ok (Si.slice none 0 0) w
 t216:P.underlying 216=some (TypeDesc.int Ss)
 a216:∀ w,(isAgg 216).run P w=.ok false w
 z216:∀ w,(Sk 216).run P w=.ok 1 w
 v216:∀ w,(zeroValue 216).run P w=.ok (Su Ss 0) w
 t183:P.underlying 183=some (TypeDesc.func #[72,72] #[3] false)
 a183:∀ w,(isAgg 183).run P w=.ok false w
 z183:∀ w,(Sk 183).run P w=.ok 1 w
 v183:∀ w,(zeroValue 183).run P w=.ok (Si.nilFunc) w
def qJ (enc:α→List Si)(k:Nat)(w0:Sh)(blk off:Nat)(d:Array α)(a b:Nat)(f:Nat→Nat)(e:Ending)(w':Sh):Prop :=
 e=.returned (.tuple #[])∧∃ d',d'.size=d.size∧SWK enc k w0 blk off d' w'∧PermIn a b d d'∧∀ t,d'[t]! =d[f t]!
theorem mm (L:qF P)(k:Nat)(aE:∀ w,(isAgg 72).run P w=.ok true w)(zE:∀ w,(Sk 72).run P w=.ok k w)(enc:α→List Si)(fv:Si)(blk off cap a b n:Nat)(d0 d:Array α)(w0 w:Sh)
 (R:RowK enc k w0 blk off d0) (hs:d0.size=d.size) (S:SWK enc k w0 blk off d w) (hab:a+n≤b) (hb:b+n≤d.size) (hsz:d.size<4611686018427387904) :
 Sj P 255 #[.slice (some ⟨blk,off,none⟩) d.size cap,.int .i64 a,.int .i64 b,.int .i64 n,fv] w (qJ enc k w0 blk off d a (b+n) (swIx a b n)):=by
 have mixed:=L.mixed;have t0:=L.t0;have a0:=L.a0;have z0:=L.z0;have v0:=L.v0;have t3:=L.t3;have a3:=L.a3;have z3:=L.z3;have v3:=L.v3;have t4:=L.t4;have a4:=L.a4;have z4:=L.z4;have v4:=L.v4;have t24:=L.t24;have a24:=L.a24;have z24:=L.z24;have v24:=L.v24;have t183:=L.t183;have a183:=L.a183;have z183:=L.z183;have v183:=L.v183
 have FG:=L.f255
 have S0:Aside (SWK enc k w0 blk off d w):=S
 clear S L
 generalize hQ:qJ enc k w0 blk off d a (b+n) (swIx a b n)=Q
 have HQ:=h_ (fun(dk:Array α) (W:Sh) (h1:dk.size=d.size) (h2:SWK enc k w0 blk off dk W) (h3:PermIn a (b+n) d dk) (h4:∀ t,dk[t]! =d[swIx a b n t]!)=>show Q (.returned (.tuple #[])) W from hQ▸⟨rfl,dk,h1,h2,h3,h4⟩)
 clear hQ
 go_enter FG,Tryz.ntmps255
 go_wp2
 go_loopg [10] n (fun kx s10 wr=>∃ (i:Nat) (dk:Array α),s10=.int .i64 i∧i≤n∧n-i≤kx∧dk.size=d.size∧Aside (SWK enc k w0 blk off dk wr)∧Hid (PermIn a (b+n) d dk)∧Hid (∀ t,dk[t]! =d[swIx a b i t]!))
 case atStart=>exact⟨0,d,rfl,Nat.zero_le _,by omega,rfl,S0,permIn_refl _ _ _,fun t=>by rw [DL]⟩
 case round =>
  clear S0
  obtain⟨i,dk,rfl,hin,hkx,hds,S1,HP,HT⟩:=hrel
  by_cases hlt:i<n
  · have hltz:(i:Int)<(n:Int):=by omega
    go_wp2_with fail
    have ea:((a:Int)+(i:Int)).toNat=a+i:=by omega
    have pa:(0:Int)≤(a:Int)+(i:Int):=by omega
    have ba:(a:Int)+(i:Int)<(d.size:Int):=by omega
    have ra:Sq.wrap ((a:Int)+(i:Int))=(a:Int)+(i:Int):=by rw [Sr];omega
    have ec:((b:Int)+(i:Int)).toNat=b+i:=by omega
    have pc:(0:Int)≤(b:Int)+(i:Int):=by omega
    have bc:(b:Int)+(i:Int)<(d.size:Int):=by omega
    have rc:Sq.wrap ((b:Int)+(i:Int))=(b:Int)+(i:Int):=by rw [Sr];omega
    have S2:Aside (SWK enc k w0 blk off (swp dk (a+i) (b+i)) ((wr.drew.setCells blk (off+(a+i)*k) (enc dk[b+i]!)).setCells blk (off+(b+i)*k) (enc dk[a+i]!))):=S1.out.swapped R (a+i) (b+i) (by omega) (by omega)
    have la:=S1.out.ld1 R (by omega) P (a+i) (by omega)
    have lb:=S1.out.ld1 R (by omega) P (b+i) (by omega)
    have sa:=S1.out.st1 R (by omega) P (a+i) (by omega) dk[b+i]!
    have sb:=S1.out.st2 R (by omega) P (a+i) (b+i) (by omega) (by omega) dk[b+i]! dk[a+i]!
    have na:(enc dk[a+i]!).length=k:=R.hk _
    have nb:(enc dk[b+i]!).length=k:=R.hk _
    generalize enc dk[a+i]! =cI at S2 la sb na
    generalize enc dk[b+i]! =cJ at S2 lb sa sb nb
    clear S1
    go_wp2_with fail
    go_big_region_o
    clear la lb sa sb
    generalize (wr.drew.setCells blk (off+(a+i)*k) cJ).setCells blk (off+(b+i)*k) cI=w2 at S2 ⊢
    go_wp2
    go_roundg (n-(i+1))
    case measure=>omega
    case rel =>
     exact⟨i+1,swp dk (a+i) (b+i),by go_num,by omega,Sv _,by rw [size_swp];exact hds,S2,SC _ _ _ _ _ HP.out (swp_permIn _ _ _ _ _ (by omega) (by omega) (by omega) (by omega) (by omega)),DM d dk a b n i hab hlt hb hds HT.out⟩
  · obtain rfl:i=n:=by omega
    go_wp2
    go_end0
    exact HQ.out dk _ hds S1.out HP.out HT.out
theorem rM (L:qF P)(k:Nat)(aE:∀ w,(isAgg 72).run P w=.ok true w)(zE:∀ w,(Sk 72).run P w=.ok k w)(enc:α→List Si)(fv:Si)(blk off cap a m b:Nat)(d0 d:Array α)(w0 w:Sh)
 (R:RowK enc k w0 blk off d0) (hs:d0.size=d.size) (S:SWK enc k w0 blk off d w) (K8:a<m) (hmb:m<b) (hb:b≤d.size) (hsz:d.size<4611686018427387904) :
 Sj P 242 #[.slice (some ⟨blk,off,none⟩) d.size cap,.int .i64 a,.int .i64 m,.int .i64 b,fv] w (qJ enc k w0 blk off d a b (cw a m b)):=by
 have mixed:=L.mixed;have t0:=L.t0;have a0:=L.a0;have z0:=L.z0;have v0:=L.v0;have t3:=L.t3;have a3:=L.a3;have z3:=L.z3;have v3:=L.v3;have t4:=L.t4;have a4:=L.a4;have z4:=L.z4;have v4:=L.v4;have t24:=L.t24;have a24:=L.a24;have z24:=L.z24;have v24:=L.v24;have t183:=L.t183;have a183:=L.a183;have z183:=L.z183;have v183:=L.v183
 have FG:=L.f242
 have e299:∀ args w,(callFunc 255 args).run P w=.ok (.enter 255 args) w:=enters_of L.f255 (by kernel_rfl) rfl
 have HC:=h_ (fun(x y n:Nat) (dk:Array α) (W:Sh) (h1:d0.size=dk.size) (h2:SWK enc k w0 blk off dk W) (h3:x+n≤y) (h4:y+n≤dk.size) (h5:dk.size<4611686018427387904)=>mm L k aE zE enc fv blk off cap x y n d0 dk w0 W R h1 h2 h3 h4 h5)
 have S0:Aside (SWK enc k w0 blk off d w):=S
 clear S L
 generalize hQ:qJ enc k w0 blk off d a b (cw a m b)=Q
 have HQ:=h_ (fun(dk:Array α) (W:Sh) (h1:dk.size=d.size) (h2:SWK enc k w0 blk off dk W) (h3:PermIn a b d dk) (h4:∀ t,dk[t]! =d[cw a m b t]!)=>show Q (.returned (.tuple #[])) W from hQ▸⟨rfl,dk,h1,h2,h3,h4⟩)
 clear hQ
 go_enter FG,Tryz.ntmps242
 go_wp2
 go_loopg [10,11] (b-a) (fun kx s10 s11 wr=>∃ (i j:Nat) (dk:Array α),s10=.int .i64 i∧s11=.int .i64 j∧0<i∧0<j∧a+i≤m∧m+j≤b∧i+j≤kx∧dk.size=d.size∧Aside (SWK enc k w0 blk off dk wr)∧Hid (PermIn a b d dk)∧Hid (∀ t,dk[cw (m-i) m (m+j) t]! =d[cw a m b t]!))
 case atStart=>exact⟨m-a,b-m,d,by go_num,by go_num,by omega,by omega,by omega,by omega,by omega,rfl,S0,permIn_refl _ _ _,fun t=>by rw [show m-(m-a)=a by omega,show m+(b-m)=b by omega]⟩
 case round =>
  clear S0
  obtain⟨i,j,dk,rfl,rfl,hi,hj,hai,hjb,hkx,hds,S1,HP,HT⟩:=hrel
  obtain⟨x,hx⟩:∃ x,x+i=m:=⟨m-i,by omega⟩
  have hxz:(m:Int)-(i:Int)=(x:Int):=by omega
  have Lr:=h_ (show m-i=x by omega)
  rcases Nat.lt_trichotomy i j with hij|hij|hij
  · have Hc:((i:Int) != (j:Int))=true:=by simp;omega
    have KU:(i != j)=true:=by simp;omega
    have hg:¬ (j:Int)<(i:Int):=by omega
    obtain⟨y,hy⟩:∃ y,y+i=m+j:=⟨m+j-i,by omega⟩
    have O5:(m:Int)+(j:Int)-(i:Int)=(y:Int):=by omega
    have hC:=HC.out x y i dk wr (by omega) S1.out (by omega) (by omega) (by omega)
    rw [hds] at hC
    have jf:=h_ hC
    have HY:=h_ (show y=m+j-i by omega)
    have hyb:y+i≤b:=by omega
    have hax:a≤x:=by omega
    clear hC hx hy
    go_wp2_with (go_at_fn 255;refine jf.out.mono ?_;rintro e w' ⟨rfl,d',hd1,S2,hd3,hd4⟩)
    have HT2:Hid (∀ t,d'[cw (m-i) m (m+(j-i)) t]! =d[cw a m b t]!):=fun t=>by
     rw [hd4,←HT.out t,HY.out,←Lr.out,show m+(j-i)=m+j-i by omega,zo m i j t hi hij (by omega)]
    have Bd:Hid (PermIn a b d d'):=SC _ _ _ _ _ HP.out (SD _ _ x (y+i) a b hax hyb (by omega) hd3)
    have S3:Aside (SWK enc k w0 blk off d' w'):=S2
    have EP:d'.size=d.size:=by omega
    clear hd1 hd3 hd4 S2 jf
    go_wp2
    go_roundg (i+(j-i))
    case measure=>omega
    case rel=>exact⟨i,j-i,d',rfl,by go_num,hi,by omega,hai,by omega,Sv _,EP,S3,Bd,HT2⟩
  · obtain rfl:i=j:=hij
    have Hc:((i:Int) != (i:Int))=false:=by simp
    have hC:=HC.out x m i dk wr (by omega) S1.out (by omega) (by omega) (by omega)
    rw [hds] at hC
    have jf:=h_ hC
    have hax:a≤x:=by omega
    clear hC hx
    go_wp2_with (go_at_fn 255;refine jf.out.mono ?_;rintro e w' ⟨rfl,d',hd1,S2,hd3,hd4⟩)
    go_end0
    refine HQ.out d' _ (by omega) S2 (SC _ _ _ _ _ HP.out (SD _ _ x (m+i) a b hax (by omega) (by omega) hd3)) fun t=>?_
    rw [hd4,←HT.out t,←Lr.out,BJ m i t (by omega)]
  · have Hc:((i:Int) != (j:Int))=true:=by simp;omega
    have KU:(i != j)=true:=by simp;omega
    have hg:(j:Int)<(i:Int):=by omega
    have hC:=HC.out x m j dk wr (by omega) S1.out (by omega) (by omega) (by omega)
    rw [hds] at hC
    have jf:=h_ hC
    have hax:a≤x:=by omega
    clear hC hx
    go_wp2_with (go_at_fn 255;refine jf.out.mono ?_;rintro e w' ⟨rfl,d',hd1,S2,hd3,hd4⟩)
    have HT2:Hid (∀ t,d'[cw (m-(i-j)) m (m+j) t]! =d[cw a m b t]!):=fun t=>by
     rw [hd4,←HT.out t,←Lr.out,show m-(i-j)=m-i+j by omega,BK m i j t hj hij (by omega)]
    have Bd:Hid (PermIn a b d d'):=SC _ _ _ _ _ HP.out (SD _ _ x (m+j) a b hax hjb (by omega) hd3)
    have S3:Aside (SWK enc k w0 blk off d' w'):=S2
    have EP:d'.size=d.size:=by omega
    clear hd1 hd3 hd4 S2 jf
    go_wp2
    go_roundg (i-j+j)
    case measure=>omega
    case rel=>exact⟨i-j,j,d',by go_num,rfl,by omega,hj,by omega,hjb,Sv _,EP,S3,Bd,HT2⟩
end Go.Proofs.YtjebaagkomejaaaGreatDoor
namespace Go.Proofs.YtjebaagkomejaaaGreatDoor
open Go.RowKit
def Env (w:Sh):Prop:=Lib.Utf8Tabs 0 1 w∧∃ m,w.cell? ⟨2,0,none⟩=some (.int .i64 m)
theorem Env.below {w w':Sh} {B:Nat} (h:Env w)(hb:Below B w w')(hB:w.heap.size≤B):Env w':=by
 obtain⟨h1,m,h2⟩:=h
 have hb':=hb.mono hB
 exact⟨Utf8Tabs_below h1 hb',m,(hb'.cell (p:=⟨2,0,none⟩) (Sh.block_lt_of_cell? w _ h2)).trans h2⟩
def bB (s:ByteArray):Bool:=SG s.data.toList&&(runes s).all (fun r=>decide (0≤idx r))
def lenB (s:ByteArray):Int:=if bB s then ((runes s).length:Int) else -1
theorem mr (s:ByteArray):∀ b pos,(cZ s b pos).length=SH s b pos
 | 0,_=>rfl
 | b+1,pos=>by
   simp only [cZ,SH]
   split
   · rw [SX,mr s b];omega
   · rfl
theorem decode_le (s:ByteArray)(pos:Nat):(SY s pos).1≤1114111:=by
 have hb:∀ k,(s.get! (pos+k)).toNat<256:=fun k=>(s.get! (pos+k)).toNat_lt
 have h0:=hb 0;have h1:=hb 1;have h2:=hb 2;have h3:=hb 3
 simp only [SY]
 repeat' split
 all_goals simp_all [Utf8.runeError,Utf8.valid]
 all_goals omega
theorem BC (s:ByteArray)(w:Sh)(hs:s.size≤4000000)(hE:Env w)(hv:SG s.data.toList=false) :
 Sj Tryz.prog 93 #[.string s] w fun e w'=>e=.returned (.bool (bB s))∧Below w.heap.size w w':=by
 have hn:bB s=false:=by simp [bB,hv]
 have HN:=h_ hn
 have hc:=Tryz.utf8_ValidString s w (by omega) hE.1
 rw [hv] at hc
 have HC:=h_ hc
 clear hn hv hc
 go_enter Tryz.func93,Tryz.ntmps93
 go_wp2_with fail
 refine HC.out.mono ?_
 rintro e w1 ⟨rfl,hb⟩
 go_wp2_with fail
 go_ret
 rw [HN.out]
 exact⟨rfl,hb⟩
def jc (w:Sh)(s:ByteArray)(g pos:Nat)(wr:Sh):Prop:=wr.heap[g]? =some (.stringIter s pos)∧Below g w wr
theorem jc.pos {w wr:Sh} {s:ByteArray} {g pos:Nat} (h:jc w s g pos wr):wr.iterPos g=pos:=by simp [Sh.iterPos,h.1]
theorem jc.start (w:Sh)(s:ByteArray):jc w s w.heap.size 0 (w.alloc (.stringIter s 0)) :=
 ⟨Sh.iter_heap w s 0,(SZ _ _).alloc (Sv _) _⟩
theorem jc.lt {w wr:Sh} {s:ByteArray} {g pos:Nat} (h:jc w s g pos wr):g<wr.heap.size:=(S5.1 h.1).1
theorem jc.step {w wr w2:Sh} {s:ByteArray} {g pos:Nat} (h:jc w s g pos wr)(pos':Nat)(hb:Below (wr.iterAt g s pos').heap.size (wr.iterAt g s pos') w2):jc w s g pos' w2:=by
 have hl:=h.lt
 refine⟨?_,(Lib.below_iterAt h.2 (Sv _) s pos').trans (hb.mono (by rw [SI];omega))⟩
 rw [hb.block g (by rw [SI];exact hl)]
 exact Lib.iterAt_heap wr g s pos pos' h.1
theorem Ff (s:ByteArray)(b pos:Nat)(h:¬ pos<s.size)(p:Nat→Bool):(cZ s b pos).all p=true:=by rw [gT s b pos h];rfl
theorem yQ (s:ByteArray)(w:Sh)(hs:s.size≤4000000)(hE:Env w)(hv:SG s.data.toList=true) :
 Sj Tryz.prog 93 #[.string s] w fun e w'=>e=.returned (.bool (bB s))∧Below w.heap.size w w':=by
 have hG:bB s=(cZ s s.size 0).all (fun r=>decide (0≤idx r)):=by simp [bB,hv,runes]
 generalize Oo:bB s=G at *
 have H0:=h_ hG.symm
 have hc:=Tryz.utf8_ValidString s w (by omega) hE.1
 rw [hv] at hc
 have HC:=h_ hc
 clear hG Oo hv hc
 go_enter Tryz.func93,Tryz.ntmps93
 go_wp2_with fail
 refine HC.out.mono ?_
 rintro e w1 ⟨rfl,hb1⟩
 go_wp2_with fail
 go_loopw [4] (fun _ wr=>∃ (pos b:Nat),jc w1 s w1.heap.size pos wr∧(cZ s b pos).all (fun r=>decide (0≤idx r))=G∧s.size≤pos+b) (fun _ wr=>s.size-wr.iterPos w1.heap.size)
 case atStart=>exact⟨0,s.size,jc.start _ _,H0.out,by omega⟩
 case round =>
  obtain⟨pos,b,hI,hp,hb⟩:=hrel
  have hpos:=h_ hI.pos
  by_cases hlt:pos<s.size
  · obtain⟨c,rfl,hn⟩:=im s b pos hlt hb
    have hwd:=width_pos s pos hlt
    have hle:=decode_le s pos
    have hnx:∀ ty,(Instr.next (.pointer (some ⟨w1.heap.size,0,none⟩)) true ty).run Tryz.prog wr=_:=fun ty=>Lib.run_next_any_at wr w1.heap.size s pos ty hI.1 hlt
    rw [hn,List.all_cons] at hp
    generalize (SY s pos).1=x at *
    generalize (SY s pos).2=d at *
    have HS:=h_ (fun w2=>hI.step (w2:=w2) (pos+d))
    have HP:=h_ hp
    clear hp hn H0 hI
    by_cases hx:0≤idx x
    · go_wp2_with (go_at_call 140;refine(jL _ _ (by omega) (by omega)).mono ?_;rintro e w2 ⟨rfl,hb2⟩)
      have hI2:=HS.out _ hb2
      have hq:=HP.out
      simp only [hx,decide_true,Bool.true_and] at hq
      go_roundw
      case rel=>exact⟨pos+d,c,hI2,hq,by omega⟩
      case measure=>rw [hI2.pos,hpos.out];omega
    · have hx':idx x<0:=by omega
      go_wp2_with (go_at_call 140;refine(jL _ _ (by omega) (by omega)).mono ?_;rintro e w2 ⟨rfl,hb2⟩)
      go_ret
      have hI2:=HS.out _ hb2
      have hq:=HP.out
      rw [show decide (0≤idx (x:Int))=false by simp;omega,Bool.false_and] at hq
      exact⟨by rw [←hq];rfl,hb1.trans (hI2.2.mono hb1.size)⟩
  · have hnx:∀ ty,(Instr.next (.pointer (some ⟨w1.heap.size,0,none⟩)) true ty).run Tryz.prog wr=_:=fun ty=>Lib.run_next_end_at wr w1.heap.size s pos ty hI.1 hlt
    rw [Ff s b pos hlt] at hp
    have HP:=h_ hp
    clear hp H0
    go_wp2_with fail
    go_ret
    exact⟨by rw [←HP.out];rfl,hb1.trans (hI.2.mono hb1.size)⟩
theorem dM (s:ByteArray)(w:Sh)(hs:s.size≤4000000)(hE:Env w) :
 Sj Tryz.prog 93 #[.string s] w fun e w'=>e=.returned (.bool (bB s))∧Below w.heap.size w w':=by
 cases hv:SG s.data.toList
 · exact BC s w hs hE hv
 · exact yQ s w hs hE hv
theorem se (s:ByteArray)(w:Sh)(hs:s.size≤4000000)(hE:Env w) :
 Sj Tryz.prog 135 #[.string s] w fun e w'=>e=.returned (.int .i64 (lenB s))∧Below w.heap.size w w':=by
 have hL:lenB s=if bB s then (SJ s:Int) else -1:=by
  unfold lenB runes SJ
  rw [mr]
 have hc:=dM s w hs hE
 cases hv:bB s
 all_goals
  rw [hv] at hL hc
  have HL:=h_ hL;have HC:=h_ hc
  clear hL hc hv
  go_enter Tryz.func135,Tryz.ntmps135
  go_wp2_with fail
  refine HC.out.mono ?_
  rintro e w1 ⟨rfl,hb⟩
  go_wp2_with fail
 · go_ret
   rw [HL.out]
   exact⟨rfl,hb⟩
 · refine(Tryz.utf8_RuneCountInString s w1 (by omega)).mono ?_
   rintro e w2 ⟨rfl,pos,rfl⟩
   go_wp2_with fail
   go_ret
   rw [HL.out]
   exact⟨rfl,hb.trans (((SZ _ _).alloc (Sv _) _).mono hb.size)⟩
theorem F7:(Tryz.prog.info? 232).map (·.size)=some 2:=by kernel_rfl
theorem oq (b:Nat)(w:Sh)(h0:w.cell? ⟨b,0,none⟩=some (.pointer (some ⟨b,0,none⟩))) :
 Sj Tryz.prog 239 #[.pointer (some ⟨b,0,none⟩)] w fun e w'=>e=.returned (.tuple #[])∧w'=w:=by
 obtain⟨j,hj,_⟩:=Option.map_eq_some_iff.1 F7
 go_enter Tryz.func239,Tryz.ntmps239
 go_wp2
 rw [Lib.run_neq_ptr_same w _ Tryz.underlying229 hj]
 go_wp2
 go_end0
 exact⟨rfl,rfl⟩
theorem nt (b:Nat)(w:Sh)(h0:w.cell? ⟨b,0,none⟩=some (.pointer none))(hsh:w.shape? b=some (232,2))(hfz:w.frozen? ⟨b,0,none⟩=false) :
 Sj Tryz.prog 239 #[.pointer (some ⟨b,0,none⟩)] w fun e w'=>e=.returned (.tuple #[])∧w'=w.setCell ⟨b,0,none⟩ (.pointer (some ⟨b,0,none⟩)):=by
 obtain⟨j,hj,hjs⟩:=Option.map_eq_some_iff.1 F7
 go_enter Tryz.func239,Tryz.ntmps239
 go_wp2
 rw [Lib.run_to_unsafe w ⟨b,0,none⟩ Tryz.underlying229 Tryz.underlying256 hj (by rw [hjs];decide) hsh (Nat.zero_lt_succ 1)]
 simp only [Result.andThen]
 rw [Oper.upon_value]
 go_wp2
 rw [run_callFunc_extern Tryz.func249 (by kernel_rfl) (by kernel_rfl) (by kernel_rfl) (e:=Extern.AbiNoEscape.same) (by kernel_rfl)]
 rw [Lib.run_noEscape]
 simp only [Result.andThen]
 rw [Oper.upon_value]
 go_wp2
 rw [Lib.run_from_unsafe w ⟨b,0,none⟩ Tryz.underlying256 Tryz.underlying229 hj hsh Tryz.Builder_Extra_169.liesBuilder]
 simp only [Result.andThen]
 rw [Oper.upon_value]
 go_wp2
 go_end0
 exact⟨rfl,rfl⟩
theorem nu (B b:Nat)(bs:List Si)(w:Sh)(h:SK 232 5 B b bs w) :
 Sj Tryz.prog 239 #[.pointer (some ⟨b,0,none⟩)] w fun e w'=>e=.returned (.tuple #[])∧(SL 232 5 B b (.pointer (some ⟨b,0,none⟩)) bs w'∧Below B w w'):=by
 rcases h with h|h
 · refine(nt b w h.cell0 h.shape h.frozen0).mono ?_
   rintro e w' ⟨rfl,rfl⟩
   exact⟨rfl,h.used _,(SZ B w).setCell (p:=⟨b,0,none⟩) h.1 _⟩
 · refine(oq b w h.cell0).mono ?_
   rintro e w' ⟨rfl,rfl⟩
   exact⟨rfl,h,SZ B _⟩
theorem kG (B b:Nat)(bs:List Si)(s:ByteArray)(w:Sh)(h:SK 232 5 B b bs w)(hlen:bs.length+s.size≤140737488355328)(hBw:B≤w.heap.size) :
 Sj Tryz.prog 219 #[.pointer (some ⟨b,0,none⟩),.string s] w fun e w'=>e=.returned (.tuple #[.int .i64 s.size,.nilIface])∧(SL 232 5 B b (.pointer (some ⟨b,0,none⟩)) (bs++SM s) w'∧Below B w w'):=by
 obtain⟨i0,hi,hz0,hz1,hz2⟩:=Sn Tryz.Builder_Extra_169.infoByte
 go_enter Tryz.func219,Tryz.ntmps219
 go_wp2_with (go_at_call 239;refine(nu B b bs _ h).mono ?_)
 rintro e w1 ⟨rfl,h1,hb1⟩
 obtain⟨hB,v,hbk,hown,hne⟩:=h1
 have c0:w1.cell? ⟨b,0,none⟩=some (.pointer (some ⟨b,0,none⟩)):=by rw [SF hbk];rfl
 have c1:w1.cell? ⟨b,1,none⟩=some v:=by rw [SF hbk];rfl
 go_wp2_with (at_builtin;refine Lib.wpList_append_own_string _ rfl _ _ 230 9 rfl B 5 i0 Tryz.underlying230 Tryz.underlying9 hi hz0 hz1 hz2 _ _ _ rfl hown s rfl ?c3 ?c4 ?c5 ?_)
 case c3=>unfold maxLen;omega
 case c4=>omega
 case c5=>have:=hb1.size;omega
 intro v' w2 hown' hgrow _
 have hlt:b<w1.heap.size:=by
  rcases Nat.lt_or_ge b w1.heap.size with h'|h'
  · exact h'
  · simp [Array.getElem?_eq_none h'] at hbk
 have hb2:w2.heap[b]? =some (.cells #[.pointer (some ⟨b,0,none⟩),v] 232 (0,0)):=by
  rw [hgrow.block b hlt (fun e=>hne e.symm)]
  exact hbk
 have d0:w2.cell? ⟨b,0,none⟩=some (.pointer (some ⟨b,0,none⟩)):=by rw [SF hb2];rfl
 have d1:w2.cell? ⟨b,1,none⟩=some v:=by rw [SF hb2];rfl
 have f1:w2.frozen? ⟨b,1,none⟩=false:=Lib.frozen_of_heap hb2 1
 obtain⟨ao,n',cap,rfl⟩:∃ ao n' cap,v'=.slice ao n' cap:=by
  rcases hown'.2 with⟨hv,_⟩|⟨g,cap,cur,hv,_⟩
  · exact⟨_,_,_,hv⟩
  · exact⟨_,_,_,hv⟩
 go_wp2
 go_ret2
 refine⟨rfl,?_,?_⟩
 · exact SL.put (T:=232) (e:=5) hB hb2 (bs':=bs++SM s) (by simpa [Lib.strCells_length] using hown') (by decide)
 · exact(hb1.grown hgrow (by have:=hb1.size;omega) (fun k hk=>(hown.lt k hk).1)).setCell (p:=⟨b,1,none⟩) hB _
theorem aG {k:IntKind} {a b:Int} (h:a=b):Ending.returned (.int k a)=.returned (.int k b):=by rw [h]
theorem yR {c:Prop} [Decidable c] {v a b:Int} (h:c)(h2:v=a):v=if c then a else b:=by rw [if_pos h,h2]
theorem val_neg {c:Prop} [Decidable c] {v a b:Int} (h:¬ c)(h2:v=b):v=if c then a else b:=by rw [if_neg h,h2]
def jM (t l:ByteArray)(r:Int)(d:Bool)(last:Int):Int :=
 if (!bB t)=true then 10 else if 400<t.size then 9 else if (!l.toList.isEmpty)=true∧(!c_ l)=true then 5 else if (pR r d != 0)=true then pR r d else if last<0∨1099511627776<last then 2 else 0
theorem jI (l:ByteArray):l.toList.length=l.size:=by
 rw [Lib.toList_data]
 simp
theorem kj (l:ByteArray):l.size=0↔l.toList=[]:=by
 have:=jI l
 constructor
 · intro h
   exact SU (by omega)
 · intro h
   rw [h] at this
   simpa using this.symm
theorem ax (w:Sh)(cs:Array Si)(t:Sp)(j:Nat)(v:Si)(h:cs[j]? =some v)(w':Sh)(hb:Below (w.heap.size+1) (w.alloc (.cells cs t)) w'):w'.cell? ⟨w.heap.size,j,none⟩=some v:=by
 rw [hb.cell (p:=⟨w.heap.size,j,none⟩) (by simp)]
 rw [cell_of_row _ _ j cs t (0,0) (Sm w _),h]
theorem bK {w w':Sh} {o:Obj} (hb:Below (w.heap.size+1) (w.alloc o) w'):Below w.heap.size w w' :=
 ((SZ _ _).alloc (Sv _) _).trans (hb.mono (by omega))
theorem sw (t l:ByteArray)(r:Int)(d:Bool)(last:Int)(a5 a6 a7:Option Addr)(n5 n6 n7 c5 c6 c7:Nat)(w:Sh)(hE:Env w)(ht:t.size≤4000000)(hl:l.size≤4000000)(h0:0≤r)(h1:r≤255) :
 Sj Tryz.prog 63 #[.agg #[.string t,.string l,.int .u8 r,.bool d,.int .i64 last,.slice a5 n5 c5,.slice a6 n6 c6,.slice a7 n7 c7]] w fun e w'=>e=.returned (.int .i64 (jM t l r d last))∧Below w.heap.size w w':=by
 generalize hG:jM t l r d last=G
 unfold jM at hG
 have HG:=h_ hG
 clear hG
 generalize hcs:#[St t,.string l,.int .u8 r,.bool d,.int .i64 last,.slice a5 n5 c5,.slice a6 n6 c6,.slice a7 n7 c7]=cs
 have f0:=ax w cs 27 0 (.string t) (by rw [←hcs];rfl)
 have f1:=ax w cs 27 1 (.string l) (by rw [←hcs];rfl)
 have f2:=ax w cs 27 2 (.int .u8 r) (by rw [←hcs];rfl)
 have f3:=ax w cs 27 3 (.bool d) (by rw [←hcs];rfl)
 have f4:=ax w cs 27 4 (.int .i64 last) (by rw [←hcs];rfl)
 have HE:=h_ (fun(w1:Sh) (h:Below (w.heap.size+1) (w.alloc (.cells cs 27)) w1)=>hE.below (bK h) (Sv _))
 have HB:=h_ (fun(w1:Sh) (h:Below (w.heap.size+1) (w.alloc (.cells cs 27)) w1)=>bK h)
 have hb0:Below (w.heap.size+1) (w.alloc (.cells cs 27)) (w.alloc (.cells cs 27)):=SZ _ _
 have hsz:(w.alloc (.cells cs 27)).heap.size=w.heap.size+1:=S6 _ _
 generalize hW0:w.alloc (.cells cs 27)=W0 at *
 have HW0:=h_ hW0
 have dV:=h_ hsz
 clear hW0 hsz hE
 go_enter Tryz.func63,Tryz.ntmps63
 subst hcs
 go_wp2_with fail
 rw [HW0.out]
 refine(dM t _ ht (HE.out _ hb0)).mono ?_
 rintro e w1 ⟨rfl,hb1⟩
 rw [dV.out] at hb1
 clear HW0
 go_wp2_with (first
  | (go_at_call 78;refine(eK _ _ (by assumption)).mono ?_;rintro e w2 ⟨rfl,rfl⟩)
  | (go_at_call 112;refine(wT _ _ _ (by assumption) (by assumption)).mono ?_;rintro e w3 ⟨rfl,hb3⟩;replace hb3:Below (w.heap.size+1) W0 w3:=hb1.trans (hb3.mono (by have:=hb1.size;rw [dV.out] at this;exact this))))
 all_goals
  go_ret
  refine⟨aG ?_,HB.out _ (by first|exact hb3|exact hb1)⟩
  rw [←HG.out]
  clear f0 f1 f2 f3 f4
  repeat (first
   | rfl
   | (refine yR ?_ ?_;focus (first|assumption|omega|(simp only [*];decide)|(simp_all<;>fail)))
   | (refine val_neg ?_ ?_;focus (first|omega|(simp only [*];decide)|(simp_all<;>fail))))
structure Reg where
 name:ByteArray
 top:Int
 bm:Int
 left:Int
 width:Int
 align:Int
 bottom:Bool
def Reg.enc (x:Reg):List Si:=[.string x.name,.int .i64 x.top,.int .i64 x.bm,.int .i64 x.left,.int .i64 x.width,.int .u8 x.align,.bool x.bottom]
def i64 (n:Int):Prop:=-9223372036854775808≤n∧n≤9223372036854775807
def Reg.fits (x:Reg):Prop:=x.name.size≤4000000∧i64 x.top∧i64 x.bm∧i64 x.left∧i64 x.width∧0≤x.align∧x.align≤255
def inB (n lo hi:Int):Bool:=decide (lo≤n∧n≤hi)
theorem qe {n lo hi:Int} (h:lo≤n)(h':n≤hi):inB n lo hi=true:=by simp [inB,h,h']
theorem mR {n lo hi:Int} (h:¬ (lo≤n∧n≤hi)):inB n lo hi=false:=by unfold inB;exact decide_eq_false h
theorem xO (n lo hi:Int)(w:Sh):Sj Tryz.prog 125 #[.int .i64 n,.int .i64 lo,.int .i64 hi] w fun e w'=>e=.returned (.bool (inB n lo hi))∧w=w':=by
 by_cases h1:lo≤n
 · by_cases h2:n≤hi
   · have HI:=h_ (qe h1 h2)
     go_enter Tryz.func125,Tryz.ntmps125
     go_wp2
     go_ret
     rw [HI.out];exact⟨rfl,rfl⟩
   · have HI:=h_ (mR (n:=n) (lo:=lo) (hi:=hi) (by omega))
     have h2':decide (n≤hi)=false:=by simpa using h2
     go_enter Tryz.func125,Tryz.ntmps125
     go_wp2
     go_ret
     rw [HI.out];exact⟨rfl,rfl⟩
 · have HI:=h_ (mR (n:=n) (lo:=lo) (hi:=hi) (by omega))
   have h1':decide (lo≤n)=false:=by simpa using h1
   go_enter Tryz.func125,Tryz.ntmps125
   go_wp2
   go_ret
   rw [HI.out];exact⟨rfl,rfl⟩
def H_ (x:Reg):Bool:=inB x.top 0 14&&inB x.bm 1 (15-x.top)&&inB x.left 0 31&&inB x.width 1 (32-x.left)
def fo (x:Reg):Int:=if (!c_ x.name)=true then 5 else if (!H_ x)=true then 2 else if x.align<1∨3<x.align then 3 else 0
theorem gE (x:Reg)(w:Sh)(hf:x.fits) :
 Sj Tryz.prog 80 #[.agg x.enc.toArray] w fun e w'=>e=.returned (.int .i64 (fo x))∧Below w.heap.size w w':=by
 obtain⟨nm,top,bm,left,width,align,bottom⟩:=x
 obtain⟨hs,hT,hH,hL,hW,ha0,ha1⟩:=hf
 simp only [i64] at hs hT hH hL hW ha0 ha1
 simp only [Reg.enc]
 generalize hG:fo ⟨nm,top,bm,left,width,align,bottom⟩=G
 simp only [fo,H_] at hG
 have HG:=h_ hG
 clear hG
 rcases(show(¬ (0≤top∧top≤14))∨((0≤top∧top≤14)∧¬ (0≤left∧left≤31))∨((0≤top∧top≤14)∧(0≤left∧left≤31)) by omega) with h|⟨⟨t0,t1⟩,h⟩|⟨⟨t0,t1⟩,⟨l0,l1⟩⟩
 case' inl =>
  have i1:=mR h
 case' inr.inl =>
  have i1:=qe t0 t1
  have i3:=mR h
 case' inr.inr =>
  have i1:=qe t0 t1
  have i3:=qe l0 l1
 all_goals
  go_enter Tryz.func80,Tryz.ntmps80
  go_wp2_with (first
   | (go_at_call 78;refine(eK _ _ (by assumption)).mono ?_;rintro e w2 ⟨rfl,rfl⟩)
   | (go_at_call 125;refine(xO _ _ _ _).mono ?_;rintro e w2 ⟨rfl,rfl⟩))
  all_goals
   go_ret
   refine⟨aG ?_,(SZ _ _).alloc (Sv _) _⟩
   rw [←HG.out]
   repeat (first
    | rfl
    | (refine yR ?_ ?_;focus (first|assumption|omega|(simp only [*];decide)|(simp_all<;>fail)))
    | (refine val_neg ?_ ?_;focus (first|omega|(simp only [*];decide)|(simp_all<;>fail))))
def ah {α:Type} (k:Nat)(enc:α→List Si)(Ok:Sh→α→Prop)(w:Sh)(a:Option Addr)(xs:List α):Prop :=
 xs=[]∨∃ b off,a=some ⟨b,off,none⟩∧b<w.heap.size∧∀ i x,xs[i]? =some x→(∀ j v,(enc x)[j]? =some v→w.cell? ⟨b,off+i*k+j,none⟩=some v)∧Ok w x
def Flat {α:Type} (_:Sh)(_:α):Prop:=True
theorem ah.at_ {α:Type} {k:Nat} {enc:α→List Si} {Ok:Sh→α→Prop} {w:Sh} {a:Option Addr} {xs:List α} (h:ah k enc Ok w a xs) {i:Nat} (hi:i<xs.length) :
 ∃ b off x,a=some ⟨b,off,none⟩∧b<w.heap.size∧xs[i]? =some x∧(∀ j v,(enc x)[j]? =some v→w.cell? ⟨b,off+i*k+j,none⟩=some v)∧Ok w x:=by
 rcases h with rfl|⟨b,off,rfl,hb,hc⟩
 · simp at hi
 · have:=hc i xs[i] (SQ hi)
   exact⟨b,off,xs[i],rfl,hb,SQ hi,this.1,this.2⟩
def Keeps {α:Type} (Ok:Sh→α→Prop):Prop:=∀ (w w':Sh) (x:α),Below w.heap.size w w'→Ok w x→Ok w' x
theorem Flat.keeps {α:Type}:Keeps (Flat (α:=α)):=fun _ _ _ _ _=>trivial
theorem ah.keeps {α:Type} {k:Nat} {enc:α→List Si} {Ok:Sh→α→Prop} (hk:Keeps Ok)(w w':Sh)(a:Option Addr)(xs:List α)(hb:Below w.heap.size w w')(h:ah k enc Ok w a xs):ah k enc Ok w' a xs:=by
 rcases h with h|⟨b,off,rfl,hlt,hc⟩
 · exact .inl h
 · refine .inr ⟨b,off,rfl,Sx hlt hb.size,fun i x hx=>⟨fun j v hv=>?_,hk w w' x hb (hc i x hx).2⟩⟩
   rw [hb.cell (p:=⟨b,off+i*k+j,none⟩) hlt]
   exact(hc i x hx).1 j v hv
def Regs (w:Sh)(a:Option Addr)(xs:List Reg):Prop:=ah 7 Reg.enc Flat w a xs
theorem Regs.later {w w':Sh} {a:Option Addr} {xs:List Reg} (h:Regs w a xs)(hb:Below w.heap.size w w'):Regs w' a xs:=ah.keeps Flat.keeps w w' a xs hb h
def jB:Reg:=⟨⟨#[]⟩,11,4,0,32,2,true⟩
def gB:Reg:=⟨⟨#[]⟩,0,0,0,0,0,false⟩
theorem ko (w:Sh):Sj Tryz.prog 176 #[] w fun e w'=>e=.returned (.agg jB.enc.toArray)∧Below w.heap.size w w':=by
 simp only [jB,Reg.enc]
 go_enter Tryz.func176,Tryz.ntmps176
 go_wp2
 exact Sl (v:=.agg #[.string ⟨#[]⟩,.int .i64 11,.int .i64 4,.int .i64 0,.int .i64 32,.int .u8 2,.bool true]) (by simp [results,Tryz.results176,go_sem]) rfl ⟨rfl,(SZ _ _).alloc (Sv _) _⟩
def zS (x:Reg):Bool:=(x.name.toList==[])&&(x.top==11)&&(x.bm==4)&&(x.left==0)&&(x.width==32)&&(x.align==2)&&(x.bottom==true)
def kH (x:Reg):Bool:=zS x||fo x==0
theorem zi (x:Reg)(w:Sh):(binOp .eql 37 (.agg x.enc.toArray) (.agg jB.enc.toArray)).run Tryz.prog w=.ok (.bool (zS x)) w:=by
 simp [go_sem,Reg.enc,jB,zS]
 repeat' split
 all_goals simp_all
theorem lf (x:Reg)(w:Sh)(hf:x.fits) :
 Sj Tryz.prog 179 #[.agg x.enc.toArray] w fun e w'=>e=.returned (.bool (kH x))∧Below w.heap.size w w':=by
 have hU:kH x=(zS x||fo x==0):=rfl
 have hq:=zi x
 have hc:=fun w=>gE x w hf
 have hd:=fun w=>ko w
 obtain⟨nm,top,bm,left,width,align,bottom⟩:=x
 generalize fo ⟨nm,top,bm,left,width,align,bottom⟩=E at *
 generalize kH ⟨nm,top,bm,left,width,align,bottom⟩=U at *
 generalize hD:zS ⟨nm,top,bm,left,width,align,bottom⟩=D at *
 simp only [Reg.enc,jB] at hq hc hd ⊢
 have HC:=h_ hc;have HD:=h_ hd
 clear hc hd hf hD
 generalize hcs:#[St nm,.int .i64 top,.int .i64 bm,.int .i64 left,.int .i64 width,.int .u8 align,.bool bottom]=cs
 have f0:=ax w cs 37 0 (.string nm) (by rw [←hcs];rfl)
 have f1:=ax w cs 37 1 (.int .i64 top) (by rw [←hcs];rfl)
 have f2:=ax w cs 37 2 (.int .i64 bm) (by rw [←hcs];rfl)
 have f3:=ax w cs 37 3 (.int .i64 left) (by rw [←hcs];rfl)
 have f4:=ax w cs 37 4 (.int .i64 width) (by rw [←hcs];rfl)
 have f5:=ax w cs 37 5 (.int .u8 align) (by rw [←hcs];rfl)
 have f6:=ax w cs 37 6 (.bool bottom) (by rw [←hcs];rfl)
 have HB:=h_ (fun(w1:Sh) (h:Below (w.heap.size+1) (w.alloc (.cells cs 37)) w1)=>bK h)
 have hb0:Below (w.heap.size+1) (w.alloc (.cells cs 37)) (w.alloc (.cells cs 37)).drew:=(SZ _ _).drew
 have hsz:(w.alloc (.cells cs 37)).heap.size=w.heap.size+1:=S6 _ _
 generalize hW0:w.alloc (.cells cs 37)=W0 at *
 have HW0:=h_ hW0
 have dV:=h_ hsz
 clear hW0 hsz
 go_enter Tryz.func179,Tryz.ntmps179
 subst hcs
 go_wp2_with fail
 rw [HW0.out]
 cases D
 · cases hE:E==0
   all_goals
    rw [hE] at hU
    have HU:=h_ hU
    clear hU
    go_region_with (first
     | (go_at_call 176;refine(HD.out _).mono ?_;rintro e w1 ⟨rfl,hb1⟩;replace hb1:Below (w.heap.size+1) W0 w1:=hb0.trans (hb1.mono (by have:=hb0.size;rw [dV.out] at this;exact this)))
     | (go_at_call 80;refine(HC.out _).mono ?_;rintro e w2 ⟨rfl,hb2⟩;replace hb2:Below (w.heap.size+1) W0 w2:=hb1.trans (hb2.mono (by have:=hb1.size;rw [dV.out] at this;exact this))))
    all_goals
     go_wp2_with fail
     go_ret
     rw [HU.out]
     exact⟨rfl,HB.out _ hb2⟩
 · have HU:=h_ hU
   clear hU
   go_region_with (first
    | (go_at_call 176;refine(HD.out _).mono ?_;rintro e w1 ⟨rfl,hb1⟩;replace hb1:Below (w.heap.size+1) W0 w1:=hb0.trans (hb1.mono (by have:=hb0.size;rw [dV.out] at this;exact this))))
   all_goals
    go_wp2_with fail
    go_ret
    rw [HU.out]
    exact⟨rfl,HB.out _ hb1⟩
theorem cD {α:Type} (enc:α→List Si)(k:Nat)(hk:∀ x,(enc x).length=k):∀ (xs:List α)(i:Nat)(x:α)(j:Nat)(v:Si),xs[i]? =some x→(enc x)[j]? =some v→(xs.flatMap enc)[i*k+j]? =some v
 | [],i,x,j,v,h,_=>by simp at h
 | y::xs,0,x,j,v,h,hv=>by
   obtain rfl:y=x:=by simpa using h
   have hj:j<(enc y).length:=(SN.1 hv).1
   rw [SR,show 0*k+j=j by omega,List.getElem?_append_left hj]
   exact hv
 | y::xs,i+1,x,j,v,h,hv=>by
   have hx:xs[i]? =some x:=by simpa using h
   have:=hk y
   rw [SR,Sy,List.getElem?_append_right (by omega),show i*k+k+j-(enc y).length=i*k+j by omega]
   exact cD enc k hk xs i x j v hx hv
theorem bE {α:Type} (enc:α→List Si)(k:Nat)(hk:∀ x,(enc x).length=k):∀ xs:List α,(xs.flatMap enc).length=xs.length*k
 | []=>by simp
 | x::xs=>by rw [SR,List.length_append,hk,bE enc k hk xs,SX,Sy];omega
theorem ek {α:Type} {enc:α→List Si} (h1:∀ x,∀ v∈enc x,v.oneCell'=true)(xs:List α):∀ u∈xs.flatMap enc,u.oneCell'=true:=by
 intro u hu
 obtain⟨x,_,hx⟩:=List.mem_flatMap.1 hu
 exact h1 x u hx
theorem fG {α:Type} {k:Nat} {enc:α→List Si} {Ok:Sh→α→Prop} (hk:∀ x,(enc x).length=k) {w:Sh} {b off:Nat} {xs:List α} (h:ah k enc Ok w (some ⟨b,off,none⟩) xs)(j:Nat)(u:Si)(hu:(xs.flatMap enc)[j]? =some u):w.cell? ⟨b,off+j,none⟩=some u:=by
 have hj:j<xs.length*k:=by rw [←bE enc k hk xs];exact(SN.1 hu).1
 have hk0:0<k:=by
  rcases Nat.eq_zero_or_pos k with h0|h0
  · rw [h0] at hj;omega
  · exact h0
 have hi:j / k<xs.length:=Nat.div_lt_of_lt_mul (by rw [Sz];exact hj)
 have hm:j % k<k:=Nat.mod_lt _ hk0
 have he:j / k*k+j % k=j:=by rw [Sz];exact Nat.div_add_mod j k
 obtain⟨b',off',x,hab,_,hx,hc,_⟩:=h.at_ hi
 simp only [Option.some.injEq,Addr.mk.injEq,and_true] at hab
 obtain⟨rfl,rfl⟩:=hab
 obtain⟨u',hv⟩:∃ u',(enc x)[j % k]? =some u':=⟨_,SQ (by rw [hk];exact hm)⟩
 have:=cD enc k hk xs (j / k) x (j % k) _ hx hv
 rw [he,hu] at this
 have hc2:=hc (j % k) _ hv
 rw [show off+j / k*k+j % k=off+j by omega] at hc2
 rw [hc2,this]
theorem aA {α:Type} {k:Nat} {enc:α→List Si} {Ok:Sh→α→Prop} (hk:∀ x,(enc x).length=k) {w:Sh} {base T:Nat} {v:Si} {xs:List α} (h:w.ownsRow base T k v xs.length (xs.flatMap enc))(ho:∀ x∈xs,Ok w x):∃ a cap,v=.slice a xs.length cap∧ah k enc Ok w a xs:=by
 have h':=h
 rcases h.2 with⟨rfl,h0⟩|⟨g,cap,cur,rfl,hb,hg,_⟩
 · exact⟨none,0,by rw [h0],.inl (SU h0)⟩
 · refine⟨_,cap,rfl,.inr ⟨g,0,rfl,(S5.1 hg).1,fun i x hx=>⟨fun j v hv=>?_,ho x (SW hx)⟩⟩⟩
   have hi:i<xs.length:=(SN.1 hx).1
   have hj:j<k:=by rw [←hk x];exact(SN.1 hv).1
   have hfl:=cD enc k hk xs i x j v hx hv
   have hlen:=bE enc k hk xs
   have hb2:i*k+j<xs.length*k:=by rw [←hlen];exact(SN.1 hfl).1
   rw [show 0+i*k+j=i*k+j by omega,h'.cellAt (i*k+j) hb2]
   exact hfl
theorem dw {w:Sh} {base e size n:Nat} {v:Si} {xs:List Si} (h:w.ownsRow base e size v n xs)(hn:0<n):∃ g cap,v=.slice (some ⟨g,0,none⟩) n cap:=by
 rcases h.2 with⟨_,h0⟩|⟨g,cap,_,h1,_⟩
 · omega
 · exact⟨g,cap,h1⟩
theorem aJ {B e k n:Nat} {v:Si} {xs:List Si} {w w':Sh} (h:w.ownsRow B e k v n xs)(hb:Below w.heap.size w w'):w'.ownsRow B e k v n xs:=by
 refine⟨h.1,?_⟩
 rcases h.2 with h0|⟨g,cap,cur,h1,h2,h3,h4⟩
 · exact .inl h0
 · exact .inr ⟨g,cap,cur,h1,h2,by rw [hb.block g (S5.1 h3).1];exact h3,h4⟩
def bt {α:Type} (a:Option Addr)(xs:List α)(b:Nat):Prop:=xs≠[]∧∃ ad,a=some ad∧ad.block=b
theorem aP {α:Type} {k:Nat} {enc:α→List Si} {Ok:Sh→α→Prop} {w:Sh} {a:Option Addr} {xs:List α} (h:ah k enc Ok w a xs) {b:Nat} (hu:bt a xs b):b<w.heap.size:=by
 obtain⟨hne,ad,rfl,rfl⟩:=hu
 rcases h with h|⟨b,off,he,hlt,_⟩
 · exact absurd h hne
 · obtain rfl:=Option.some.inj he
   exact hlt
theorem ah.frame {α:Type} {k:Nat} {enc:α→List Si} {Ok:Sh→α→Prop} {w w':Sh} {a:Option Addr} {xs:List α} (h:ah k enc Ok w a xs)(hs:w.heap.size≤w'.heap.size)(hb:∀ b,bt a xs b→w'.heap[b]? =w.heap[b]?)(hok:∀ x∈xs,Ok w x→Ok w' x):ah k enc Ok w' a xs:=by
 by_cases hne:xs=[]
 · exact .inl hne
 · rcases h with h|⟨b,off,rfl,hlt,hc⟩
   · exact .inl h
   · refine .inr ⟨b,off,rfl,Sx hlt hs,fun i x hx=>⟨fun j v hv=>?_,hok x (SW hx) (hc i x hx).2⟩⟩
     rw [Sh.cell?_of_block (w:=w) (hb b ⟨hne,_,rfl,rfl⟩)]
     exact(hc i x hx).1 j v hv
def kS (nm:ByteArray):List Reg→Reg × Bool
 | []=>(gB,false)
 | x::l=>if x.name.toList==nm.toList then (x,true) else kS nm l
def kd (xs:List Reg)(nm:ByteArray):Reg × Bool:=if nm.toList=[] then (jB,true) else kS nm xs
theorem og (nm:ByteArray)(xs:List Reg)(k:Nat)(x:Reg)(hx:xs[k]? =some x)(h:(x.name.toList==nm.toList)=true):kS nm (xs.drop k)=(x,true):=by
 have hk:k<xs.length:=(SN.1 hx).1
 have e:xs[k]=x:=(SN.1 hx).2
 rw [SO hk,e,kS,if_pos h]
theorem qo (nm:ByteArray)(xs:List Reg)(k:Nat)(x:Reg)(hx:xs[k]? =some x)(h:(x.name.toList==nm.toList)=false):kS nm (xs.drop k)=kS nm (xs.drop (k+1)):=by
 have hk:k<xs.length:=(SN.1 hx).1
 have e:xs[k]=x:=(SN.1 hx).2
 rw [SO hk,e,kS,if_neg (by simp [h])]
theorem eN (w:Sh)(cs:Array Si)(t:Sp)(j:Nat)(w':Sh)(hb:Below (w.heap.size+1) (w.alloc (.cells cs t)) w'):w'.frozen? ⟨w.heap.size,j,none⟩=false:=by
 rw [hb.frozen (p:=⟨w.heap.size,j,none⟩) (by simp)]
 exact frozen_of_row _ _ j cs t (Sm w _)
def qR (r:Reg × Bool)(w:Sh)(e:Ending)(w':Sh):Prop:=e=.returned (.tuple #[.agg r.1.enc.toArray,.bool r.2])∧Below w.heap.size w w'
structure qE (b:Nat)(w:Sh):Prop where
 c0:w.cell? ⟨b,0,none⟩=some (.string ⟨#[]⟩)
 c1:w.cell? ⟨b,1,none⟩=some (.int .i64 0)
 c2:w.cell? ⟨b,2,none⟩=some (.int .i64 0)
 c3:w.cell? ⟨b,3,none⟩=some (.int .i64 0)
 c4:w.cell? ⟨b,4,none⟩=some (.int .i64 0)
 c5:w.cell? ⟨b,5,none⟩=some (.int .u8 0)
 c6:w.cell? ⟨b,6,none⟩=some (.bool false)
 z0:w.frozen? ⟨b,0,none⟩=false
 z1:w.frozen? ⟨b,1,none⟩=false
 z2:w.frozen? ⟨b,2,none⟩=false
 z3:w.frozen? ⟨b,3,none⟩=false
 z4:w.frozen? ⟨b,4,none⟩=false
 z5:w.frozen? ⟨b,5,none⟩=false
 z6:w.frozen? ⟨b,6,none⟩=false
def zeroCells:Array Si:=#[.string ⟨#[]⟩,.int .i64 0,.int .i64 0,.int .i64 0,.int .i64 0,.int .u8 0,.bool false]
theorem qE.of (w w':Sh)(hb:Below (w.heap.size+1) (w.alloc (.cells zeroCells 37)) w'):qE w.heap.size w' :=
 ⟨ax w _ _ 0 _ rfl w' hb,ax w _ _ 1 _ rfl w' hb,ax w _ _ 2 _ rfl w' hb,ax w _ _ 3 _ rfl w' hb,ax w _ _ 4 _ rfl w' hb,ax w _ _ 5 _ rfl w' hb,ax w _ _ 6 _ rfl w' hb,
  eN w _ _ 0 w' hb,eN w _ _ 1 w' hb,eN w _ _ 2 w' hb,eN w _ _ 3 w' hb,eN w _ _ 4 w' hb,eN w _ _ 5 w' hb,eN w _ _ 6 w' hb⟩
theorem iG {w w':Sh} {b:Nat} (hb:Below w.heap.size w w')(h:w.heap.size≤b)(v0 v1 v2 v3 v4 v5 v6:Si) :
 Below w.heap.size w (((((((w'.setCell ⟨b,0,none⟩ v0).setCell ⟨b,1,none⟩ v1).setCell ⟨b,2,none⟩ v2).setCell ⟨b,3,none⟩ v3).setCell ⟨b,4,none⟩ v4).setCell ⟨b,5,none⟩ v5).setCell ⟨b,6,none⟩ v6) :=
 ((((((hb.setCell h _).setCell h _).setCell h _).setCell h _).setCell h _).setCell h _).setCell h _
theorem kV {w w':Sh} {b:Nat} (hb:Below w.heap.size w w')(h:w.heap.size≤b)(v0 v1 v2 v3 v4 v5 v6:Si)(o:Obj) :
 Below w.heap.size w ((((((((w'.setCell ⟨b,0,none⟩ v0).setCell ⟨b,1,none⟩ v1).setCell ⟨b,2,none⟩ v2).setCell ⟨b,3,none⟩ v3).setCell ⟨b,4,none⟩ v4).setCell ⟨b,5,none⟩ v5).setCell ⟨b,6,none⟩ v6).alloc o) :=
 (iG hb h v0 v1 v2 v3 v4 v5 v6).alloc (iG hb h v0 v1 v2 v3 v4 v5 v6).size o
theorem AI (a:Option Addr)(cap:Nat)(xs:List Reg)(nm:ByteArray)(w:Sh)(hm:nm.toList=[]) :
 Sj Tryz.prog 113 #[.slice a xs.length cap,.string nm] w (qR (kd xs nm) w):=by
 have hF:kd xs nm=(jB,true):=by rw [kd,if_pos hm]
 rw [hF]
 have HD:=h_ (fun w=>ko w)
 clear hF
 go_enter Tryz.func113,Tryz.ntmps113
 go_wp2_with fail
 refine(HD.out _).mono ?_
 rintro e w1 ⟨rfl,hb1⟩
 rw [S6] at hb1
 obtain⟨c0,c1,c2,c3,c4,c5,c6,z0,z1,z2,z3,z4,z5,z6⟩:=qE.of w w1 hb1
 have HB:=h_ (bK hb1)
 have hlt:w.heap.size<w1.heap.size:=by have:=hb1.size;rw [S6] at this;omega
 clear hb1 HD
 simp only [jB,Reg.enc]
 go_wp2_with fail
 exact Sl (v:=.tuple #[.agg #[.string ⟨#[]⟩,.int .i64 11,.int .i64 4,.int .i64 0,.int .i64 32,.int .u8 2,.bool true],.bool true]) (by simp [results,Tryz.results113,go_sem, *]) rfl ⟨rfl,iG HB.out (Sv _) _ _ _ _ _ _ _⟩
theorem below_alloc1 {W0 wr:Sh} {B:Nat} (h:Below B W0 wr)(hB:B≤W0.heap.size)(o:Obj):Below B W0 (wr.alloc o):=h.alloc (SA hB h.size) o
theorem AH (a:Option Addr)(cap:Nat)(xs:List Reg)(nm:ByteArray)(w:Sh)(hR:Regs w a xs)(hm:¬ nm.toList=[])(hl:xs.length≤4000000) :
 Sj Tryz.prog 113 #[.slice a xs.length cap,.string nm] w (qR (kd xs nm) w):=by
 have hF:kd xs nm=kS nm xs:=by rw [kd,if_neg hm]
 rw [hF]
 generalize hG:kS nm xs=G
 have H0:=h_ (show kS nm (xs.drop 0)=G by rw [SV];exact hG)
 have hsz:(w.alloc (.cells zeroCells 37)).heap.size=w.heap.size+1:=S6 _ _
 have hme:nm.toList.isEmpty=false:=by simpa using hm
 clear hF hG
 go_enter Tryz.func113,Tryz.ntmps113
 go_wp2_with fail
 go_loopw [13] (fun i wr=>∃ k:Nat,k≤xs.length∧i=.int .i64 k∧kS nm (xs.drop k)=G∧Below (w.heap.size+1) (w.alloc (.cells zeroCells 37)) wr) (fun i _=>xs.length-(intOf i).toNat)
 case atStart=>exact⟨0,by omega,rfl,H0.out,SZ _ _⟩
 case round =>
  obtain⟨k,hk,rfl,hp,hb⟩:=hrel
  have hbw:=bK hb
  obtain⟨c0,c1,c2,c3,c4,c5,c6,z0,z1,z2,z3,z4,z5,z6⟩:=qE.of w wr hb
  have GZ:w.heap.size<wr.heap.size:=by have:=hb.size;rw [hsz] at this;omega
  by_cases hlt:k<xs.length
  · obtain⟨b,off,x,rfl,hbl,hx,hc,_⟩:=(hR.later hbw).at_ hlt
    cases he:x.name.toList==nm.toList
    · have hP:=qo nm xs k x hx he
      rw [hP] at hp
      obtain⟨xn,xt,xh,xl,xw,xa,xb⟩:=x
      have d0:=hc 0 _ rfl;have d1:=hc 1 _ rfl;have d2:=hc 2 _ rfl;have d3:=hc 3 _ rfl;have d4:=hc 4 _ rfl;have d5:=hc 5 _ rfl;have d6:=hc 6 _ rfl
      simp only [Sw] at he d0 d1 d2 d3 d4 d5 d6
      have HP:=h_ hp
      have HB:=h_ (fun o=>below_alloc1 hb (by rw [hsz];omega) o)
      clear hp hP hc hx H0 c0 c1 c2 c3 c4 c5 c6 z0 z1 z2 z3 z4 z5 z6 hsz hR hb hbw
      go_wp2_with fail
      go_roundw
      case rel=>exact⟨k+1,by omega,by go_num,HP.out,HB.out _⟩
      case measure=>simp [intOf];omega
    · have hP:=og nm xs k x hx he
      rw [hP] at hp
      obtain⟨xn,xt,xh,xl,xw,xa,xb⟩:=x
      have d0:=hc 0 _ rfl;have d1:=hc 1 _ rfl;have d2:=hc 2 _ rfl;have d3:=hc 3 _ rfl;have d4:=hc 4 _ rfl;have d5:=hc 5 _ rfl;have d6:=hc 6 _ rfl
      simp only [Sw] at he d0 d1 d2 d3 d4 d5 d6
      have HP:=h_ hp
      have HB:=h_ hbw
      clear hp hP hc hx H0 hsz hR hb hbw
      go_wp2_with fail
      exact Sl (v:=.tuple #[.agg #[.string xn,.int .i64 xt,.int .i64 xh,.int .i64 xl,.int .i64 xw,.int .u8 xa,.bool xb],.bool true]) (by simp [results,Tryz.results113,go_sem, *]) rfl
       ⟨by rw [←HP.out];rfl,kV HB.out (Sv _) _ _ _ _ _ _ _ _⟩
  · obtain rfl:k=xs.length:=by omega
    rw [SS] at hp
    have HP:=h_ hp
    have HB:=h_ hbw
    clear hp H0 hsz hR hb hbw
    go_wp2_with fail
    exact Sl (v:=.tuple #[.agg #[.string ⟨#[]⟩,.int .i64 0,.int .i64 0,.int .i64 0,.int .i64 0,.int .u8 0,.bool false],.bool false]) (by simp [results,Tryz.results113,go_sem, *]) rfl
     ⟨by rw [←HP.out];rfl,iG HB.out (Sv _) _ _ _ _ _ _ _⟩
theorem xP (a:Option Addr)(cap:Nat)(xs:List Reg)(nm:ByteArray)(w:Sh)(hR:Regs w a xs)(hl:xs.length≤4000000) :
 Sj Tryz.prog 113 #[.slice a xs.length cap,.string nm] w (qR (kd xs nm) w):=by
 by_cases hm:nm.toList=[]
 · exact AI a cap xs nm w hm
 · exact AH a cap xs nm w hR hm hl
def Ints (w:Sh)(a:Option Addr)(zs:List Int):Prop:=ah 1 (fun z=>[Su .i64 z]) Flat w a zs
theorem Ints.later {w w':Sh} {a:Option Addr} {xs:List Int} (h:Ints w a xs)(hb:Below w.heap.size w w'):Ints w' a xs:=ah.keeps Flat.keeps w w' a xs hb h
def ei (width:Int):List Int→Int
 | []=>0
 | n::l=>if n<0 then 2 else if width<n then 11 else ei width l
def eT (x:Reg)(zs:List Int):Int:=if (!kH x)=true then 1 else if x.bm<zs.length then 9 else ei x.width zs
theorem lq (width:Int)(zs:List Int)(k:Nat)(z:Int)(hz:zs[k]? =some z):ei width (zs.drop k)=if z<0 then 2 else if width<z then 11 else ei width (zs.drop (k+1)):=by
 have hk:k<zs.length:=(SN.1 hz).1
 have e:zs[k]=z:=(SN.1 hz).2
 rw [SO hk,e,ei]
theorem Tryz.info199:(Tryz.prog.info? 199).map (fun i=>(i.zero,i.size,i.bytes))=some (some (.agg #[.int .i64 0,.int .i64 0,.int .i64 0]),3,24):=by kernel_rfl
theorem ny (w:Sh)(cs:Array Si)(t:Sp):∀ j u,cs.toList[j]? =some u→(w.alloc (.cells cs t)).cell? ((⟨w.heap.size,0,none⟩:Addr).add j)=some u:=by
 intro j u hu
 have hadd:(⟨w.heap.size,0,none⟩:Addr).add j=⟨w.heap.size,j,none⟩:=by unfold Addr.add;split<;>simp_all
 rw [hadd,cell_of_row _ _ j cs t (0,0) (Sm w _)]
 simpa using hu
theorem aY {P:Program} (w:Sh)(cs:Array Si) {ops:Array Oper} {rest:List Oper} {o:Oper} {a:Act} {Q:Exit→Act→Sh→Prop} (hgd:o.guard=none)(s x:Operand)(t:Sp)
 (ho:o.op=.call { callee:=.builtin .append,args:=#[s,x],argTypes:=#[t,t] })
 (base:Nat) (e:Sp) (i:TypeInfo) (z:Si) (size bytes:Nat) (ht:P.underlying t=some (.slice e)) (hi:P.info? e=some i) (hz:i.zero=some z)
 (hsize:i.size=size) (hby:i.bytes=bytes) (hzs:z.cells.size=size) (hsz:0<size)
 (v:Si) (n:Nat) (xs:List Si) (hs:a.eval s=v) (hown:w.ownsRow base e size v n xs) (g:Nat) (hx:a.eval x=.slice (some ⟨g,0,none⟩) 1 1) (hg:g=w.heap.size)
 (hcs:cs.size=size) (h1:∀ u∈cs.toList,u.oneCell'=true) (h63:n+1≤maxLen) (hbytes:(n+1)*bytes≤140737488355328) (hbase:base≤w.heap.size)
 (h:∀ v' w2,w2.ownsRow base e size v' (n+1) (xs++cs.toList)→(w.alloc (.cells cs e)).grownBy w2 v.ownBlock→wpList P ops Q rest (a.put o.dst v') w2):wpList P ops Q (o::rest) a (w.alloc (.cells cs e)):=by
 subst hg
 refine wpList_append_own _ hgd s x t ho base e i z size bytes ht hi hz hsize hby hzs hsz v n xs hs (hown.alloc _) ⟨w.heap.size,0,none⟩ 1 1 cs.toList hx (by simpa using hcs) (ny w cs e) h1 h63 hbytes (by simp;omega) ?_
 intro v' w2 h2 h3 _
 exact h v' w2 h2 h3
def nF (E:Int)(w:Sh)(e:Ending)(w':Sh):Prop:=∃ v,e=.returned (.tuple #[v,.int .i64 E])∧Below w.heap.size w w'
theorem gD {k:IntKind} {v:Si} {a b:Int} (h:a=b):Ending.returned (.tuple #[v,.int k a])=.returned (.tuple #[v,.int k b]):=by rw [h]
def vr (b:Nat)(W0:Sh)(k:Nat)(v:Si)(wr:Sh):Prop:=(∃ xs,wr.ownsRow b 199 3 v k xs)∧Below b W0 wr
theorem vr.step {b k:Nat} {W0 wr w2:Sh} {v v':Si} {o o':Obj} {xs:List Si} (h:vr b W0 k v wr)(hW:b≤W0.heap.size)(hown:w2.ownsRow b 199 3 v' (k+1) xs)
 (hg:((wr.alloc o).alloc o').grownBy w2 v.ownBlock):vr b W0 (k+1) v' w2:=by
 obtain⟨⟨ys,ho⟩,hb⟩:=h
 have h1:b≤wr.heap.size:=SA hW hb.size
 exact⟨⟨xs,hown⟩,((hb.alloc h1 o).alloc (by simp;omega) o').grown hg (by simp;omega) (fun j hj=>(ho.lt j hj).1)⟩
theorem ud (x:Reg)(a:Option Addr)(cap:Nat)(zs:List Int)(w:Sh)(hf:x.fits)(hI:Ints w a zs)(hl:zs.length≤4000000)(hB:x.bottom=false) :
 Sj Tryz.prog 116 #[.agg x.enc.toArray,.slice a zs.length cap] w (nF (eT x zs) w):=by
 have hU:=fun w=>lf x w hf
 generalize hG:eT x zs=G
 unfold eT at hG
 obtain⟨nm,top,bm,left,width,align,bottom⟩:=x
 obtain⟨_,hT,hH,hL,hW,ha0,ha1⟩:=hf
 simp only [i64] at hT hH hL hW ha0 ha1
 simp only at hB
 subst hB
 generalize kH ⟨nm,top,bm,left,width,align,false⟩=U at *
 simp only [Reg.enc] at hU hG ⊢
 have HU:=h_ hU
 have HG:=h_ hG
 clear hU hG
 rcases(show U=false∨(U=true∧bm<zs.length∧decide (bm<(zs.length:Int))=true)∨(U=true∧zs.length≤bm∧decide (bm<(zs.length:Int))=false) by cases U<;>simp<;>omega) with rfl|⟨rfl,hlh,hld⟩|⟨rfl,hlh,hld⟩
 all_goals
  generalize hcs:#[St nm,.int .i64 top,.int .i64 bm,.int .i64 left,.int .i64 width,.int .u8 align,.bool false]=cs
  have f0:=ax w cs 37 0 (.string nm) (by rw [←hcs];rfl)
  have f1:=ax w cs 37 1 (.int .i64 top) (by rw [←hcs];rfl)
  have f2:=ax w cs 37 2 (.int .i64 bm) (by rw [←hcs];rfl)
  have f3:=ax w cs 37 3 (.int .i64 left) (by rw [←hcs];rfl)
  have f4:=ax w cs 37 4 (.int .i64 width) (by rw [←hcs];rfl)
  have f5:=ax w cs 37 5 (.int .u8 align) (by rw [←hcs];rfl)
  have f6:=ax w cs 37 6 (.bool false) (by rw [←hcs];rfl)
  have HB:=h_ (fun(w1:Sh) (h:Below (w.heap.size+1) (w.alloc (.cells cs 37)) w1)=>bK h)
  have hb0:Below (w.heap.size+1) (w.alloc (.cells cs 37)) (w.alloc (.cells cs 37)):=SZ _ _
  have hsz:(w.alloc (.cells cs 37)).heap.size=w.heap.size+1:=S6 _ _
  generalize hW0:w.alloc (.cells cs 37)=W0 at *
  have HW0:=h_ hW0
  have dV:=h_ hsz
  clear hW0 hsz
  go_enter Tryz.func116,Tryz.ntmps116
  subst hcs
  go_wp2_with fail
  rw [HW0.out]
  refine(HU.out _).mono ?_
  rintro e w1 ⟨rfl,hb1⟩
  rw [dV.out] at hb1
  clear HW0
  go_wp2_with fail
 · go_ret2
   exact⟨.slice none 0 0,gD (by rw [←HG.out,if_pos (by decide)]),HB.out _ hb1⟩
 · go_ret2
   exact⟨.slice none 0 0,gD (by rw [←HG.out,if_neg (by decide),if_pos hlh]),HB.out _ hb1⟩
 · obtain⟨i0,hi,hz0,hz1,hz2⟩:=Sn Tryz.info199
   have HI:=h_ hi;have H0:=h_ hz0;have H1:=h_ hz1;have H2:=h_ hz2
   clear hi hz0 hz1 hz2
   have hp0:ei width (zs.drop 0)=G:=by
    rw [SV,←HG.out,if_neg (by decide),if_neg (by omega)]
   have Fx:=h_ hp0
   clear hp0 HG
   go_loopw [7,34] (fun v i wr=>∃ k:Nat,k≤zs.length∧i=.int .i64 k∧ei width (zs.drop k)=G∧vr (w.heap.size+1) W0 k v wr) (fun _ i _=>zs.length-(intOf i).toNat)
   case atStart=>exact⟨0,by omega,rfl,Fx.out,⟨[],S7 _ _ _ _⟩,hb1⟩
   case round =>
    obtain⟨k,hk,rfl,hp,Cy⟩:=hrel
    have hbr:=Cy.2
    have GZ:w.heap.size<wr.heap.size:=by have:=hbr.size;rw [dV.out] at this;omega
    by_cases hlt:k<zs.length
    · obtain⟨b,off,z,rfl,hbl,hz,hc,_⟩:=(hI.later (HB.out _ hbr)).at_ hlt
      have d0:=hc 0 _ rfl
      simp only [Sw,SB] at d0
      rw [lq width zs k z hz] at hp
      have HP:=h_ hp
      clear hp hc hz Fx hI
      rcases(show z<0∨(0≤z∧width<z)∨(0≤z∧z≤width) by omega) with h|⟨h,h'⟩|⟨h,h'⟩
      · go_wp2_with fail
        go_ret2
        exact⟨.slice none 0 0,gD (by rw [←HP.out,if_pos h]),HB.out _ hbr⟩
      · go_wp2_with fail
        go_ret2
        exact⟨.slice none 0 0,gD (by rw [←HP.out,if_neg (by omega),if_pos h']),HB.out _ hbr⟩
      · rw [if_neg (by omega),if_neg (by omega)] at HP
        have hal:(align=3∨align=2∨((align==3)=false∧(align==2)=false)):=by
         by_cases h3:align=3
         · exact .inl h3
         · by_cases h2:align=2
           · exact .inr (.inl h2)
           · exact .inr (.inr ⟨by simpa using h3,by simpa using h2⟩)
        rcases hal with rfl|rfl|⟨e3,e2⟩
        all_goals
         obtain⟨xs,hown⟩:=Cy.1
         go_wp2_with (at_builtin;refine aY _ _ rfl (.tmp 75) (.tmp 77) 159 rfl (w.heap.size+1) 199 i0 _ 3 24 Tryz.underlying159 HI.out H0.out H1.out H2.out rfl (by decide) _ _ _ rfl (hown.alloc _) _ rfl (by simp) rfl ?h1 ?h63 ?hb ?hbase ?_)
         case h1=>exact⟨rfl,rfl,rfl⟩
         case h63=>unfold maxLen;omega
         case hb=>omega
         case hbase=>simp;omega
         intro v' w2 hown' hgrow
         have R:=vr.step Cy (by rw [dV.out];omega) hown' hgrow
         clear hown' hgrow Cy hown
         go_wp2_with fail
         go_roundw
         case rel=>exact⟨k+1,by omega,by go_num,HP.out,R⟩
         case measure=>simp [intOf];omega
    · obtain rfl:k=zs.length:=by omega
      rw [SS] at hp
      have HP:=h_ hp
      clear hp Fx
      go_wp2_with fail
      go_ret2
      exact⟨_,gD (by rw [←HP.out];rfl),HB.out _ hbr⟩
theorem wV (x:Reg)(a:Option Addr)(cap:Nat)(zs:List Int)(w:Sh)(hf:x.fits)(hI:Ints w a zs)(hl:zs.length≤4000000)(hB:x.bottom=true) :
 Sj Tryz.prog 116 #[.agg x.enc.toArray,.slice a zs.length cap] w (nF (eT x zs) w):=by
 have hU:=fun w=>lf x w hf
 generalize hG:eT x zs=G
 unfold eT at hG
 obtain⟨nm,top,bm,left,width,align,bottom⟩:=x
 obtain⟨_,hT,hH,hL,hW,ha0,ha1⟩:=hf
 simp only [i64] at hT hH hL hW ha0 ha1
 simp only at hB
 subst hB
 generalize kH ⟨nm,top,bm,left,width,align,true⟩=U at *
 simp only [Reg.enc] at hU hG ⊢
 have HU:=h_ hU
 have HG:=h_ hG
 clear hU hG
 rcases(show U=false∨(U=true∧bm<zs.length∧decide (bm<(zs.length:Int))=true)∨(U=true∧zs.length≤bm∧decide (bm<(zs.length:Int))=false) by cases U<;>simp<;>omega) with rfl|⟨rfl,hlh,hld⟩|⟨rfl,hlh,hld⟩
 all_goals
  generalize hcs:#[St nm,.int .i64 top,.int .i64 bm,.int .i64 left,.int .i64 width,.int .u8 align,.bool true]=cs
  have f0:=ax w cs 37 0 (.string nm) (by rw [←hcs];rfl)
  have f1:=ax w cs 37 1 (.int .i64 top) (by rw [←hcs];rfl)
  have f2:=ax w cs 37 2 (.int .i64 bm) (by rw [←hcs];rfl)
  have f3:=ax w cs 37 3 (.int .i64 left) (by rw [←hcs];rfl)
  have f4:=ax w cs 37 4 (.int .i64 width) (by rw [←hcs];rfl)
  have f5:=ax w cs 37 5 (.int .u8 align) (by rw [←hcs];rfl)
  have f6:=ax w cs 37 6 (.bool true) (by rw [←hcs];rfl)
  have HB:=h_ (fun(w1:Sh) (h:Below (w.heap.size+1) (w.alloc (.cells cs 37)) w1)=>bK h)
  have hb0:Below (w.heap.size+1) (w.alloc (.cells cs 37)) (w.alloc (.cells cs 37)):=SZ _ _
  have hsz:(w.alloc (.cells cs 37)).heap.size=w.heap.size+1:=S6 _ _
  generalize hW0:w.alloc (.cells cs 37)=W0 at *
  have HW0:=h_ hW0
  have dV:=h_ hsz
  clear hW0 hsz
  go_enter Tryz.func116,Tryz.ntmps116
  subst hcs
  go_wp2_with fail
  rw [HW0.out]
  refine(HU.out _).mono ?_
  rintro e w1 ⟨rfl,hb1⟩
  rw [dV.out] at hb1
  clear HW0
  go_wp2_with fail
 · go_ret2
   exact⟨.slice none 0 0,gD (by rw [←HG.out,if_pos (by decide)]),HB.out _ hb1⟩
 · go_ret2
   exact⟨.slice none 0 0,gD (by rw [←HG.out,if_neg (by decide),if_pos hlh]),HB.out _ hb1⟩
 · obtain⟨i0,hi,hz0,hz1,hz2⟩:=Sn Tryz.info199
   have HI:=h_ hi;have H0:=h_ hz0;have H1:=h_ hz1;have H2:=h_ hz2
   clear hi hz0 hz1 hz2
   have hp0:ei width (zs.drop 0)=G:=by
    rw [SV,←HG.out,if_neg (by decide),if_neg (by omega)]
   have Fx:=h_ hp0
   clear hp0 HG
   go_loopw [7,34] (fun v i wr=>∃ k:Nat,k≤zs.length∧i=.int .i64 k∧ei width (zs.drop k)=G∧vr (w.heap.size+1) W0 k v wr) (fun _ i _=>zs.length-(intOf i).toNat)
   case atStart=>exact⟨0,by omega,rfl,Fx.out,⟨[],S7 _ _ _ _⟩,hb1⟩
   case round =>
    obtain⟨k,hk,rfl,hp,Cy⟩:=hrel
    have hbr:=Cy.2
    have GZ:w.heap.size<wr.heap.size:=by have:=hbr.size;rw [dV.out] at this;omega
    by_cases hlt:k<zs.length
    · obtain⟨b,off,z,rfl,hbl,hz,hc,_⟩:=(hI.later (HB.out _ hbr)).at_ hlt
      have d0:=hc 0 _ rfl
      simp only [Sw,SB] at d0
      rw [lq width zs k z hz] at hp
      have HP:=h_ hp
      clear hp hc hz Fx hI
      rcases(show z<0∨(0≤z∧width<z)∨(0≤z∧z≤width) by omega) with h|⟨h,h'⟩|⟨h,h'⟩
      · go_wp2_with fail
        go_ret2
        exact⟨.slice none 0 0,gD (by rw [←HP.out,if_pos h]),HB.out _ hbr⟩
      · go_wp2_with fail
        go_ret2
        exact⟨.slice none 0 0,gD (by rw [←HP.out,if_neg (by omega),if_pos h']),HB.out _ hbr⟩
      · rw [if_neg (by omega),if_neg (by omega)] at HP
        have hal:(align=3∨align=2∨((align==3)=false∧(align==2)=false)):=by
         by_cases h3:align=3
         · exact .inl h3
         · by_cases h2:align=2
           · exact .inr (.inl h2)
           · exact .inr (.inr ⟨by simpa using h3,by simpa using h2⟩)
        rcases hal with rfl|rfl|⟨e3,e2⟩
        all_goals
         obtain⟨xs,hown⟩:=Cy.1
         go_wp2_with (at_builtin;refine aY _ _ rfl (.tmp 75) (.tmp 77) 159 rfl (w.heap.size+1) 199 i0 _ 3 24 Tryz.underlying159 HI.out H0.out H1.out H2.out rfl (by decide) _ _ _ rfl (hown.alloc _) _ rfl (by simp) rfl ?h1 ?h63 ?hb ?hbase ?_)
         case h1=>exact⟨rfl,rfl,rfl⟩
         case h63=>unfold maxLen;omega
         case hb=>omega
         case hbase=>simp;omega
         intro v' w2 hown' hgrow
         have R:=vr.step Cy (by rw [dV.out];omega) hown' hgrow
         clear hown' hgrow Cy hown
         go_wp2_with fail
         go_roundw
         case rel=>exact⟨k+1,by omega,by go_num,HP.out,R⟩
         case measure=>simp [intOf];omega
    · obtain rfl:k=zs.length:=by omega
      rw [SS] at hp
      have HP:=h_ hp
      clear hp Fx
      go_wp2_with fail
      go_ret2
      exact⟨_,gD (by rw [←HP.out];rfl),HB.out _ hbr⟩
theorem lp (x:Reg)(a:Option Addr)(cap:Nat)(zs:List Int)(w:Sh)(hf:x.fits)(hI:Ints w a zs)(hl:zs.length≤4000000) :
 Sj Tryz.prog 116 #[.agg x.enc.toArray,.slice a zs.length cap] w (nF (eT x zs) w):=by
 cases hB:x.bottom
 · exact ud x a cap zs w hf hI hl hB
 · exact wV x a cap zs w hf hI hl hB
end Go.Proofs.YtjebaagkomejaaaGreatDoor
