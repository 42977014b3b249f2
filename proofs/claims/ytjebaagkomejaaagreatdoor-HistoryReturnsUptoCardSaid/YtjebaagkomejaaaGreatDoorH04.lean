/- slices.SortStableFunc at events: a permutation of what the row held, ascending. The contracts of style.Valid, alike and Len: what they return for any runs and rows. -/
import Derived.StillTailTactics
import Derived.Test.YtjebaagkomejaaaGreatDoorH02
set_option linter.unusedVariables false
set_option linter.unusedSimpArgs false
set_option maxRecDepth 100000
set_option maxHeartbeats 12800000
open Go.Lib renaming hid→h_
open Go.Sort renaming insertionSort→Sh,insertionSort_holds→Si,permIn_trans→Sj,permIn_mono→Sk
open Nat renaming le_refl→Sl,add_zero→Sm,mul_one→Sn
open Go renaming World→Sp,Value→Sq,Calls→Sr,heap_alloc_last→Ss
open Go.RowKit.Below renaming refl→St
open List renaming mem_of_getElem?→Su,getElem?_eq_getElem→Sv,drop_length→Sw,getElem?_eq_some_iff→Sx,take_length→Sy,eq_nil_of_length_eq_zero→Sz,drop_zero→SA
open Go.World renaming size_alloc→SB,cell?_alloc_lt→SC,ownsRow_nil→SD
open Go.Lib renaming allEq→SF,byteCells→SG,IsBuilder→SH,BuilderAt→SI,allEq_len→SJ,strCells→SK
open Array renaming getElem?_eq_some_iff→SL
namespace Go.Proofs.YtjebaagkomejaaaGreatDoor
open Go.Shelf Go.RowKit Go.Lib Go.Sort
variable {P:Program} {α:Type} [Inhabited α]
theorem Ec {lt:α→α→Bool} (hO:SWO lt) {d dk:Array α} {x bs:Nat} (hds:dk.size=d.size)(hb:x+bs≤d.size)(hP:PermIn 0 d.size d dk)(hpre:Pre lt bs dk x) :
 PermIn 0 d.size d (Sh lt dk x (x+bs))∧Pre lt bs (Sh lt dk x (x+bs)) (x+bs)∧(Sh lt dk x (x+bs)).size=d.size:=by
 obtain⟨h1,h2⟩:=Si (lt:=lt) hO dk x (x+bs) (by omega) (by omega)
 refine⟨Sj _ _ _ _ _ hP (Sk _ _ x (x+bs) 0 d.size (by omega) hb (by omega) h1),.snoc x (hpre.congr fun i hi=>h1.2.1 i (by omega)) h2,h1.1.trans hds⟩
theorem Ee {lt:α→α→Bool} (hO:SWO lt) {d dk:Array α} {x bs:Nat} (hds:dk.size=d.size)(hx:x≤d.size)(hb:d.size<x+bs)(hP:PermIn 0 d.size d dk)(hpre:Pre lt bs dk x) :
 PermIn 0 d.size d (Sh lt dk x d.size)∧Blk lt bs d.size (Sh lt dk x d.size) 0∧(Sh lt dk x d.size).size=d.size:=by
 obtain⟨h1,h2⟩:=Si (lt:=lt) hO dk x d.size hx (by omega)
 refine⟨Sj _ _ _ _ _ hP (Sk _ _ x d.size 0 d.size (by omega) (Sl _) (by omega) h1),(hpre.congr fun i hi=>h1.2.1 i (by omega)).join (.go x (SortedIn.part h2 (Sl _) (by omega)) (.stop _ (by omega))),h1.1.trans hds⟩
theorem DK {lt:α→α→Bool} {d dk d2:Array α} {x bs:Nat} (hds:dk.size=d.size)(hb:x+2*bs≤d.size)(hP:PermIn 0 d.size d dk)(hpre:Pre lt (2*bs) dk x)(hblk:Blk lt bs d.size dk x)(h1:PermIn x (x+2*bs) dk d2)(h2:SortedIn lt x (x+2*bs) d2) :
 PermIn 0 d.size d d2∧Pre lt (2*bs) d2 (x+2*bs)∧Blk lt bs d.size d2 (x+2*bs):=by
 refine⟨Sj _ _ _ _ _ hP (Sk _ _ x (x+2*bs) 0 d.size (by omega) hb (by omega) h1),.snoc x (hpre.congr fun i hi=>h1.2.1 i (by omega)) h2,?_⟩
 have:=hblk.tail.tail
 rw [show x+bs+bs=x+2*bs by omega] at this
 exact this.congr fun i hi=>h1.2.1 i (by omega)
theorem vu {lt:α→α→Bool} {dk:Array α} {x bs n:Nat} (hb:x+2*bs≤n)(hblk:Blk lt bs n dk x):SortedIn lt x (x+bs) dk∧SortedIn lt (x+bs) (x+2*bs) dk :=
 ⟨SortedIn.part hblk.head (Sl _) (by omega),SortedIn.part hblk.tail.head (Sl _) (by omega)⟩
theorem ry {lt:α→α→Bool} {dk:Array α} {x bs n:Nat} (h1:x+bs<n)(hb:n<x+2*bs)(hblk:Blk lt bs n dk x):SortedIn lt x (x+bs) dk∧SortedIn lt (x+bs) n dk :=
 ⟨SortedIn.part hblk.head (Sl _) (by omega),SortedIn.part hblk.tail.head (Sl _) (by omega)⟩
theorem yU {lt:α→α→Bool} {d dk d2:Array α} {x bs:Nat} (hds:dk.size=d.size)(hx:x≤d.size)(hb:d.size<x+2*bs)(hP:PermIn 0 d.size d dk)(hpre:Pre lt (2*bs) dk x)(h1:PermIn x d.size dk d2)(h2:SortedIn lt x d.size d2) :
 PermIn 0 d.size d d2∧Blk lt (2*bs) d.size d2 0 :=
 ⟨Sj _ _ _ _ _ hP (Sk _ _ x d.size 0 d.size (by omega) (Sl _) (by omega) h1),(hpre.congr fun i hi=>h1.2.1 i (by omega)).join (.go x (SortedIn.part h2 (Sl _) (by omega)) (.stop _ (by omega)))⟩
theorem ur {ρ:Ren} (L:SlLaysF0.n20 P ρ)(k:Nat)(aE:∀ w,(isAgg (ρ.t 24)).run P w=.ok true w)(zE:∀ w,(Go.sizeOf (ρ.t 24)).run P w=.ok k w)(enc:α→List Sq)(cf:α→α→Int)(g:Nat)(cb:Array Sq)(blk off cap a b:Nat)(d0 d:Array α)(w0 w:Sp)
 (eg:∀ args w,(callFunc g args).run P w=.ok (.enter g args) w) (hcmp:CmpLays P g cb enc k cf blk off d0.size w0) (R:RowK enc k w0 blk off d0) (hs:d0.size=d.size) (S:SWK enc k w0 blk off d w) (hO:SWO (ltOf cf)) (hab:a≤b) (hb:b≤d.size) (hsz:d.size<4611686018427387904) :
 Sr P (ρ.f 20) #[.slice (some ⟨blk,off,none⟩) d.size cap,.int .i64 a,.int .i64 b,.func (.func g) #[] cb] w fun e w'=>e=.returned (.tuple #[])∧SWK enc k w0 blk off (Sh (ltOf cf) d a b) w':=by
 have hs':(Sh (ltOf cf) d a b).size=d.size:=(Si hO d a b hab hb).1.1
 have hC:CmpLays P g cb enc k cf blk off d.size w:=fun m os dk hdk x y=>by
  obtain⟨n0,os0,rfl⟩:=S
  rw [sortWorldK_on enc k w0 blk off n0 m d dk os0 os R.hblk hdk]
  exact hcmp _ _ dk (by omega) x y
 refine(AnyQ.insertionSortCmpFunc L k aE zE enc R.hk R.h1 cf g cb blk off cap a b d w eg hC (S.holds R.hblk R.hH hs.symm) (S.lt R.hblk) hab hb hsz).mono ?_
 rintro e w' ⟨rfl,n,os,rfl⟩
 exact⟨rfl,S.on R.hblk n _ os hs'⟩
end Go.Proofs.YtjebaagkomejaaaGreatDoor
namespace Go.Proofs.YtjebaagkomejaaaGreatDoor
open Go.RowKit
structure Run where
 text:ByteArray
 color:Int
 it:Bool
 un:Bool
 ruby:ByteArray
def Run.enc (x:Run):List Sq:=[.string x.text,.int .u8 x.color,.bool x.it,.bool x.un,.string x.ruby]
def Run.fits (x:Run):Prop:=x.text.size≤4000000∧x.ruby.size≤4000000∧0≤x.color∧x.color≤255
structure Row where
 at_:Option Addr
 cap:Nat
 runs:List Run
def Row.enc (r:Row):List Sq:=[.slice r.at_ r.runs.length r.cap]
def Runs (w:Sp)(a:Option Addr)(xs:List Run):Prop:=ah 5 Run.enc Flat w a xs
theorem Runs.later {w w':Sp} {a:Option Addr} {xs:List Run} (h:Runs w a xs)(hb:Below w.heap.size w w'):Runs w' a xs:=ah.keeps Flat.keeps w w' a xs hb h
def Row.lies (w:Sp)(r:Row):Prop:=Runs w r.at_ r.runs
theorem Row.keeps:Keeps Row.lies:=fun w w' r hb h=>Runs.later h hb
def cC:List Run→Nat
 | []=>0
 | x::l=>x.text.size+cC l
def Row.fits (r:Row):Prop:=(∀ x∈r.runs,x.fits)∧r.runs.length≤4000000∧cC r.runs≤4000000
theorem cu (c:Int)(i u:Bool)(w:Sp):Sr Tryz.prog 77 #[.agg #[.int .u8 c,.bool i,.bool u]] w fun e w'=>e=.returned (.bool (decide (c≤6)))∧Below w.heap.size w w':=by
 go_enter Tryz.func77,Tryz.ntmps77
 go_wp2
 go_ret
 exact⟨rfl,(St _ _).alloc (Sl _) _⟩
def eB (a b:Run):Bool:=(a.color==b.color&&a.it==b.it&&a.un==b.un)&&(a.ruby.toList.isEmpty&&b.ruby.toList.isEmpty)
theorem wO (c d:Int)(i u j v:Bool)(w:Sp):(binOp .eql 34 (.agg #[.int .u8 c,.bool i,.bool u]) (.agg #[.int .u8 d,.bool j,.bool v])).run Tryz.prog w=.ok (.bool (c==d&&i==j&&u==v)) w:=by
 simp [go_sem]
 repeat' split
 all_goals simp_all
theorem nC (a b:Run)(w:Sp):Sr Tryz.prog 183 #[.agg a.enc.toArray,.agg b.enc.toArray] w fun e w'=>e=.returned (.bool (eB a b))∧Below w.heap.size w w':=by
 have hA:eB a b=((a.color==b.color&&a.it==b.it&&a.un==b.un)&&(a.ruby.toList.isEmpty&&b.ruby.toList.isEmpty)):=rfl
 have hq:=wO a.color b.color a.it a.un b.it b.un
 obtain⟨t,c,i,u,r⟩:=a
 obtain⟨t',c',i',u',r'⟩:=b
 simp only at hA hq
 simp only [Run.enc]
 generalize eB ⟨t,c,i,u,r⟩ ⟨t',c',i',u',r'⟩=A at *
 generalize (c==c'&&i==i'&&u==u')=S at *
 have hb:∀ o o',Below w.heap.size w ((w.alloc o).alloc o'):=fun o o'=>((St _ _).alloc (Sl _) _).alloc (by simp) _
 cases S
 · rw [Bool.false_and] at hA
   have HA:=h_ hA
   clear hA
   go_enter Tryz.func183,Tryz.ntmps183
   go_wp2
   go_ret
   rw [HA.out]
   exact⟨rfl,hb _ _⟩
 · rw [Bool.true_and] at hA
   by_cases h1:r.toList=[]
   · have h1':r.toList.isEmpty=true:=by simpa using h1
     rw [h1',Bool.true_and] at hA
     by_cases h2:r'.toList=[]
     · have h2':r'.toList.isEmpty=true:=by simpa using h2
       rw [h2'] at hA
       have HA:=h_ hA
       clear hA
       go_enter Tryz.func183,Tryz.ntmps183
       go_wp2
       go_ret
       rw [HA.out]
       exact⟨rfl,hb _ _⟩
     · have h2':r'.toList.isEmpty=false:=by simpa using h2
       rw [h2'] at hA
       have HA:=h_ hA
       clear hA
       go_enter Tryz.func183,Tryz.ntmps183
       go_wp2
       go_ret
       rw [HA.out]
       exact⟨rfl,hb _ _⟩
   · have h1':r.toList.isEmpty=false:=by simpa using h1
     rw [h1',Bool.false_and] at hA
     have HA:=h_ hA
     clear hA
     go_enter Tryz.func183,Tryz.ntmps183
     go_wp2
     go_ret
     rw [HA.out]
     exact⟨rfl,hb _ _⟩
theorem eG (s:ByteArray):∀ b pos,(cZ s b pos).length≤b
 | 0,_=>by simp [cZ]
 | b+1,pos=>by
   simp only [cZ]
   split
   · have:=eG s b (pos+(Utf8.decode s pos).2)
     rw [List.length_cons];omega
   · simp
theorem mN (s:ByteArray):-1≤lenB s∧lenB s≤s.size:=by
 unfold lenB
 have:=eG s s.size 0
 split
 · unfold runes;omega
 · omega
def cT:List Run→Int→Int
 | [],acc=>acc
 | x::l,acc=>if lenB x.text<0 then -1 else cT l (acc+lenB x.text)
def rowLen (runs:List Run):Int:=cT runs 0
theorem ch {α:Type} (xs:List α)(k:Nat)(x:α)(hx:xs[k]? =some x):xs.drop k=x::xs.drop (k+1):=by
 have hk:k<xs.length:=(Sx.1 hx).1
 have e:xs[k]=x:=(Sx.1 hx).2
 rw [List.drop_eq_getElem_cons hk,e]
theorem eO {w wr w1:Sp} (hb:Below w.heap.size w wr)(o:Obj)(h1:Below (wr.heap.size+1) (wr.alloc o) w1):Below w.heap.size w w1 :=
 (hb.alloc hb.size o).trans (h1.mono (by have:=hb.size;omega))
theorem eX (r:Row)(w:Sp)(hE:Env w)(hr:r.lies w)(hf:r.fits) :
 Sr Tryz.prog 88 #[.agg r.enc.toArray] w fun e w'=>e=.returned (.int .i64 (rowLen r.runs))∧Below w.heap.size w w':=by
 obtain⟨a,cap,xs⟩:=r
 obtain⟨hfx,hl,hsum⟩:=hf
 simp only [Row.lies] at hr
 simp only [Row.enc] at *
 generalize hG:rowLen xs=G
 have H0:=h_ (show cT (xs.drop 0) 0=G by rw [SA];exact hG)
 have hs0:0+cC (xs.drop 0)≤4000000:=by simpa using hsum
 clear hG
 go_enter Tryz.func88,Tryz.ntmps88
 go_wp2_with fail
 go_loopw [3,10] (fun s i wr=>∃ (k acc:Nat),k≤xs.length∧i=.int .i64 k∧s=.int .i64 acc∧cT (xs.drop k) acc=G∧acc+cC (xs.drop k)≤4000000∧Below w.heap.size w wr) (fun _ i _=>xs.length-(intOf i).toNat)
 case atStart=>exact⟨0,0,by omega,rfl,rfl,H0.out,hs0,(St _ _).alloc (Sl _) _⟩
 case round =>
  obtain⟨k,acc,hk,rfl,rfl,hp,hs,hb⟩:=hrel
  by_cases hlt:k<xs.length
  · obtain⟨b,off,x,rfl,hbl,hx,hc,_⟩:=(hr.later hb).at_ hlt
    have hft:=hfx x (Su hx)
    rw [ch xs k x hx] at hp hs
    simp only [cT] at hp
    simp only [cC] at hs
    have hll:=mN x.text
    have HL:=h_ (fun w1 (h:Env w1)=>se x.text w1 hft.1 h)
    have HE:=h_ (fun w1 (h:Below w.heap.size w w1)=>hE.below h (Sl _))
    have Mq:=fun o=>hb.alloc hb.size o
    have HB:=h_ (fun o w1 h1=>eO (w1:=w1) hb o h1)
    obtain⟨t,c,i,u,ru⟩:=x
    have d0:=hc 0 _ rfl;have d1:=hc 1 _ rfl;have d2:=hc 2 _ rfl;have d3:=hc 3 _ rfl;have d4:=hc 4 _ rfl
    simp only [Sm] at d0 d1 d2 d3 d4 hp hs HL hll
    have HP:=h_ hp
    have Ng:=h_ Mq
    clear hp hc hx H0 hr Mq hfx hft
    generalize hL:lenB t=L at *
    clear hL
    obtain⟨l0,l1⟩:=hll
    by_cases hneg:L<0
    · go_wp2_with (go_at_call 135;refine(HL.out _ (HE.out _ (Ng.out _))).mono ?_;rintro e w1 ⟨rfl,hb1⟩;simp only [SB] at hb1)
      go_ret
      exact⟨aG (by rw [←HP.out,if_pos hneg]),HB.out _ _ hb1⟩
    · have hnn:0≤L:=by omega
      go_wp2_with (go_at_call 135;refine(HL.out _ (HE.out _ (Ng.out _))).mono ?_;rintro e w1 ⟨rfl,hb1⟩;simp only [SB] at hb1)
      have hq:=HP.out
      rw [if_neg (by omega)] at hq
      have HQ:=h_ hq
      clear hq HP
      obtain⟨m,rfl⟩:=Int.eq_ofNat_of_zero_le hnn
      go_roundw
      case rel=>exact⟨k+1,acc+m,by omega,by go_num,by go_num,by have:=HQ.out;simpa using this,by omega,HB.out _ _ hb1⟩
      case measure=>simp [intOf];omega
  · obtain rfl:k=xs.length:=by omega
    rw [Sw] at hp
    have HP:=h_ hp
    clear hp H0
    go_wp2_with fail
    go_ret
    exact⟨aG (by rw [←HP.out];rfl),hb⟩
def iM:List Run→List UInt8
 | []=>[]
 | x::l=>x.text.data.toList++iM l
def plain (runs:List Run):ByteArray:=⟨(iM runs).toArray⟩
theorem gY:∀ l,(iM l).length=cC l
 | []=>rfl
 | x::l=>by simp [iM,cC,gY l]
theorem oE (l:List UInt8)(s:ByteArray):SG l++SK s=SG (l++s.data.toList):=by
 rw [Lib.byteCells_append,Lib.strCells_eq]
theorem qD {B b:Nat} {bs:List Sq} {w:Sp} (h:SH 232 5 B b bs w)(o:Obj):SH 232 5 B b bs (w.alloc o):=by
 have key:∀ p,SI 232 5 B b p bs w→SI 232 5 B b p bs (w.alloc o):=by
  rintro p ⟨hB,v,hb,hown,hne⟩
  have hlt:b<w.heap.size:=(SL.1 hb).1
  exact⟨hB,v,(Below.heap_alloc w o b hlt).trans hb,hown.alloc o,hne⟩
 rcases h with h|h
 · exact .inl (key _ h)
 · exact .inr (key _ h)
theorem vf (w:Sp):SH 232 5 w.heap.size w.heap.size (SG []) (w.alloc (.cells #[.pointer none,.slice none 0 0] 232)) :=
 .inl ⟨Sl _,.slice none 0 0,Ss w _,SD _ _ _ _,by simp [Sq.ownBlock]⟩
def kA (xs:List Run)(w:Sp)(B k:Nat)(wr:Sp):Prop :=
 ∃ done,done++iM (xs.drop k)=iM xs∧SH 232 5 B B (SG done) wr∧Below B w wr
theorem kA.size {xs:List Run} {w:Sp} {B k:Nat} {wr:Sp} (h:kA xs w B k wr):B<wr.heap.size:=by
 obtain⟨done,_,hb,_⟩:=h
 rcases hb with⟨_,v,hb,_⟩|⟨_,v,hb,_⟩
 · exact(SL.1 hb).1
 · exact(SL.1 hb).1
theorem mF (r:Row)(w:Sp)(hr:r.lies w)(hf:r.fits) :
 Sr Tryz.prog 177 #[.agg r.enc.toArray] w fun e w'=>e=.returned (.string (plain r.runs))∧Below w.heap.size w w':=by
 obtain⟨a,cap,xs⟩:=r
 obtain⟨hfx,hl,hsum⟩:=hf
 simp only [Row.lies] at hr
 simp only [Row.enc] at *
 have hpl:(iM xs).length≤4000000:=by rw [gY];exact hsum
 have Dv:=h_ hpl
 go_enter Tryz.func177,Tryz.ntmps177
 go_wp2_with fail
 have hst:∀ o,kA xs (w.alloc o) (w.heap.size+1) 0 ((w.alloc o).alloc (.cells #[.pointer none,.slice none 0 0] 232)):=fun o=>by
  have h1:=vf (w.alloc o)
  rw [SB] at h1
  exact⟨[],by rw [SA,List.nil_append],h1,(St _ _).alloc (by simp) _⟩
 have HST:=h_ hst
 clear hst hpl hsum
 go_loopw [9] (fun i wr=>∃ k:Nat,k≤xs.length∧i=.int .i64 k∧kA xs (w.alloc (.cells #[.slice a xs.length cap] 75)) (w.heap.size+1) k wr) (fun i _=>xs.length-(intOf i).toNat)
 case atStart=>exact⟨0,by omega,rfl,HST.out _⟩
 case round =>
  obtain⟨k,hk,rfl,hP⟩:=hrel
  have hsz:=hP.size
  obtain⟨done,hd,hB,hbel⟩:=hP
  have hbw:=bK hbel
  by_cases hlt:k<xs.length
  · obtain⟨b,off,x,rfl,hbl,hx,hc,_⟩:=(hr.later hbw).at_ hlt
    rw [ch xs k x hx] at hd
    simp only [iM] at hd
    obtain⟨t,c,i,u,ru⟩:=x
    have d0:=hc 0 _ rfl;have d1:=hc 1 _ rfl;have d2:=hc 2 _ rfl;have d3:=hc 3 _ rfl;have d4:=hc 4 _ rfl
    simp only [Sm] at d0 d1 d2 d3 d4 hd
    have hlen:(SG done).length+t.size≤140737488355328:=by
     have h1:=congrArg List.length hd
     have h2:=Dv.out
     simp only [List.length_append,Array.length_toList,ByteArray.size_data] at h1
     rw [Lib.byteCells_length]
     omega
    have HW:=h_ (fun o=>kG (w.heap.size+1) (w.heap.size+1) (SG done) t (wr.alloc o) (qD hB o) hlen (by simp;omega))
    have HR:=h_ (fun(o:Obj) (w1:Sp) (h1:SI 232 5 (w.heap.size+1) (w.heap.size+1) (.pointer (some ⟨w.heap.size+1,0,none⟩)) (SG done++SK t) w1) (h2:Below (w.heap.size+1) (wr.alloc o) w1) =>
     (show kA xs (w.alloc (.cells #[.slice (some ⟨b,off,none⟩) xs.length cap] 75)) (w.heap.size+1) (k+1) w1 from
      ⟨done++t.data.toList,by rw [List.append_assoc];exact hd,.inr (by rw [←oE];exact h1),(hbel.alloc (by omega) o).trans h2⟩))
    clear hc hx hr hd hB hbel hlen hfx
    go_wp2_with (go_at_call 219;refine(HW.out _).mono ?_;rintro e w1 ⟨rfl,h1,h2⟩)
    have hR:=HR.out _ _ h1 h2
    go_roundw
    case rel=>exact⟨k+1,by omega,by go_num,hR⟩
    case measure=>simp [intOf];omega
  · obtain rfl:k=xs.length:=by omega
    rw [Sw] at hd
    simp only [iM,List.append_nil] at hd
    have HW:=h_ (Tryz.Builder_String_any (w.heap.size+1) (w.heap.size+1) done wr hB (by omega))
    have HB:=h_ (fun w1 (h:Below (w.heap.size+1) wr w1)=>hbw.trans (h.mono (by omega)))
    have HD:=h_ hd
    clear hd hB hbel hr hfx
    go_wp2_with (go_at_call 220;refine HW.out.mono ?_;rintro e w1 ⟨rfl,h1⟩)
    go_ret
    exact⟨by rw [HD.out];rfl,HB.out _ h1⟩
def jx (x:Run):Int:=if (!bB x.text)=true then 10 else if x.text.toList=[] then 4 else if ¬ x.color≤6 then 12 else if (!bB x.ruby)=true then 10 else 0
def fJ (prev:Option Run)(x:Run):Int:=if (jx x != 0)=true then jx x else match prev with
 | none=>0
 | some p=>if eB p x=true then 8 else 0
def eP:Option Run→List Run→Int
 | _,[]=>0
 | prev,x::l=>if (fJ prev x != 0)=true then fJ prev x else eP (some x) l
def gi (runs:List Run):Int:=if 16<runs.length then 9 else eP none runs
def dD (xs:List Run):Nat→Option Run
 | 0=>none
 | k+1=>xs[k]?
theorem pN (xs:List Run)(k:Nat)(x:Run)(hx:xs[k]? =some x)(prev:Option Run)(h:fJ prev x=0):eP prev (xs.drop k)=eP (dD xs (k+1)) (xs.drop (k+1)):=by
 rw [ch xs k x hx,eP,h]
 simp [dD,hx]
theorem pM (xs:List Run)(k:Nat)(x:Run)(hx:xs[k]? =some x)(prev:Option Run)(h:(fJ prev x != 0)=true):eP prev (xs.drop k)=fJ prev x:=by
 rw [ch xs k x hx,eP,if_pos h]
theorem pP (r:Row)(w:Sp)(hn:16<r.runs.length) :
 Sr Tryz.prog 126 #[.agg r.enc.toArray] w fun e w'=>e=.returned (.int .i64 (gi r.runs))∧Below w.heap.size w w':=by
 rw [gi,if_pos hn]
 have hn':(16:Int)<(r.runs.length:Int):=by omega
 simp only [Row.enc]
 go_enter Tryz.func126,Tryz.ntmps126
 go_wp2_with fail
 go_ret
 exact⟨rfl,(St _ _).alloc (Sl _) _⟩
theorem zj (x:Run):(bB x.text=false∧jx x=10)∨(bB x.text=true∧x.text.toList=[]∧jx x=4)∨(bB x.text=true∧¬ x.text.toList=[]∧¬ x.color≤6∧jx x=12) ∨
 (bB x.text=true∧¬ x.text.toList=[]∧x.color≤6∧bB x.ruby=false∧jx x=10)∨(bB x.text=true∧¬ x.text.toList=[]∧x.color≤6∧bB x.ruby=true∧jx x=0):=by
 unfold jx
 cases h1:bB x.text<;>by_cases h2:x.text.toList=[]<;>by_cases h3:x.color≤6<;>cases h4:bB x.ruby<;>simp [h2,h3]
def cL (a b:Int):Bool:=decide (0≤a∧a<b∧b≤5184000)
theorem tL (a b:Int)(w:Sp):Sr Tryz.prog 114 #[.agg #[.int .i64 a,.int .i64 b]] w fun e w'=>e=.returned (.bool (cL a b))∧Below w.heap.size w w':=by
 rcases(show a<0∨(0≤a∧b≤a)∨(0≤a∧a<b∧5184000<b)∨(0≤a∧a<b∧b≤5184000) by omega) with h|⟨h1,h2⟩|⟨h1,h2,h3⟩|⟨h1,h2,h3⟩
 · have HS:=h_ (show cL a b=false by simp [cL];omega)
   have h':decide (0≤a)=false:=by simp;omega
   go_enter Tryz.func114,Tryz.ntmps114
   go_wp2
   go_ret
   rw [HS.out];exact⟨rfl,(St _ _).alloc (Sl _) _⟩
 · have HS:=h_ (show cL a b=false by simp [cL];omega)
   have h':decide (a<b)=false:=by simp;omega
   go_enter Tryz.func114,Tryz.ntmps114
   go_wp2
   go_ret
   rw [HS.out];exact⟨rfl,(St _ _).alloc (Sl _) _⟩
 · have HS:=h_ (show cL a b=false by simp [cL];omega)
   have h':decide (b≤5184000)=false:=by simp;omega
   go_enter Tryz.func114,Tryz.ntmps114
   go_wp2
   go_ret
   rw [HS.out];exact⟨rfl,(St _ _).alloc (Sl _) _⟩
 · have HS:=h_ (show cL a b=true by simp [cL];omega)
   go_enter Tryz.func114,Tryz.ntmps114
   go_wp2
   go_ret
   rw [HS.out];exact⟨rfl,(St _ _).alloc (Sl _) _⟩
def kindName (k:Int):ByteArray:=if k=1 then ⟨#[68,73,65,76,79,71,85,69]⟩ else if k=2 then ⟨#[83,79,85,78,68]⟩ else if k=3 then ⟨#[84,73,84,76,69]⟩ else if k=4 then ⟨#[77,85,83,73,67]⟩ else ⟨#[]⟩
theorem jz (k:Int)(w:Sp)(h0:0≤k)(h1:k≤255):Sr Tryz.prog 76 #[.int .u8 k] w fun e w'=>e=.returned (.string (kindName k))∧Below w.heap.size w w':=by
 rcases(show k<1∨4<k∨k=1∨k=2∨k=3∨k=4 by omega) with h|h|rfl|rfl|rfl|rfl
 · have HK:=h_ (show kindName k=⟨#[]⟩ by unfold kindName;repeat rw [if_neg (by omega)])
   go_enter Tryz.func76,Tryz.ntmps76
   go_wp2
   go_ret
   rw [HK.out];exact⟨rfl,St _ _⟩
 · have HK:=h_ (show kindName k=⟨#[]⟩ by unfold kindName;repeat rw [if_neg (by omega)])
   go_enter Tryz.func76,Tryz.ntmps76
   go_wp2
   go_ret
   rw [HK.out];exact⟨rfl,St _ _⟩
 all_goals
  go_enter Tryz.func76,Tryz.ntmps76
  go_wp2
  go_ret
  exact⟨rfl,(St _ _).alloc (Sl _) _⟩
structure Ev where
 id:Int
 inn:Int
 out:Int
 region:ByteArray
 kind:Int
 speaker:ByteArray
 at_:Option Addr
 cap:Nat
 rows:List Row
def Ev.enc (x:Ev):List Sq:=[.int .i64 x.id,.int .i64 x.inn,.int .i64 x.out,.string x.region,.int .u8 x.kind,.string x.speaker,.slice x.at_ x.rows.length x.cap]
def bN (w:Sp)(a:Option Addr)(xs:List Row):Prop:=ah 1 Row.enc Row.lies w a xs
theorem bN.later {w w':Sp} {a:Option Addr} {xs:List Row} (h:bN w a xs)(hb:Below w.heap.size w w'):bN w' a xs:=ah.keeps Row.keeps w w' a xs hb h
def Ev.lies (w:Sp)(x:Ev):Prop:=bN w x.at_ x.rows
theorem Ev.keeps:Keeps Ev.lies:=fun w w' r hb h=>bN.later h hb
def Ev.fits (x:Ev):Prop:=i64 x.id∧i64 x.inn∧i64 x.out∧x.region.size≤4000000∧0≤x.kind∧x.kind≤255∧x.speaker.size≤4000000∧(∀ r∈x.rows,r.fits)∧x.rows.length≤4000000
def da (rows:List Row):List Int:=rows.map fun r=>rowLen r.runs
def fO (rows:List Row):Nat→List Int
 | 0=>[]
 | k+1=>fO rows k++[rowLen ((rows[k]?.map Row.runs).getD [])]
theorem j6 (rows:List Row):∀ k,(fO rows k).length=k
 | 0=>rfl
 | k+1=>by simp [fO,j6 rows k]
theorem mI (rows:List Row):∀ k,k≤rows.length→fO rows k=(rows.take k).map fun r=>rowLen r.runs
 | 0,_=>by simp [fO]
 | k+1,h=>by
   rw [fO,mI rows k (by omega),List.take_succ_eq_append_getElem (by omega),List.map_append]
   simp [Sv (show k<rows.length by omega)]
theorem xm (rows:List Row):fO rows rows.length=da rows:=by
 rw [mI rows _ (Sl _),Sy];rfl
theorem zL (rows:List Row)(k:Nat)(r:Row)(h:rows[k]? =some r):fO rows (k+1)=fO rows k++[rowLen r.runs]:=by
 rw [fO,h];rfl
theorem Tryz.info3:(Tryz.prog.info? 3).map (fun i=>(i.zero,i.size,i.bytes))=some (some (.int .i64 0),1,8):=by kernel_rfl
theorem zD {w w':Sp} {B base e size n:Nat} {v:Sq} {xs:List Sq} (h:w.ownsRow base e size v n xs)(hb:Below B w w')(hB:w.heap.size≤B):w'.ownsRow base e size v n xs:=by
 refine⟨h.1,?_⟩
 rcases h.2 with hn|⟨g,cap,cur,e1,hbase,hgg,rest⟩
 · exact .inl hn
 · refine .inr ⟨g,cap,cur,e1,hbase,?_,rest⟩
   rw [hb.block g (Nat.lt_of_lt_of_le (SL.1 hgg).1 hB)]
   exact hgg
theorem Ints.of_owns {w:Sp} {base e:Nat} {v:Sq} {zs:List Int} (h:w.ownsRow base e 1 v zs.length (zs.map (Sq.int .i64))):∃ a cap,v=.slice a zs.length cap∧Ints w a zs:=by
 have h':=h
 rcases h.2 with⟨rfl,h0⟩|⟨g,cap,cur,rfl,hb,hg,_⟩
 · exact⟨none,0,by rw [h0],.inl (by cases zs<;>simp_all)⟩
 · refine⟨_,cap,rfl,.inr ⟨g,0,rfl,(SL.1 hg).1,fun i z hz=>⟨fun j v hv=>?_,trivial⟩⟩⟩
   have hi:i<zs.length:=(Sx.1 hz).1
   match j,hv with
   | 0,hv =>
     simp at hv
     subst hv
     rw [show 0+i*1+0=i by omega,h'.cellAt i (by omega)]
     simp [hz]
def A5 (rows:List Row)(w:Sp)(k:Nat)(v:Sq)(wr:Sp):Prop :=
 wr.ownsRow w.heap.size 3 1 v (fO rows k).length ((fO rows k).map (Sq.int .i64))∧Below w.heap.size w wr
def wh (rows:List Row)(w:Sp)(e:Ending)(w':Sp):Prop:=∃ a c,e=.returned (.slice a rows.length c)∧Ints w' a (da rows)∧Below w.heap.size w w'
theorem B5 {xs:List Row} {w wr:Sp} {v:Sq} (hown:wr.ownsRow w.heap.size 3 1 v (fO xs xs.length).length ((fO xs xs.length).map (Sq.int .i64)))(hb:Below w.heap.size w wr):wh xs w (.returned v) wr:=by
 rw [xm] at hown
 obtain⟨a',c',rfl,hI⟩:=Ints.of_owns hown
 exact⟨a',c',by simp [da],hI,hb⟩
theorem oX (x:Ev)(w:Sp)(hE:Env w)(hr:x.lies w)(hf:x.fits) :
 Sr Tryz.prog 117 #[.agg x.enc.toArray] w (wh x.rows w):=by
 obtain⟨id,inn,out,region,kind,speaker,a,cap,xs⟩:=x
 obtain⟨_,_,_,_,_,_,_,hfx,hl⟩:=hf
 simp only [Ev.lies] at hr hfx hl
 simp only [Ev.enc]
 obtain⟨j0,hj,hy0,hy1,hy2⟩:=info_parts Tryz.info3
 have JI:=h_ hj;have J0:=h_ hy0;have J1:=h_ hy1;have J2:=h_ hy2
 clear hj hy0 hy1 hy2
 go_enter Tryz.func117,Tryz.ntmps117
 go_wp2_with fail
 go_loopw [3,9] (fun v i wr=>∃ k:Nat,k≤xs.length∧i=.int .i64 k∧A5 xs w k v wr) (fun _ i _=>xs.length-(intOf i).toNat)
 case atStart=>exact⟨0,by omega,rfl,SD _ _ _ _,(St _ _).alloc (Sl _) _⟩
 case round =>
  obtain⟨k,hk,rfl,hown,hb⟩:=hrel
  by_cases hlt:k<xs.length
  · obtain⟨b,off,r,rfl,hbl,hx,hc,hok⟩:=(hr.later hb).at_ hlt
    have hfr:=hfx r (Su hx)
    have HL:=h_ (fun w1 h1 h2=>eX r w1 h1 h2 hfr)
    have hat:=zL xs k r hx
    obtain⟨ra,rc,rr⟩:=r
    simp only [Row.enc,Row.lies] at HL hok hat
    have d0:=hc 0 _ rfl
    simp only [Sm,Sn] at d0
    have hbs:=hb.size
    have HE:=h_ (fun o=>hE.below (hb.alloc hb.size o) (Sl _))
    have lM:=h_ (fun o=>hok.later ((St wr.heap.size wr).alloc (Sl _) o))
    have HO:=h_ (fun(o:Obj) (w1:Sp) (h1:Below (wr.heap.size+1) (wr.alloc o) w1)=>zD (hown.alloc o) h1 (by simp))
    have HB:=h_ (fun(o:Obj) (w1:Sp) (h1:Below (wr.heap.size+1) (wr.alloc o) w1)=>eO hb o h1)
    have HAT:=h_ hat
    have hlk:(fO xs k).length≤4000000:=by rw [j6];omega
    generalize rowLen rr=L at *
    clear hc hx hr hown hfx hfr hat hok
    go_wp2_with (first
     | (go_at_call 88;refine(HL.out _ (HE.out _) (lM.out _)).mono ?_;rintro e w1 ⟨rfl,hb1⟩;simp only [SB] at hb1;have ho1:=h_ (HO.out _ _ hb1);have hbw:=HB.out _ _ hb1;have hbz:=hbw.size)
     | (at_builtin;refine aY _ _ rfl (.tmp 13) (.tmp 16) 162 rfl w.heap.size 3 j0 _ 1 8 Tryz.underlying162 JI.out J0.out J1.out J2.out rfl (by decide) _ _ _ rfl ho1.out _ rfl rfl rfl ?h1 ?h63 ?hb ?hbase ?_))
    case h1=>first|rfl|(intro u hu;simp at hu;subst hu;rfl)
    case h63=>unfold maxLen;omega
    case hb=>omega
    case hbase=>exact hbz
    intro v' w2 hown' hgrow
    have R:A5 xs w (k+1) v' w2:=by
     refine⟨?_,(hbw.alloc hbw.size _).grown hgrow (by simp;omega) (fun j hj=>(ho1.out.lt j hj).1)⟩
     rw [HAT.out]
     simpa using hown'
    clear hown' hgrow ho1
    go_wp2_with fail
    go_roundw
    case rel=>exact⟨k+1,by omega,by go_num,R⟩
    case measure=>simp [intOf];omega
  · obtain rfl:k=xs.length:=by omega
    have LR:=h_ (B5 hown hb)
    clear hown
    go_wp2_with fail
    go_ret
    exact LR.out
end Go.Proofs.YtjebaagkomejaaaGreatDoor
namespace Go.Proofs.YtjebaagkomejaaaGreatDoor
open Go.RowKit Go.Maps
def bL {α:Type} (xs:List α):Nat→Option α
 | 0=>none
 | k+1=>xs[k]?
theorem Dk:Keyed Tryz.prog 2:=int_keyed Tryz.underlying2
theorem J8 (w:Sp):(zeroValue 3).run Tryz.prog w=.ok (.int .i64 0) w:=by kernel_rfl
theorem isKey (z:Int):WideAt.IsKeyLit (.int .i64 z):=trivial
theorem wf64 {z:Int} (h:i64 z):(Lit.int .i64 z).wf=true:=WalkArith.wf_i64 h
theorem key2 {z:Int} (h:i64 z):keyOf Tryz.prog 2 (.int .i64 z)=some (.int .i64 z):=keyOf_int_mk Tryz.underlying2 (wf64 h)
theorem ay {P:Program} (w:Sp) {ops:Array Oper} {rest:List Oper} {o:Oper} {a:Act} {Q:Exit→Act→Sp→Prop}
 (hg:o.guard=none) (m x:Operand) (t:TypeId) (c:Bool) (hop:o.op=Op.lookup t m x c) (mv key v:Sq) (hm:a.eval m=mv) (hx:a.eval x=key)
 (hrun:(Instr.lookup t mv key c).run P w=.ok v w) (hK:wpList P ops Q rest (a.put o.dst v) w):wpList P ops Q (o::rest) a w:=by
 refine wpList_plain hg fun K' hK'=>?_
 unfold Oper.wp
 simp [execOp,hop,hm,hx,hrun,Result.andThen]
 exact hK' _ _ hK
def IMap (w:Sp)(b n:Nat)(f:Int→Option Nat):Prop:=∃ D:DataW Unit,w.ownsMap Tryz.prog 2 (plainElem Tryz.prog 3) b n D ∧
 ∀ z,Maps.has D (.int .i64 z)=(f z).isSome∧D.atKey (.int .i64 z) (.lit (.int .i64 0))=.lit (.int .i64 ((f z).getD 0:Nat))
theorem IMap.made (w:Sp):IMap (w.alloc (.map #[] 0)) w.heap.size 0 (fun _=>none) :=
 ⟨_,Sp.ownsMap_made _ _ _ _,fun z=>⟨rfl,rfl⟩⟩
theorem IMap.lt {w:Sp} {b n:Nat} {f:Int→Option Nat} (h:IMap w b n f):b<w.heap.size:=by
 obtain⟨D,h,_⟩:=h;exact h.lt
theorem pU {H:Type} {P:Program} {k:TypeId} {R:Sq→Option (DataW H × List MemPlace)} {w w':Sp} {b n B:Nat} {D:DataW H} (h:w.ownsMap P k R b n D)(hb:Below B w w')(hB:b<B):w'.ownsMap P k R b n D:=by
 obtain⟨es,clock,h1,r⟩:=h
 exact⟨es,clock,(hb.block b hB).trans h1,r⟩
theorem IMap.below {w w':Sp} {b n B:Nat} {f:Int→Option Nat} (h:IMap w b n f)(hb:Below B w w')(hB:b<B):IMap w' b n f:=by
 obtain⟨D,h,r⟩:=h
 exact⟨D,pU h hb hB,r⟩
theorem IMap.look {w:Sp} {b n:Nat} {f:Int→Option Nat} (h:IMap w b n f) {z:Int} (hz:i64 z) :
 (Instr.lookup 111 (.map (some b)) (.int .i64 z) true).run Tryz.prog w=.ok (.tuple #[.int .i64 ((f z).getD 0:Nat),.bool (f z).isSome]) w:=by
 obtain⟨D,h,r⟩:=h
 obtain⟨v,ps,hrun,hv⟩:=h.look_ok Dk Tryz.underlying111 (J8 w) (plainElem_int Tryz.underlying3 (by decide)) (key2 hz)
 rw [(r z).2] at hv
 obtain⟨c,rfl,hc,_⟩:=plainElem_int_inv Tryz.underlying3 hv
 simp only [Prod.mk.injEq,DataW.lit.injEq,Lit.int.injEq,true_and] at hc
 rw [hrun,(r z).1,←hc.1]
theorem IMap.put {w:Sp} {b n:Nat} {f:Int→Option Nat} (h:IMap w b n f) {z:Int} (hz:i64 z)(hn:n<maxLen)(v:Nat)(hv:i64 v) :
 ∃ w',(Instr.mapUpdate 111 (.map (some b)) (.int .i64 z) (.int .i64 v)).run Tryz.prog w=.ok () w'∧IMap w' b (n+1) (fun y=>if y=z then some v else f y)∧w.grownBy w' (some b):=by
 obtain⟨D,h,r⟩:=h
 obtain⟨w',h1,h2,h3⟩:=h.update Dk Tryz.underlying111 hn (key2 hz) (plainElem_int Tryz.underlying3 (wf64 hv))
 refine⟨w',h1,⟨_,h2,fun y=>?_⟩,h3⟩
 by_cases hy:y=z
 · subst hy
   simp only [if_true]
   exact⟨has_put_same h.isMap (isKey _) _,atKey_put_same h.isMap (isKey _) _ _⟩
 · simp only [if_neg hy]
   have hne:Lit.int .i64 y≠Lit.int .i64 z:=by simpa using hy
   rw [has_put_other hne,atKey_put_other hne]
   exact r y
end Go.Proofs.YtjebaagkomejaaaGreatDoor
namespace Go.Proofs.YtjebaagkomejaaaGreatDoor
open Go.RowKit
def kJ (a b:Run):Bool:=a.text.toList==b.text.toList&&(a.color==b.color&&a.it==b.it&&a.un==b.un)&&a.ruby.toList==b.ruby.toList
def pO (a b:Row):Bool:=SF kJ a.runs b.runs
def fK (a b:List Row):Bool:=SF pO a b
instance:Inhabited Run:=⟨⟨⟨#[]⟩,0,false,false,⟨#[]⟩⟩⟩
instance:Inhabited Row:=⟨⟨none,0,[]⟩⟩
theorem jN {α:Type} [Inhabited α] (xs:List α)(j:Nat)(h:j<xs.length):xs[j]? =some xs[j]!:=by
 rw [Sv h,getElem!_pos xs j h]
theorem y_ (x y:Run)(w:Sp):(binOp .neq 77 (.agg x.enc.toArray) (.agg y.enc.toArray)).run Tryz.prog w=.ok (.bool (!kJ x y)) w:=by
 simp [go_sem,Run.enc,kJ]
 repeat' split
 all_goals simp_all
theorem Kc:Go.Proofs.NeqAt Tryz.prog 77 (fun x=>.agg (Run.enc x).toArray) kJ:=⟨y_,Go.Proofs.GuardAt.agg (fun x=>(Run.enc x).toArray) (by kernel_rfl)⟩
theorem sL (a a':Option Addr)(n m c c':Nat)(w:Sp)(h:¬ n=m):Sr Tryz.prog 196 #[.slice a n c,.slice a' m c'] w fun e w'=>e=.returned (.bool false)∧w=w':=by
 have h1:(n != m)=true:=by simpa using h
 have h2:((n:Int) != (m:Int))=true:=by simp;omega
 go_enter Tryz.func196,Tryz.ntmps196
 go_wp2_with fail
 go_ret
 exact⟨rfl,rfl⟩
theorem ki (a a':Option Addr)(c c':Nat)(w:Sp):Sr Tryz.prog 196 #[.slice a 0 c,.slice a' 0 c'] w fun e w'=>e=.returned (.bool true)∧w=w':=by
 go_enter Tryz.func196,Tryz.ntmps196
 go_wp2_with fail
 refine wp_loop_rounds 1 ?_
 rw [rounds_succ]
 go_wp2_with fail
 go_ret
 exact⟨rfl,rfl⟩
theorem nB {α:Type} (eq:α→α→Bool):SF eq [] []=true:=by rw [SF]
theorem om (a a':Option Addr)(c c':Nat)(xs ys:List Run)(w:Sp)(h:Runs w a xs)(h':Runs w a' ys)(hl:xs.length≤4000000)(hl':ys.length≤4000000) :
 Sr Tryz.prog 196 #[.slice a xs.length c,.slice a' ys.length c'] w fun e w'=>e=.returned (.bool (SF kJ xs ys))∧Below w.heap.size w w':=by
 by_cases hn:xs.length=ys.length
 · rcases h with rfl|⟨b,off,rfl,hb,hc⟩
   · obtain rfl:ys=[]:=Sz hn.symm
     rw [nB]
     exact(ki a a' c c' w).mono fun e w' ⟨he,hw⟩=>⟨he,hw▸St _ _⟩
   · rcases h' with rfl|⟨b',off',rfl,hb',hc'⟩
     · obtain rfl:xs=[]:=Sz hn
       rw [nB]
       exact(ki _ a' c c' w).mono fun e w' ⟨he,hw⟩=>⟨he,hw▸St _ _⟩
     · have h:=Tryz.slices_Equal_f196 5 (fun w=>by kernel_rfl) (fun w=>by kernel_rfl) Run.enc (fun _=>rfl) kJ Kc b off xs.length c b' off' ys.length c' xs ys w (Sl _) (Sl _) (by omega) (by omega)
        (fun j hj i v hv=>(hc j _ (jN xs j hj)).1 i v hv) (fun j hj i v hv=>(hc' j _ (jN ys j hj)).1 i v hv)
       rw [Sy,Sy] at h
       exact h.mono fun e w' ⟨he,q,hw⟩=>⟨he,hw▸below_drewN (St _ _) q⟩
 · rw [SJ kJ xs ys hn]
   exact(sL a a' _ _ c c' w hn).mono fun e w' ⟨he,hw⟩=>⟨he,hw▸St _ _⟩
theorem wM (r s:Row)(w:Sp)(h:r.lies w)(h':s.lies w)(hl:r.runs.length≤4000000)(hl':s.runs.length≤4000000) :
 Sr Tryz.prog 147 #[.agg r.enc.toArray,.agg s.enc.toArray] w fun e w'=>e=.returned (.bool (pO r s))∧Below w.heap.size w w':=by
 have hb2:∀ o o',Below w.heap.size w ((w.alloc o).alloc o'):=fun o o'=>((St _ _).alloc (Sl _) _).alloc (by simp) _
 have HC:=h_ (fun o o'=>om r.at_ s.at_ r.cap s.cap r.runs s.runs ((w.alloc o).alloc o') (h.later (hb2 o o')) (h'.later (hb2 o o')) hl hl')
 have HB:=h_ (fun o o' w1 (h1:Below ((w.alloc o).alloc o').heap.size ((w.alloc o).alloc o') w1)=>(hb2 o o').trans (h1.mono (by simp;omega)))
 unfold pO
 obtain⟨ra,rc,rr⟩:=r
 obtain⟨sa,sc,ss⟩:=s
 simp only [Row.enc] at HC ⊢
 generalize SF kJ rr ss=G at *
 clear hb2
 go_enter Tryz.func147,Tryz.ntmps147
 go_wp2_with fail
 refine(HC.out _ _).mono ?_
 rintro e w1 ⟨rfl,hb⟩
 have hb':=HB.out _ _ _ hb
 clear hb
 go_wp2_with fail
 go_ret
 exact⟨rfl,hb'⟩
theorem AQ (a a':Option Addr)(n m c c':Nat)(v:Sq)(w:Sp)(h:¬ n=m):Sr Tryz.prog 146 #[.slice a n c,.slice a' m c',v] w fun e w'=>e=.returned (.bool false)∧w=w':=by
 have h1:(n != m)=true:=by simpa using h
 have h2:((n:Int) != (m:Int))=true:=by simp;omega
 go_enter Tryz.func146,Tryz.ntmps146
 go_wp2_with fail
 go_ret
 exact⟨rfl,rfl⟩
theorem CN {α:Type} (eq:α→α→Bool)(xs ys:List α)(k:Nat)(x y:α)(hx:xs[k]? =some x)(hy:ys[k]? =some y):SF eq (xs.drop k) (ys.drop k)=(eq x y&&SF eq (xs.drop (k+1)) (ys.drop (k+1))):=by
 rw [ch xs k x hx,ch ys k y hy,SF]
def qI (w:Sp)(a:Option Addr)(xs:List Row):Prop:=ah 1 Row.enc Row.lies w a xs
theorem uP (a a':Option Addr)(c c':Nat)(xs ys:List Row)(w:Sp)(h:qI w a xs)(h':qI w a' ys)(hf:∀ r∈xs,r.runs.length≤4000000)(hf':∀ r∈ys,r.runs.length≤4000000)(hl:xs.length≤4000000)(hn:xs.length=ys.length) :
 Sr Tryz.prog 146 #[.slice a xs.length c,.slice a' ys.length c',.func (.func 147) #[] #[]] w fun e w'=>e=.returned (.bool (fK xs ys))∧Below w.heap.size w w':=by
 generalize hG:fK xs ys=G
 have H0:=h_ (show SF pO (xs.drop 0) (ys.drop 0)=G from hG)
 have MX:=h_ hn
 rw [←hn]
 clear hG hn
 have h1:((xs.length:Int) != (xs.length:Int))=false:=by simp
 go_enter Tryz.func146,Tryz.ntmps146
 go_wp2_with fail
 go_loopw [17] (fun i wr=>∃ k:Nat,k≤xs.length∧i=.int .i64 k∧SF pO (xs.drop k) (ys.drop k)=G∧Below w.heap.size w wr) (fun i _=>xs.length-(intOf i).toNat)
 case atStart=>exact⟨0,by omega,rfl,H0.out,St _ _⟩
 case round =>
  obtain⟨k,hk,rfl,hp,hb⟩:=hrel
  by_cases hlt:k<xs.length
  · obtain⟨b,off,r,rfl,hbl,hx,hc,hok⟩:=(ah.keeps Row.keeps _ _ _ _ hb h).at_ hlt
    obtain⟨b',off',s,rfl,As,hy,hc',hok'⟩:=(ah.keeps Row.keeps _ _ _ _ hb h').at_ (show k<ys.length by rw [←MX.out];exact hlt)
    rw [CN pO xs ys k r s hx hy] at hp
    have hfr:=hf r (Su hx)
    have hfs:=hf' s (Su hy)
    have hb2:∀ o o',Below wr.heap.size wr ((wr.alloc o).alloc o'):=fun o o'=>((St _ _).alloc (Sl _) _).alloc (by simp) _
    have HC:=h_ (fun o o'=>wM r s ((wr.alloc o).alloc o') (Row.keeps _ _ _ (hb2 o o') hok) (Row.keeps _ _ _ (hb2 o o') hok') hfr hfs)
    have HB:=h_ (fun o o' w1 (h1:Below ((wr.alloc o).alloc o').heap.size ((wr.alloc o).alloc o') w1)=>hb.trans (((hb2 o o').trans (h1.mono (by simp;omega))).mono hb.size))
    have HP:=h_ hp
    generalize pO r s=E at *
    obtain⟨ra,rc,rr⟩:=r
    obtain⟨sa,sc,ss⟩:=s
    simp only [Row.enc] at HC
    have d0:=hc 0 _ rfl
    have d0':=hc' 0 _ rfl
    simp only [Sm,Sn] at d0 d0'
    have dd:∀ o,(wr.alloc o).cell? ⟨b',off'+k,none⟩=some (.slice sa ss.length sc):=fun o=>(SC _ _ _ (by simpa using As)).trans d0'
    clear hc hc' hp hx hy hok hok' hb2 hfr hfs H0 d0'
    cases E
    · go_wp2_with (go_at_call 147;refine(HC.out _ _).mono ?_;rintro e w1 ⟨rfl,hb1⟩;have hb1':=HB.out _ _ _ hb1;clear hb1)
      go_ret
      exact⟨by rw [←HP.out];rfl,hb1'⟩
    · go_wp2_with (go_at_call 147;refine(HC.out _ _).mono ?_;rintro e w1 ⟨rfl,hb1⟩;have hb1':=HB.out _ _ _ hb1;clear hb1)
      go_roundw
      case rel=>exact⟨k+1,by omega,by go_num,by rw [←HP.out];simp,hb1'⟩
      case measure=>simp [intOf];omega
  · obtain rfl:k=xs.length:=by omega
    have hp2:true=G:=by
     rw [←hp,Sw,MX.out,Sw,nB]
    have HP:=h_ hp2
    clear hp hp2 H0
    go_wp2_with fail
    go_ret
    exact⟨by rw [←HP.out];rfl,hb⟩
theorem nW (a a':Option Addr)(c c':Nat)(xs ys:List Row)(w:Sp)(h:qI w a xs)(h':qI w a' ys)(hf:∀ r∈xs,r.runs.length≤4000000)(hf':∀ r∈ys,r.runs.length≤4000000)(hl:xs.length≤4000000) :
 Sr Tryz.prog 101 #[.slice a xs.length c,.slice a' ys.length c'] w fun e w'=>e=.returned (.bool (fK xs ys))∧Below w.heap.size w w':=by
 have HC:Hid (Sr Tryz.prog 146 #[.slice a xs.length c,.slice a' ys.length c',.func (.func 147) #[] #[]] w fun e w'=>e=.returned (.bool (fK xs ys))∧Below w.heap.size w w'):=by
  apply h_
  by_cases hn:xs.length=ys.length
  · exact uP a a' c c' xs ys w h h' hf hf' hl hn
  · rw [fK,SJ pO xs ys hn]
    exact(AQ a a' _ _ c c' _ w hn).mono fun e w' ⟨he,hw⟩=>⟨he,hw▸St _ _⟩
 go_enter Tryz.func101,Tryz.ntmps101
 go_wp2_with fail
 refine HC.out.mono ?_
 rintro e w1 ⟨rfl,hb⟩
 go_wp2_with fail
 go_ret
 exact⟨rfl,hb⟩
theorem oY:∀ (l:List Run)(acc:Int),0≤acc→-1≤cT l acc∧cT l acc≤acc+cC l
 | [],acc,h=>by simp only [cT,cC];omega
 | x::l,acc,h=>by
   have h1:=mN x.text
   simp only [cT,cC]
   split
   · omega
   · have:=oY l (acc+lenB x.text) (by omega)
     omega
theorem zn (l:List Run):-1≤rowLen l∧rowLen l≤cC l:=by
 have:=oY l 0 (by omega)
 unfold rowLen
 omega
def mL:List Int→Int→Int
 | [],acc=>acc
 | n::l,acc=>if n<0 then -1 else mL l (acc+n)
def gK (rows:List Row):Int:=mL (da rows) (max ((rows.length:Int)-1) 0)
theorem mK (rows:List Row)(hf:∀ r∈rows,r.fits):∀ z∈da rows,z≤4000000:=by
 intro z hz
 simp only [da,List.mem_map] at hz
 obtain⟨r,hr,rfl⟩:=hz
 have h1:=zn r.runs
 have h2:=(hf r hr).2.2
 omega
theorem nk (x:Ev)(w:Sp)(hE:Env w)(hr:x.lies w)(hf:x.fits) :
 Sr Tryz.prog 92 #[.agg x.enc.toArray] w fun e w'=>e=.returned (.int .i64 (gK x.rows))∧Below w.heap.size w w':=by
 have hLn:=fun w1 h1 h2=>oX x w1 h1 h2 hf
 obtain⟨id,inn,out,region,kind,speaker,a,cap,xs⟩:=x
 obtain⟨_,_,_,_,_,_,_,hfx,hl⟩:=hf
 have hbd:=mK xs hfx
 simp only [Ev.lies] at hr hfx hl hLn
 simp only [Ev.enc] at hLn ⊢
 have hlen:(da xs).length=xs.length:=by simp [da]
 generalize hG:gK xs=G
 unfold gK at hG
 generalize hz:da xs=zs at *
 have HZ:=h_ hz
 have HG:=h_ hG
 have IK:=h_ (hLn (w.alloc (.cells #[.int .i64 id,.int .i64 inn,.int .i64 out,.string region,.int .u8 kind,.string speaker,.slice a xs.length cap] 72)) (hE.below ((St _ _).alloc (Sl _) _) (Sl _)) (hr.later ((St _ _).alloc (Sl _) _)))
 have HLEN:=h_ hlen
 have fE:=h_ hbd
 clear hG hLn hlen hr hE hfx hz hbd
 obtain⟨m,hm,hm2,NS⟩:∃ m:Nat,max ((xs.length:Int)-1) 0=m∧((xs.length:Int)-1<0∧m=0∨(0:Int)≤(xs.length:Int)-1∧(m:Int)=(xs.length:Int)-1)∧m≤4000000:=by
  by_cases h:xs.length=0
  · exact⟨0,by omega,.inl ⟨by omega,rfl⟩,by omega⟩
  · exact⟨xs.length-1,by omega,.inr ⟨by omega,by omega⟩,by omega⟩
 rw [hm] at HG
 have HM:=h_ hm2
 clear hm hm2
 rcases HM.out with⟨h0,hm0⟩|⟨h0,hm0⟩
 all_goals
  have IJ:=h_ hm0
  clear hm0
  go_enter Tryz.func92,Tryz.ntmps92
  go_wp2_with fail
  refine IK.out.mono ?_
  rintro e w1 ⟨a',c',rfl,hI,hb1⟩
  rw [SB] at hb1
  replace hb1:=h_ (bK hb1)
  rw [HZ.out] at hI
  clear IK
  go_wp2_with fail
  go_loop [3,14] (fun s i=>∃ (k acc:Nat),k≤zs.length∧i=.int .i64 k∧s=.int .i64 acc∧mL (zs.drop k) acc=G∧acc≤4000000+4000000*k) (fun _ i=>zs.length-(intOf i).toNat)
  case atStart=>exact⟨0,m,by omega,rfl,by have:=IJ.out;go_num,by rw [SA];exact HG.out,by omega⟩
  case round =>
   obtain⟨k,acc,hk,rfl,rfl,hp,hac⟩:=hrel
   have hlx:zs.length≤xs.length:=by have:=HLEN.out;omega
   have NW:xs.length≤zs.length:=by have:=HLEN.out;omega
   by_cases hlt:k<zs.length
   · obtain⟨b,off,z,rfl,hbl,hzz,hc,_⟩:=hI.at_ hlt
     have d0:=hc 0 _ rfl
     simp only [Sm,Sn] at d0
     have hzb:=fE.out z (Su hzz)
     rw [ch zs k z hzz] at hp
     simp only [mL] at hp
     have HP:=h_ hp
     clear hp hc hzz hI HG
     by_cases hneg:z<0
     · go_wp2_with fail
       all_goals
        go_ret
        exact⟨aG (by rw [←HP.out,if_pos hneg]),hb1.out⟩
     · have hnn:0≤z:=by omega
       obtain⟨n,rfl⟩:=Int.eq_ofNat_of_zero_le hnn
       rw [if_neg (by omega)] at HP
       have Oa:acc≤4000000+4000000*4000000:=by omega
       clear hneg
       go_wp2_with fail
       all_goals
        go_round
        case rel=>exact⟨k+1,acc+n,by omega,by go_num,by go_num,by have:=HP.out;simpa using this,by omega⟩
        case measure=>simp [intOf];omega
   · obtain rfl:k=zs.length:=by omega
     rw [Sw] at hp
     have HP:=h_ hp
     clear hp HG
     go_wp2_with fail
     go_ret
     exact⟨aG (by rw [←HP.out];rfl),hb1.out⟩
structure Cm where
 id:Int
 ev:Int
 frm:Int
 til:Int
 author:ByteArray
 text:ByteArray
 done:Bool
 lost:Bool
def Cm.enc (c:Cm):List Sq:=[.int .i64 c.id,.int .i64 c.ev,.int .i64 c.frm,.int .i64 c.til,.string c.author,.string c.text,.bool c.done,.bool c.lost]
def Cm.fits (c:Cm):Prop:=i64 c.id∧i64 c.ev∧i64 c.frm∧i64 c.til∧c.author.size≤4000000∧c.text.size≤4000000
structure Doc where
 title:ByteArray
 lA:ByteArray
 rate:Int
 drop:Bool
 last:Int
 ra:Option Addr
 rc:Nat
 rG:List Reg
 ea:Option Addr
 ec:Nat
 eV:List Ev
 ca:Option Addr
 cc:Nat
 cM:List Cm
def Doc.enc (d:Doc):List Sq:=[.string d.title,.string d.lA,.int .u8 d.rate,.bool d.drop,.int .i64 d.last,.slice d.ra d.rG.length d.rc,.slice d.ea d.eV.length d.ec,.slice d.ca d.cM.length d.cc]
def dG (w:Sp)(a:Option Addr)(xs:List Ev):Prop:=ah 7 Ev.enc Ev.lies w a xs
theorem dG.later {w w':Sp} {a:Option Addr} {xs:List Ev} (h:dG w a xs)(hb:Below w.heap.size w w'):dG w' a xs:=ah.keeps Ev.keeps w w' a xs hb h
def Dg (w:Sp)(a:Option Addr)(xs:List Cm):Prop:=ah 8 Cm.enc Flat w a xs
theorem Dg.later {w w':Sp} {a:Option Addr} {xs:List Cm} (h:Dg w a xs)(hb:Below w.heap.size w w'):Dg w' a xs:=ah.keeps Flat.keeps w w' a xs hb h
def Doc.lies (w:Sp)(d:Doc):Prop:=Regs w d.ra d.rG∧dG w d.ea d.eV∧Dg w d.ca d.cM
theorem Doc.later {w w':Sp} {d:Doc} (h:d.lies w)(hb:Below w.heap.size w w'):d.lies w':=⟨h.1.later hb,h.2.1.later hb,h.2.2.later hb⟩
def Doc.fits (d:Doc):Prop:=d.title.size≤4000000∧d.lA.size≤4000000∧0≤d.rate∧d.rate≤255∧i64 d.last∧(∀ r∈d.rG,r.fits)∧d.rG.length≤4000000∧(∀ x∈d.eV,x.fits)∧d.eV.length≤4000000∧(∀ c∈d.cM,c.fits)∧d.cM.length≤4000000
def ct (last:Int)(f:Int→Option Nat)(eV:List Ev)(c:Cm):Int :=
 if c.ev<1∨last<c.ev then 2 else if c.lost then (if c.frm≠0∨c.til≠0 then 2 else 0) else match f c.ev with
  | none=>6
  | some i=>if c.frm<0∨c.til≤c.frm∨gK ((eV[i]?.map Ev.rows).getD [])<c.til then 2 else 0
theorem yf (last:Int)(f:Int→Option Nat)(eV:List Ev)(c:Cm)(hf:∀ z i,f z=some i→i<eV.length) :
 (ct last f eV c=2∧c.ev<1)∨(ct last f eV c=2∧1≤c.ev∧last<c.ev)∨(1≤c.ev∧c.ev≤last ∧
  ((c.lost=true∧((ct last f eV c=2∧c.frm≠0)∨(ct last f eV c=2∧c.frm=0∧c.til≠0)∨(ct last f eV c=0∧c.frm=0∧c.til=0))) ∨
   (c.lost=false∧((f c.ev=none∧ct last f eV c=6)∨∃ i x,f c.ev=some i∧i<eV.length∧eV[i]? =some x ∧
    ((ct last f eV c=2∧c.frm<0)∨(ct last f eV c=2∧0≤c.frm∧c.til≤c.frm)∨(0≤c.frm∧c.frm<c.til∧((ct last f eV c=2∧gK x.rows<c.til)∨(ct last f eV c=0∧c.til≤gK x.rows)))))))):=by
 unfold ct
 by_cases h1:c.ev<1
 · left;simp [h1]
 right
 by_cases h2:last<c.ev
 · left;simp [h1,h2];omega
 right
 refine⟨by omega,by omega,?_⟩
 rw [if_neg (by omega)]
 cases hl:c.lost
 · right
   refine⟨rfl,?_⟩
   cases hq:f c.ev with
   | none=>left;simp
   | some i =>
     right
     have hi:=hf _ _ hq
     refine⟨i,eV[i],rfl,hi,Sv hi,?_⟩
     simp only [Sv hi,Option.map_some,Option.getD_some,Bool.false_eq_true,if_false]
     by_cases h3:c.frm<0
     · left;simp [h3]
     right
     by_cases h4:c.til≤c.frm
     · left;simp [h4];omega
     right
     refine⟨by omega,by omega,?_⟩
     by_cases h5:gK eV[i].rows<c.til
     · left;simp [h5]
     · right;rw [if_neg (by omega)];exact⟨rfl,by omega⟩
 · left
   refine⟨rfl,?_⟩
   simp only [if_true]
   by_cases h3:c.frm=0
   · by_cases h4:c.til=0
     · right;right;simp [h3,h4]
     · right;left;simp [h3,h4]
   · left;simp [h3]
theorem s_ {W w':Sp} {B b o:Nat} {v:Sq} (h:W.cell? ⟨b,o,none⟩=some v)(hB:b<B)(hb:Below B W w'):w'.cell? ⟨b,o,none⟩=some v :=
 (hb.cell (p:=⟨b,o,none⟩) hB).trans h
theorem dB (w:Sp)(cs cs':Array Sq)(t t':TypeId)(j:Nat)(v:Sq)(h:cs[j]? =some v)(w':Sp)(hb:Below (w.heap.size+2) ((w.alloc (.cells cs t)).alloc (.cells cs' t')) w'):w'.cell? ⟨w.heap.size,j,none⟩=some v:=by
 refine s_ ?_ (by omega) hb
 rw [SC _ _ _ (by simp),cell_of_row _ _ j cs t (0,0) (Ss w _),h]
theorem cW (w:Sp)(cs cs':Array Sq)(t t':TypeId)(j:Nat)(v:Sq)(h:cs'[j]? =some v)(w':Sp)(hb:Below (w.heap.size+2) ((w.alloc (.cells cs t)).alloc (.cells cs' t')) w'):w'.cell? ⟨w.heap.size+1,j,none⟩=some v:=by
 refine s_ ?_ (by omega) hb
 have:=Ss (w.alloc (.cells cs t)) (.cells cs' t')
 rw [SB] at this
 rw [cell_of_row _ _ j cs' t' (0,0) this,h]
theorem fH {w w':Sp} {o o':Obj} (hb:Below (w.heap.size+2) ((w.alloc o).alloc o') w'):Below w.heap.size w w' :=
 (((St _ _).alloc (Sl _) _).alloc (by simp) _).trans (hb.mono (by omega))
end Go.Proofs.YtjebaagkomejaaaGreatDoor
