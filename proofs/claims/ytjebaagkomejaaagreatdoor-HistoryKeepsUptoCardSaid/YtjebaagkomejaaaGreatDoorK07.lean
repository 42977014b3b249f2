/- The contracts of cmp.Or and event.Less: whether an event is ahead of another one. The contract of document.comments: the first error of the comments of a document. How the readings of the arguments give links and documents in memory. -/
import Derived.Test.YtjebaagkomejaaaGreatDoorRows
import Derived.Test.YtjebaagkomejaaaGreatDoorK04
set_option linter.unusedVariables false
set_option linter.unusedSimpArgs false
set_option maxRecDepth 100000
set_option maxHeartbeats 12800000
open Go.Lib renaming hid→h_
open Go renaming MemPlace→Sj,DataW→Sk,World→Sl,Value→Sm,cell_of_row→Sn,heap_alloc_last→Sp
open List renaming range→Sq,getElem?_eq_some_iff→Sr,map_map→Ss,drop_zero→St,sum_cons→Su,map_cons→Sv,mem_map→Sw
open Go.Lib renaming compareInt→Sx
open Nat renaming zero_le→Sy,le_refl→Sz
open Go.DataW renaming trod_int→SA,trod_string→SB,trod_struct→SC,trod_bool→SD,trod→SF
namespace Go.Proofs.YtjebaagkomejaaaGreatDoor
open Go.RowKit
def orL:List Int→Int
 | []=>0
 | z::l=>if (z != 0)=true then z else orL l
theorem wi (a:Option Addr)(cap:Nat)(zs:List Int)(w:Sl)(hI:Ints w a zs)(hl:zs.length≤4000000) :
 Calls Tryz.prog 118 #[.slice a zs.length cap] w fun e w'=>e=.returned (.int .i64 (orL zs))∧w=w':=by
 generalize hG:orL zs=G
 have H0:=h_ (show orL (zs.drop 0)=G by rw [St];exact hG)
 clear hG
 go_enter Tryz.func118,Tryz.ntmps118
 go_wp2_with fail
 go_loop [8] (fun i=>∃ k:Nat,k≤zs.length∧i=.int .i64 k∧orL (zs.drop k)=G) (fun i=>zs.length-(intOf i).toNat)
 case atStart=>exact⟨0,by omega,rfl,H0.out⟩
 case round =>
  obtain⟨k,hk,rfl,hp⟩:=hrel
  by_cases hlt:k<zs.length
  · obtain⟨b,off,z,rfl,hbl,hzz,hc,_⟩:=hI.at_ hlt
    have d0:=hc 0 _ rfl
    simp only [Nat.add_zero,Nat.mul_one] at d0
    rw [ck zs k z hzz] at hp
    simp only [orL] at hp
    have HP:=h_ hp
    clear hp hc hzz hI H0
    cases hz:z != 0
    · rw [hz,if_neg (by decide)] at HP
      go_wp2_with fail
      go_round
      case rel=>exact⟨k+1,by omega,by go_num,HP.out⟩
      case measure=>simp [intOf];omega
    · rw [hz,if_pos rfl] at HP
      go_wp2_with fail
      go_ret
      exact⟨aG HP.out,rfl⟩
  · obtain rfl:k=zs.length:=by omega
    rw [List.drop_length] at hp
    have HP:=h_ hp
    clear hp H0
    go_wp2_with fail
    go_ret
    exact⟨aG (by rw [←HP.out];rfl),rfl⟩
def kJ (x y:Ev):Bool:=decide (orL [Sx x.inn y.inn,Sx x.id y.id]<0)
theorem ph (x y:Ev)(w:Sl):Calls Tryz.prog 66 #[.agg x.enc.toArray,.agg y.enc.toArray] w fun e w'=>e=.returned (.bool (kJ x y))∧Below w.heap.size w w':=by
 unfold kJ
 obtain⟨id,inn,out,region,kind,speaker,a,cap,xs⟩:=x
 obtain⟨id',inn',out',region',kind',speaker',a',cap',xs'⟩:=y
 simp only [Ev.enc]
 have HC:=h_ (fun p q w=>Tryz.cmp_Compare_int p q w)
 have hb0:∀ o o',Below w.heap.size w ((w.alloc o).alloc o'):=fun o o'=>((Below.refl _ _).alloc (Sz _) _).alloc (by simp) _
 have hc1:∀ (cs cs':Array Sm) (j:Nat),((w.alloc (.cells cs 72)).alloc (.cells cs' 72)).cell? ⟨w.heap.size,j,none⟩=cs[j]?:=fun cs cs' j=>by
  rw [Sl.cell?_alloc_lt _ _ _ (by simp),Sn _ _ j cs 72 (0,0) (Sp w _)]
 have hc2:∀ (cs cs':Array Sm) (j:Nat),((w.alloc (.cells cs 72)).alloc (.cells cs' 72)).cell? ⟨w.heap.size+1,j,none⟩=cs'[j]?:=fun cs cs' j=>by
  rw [Sn _ _ j cs' 72 (0,0) (mf w _ _)]
 have HB:=h_ (hb0 (.cells #[.int .i64 id,.int .i64 inn,.int .i64 out,.string region,.int .u8 kind,.string speaker,.slice a xs.length cap] 72) (.cells #[.int .i64 id',.int .i64 inn',.int .i64 out',.string region',.int .u8 kind',.string speaker',.slice a' xs'.length cap'] 72))
 have e1:=hc1 #[.int .i64 id,.int .i64 inn,.int .i64 out,.string region,.int .u8 kind,.string speaker,.slice a xs.length cap] #[.int .i64 id',.int .i64 inn',.int .i64 out',.string region',.int .u8 kind',.string speaker',.slice a' xs'.length cap'] 0
 have e2:=hc1 #[.int .i64 id,.int .i64 inn,.int .i64 out,.string region,.int .u8 kind,.string speaker,.slice a xs.length cap] #[.int .i64 id',.int .i64 inn',.int .i64 out',.string region',.int .u8 kind',.string speaker',.slice a' xs'.length cap'] 1
 have e3:=hc2 #[.int .i64 id,.int .i64 inn,.int .i64 out,.string region,.int .u8 kind,.string speaker,.slice a xs.length cap] #[.int .i64 id',.int .i64 inn',.int .i64 out',.string region',.int .u8 kind',.string speaker',.slice a' xs'.length cap'] 0
 have e4:=hc2 #[.int .i64 id,.int .i64 inn,.int .i64 out,.string region,.int .u8 kind,.string speaker,.slice a xs.length cap] #[.int .i64 id',.int .i64 inn',.int .i64 out',.string region',.int .u8 kind',.string speaker',.slice a' xs'.length cap'] 1
 replace e1:=e1.trans (show _=some (Sm.int .i64 id) from rfl)
 replace e2:=e2.trans (show _=some (Sm.int .i64 inn) from rfl)
 replace e3:=e3.trans (show _=some (Sm.int .i64 id') from rfl)
 replace e4:=e4.trans (show _=some (Sm.int .i64 inn') from rfl)
 generalize hW:(w.alloc (.cells #[.int .i64 id,.int .i64 inn,.int .i64 out,.string region,.int .u8 kind,.string speaker,.slice a xs.length cap] 72)).alloc (.cells #[.int .i64 id',.int .i64 inn',.int .i64 out',.string region',.int .u8 kind',.string speaker',.slice a' xs'.length cap'] 72)=W at *
 have HW:=h_ hW
 clear hW hb0 hc1 hc2
 go_enter Tryz.func66,Tryz.ntmps66
 go_wp2_with fail
 rw [HW.out]
 refine wp_region_still_tail 12 (by kernel_rfl) (by kernel_rfl) ?_
 simp only [List.take_succ_cons,List.take_zero,List.drop_succ_cons,St]
 repeat still_step
 still_call (HC.out _ _ _)
 repeat still_step
 still_call (HC.out _ _ _)
 refine wpStill_nil ?_
 have HI:Hid (∀ w2:Sl,Ints (w2.alloc (.cells #[.int .i64 (Sx inn inn'),.int .i64 (Sx id id')] 3)) (some ⟨w2.heap.size,0,none⟩) [Sx inn inn',Sx id id']):=h_ (fun w2=>by
  refine .inr ⟨w2.heap.size,0,rfl,by simp,fun i z hz=>⟨fun j v hv=>?_,trivial⟩⟩
  match j,hv with
  | 0,hv =>
    simp at hv
    subst hv
    rw [show 0+i*1+0=i by omega,Sn _ _ i _ 3 (0,0) (Sp w2 _)]
    match i,hz with
    | 0,hz=>simp at hz;subst hz;rfl
    | 1,hz=>simp at hz;subst hz;rfl)
 have HI2:Hid (Ints ((W.alloc (.cells #[.int .i64 (Sx inn inn'),.int .i64 (Sx id id')] 3)).drew) (some ⟨W.heap.size,0,none⟩) [Sx inn inn',Sx id id']):=h_ (HI.out W)
 go_wp2_with fail
 refine(wi _ _ [Sx inn inn',Sx id id'] _ HI2.out (by simp)).mono ?_
 rintro e w' ⟨rfl,rfl⟩
 go_wp2_with fail
 go_ret
 exact⟨rfl,by first|exact(HB.out.drew).alloc HB.out.size _|exact(HB.out.alloc HB.out.size _).drew|exact HB.out.alloc HB.out.size _⟩
def eR (prev:Option Cm)(c:Cm):Bool:=match prev with
 | none=>false
 | some p=>decide (c.id≤p.id)
def fA (last:Int)(f:Int→Option Nat)(eV:List Ev)(prev:Option Cm)(c:Cm):Int :=
 if c.id<1∨last<c.id then 2 else if eR prev c=true then 8 else if (f c.id).isSome=true then 7 else if (cw last f eV c != 0)=true then cw last f eV c else
 if da c.author=false then 5 else if bw c.text=false then 10 else if c.text.toList=[] then 4 else if 400<c.text.size then 9 else 0
def di (last:Int)(f:Int→Option Nat)(eV:List Ev):Option Cm→List Cm→Int
 | _,[]=>0
 | prev,c::l=>if (fA last f eV prev c != 0)=true then fA last f eV prev c else di last f eV (some c) l
def gU (last:Int)(f:Int→Option Nat)(eV:List Ev)(cM:List Cm):Int:=if 64<cM.length then 9 else di last f eV none cM
theorem tr (last:Int)(f:Int→Option Nat)(eV:List Ev)(xs:List Cm)(k:Nat)(c:Cm)(hx:xs[k]? =some c)(prev:Option Cm)(h:fA last f eV prev c=0):di last f eV prev (xs.drop k)=di last f eV (bM xs (k+1)) (xs.drop (k+1)):=by
 rw [ck xs k c hx,di,h,if_neg (by decide),bM,hx]
theorem tq (last:Int)(f:Int→Option Nat)(eV:List Ev)(xs:List Cm)(k:Nat)(c:Cm)(hx:xs[k]? =some c)(prev:Option Cm)(h:(fA last f eV prev c != 0)=true):di last f eV prev (xs.drop k)=fA last f eV prev c:=by
 rw [ck xs k c hx,di,if_pos h]
theorem CL (last:Int)(f:Int→Option Nat)(eV:List Ev)(prev:Option Cm)(c:Cm)(A:Int)(hA:cw last f eV c=A) :
 (fA last f eV prev c=2∧c.id<1)∨(fA last f eV prev c=2∧1≤c.id∧last<c.id)∨(1≤c.id∧c.id≤last ∧
  ((eR prev c=true∧fA last f eV prev c=8)∨(eR prev c=false ∧
   (((f c.id).isSome=true∧fA last f eV prev c=7)∨((f c.id).isSome=false ∧
    (((A != 0)=true∧fA last f eV prev c=A)∨(A=0 ∧
     ((da c.author=false∧fA last f eV prev c=5)∨(da c.author=true ∧
      ((bw c.text=false∧fA last f eV prev c=10)∨(bw c.text=true ∧
       ((c.text.toList=[]∧fA last f eV prev c=4)∨(¬ c.text.toList=[] ∧
        ((400<c.text.size∧fA last f eV prev c=9)∨(c.text.size≤400∧fA last f eV prev c=0))))))))))))))):=by
 unfold fA
 rw [hA]
 by_cases h1:c.id<1
 · left;simp [h1]
 right
 by_cases h2:last<c.id
 · left;simp [h2];omega
 right
 refine⟨by omega,by omega,?_⟩
 rw [if_neg (by omega)]
 cases h3:eR prev c
 · right
   refine⟨rfl,?_⟩
   rw [if_neg (by decide)]
   cases h4:(f c.id).isSome
   · right
     refine⟨rfl,?_⟩
     rw [if_neg (by decide)]
     by_cases h5:A=0
     · right
       refine⟨h5,?_⟩
       subst h5
       rw [if_neg (by decide)]
       cases h6:da c.author
       · left;simp
       right
       refine⟨rfl,?_⟩
       rw [if_neg (by decide)]
       cases h7:bw c.text
       · left;simp
       right
       refine⟨rfl,?_⟩
       rw [if_neg (by decide)]
       by_cases h8:c.text.toList=[]
       · left;rw [if_pos h8];exact⟨h8,rfl⟩
       right
       refine⟨h8,?_⟩
       rw [if_neg h8]
       by_cases h9:400<c.text.size
       · left;rw [if_pos h9];exact⟨h9,rfl⟩
       · right;rw [if_neg h9];exact⟨by omega,rfl⟩
     · left
       rw [if_pos (by simpa using h5)]
       exact⟨by simpa using h5,rfl⟩
   · left;simp
 · left;simp
theorem qN (d:Doc)(b:Nat)(f:Int→Option Nat)(w:Sl)(hn:64<d.cM.length) :
 Calls Tryz.prog 67 #[.agg d.enc.toArray,.map (some b)] w fun e w'=>e=.returned (.int .i64 (gU d.last f d.eV d.cM))∧Below w.heap.size w w':=by
 rw [gU,if_pos hn]
 obtain⟨title,lA,rate,drop,last,ra,rc,rG,ea,ec,eV,ca,cc,cM⟩:=d
 simp only [Doc.enc]
 simp only at hn
 have hn2:decide ((64:Int)<(cM.length:Int))=true:=by simp;omega
 go_enter Tryz.func67,Tryz.ntmps67
 go_wp2_with fail
 go_ret
 exact⟨rfl,(Below.refl _ _).alloc (Sz _) _⟩
end Go.Proofs.YtjebaagkomejaaaGreatDoor
namespace Go.Proofs.YtjebaagkomejaaaGreatDoor
open Go.RowKit Go.ChangeShapes Go.WideShapes Go.Deep
theorem CM {H:Type} (d:Sk H):1≤Rows.uptoBulk d:=by
 cases d with
 | lit l=>cases l<;>simp [Rows.uptoBulk]
 | nil=>simp [Rows.uptoBulk]
 | ptr d=>simp [Rows.uptoBulk]
 | slice elems spare=>simp [Rows.uptoBulk]
 | agg parts=>simp [Rows.uptoBulk]
 | iface t d=>simp [Rows.uptoBulk]
 | map entries=>simp [Rows.uptoBulk]
 | held h=>simp [Rows.uptoBulk]
theorem tC {H:Type} {d:Sk H} {l:List (Sk H)} (h:d∈l):Rows.uptoBulk d≤Rows.uptoBulkAll l:=by
 induction l with
 | nil=>cases h
 | cons x r ih =>
   simp only [Rows.uptoBulkAll]
   cases List.mem_cons.1 h with
   | inl e=>subst e;omega
   | inr e=>have:=ih e;omega
theorem wJ {H:Type} (l:List (Sk H)):Rows.uptoBulkAll l=(l.map Rows.uptoBulk).sum:=by
 induction l with
 | nil=>simp [Rows.uptoBulkAll]
 | cons x r ih=>simp [Rows.uptoBulkAll,ih]
theorem build {α:Type} {Q:Nat→α→Prop}:∀ n,(∀ i,i<n→∃ a,Q i a)→∃ xs:List α,xs.length=n∧∀ i x,xs[i]? =some x→Q i x
 | 0,_=>⟨[],rfl,by simp⟩
 | n+1,h=>by
   obtain⟨xs,hl,hx⟩:=build n (fun i hi=>h i (by omega))
   obtain⟨a,ha⟩:=h n (by omega)
   refine⟨xs++[a],by simp [hl],fun i x hi=>?_⟩
   by_cases hn:i<n
   · rw [List.getElem?_append_left (by omega)] at hi
     exact hx i x hi
   · have hil:i<(xs++[a]).length:=(Sr.1 hi).1
     obtain rfl:i=n:=by simp at hil;omega
     rw [List.getElem?_append_right (by omega),hl,Nat.sub_self] at hi
     obtain rfl:a=x:=by simpa using hi
     exact ha
theorem Df {α:Type} (μ:α→Nat):∀ (xs:List α)(g:Nat→Nat),(∀ i x,xs[i]? =some x→μ x≤g i)→(xs.map μ).sum≤((Sq xs.length).map g).sum
 | [],g,_=>by simp
 | x::l,g,h=>by
   have ih:=Df μ l (fun i=>g (i+1)) (fun i y hy=>h (i+1) y (by simpa using hy))
   have h0:=h 0 x rfl
   rw [List.length_cons,List.range_succ_eq_map,Sv,Sv,Su,Su,Ss]
   exact Nat.add_le_add h0 ih
theorem Dh (g:Nat→Nat)(h:∀ i,1≤g i):∀ n,n≤((Sq n).map g).sum
 | 0=>by simp
 | n+1=>by
   have:=Dh g h n
   have:=h n
   rw [List.range_succ,List.map_append,List.sum_append]
   simp
   omega
section
variable {H:Type} (enc:TypeId × Sm→H)(w:Sl)(base:Nat)(sp:Nat→Bool)(held:Bool)
def Reads {α:Type} (t:TypeId)(ea:α→List Sm)(Ok:Sl→α→Prop)(fits:α→Prop)(μ:α→Nat):Prop :=
 ∀ fuel cs (x:Sk H × List Sj),SF enc Tryz.prog w base sp held fuel t cs=some x→Rows.uptoBulk x.1≤1048576→∃ a:α,cs=ea a∧Ok w a∧fits a∧μ a≤Rows.uptoBulk x.1
end
theorem eE {H:Type} {enc:TypeId × Sm→H} {w:Sl} {base:Nat} {sp:Nat→Bool} {held:Bool} {α:Type} {t e k:Nat} {ea:α→List Sm} {Ok:Sl→α→Prop} {fits:α→Prop} {μ:α→Nat}
 (ht:Tryz.prog.underlying t=some (.slice e)) (hk:Tryz.prog.cellsOf e=k) (hk0:0<k) (hlen:∀ a,(ea a).length=k) (hr:Reads enc w base sp held e ea Ok fits μ)
 (fuel:Nat) (cs:List Sm) (x:Sk H × List Sj) (h:SF enc Tryz.prog w base sp held fuel t cs=some x) (hb:Rows.uptoBulk x.1≤1048576) :
 ∃ (a:Option Addr) (xs:List α) (cap:Nat),cs=[.slice a xs.length cap]∧ah k ea Ok w a xs∧(∀ y∈xs,fits y)∧xs.length≤Rows.uptoBulk x.1∧(xs.map μ).sum≤Rows.uptoBulk x.1:=by
 rcases open_slice ht h with⟨rfl,rfl⟩|⟨a,len,cap,m,n,D,Pl,rfl,hbl,hl,hm,hmm,rfl,hi⟩
 · exact⟨none,[],0,rfl,.inl rfl,by simp,by simp,by simp⟩
 · have NT:len≤m:=by rw [hmm];split<;>omega
   simp only [Rows.uptoBulk] at hb ⊢
   have hD:∀ i,i<len→Rows.uptoBulk (D i)≤Rows.uptoBulkAll ((Sq len).map D):=fun i hi=>tC (Sw.2 ⟨i,List.mem_range.2 hi,rfl⟩)
   obtain⟨xs,hxl,hx⟩:=build (Q:=fun i y=>(∀ j v,(ea y)[j]? =some v→w.cell? ((a.add (i*k)).add j)=some v)∧Ok w y∧fits y∧μ y≤Rows.uptoBulk (D i)) len (fun i hil=>by
    obtain⟨cs',hc,htr⟩:=hi i (by omega)
    obtain⟨y,hy1,hy2,hy3,hy4⟩:=hr n cs' (D i,Pl i) htr (by have:=hD i hil;simp only;omega)
    rw [hk] at hc
    obtain⟨_,hcl,hat⟩:=Sl.cells?_some hc
    refine⟨y,fun j v hv=>?_,hy2,hy3,hy4⟩
    have hj:j<k:=by have:=(Sr.1 hv).1;rw [hlen] at this;exact this
    rw [hat j hj,hy1]
    exact hv)
   refine⟨some a,xs,cap,by rw [hxl],?_,fun y hy=>?_,?_,?_⟩
   · cases xs with
     | nil=>exact .inl rfl
     | cons y0 ys =>
       have h0:=(hx 0 y0 rfl).1
       have hy0:∃ v,(ea y0)[0]? =some v:=⟨_,List.getElem?_eq_getElem (by rw [hlen];exact hk0)⟩
       obtain⟨v0,hv0⟩:=hy0
       have hc0:=h0 0 v0 hv0
       simp only [Nat.zero_mul] at hc0
       obtain⟨b,off,spot⟩:=a
       have hspot:spot=none:=by simpa [Addr.add] using Sl.cell?_spot hc0
       subst hspot
       refine .inr ⟨b,off,rfl,by simpa [Addr.add] using Sl.block_lt_of_cell? w _ hc0,fun i y hy=>⟨fun j v hv=>?_,(hx i y hy).2.1⟩⟩
       have:=(hx i y hy).1 j v hv
       have e:((⟨b,off,none⟩:Addr).add (i*k)).add j=⟨b,off+i*k+j,none⟩:=by
        unfold Addr.add
        split<;>split<;>simp_all
       rw [e] at this
       exact this
   · obtain⟨i,hi'⟩:=List.getElem?_of_mem hy
     exact(hx i y hi').2.2.1
   · have h1:xs.length≤Rows.uptoBulkAll ((Sq len).map D):=by
      rw [wJ,Ss,hxl]
      exact Dh _ (fun i=>CM _) len
     omega
   · have h1:=Df μ xs (fun i=>Rows.uptoBulk (D i)) (fun i y hy=>(hx i y hy).2.2.2)
     have h2:((Sq xs.length).map fun i=>Rows.uptoBulk (D i)).sum=Rows.uptoBulkAll ((Sq len).map D):=by
      rw [wJ,Ss,hxl];rfl
     omega
theorem JT:IntKind.i64.min=-9223372036854775808:=by decide
theorem JU:IntKind.i64.max=9223372036854775807:=by decide
theorem min8:IntKind.u8.min=0:=by decide
theorem max8:IntKind.u8.max=255:=by decide
theorem dR {n:Int} (h:(Lit.int .i64 n).wf=true):i64 n:=by
 simp only [Lit.wf,Bool.and_eq_true,decide_eq_true_eq,JT,JU] at h
 exact h
theorem mh {n:Int} (h:(Lit.int .u8 n).wf=true):0≤n∧n≤255:=by
 simp only [Lit.wf,Bool.and_eq_true,decide_eq_true_eq,min8,max8] at h
 exact h
theorem Gs {α:Type} {l:List α} (h:l.length=1):∃ a0,l=[a0]:=by
 obtain _|⟨a0,l⟩:=l
 · simp at h
 obtain _|⟨b,l⟩:=l
 · exact⟨a0,rfl⟩
 · simp at h
theorem Gq {α:Type} {l:List α} (h:l.length=2):∃ a0 a1,l=[a0,a1]:=by
 obtain _|⟨a0,l⟩:=l
 · simp at h
 obtain _|⟨a1,l⟩:=l
 · simp at h
 obtain _|⟨b,l⟩:=l
 · exact⟨a0,a1,rfl⟩
 · simp at h
theorem Eg {α:Type} {l:List α} (h:l.length=3):∃ a0 a1 a2,l=[a0,a1,a2]:=by
 obtain _|⟨a0,l⟩:=l
 · simp at h
 obtain _|⟨a1,l⟩:=l
 · simp at h
 obtain _|⟨a2,l⟩:=l
 · simp at h
 obtain _|⟨b,l⟩:=l
 · exact⟨a0,a1,a2,rfl⟩
 · simp at h
theorem JW {α:Type} {l:List α} (h:l.length=5):∃ a0 a1 a2 a3 a4,l=[a0,a1,a2,a3,a4]:=by
 obtain _|⟨a0,l⟩:=l
 · simp at h
 obtain _|⟨a1,l⟩:=l
 · simp at h
 obtain _|⟨a2,l⟩:=l
 · simp at h
 obtain _|⟨a3,l⟩:=l
 · simp at h
 obtain _|⟨a4,l⟩:=l
 · simp at h
 obtain _|⟨b,l⟩:=l
 · exact⟨a0,a1,a2,a3,a4,rfl⟩
 · simp at h
theorem JV {α:Type} {l:List α} (h:l.length=6):∃ a0 a1 a2 a3 a4 a5,l=[a0,a1,a2,a3,a4,a5]:=by
 obtain _|⟨a0,l⟩:=l
 · simp at h
 obtain _|⟨a1,l⟩:=l
 · simp at h
 obtain _|⟨a2,l⟩:=l
 · simp at h
 obtain _|⟨a3,l⟩:=l
 · simp at h
 obtain _|⟨a4,l⟩:=l
 · simp at h
 obtain _|⟨a5,l⟩:=l
 · simp at h
 obtain _|⟨b,l⟩:=l
 · exact⟨a0,a1,a2,a3,a4,a5,rfl⟩
 · simp at h
theorem Ef {α:Type} {l:List α} (h:l.length=7):∃ a0 a1 a2 a3 a4 a5 a6,l=[a0,a1,a2,a3,a4,a5,a6]:=by
 obtain _|⟨a0,l⟩:=l
 · simp at h
 obtain _|⟨a1,l⟩:=l
 · simp at h
 obtain _|⟨a2,l⟩:=l
 · simp at h
 obtain _|⟨a3,l⟩:=l
 · simp at h
 obtain _|⟨a4,l⟩:=l
 · simp at h
 obtain _|⟨a5,l⟩:=l
 · simp at h
 obtain _|⟨a6,l⟩:=l
 · simp at h
 obtain _|⟨b,l⟩:=l
 · exact⟨a0,a1,a2,a3,a4,a5,a6,rfl⟩
 · simp at h
theorem Ca {α:Type} {l:List α} (h:l.length=8):∃ a0 a1 a2 a3 a4 a5 a6 a7,l=[a0,a1,a2,a3,a4,a5,a6,a7]:=by
 obtain _|⟨a0,l⟩:=l
 · simp at h
 obtain _|⟨a1,l⟩:=l
 · simp at h
 obtain _|⟨a2,l⟩:=l
 · simp at h
 obtain _|⟨a3,l⟩:=l
 · simp at h
 obtain _|⟨a4,l⟩:=l
 · simp at h
 obtain _|⟨a5,l⟩:=l
 · simp at h
 obtain _|⟨a6,l⟩:=l
 · simp at h
 obtain _|⟨a7,l⟩:=l
 · simp at h
 obtain _|⟨b,l⟩:=l
 · exact⟨a0,a1,a2,a3,a4,a5,a6,a7,rfl⟩
 · simp at h
section
variable {H:Type} {enc:TypeId × Sm→H} {w:Sl} {base:Nat} {sp:Nat→Bool} {held:Bool}
theorem c2:Tryz.prog.cellsOf 2=1:=by kernel_rfl
theorem c3:Tryz.prog.cellsOf 3=1:=by kernel_rfl
theorem c4:Tryz.prog.cellsOf 4=1:=by kernel_rfl
theorem c5:Tryz.prog.cellsOf 5=1:=by kernel_rfl
theorem c9:Tryz.prog.cellsOf 9=1:=by kernel_rfl
theorem c23:Tryz.prog.cellsOf 22=1:=by kernel_rfl
theorem c24:Tryz.prog.cellsOf 23=1:=by kernel_rfl
theorem c25:Tryz.prog.cellsOf 24=1:=by kernel_rfl
theorem c26:Tryz.prog.cellsOf 25=1:=by kernel_rfl
theorem c28:Tryz.prog.cellsOf 27=8:=by kernel_rfl
theorem c56:Tryz.prog.cellsOf 30=2:=by kernel_rfl
theorem c57:Tryz.prog.cellsOf 31=1:=by kernel_rfl
theorem c58:Tryz.prog.cellsOf 38=1:=by kernel_rfl
theorem c60:Tryz.prog.cellsOf 72=7:=by kernel_rfl
theorem c81:Tryz.prog.cellsOf 32=1:=by kernel_rfl
theorem c83:Tryz.prog.cellsOf 34=3:=by kernel_rfl
theorem c85:Tryz.prog.cellsOf 77=5:=by kernel_rfl
theorem c86:Tryz.prog.cellsOf 73=1:=by kernel_rfl
theorem c88:Tryz.prog.cellsOf 75=1:=by kernel_rfl
theorem c99:Tryz.prog.cellsOf 35=1:=by kernel_rfl
theorem c101:Tryz.prog.cellsOf 37=7:=by kernel_rfl
theorem c116:Tryz.prog.cellsOf 102=8:=by kernel_rfl
theorem cn {x:Sk H × List Sj} {ys:List (Sk H × List Sj)} (hx:x=(.agg (ys.map (·.1)),ys.flatMap (·.2))) {y:Sk H × List Sj} (hy:y∈ys):Rows.uptoBulk y.1≤Rows.uptoBulk x.1:=by
 rw [hx]
 simp only [Rows.uptoBulk]
 have:=tC (Sw.2 ⟨y,hy,rfl⟩:y.1∈ys.map (·.1))
 omega
theorem dW {s:ByteArray} {y:Sk H × List Sj} (h:y=(.lit (.string s.data.toList),[])):s.size≤Rows.uptoBulk y.1:=by
 rw [h]
 simp only [Rows.uptoBulk]
 have:s.data.toList.length=s.size:=by simp
 omega
theorem wg:Reads enc w base sp held 37 Reg.enc Flat Reg.fits (fun _=>0):=by
 intro fuel cs x h hb
 obtain⟨ys,n,rfl,hx,hlen,hyl,hf⟩:=SC Tryz.underlying37 h
 rw [c101] at hlen
 obtain⟨v0,v1,v2,v3,v4,v5,v6,rfl⟩:=Ef hlen
 obtain⟨y0,y1,y2,y3,y4,y5,y6,rfl⟩:=Ef hyl
 have g0:=hf 0 _ rfl;have g1:=hf 1 _ rfl;have g2:=hf 2 _ rfl;have g3:=hf 3 _ rfl;have g4:=hf 4 _ rfl;have g5:=hf 5 _ rfl;have g6:=hf 6 _ rfl
 simp [c9,c3,c99,c4] at g0 g1 g2 g3 g4 g5 g6
 obtain⟨s0,e0,q0,w0⟩:=SB Tryz.underlying9 g0
 obtain⟨z1,e1,_,w1⟩:=SA Tryz.underlying3 g1
 obtain⟨z2,e2,_,w2⟩:=SA Tryz.underlying3 g2
 obtain⟨z3,e3,_,w3⟩:=SA Tryz.underlying3 g3
 obtain⟨z4,e4,_,w4⟩:=SA Tryz.underlying3 g4
 obtain⟨z5,e5,_,w5⟩:=SA Tryz.underlying35 g5
 obtain⟨z6,e6,_⟩:=SD Tryz.underlying4 g6
 simp at e0 e1 e2 e3 e4 e5 e6
 subst e0 e1 e2 e3 e4 e5 e6
 have k0:=cn hx (y:=y0) (by simp)
 have k1:=dW q0
 exact⟨⟨s0,z1,z2,z3,z4,z5,z6⟩,rfl,trivial,⟨by simp only;omega,dR w1,dR w2,dR w3,dR w4,(mh w5).1,(mh w5).2⟩,Sy _⟩
theorem D9:Reads enc w base sp held 102 Cm.enc Flat Cm.fits (fun _=>0):=by
 intro fuel cs x h hb
 obtain⟨ys,n,rfl,hx,hlen,hyl,hf⟩:=SC Tryz.underlying102 h
 rw [c116] at hlen
 obtain⟨v0,v1,v2,v3,v4,v5,v6,v7,rfl⟩:=Ca hlen
 obtain⟨y0,y1,y2,y3,y4,y5,y6,y7,rfl⟩:=Ca hyl
 have g0:=hf 0 _ rfl;have g1:=hf 1 _ rfl;have g2:=hf 2 _ rfl;have g3:=hf 3 _ rfl;have g4:=hf 4 _ rfl;have g5:=hf 5 _ rfl;have g6:=hf 6 _ rfl;have g7:=hf 7 _ rfl
 simp [c9,c3,c2,c4] at g0 g1 g2 g3 g4 g5 g6 g7
 obtain⟨z0,e0,_,w0⟩:=SA Tryz.underlying2 g0
 obtain⟨z1,e1,_,w1⟩:=SA Tryz.underlying2 g1
 obtain⟨z2,e2,_,w2⟩:=SA Tryz.underlying3 g2
 obtain⟨z3,e3,_,w3⟩:=SA Tryz.underlying3 g3
 obtain⟨s4,e4,q4,_⟩:=SB Tryz.underlying9 g4
 obtain⟨s5,e5,q5,_⟩:=SB Tryz.underlying9 g5
 obtain⟨z6,e6,_⟩:=SD Tryz.underlying4 g6
 obtain⟨z7,e7,_⟩:=SD Tryz.underlying4 g7
 simp at e0 e1 e2 e3 e4 e5 e6 e7
 subst e0 e1 e2 e3 e4 e5 e6 e7
 have k4:=cn hx (y:=y4) (by simp)
 have k5:=cn hx (y:=y5) (by simp)
 have l4:=dW q4
 have l5:=dW q5
 exact⟨⟨z0,z1,z2,z3,s4,s5,z6,z7⟩,rfl,trivial,⟨dR w0,dR w1,dR w2,dR w3,by simp only;omega,by simp only;omega⟩,Sy _⟩
theorem BR:Reads enc w base sp held 77 Run.enc Flat Run.fits (fun r=>r.text.size):=by
 intro fuel cs x h hb
 obtain⟨ys,n,rfl,hx,hlen,hyl,hf⟩:=SC Tryz.underlying77 h
 rw [c85] at hlen
 obtain⟨v0,v1,v2,v3,v4,rfl⟩:=JW hlen
 obtain⟨y0,y1,y2,rfl⟩:=Eg hyl
 have g0:=hf 0 _ rfl;have g1:=hf 1 _ rfl;have g2:=hf 2 _ rfl
 simp [c9,c83] at g0 g1 g2
 obtain⟨s0,e0,q0,_⟩:=SB Tryz.underlying9 g0
 obtain⟨s4,e4,q4,_⟩:=SB Tryz.underlying9 g2
 obtain⟨us,n',rfl,hx',hlen',Al,hf'⟩:=SC Tryz.underlying34 g1
 obtain⟨u0,u1,u2,rfl⟩:=Eg Al
 have p0:=hf' 0 _ rfl;have p1:=hf' 1 _ rfl;have p2:=hf' 2 _ rfl
 simp [c81,c4] at p0 p1 p2
 obtain⟨z1,e1,_,w1⟩:=SA Tryz.underlying32 p0
 obtain⟨z2,e2,_⟩:=SD Tryz.underlying4 p1
 obtain⟨z3,e3,_⟩:=SD Tryz.underlying4 p2
 simp at e0 e1 e2 e3 e4
 subst e0 e1 e2 e3 e4
 have k0:=cn hx (y:=y0) (by simp)
 have k2:=cn hx (y:=y2) (by simp)
 have l0:=dW q0
 have l2:=dW q4
 exact⟨⟨s0,z1,z2,z3,s4⟩,rfl,trivial,⟨by simp only;omega,by simp only;omega,(mh w1).1,(mh w1).2⟩,by simp only;omega⟩
theorem oU:∀ l:List Run,(l.map fun r=>r.text.size).sum=cH l
 | []=>rfl
 | r::l=>by simp [cH,oU l]
theorem wb:Reads enc w base sp held 75 Row.enc Row.lies Row.fits (fun _=>0):=by
 intro fuel cs x h hb
 obtain⟨ys,n,rfl,hx,hlen,hyl,hf⟩:=SC Tryz.underlying75 h
 rw [c88] at hlen
 obtain⟨v0,rfl⟩:=Gs hlen
 obtain⟨y0,rfl⟩:=Gs hyl
 have g0:=hf 0 _ rfl
 simp [c86] at g0
 have k0:=cn hx (y:=y0) (by simp)
 obtain⟨a,xs,cap,e,hS,hF,hL,hM⟩:=eE Tryz.underlying73 c85 (by decide) (fun _=>rfl) BR n [v0] y0 g0 (by omega)
 simp at e
 subst e
 rw [oU] at hM
 exact⟨⟨a,cap,xs⟩,rfl,hS,⟨hF,by simp only;omega,by simp only;omega⟩,Sy _⟩
theorem D7:Reads enc w base sp held 72 Ev.enc Ev.lies Ev.fits (fun _=>0):=by
 intro fuel cs x h hb
 obtain⟨ys,n,rfl,hx,hlen,hyl,hf⟩:=SC Tryz.underlying72 h
 rw [c60] at hlen
 obtain⟨v0,v1,v2,v3,v4,v5,v6,rfl⟩:=Ef hlen
 obtain⟨y0,y1,y2,y3,y4,y5,rfl⟩:=JV hyl
 have g0:=hf 0 _ rfl;have g1:=hf 1 _ rfl;have g2:=hf 2 _ rfl;have g3:=hf 3 _ rfl;have g4:=hf 4 _ rfl;have g5:=hf 5 _ rfl
 simp [c2,c56,c9,c57,c58] at g0 g1 g2 g3 g4 g5
 obtain⟨z0,e0,_,w0⟩:=SA Tryz.underlying2 g0
 obtain⟨us,n',rfl,hx',hlen',Al,hf'⟩:=SC Tryz.underlying30 g1
 obtain⟨u0,u1,rfl⟩:=Gq Al
 have p0:=hf' 0 _ rfl;have p1:=hf' 1 _ rfl
 simp [c2] at p0 p1
 obtain⟨z1,e1,_,w1⟩:=SA Tryz.underlying2 p0
 obtain⟨z2,e2,_,w2⟩:=SA Tryz.underlying2 p1
 obtain⟨s3,e3,q3,_⟩:=SB Tryz.underlying9 g2
 obtain⟨z4,e4,_,w4⟩:=SA Tryz.underlying31 g3
 obtain⟨s5,e5,q5,_⟩:=SB Tryz.underlying9 g4
 have k2:=cn hx (y:=y2) (by simp)
 have k4:=cn hx (y:=y4) (by simp)
 have k5:=cn hx (y:=y5) (by simp)
 have l3:=dW q3
 have l5:=dW q5
 obtain⟨a,xs,cap,e6,hS,hF,hL,hM⟩:=eE Tryz.underlying38 c88 (by decide) (fun _=>rfl) wb _ [v6] y5 g5 (by omega)
 simp at e0 e1 e2 e3 e4 e5 e6
 subst e0 e1 e2 e3 e4 e5 e6
 exact⟨⟨z0,z1,z2,s3,z4,s5,a,cap,xs⟩,rfl,hS,⟨dR w0,dR w1,dR w2,by simp only;omega,(mh w4).1,(mh w4).2,by simp only;omega,hF,by simp only;omega⟩,Sy _⟩
theorem BS:Reads enc w base sp held 27 Doc.enc (fun w d=>d.lies w) Doc.fits (fun _=>0):=by
 intro fuel cs x h hb
 obtain⟨ys,n,rfl,hx,hlen,hyl,hf⟩:=SC Tryz.underlying27 h
 rw [c28] at hlen
 obtain⟨v0,v1,v2,v3,v4,v5,v6,v7,rfl⟩:=Ca hlen
 obtain⟨y0,y1,y2,y3,y4,y5,y6,y7,rfl⟩:=Ca hyl
 have g0:=hf 0 _ rfl;have g1:=hf 1 _ rfl;have g2:=hf 2 _ rfl;have g3:=hf 3 _ rfl;have g4:=hf 4 _ rfl;have g5:=hf 5 _ rfl;have g6:=hf 6 _ rfl;have g7:=hf 7 _ rfl
 simp [c9,c23,c4,c2,c24,c25,c26] at g0 g1 g2 g3 g4 g5 g6 g7
 obtain⟨s0,e0,q0,_⟩:=SB Tryz.underlying9 g0
 obtain⟨s1,e1,q1,_⟩:=SB Tryz.underlying9 g1
 obtain⟨z2,e2,_,w2⟩:=SA Tryz.underlying22 g2
 obtain⟨z3,e3,_⟩:=SD Tryz.underlying4 g3
 obtain⟨z4,e4,_,w4⟩:=SA Tryz.underlying2 g4
 have k0:=cn hx (y:=y0) (by simp)
 have k1:=cn hx (y:=y1) (by simp)
 have k5:=cn hx (y:=y5) (by simp)
 have k6:=cn hx (y:=y6) (by simp)
 have k7:=cn hx (y:=y7) (by simp)
 have l0:=dW q0
 have l1:=dW q1
 obtain⟨ra,rG,rc,e5,hS5,Oz,hL5,_⟩:=eE Tryz.underlying23 c101 (by decide) (fun _=>rfl) wg _ [v5] y5 g5 (by omega)
 obtain⟨ea,eV,ec,e6,yj,Oy,hL6,_⟩:=eE Tryz.underlying24 c60 (by decide) (fun _=>rfl) D7 _ [v6] y6 g6 (by omega)
 obtain⟨ca,cM,cc,e7,Om,Ox,hL7,_⟩:=eE Tryz.underlying25 c116 (by decide) (fun _=>rfl) D9 _ [v7] y7 g7 (by omega)
 simp at e0 e1 e2 e3 e4 e5 e6 e7
 subst e0 e1 e2 e3 e4 e5 e6 e7
 exact⟨⟨s0,s1,z2,z3,z4,ra,rc,rG,ea,ec,eV,ca,cc,cM⟩,rfl,⟨hS5,yj,Om⟩,⟨by simp only;omega,by simp only;omega,(mh w2).1,(mh w2).2,dR w4,Oz,by simp only;omega,Oy,by simp only;omega,Ox,by simp only;omega⟩,Sy _⟩
end
def JQ (p:Doc × Doc):List Sm:=p.1.enc++p.2.enc
end Go.Proofs.YtjebaagkomejaaaGreatDoor
