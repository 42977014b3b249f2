/- The contracts of cmp.Or and event.Less: whether an event is ahead of another one. The stable sort at events: how two events compare, and the contract of slices.SortStableFunc with document.Sort's comparison. -/
import Derived.Test.YtjebaagkomejaaaGreatDoorRows
import Derived.Test.YtjebaagkomejaaaGreatDoorH04
import Derived.Test.YtjebaagkomejaaaGreatDoorH03
set_option linter.unusedVariables false
set_option linter.unusedSimpArgs false
set_option maxRecDepth 100000
set_option maxHeartbeats 12800000
open Go.Lib renaming hid→h_
open Go renaming cell_of_row→Sh,heap_alloc_last→Si,Value→Sj,World→Sk,MemPlace→Sl,DataW→Sm,wp_region_still_tail→Sn
open List renaming range→Sp,drop_zero→Sq,getElem?_eq_some_iff→Sr,map_map→Ss,take_succ_cons→St,drop_succ_cons→Su,take_zero→Sv,sum_cons→Sw,map_cons→Sx,mem_map→Sy
open Go.Lib renaming compareInt→Sz
open Go.Value renaming int→SA,agg→SB
open Go.Sort renaming alloc_eq_grow→SC,grow_grow→SD
open Go.DataW renaming trod_int→SF,trod_string→SG,trod_struct→SH,trod_bool→SI,trod→SJ
open Nat renaming zero_le→SK
namespace Go.Proofs.YtjebaagkomejaaaGreatDoor
open Go.RowKit
def orL:List Int→Int
 | []=>0
 | z::l=>if (z != 0)=true then z else orL l
theorem vE (a:Option Addr)(cap:Nat)(zs:List Int)(w:Sk)(hI:Ints w a zs)(hl:zs.length≤4000000) :
 Calls Tryz.prog 118 #[.slice a zs.length cap] w fun e w'=>e=.returned (.int .i64 (orL zs))∧w=w':=by
 generalize hG:orL zs=G
 have H0:=h_ (show orL (zs.drop 0)=G by rw [Sq];exact hG)
 clear hG
 go_enter Tryz.func118,Tryz.ntmps118
 go_wp2_with fail
 go_loop [8] (fun i=>∃ k:Nat,k≤zs.length∧i=.int .i64 k∧orL (zs.drop k)=G) (fun i=>zs.length-(intOf i).toNat)
 case atStart=>exact⟨0,by omega,rfl,H0.out⟩
 case round =>
  obtain⟨k,hk,rfl,hp⟩:=hrel
  by_cases hlt:k<zs.length
  · obtain⟨b,off,z,rfl,hbl,hzz,hc,_⟩:=hI.at_ hlt
    have d0:=hc 0 _ rfl
    simp only [Nat.add_zero,Nat.mul_one] at d0
    rw [ch zs k z hzz] at hp
    simp only [orL] at hp
    have HP:=h_ hp
    clear hp hc hzz hI H0
    cases hz:z != 0
    · rw [hz,if_neg (by decide)] at HP
      go_wp2_with fail
      go_round
      case rel=>exact⟨k+1,by omega,by go_num,HP.out⟩
      case measure=>simp [intOf];omega
    · rw [hz,if_pos rfl] at HP
      go_wp2_with fail
      go_ret
      exact⟨aG HP.out,rfl⟩
  · obtain rfl:k=zs.length:=by omega
    rw [List.drop_length] at hp
    have HP:=h_ hp
    clear hp H0
    go_wp2_with fail
    go_ret
    exact⟨aG (by rw [←HP.out];rfl),rfl⟩
def kN (x y:Ev):Bool:=decide (orL [Sz x.inn y.inn,Sz x.id y.id]<0)
theorem oW (x y:Ev)(w:Sk):Calls Tryz.prog 66 #[.agg x.enc.toArray,.agg y.enc.toArray] w fun e w'=>e=.returned (.bool (kN x y))∧Below w.heap.size w w':=by
 unfold kN
 obtain⟨id,inn,out,region,kind,speaker,a,cap,xs⟩:=x
 obtain⟨id',inn',out',region',kind',speaker',a',cap',xs'⟩:=y
 simp only [Ev.enc]
 have HC:=h_ (fun p q w=>Tryz.cmp_Compare_int p q w)
 have hb0:∀ o o',Below w.heap.size w ((w.alloc o).alloc o'):=fun o o'=>((Below.refl _ _).alloc (Nat.le_refl _) _).alloc (by simp) _
 have hc1:∀ (cs cs':Array Sj) (j:Nat),((w.alloc (.cells cs 72)).alloc (.cells cs' 72)).cell? ⟨w.heap.size,j,none⟩=cs[j]?:=fun cs cs' j=>by
  rw [Sk.cell?_alloc_lt _ _ _ (by simp),Sh _ _ j cs 72 (0,0) (Si w _)]
 have hc2:∀ (cs cs':Array Sj) (j:Nat),((w.alloc (.cells cs 72)).alloc (.cells cs' 72)).cell? ⟨w.heap.size+1,j,none⟩=cs'[j]?:=fun cs cs' j=>by
  rw [Sh _ _ j cs' 72 (0,0) (mf w _ _)]
 have HB:=h_ (hb0 (.cells #[.int .i64 id,.int .i64 inn,.int .i64 out,.string region,.int .u8 kind,.string speaker,.slice a xs.length cap] 72) (.cells #[.int .i64 id',.int .i64 inn',.int .i64 out',.string region',.int .u8 kind',.string speaker',.slice a' xs'.length cap'] 72))
 have e1:=hc1 #[.int .i64 id,.int .i64 inn,.int .i64 out,.string region,.int .u8 kind,.string speaker,.slice a xs.length cap] #[.int .i64 id',.int .i64 inn',.int .i64 out',.string region',.int .u8 kind',.string speaker',.slice a' xs'.length cap'] 0
 have e2:=hc1 #[.int .i64 id,.int .i64 inn,.int .i64 out,.string region,.int .u8 kind,.string speaker,.slice a xs.length cap] #[.int .i64 id',.int .i64 inn',.int .i64 out',.string region',.int .u8 kind',.string speaker',.slice a' xs'.length cap'] 1
 have e3:=hc2 #[.int .i64 id,.int .i64 inn,.int .i64 out,.string region,.int .u8 kind,.string speaker,.slice a xs.length cap] #[.int .i64 id',.int .i64 inn',.int .i64 out',.string region',.int .u8 kind',.string speaker',.slice a' xs'.length cap'] 0
 have e4:=hc2 #[.int .i64 id,.int .i64 inn,.int .i64 out,.string region,.int .u8 kind,.string speaker,.slice a xs.length cap] #[.int .i64 id',.int .i64 inn',.int .i64 out',.string region',.int .u8 kind',.string speaker',.slice a' xs'.length cap'] 1
 replace e1:=e1.trans (show _=some (SA .i64 id) from rfl)
 replace e2:=e2.trans (show _=some (SA .i64 inn) from rfl)
 replace e3:=e3.trans (show _=some (SA .i64 id') from rfl)
 replace e4:=e4.trans (show _=some (SA .i64 inn') from rfl)
 generalize hW:(w.alloc (.cells #[.int .i64 id,.int .i64 inn,.int .i64 out,.string region,.int .u8 kind,.string speaker,.slice a xs.length cap] 72)).alloc (.cells #[.int .i64 id',.int .i64 inn',.int .i64 out',.string region',.int .u8 kind',.string speaker',.slice a' xs'.length cap'] 72)=W at *
 have HW:=h_ hW
 clear hW hb0 hc1 hc2
 go_enter Tryz.func66,Tryz.ntmps66
 go_wp2_with fail
 rw [HW.out]
 refine Sn 12 (by kernel_rfl) (by kernel_rfl) ?_
 simp only [St,Sv,Su,Sq]
 repeat still_step
 still_call (HC.out _ _ _)
 repeat still_step
 still_call (HC.out _ _ _)
 refine wpStill_nil ?_
 have HI:Hid (∀ w2:Sk,Ints (w2.alloc (.cells #[.int .i64 (Sz inn inn'),.int .i64 (Sz id id')] 3)) (some ⟨w2.heap.size,0,none⟩) [Sz inn inn',Sz id id']):=h_ (fun w2=>by
  refine .inr ⟨w2.heap.size,0,rfl,by simp,fun i z hz=>⟨fun j v hv=>?_,trivial⟩⟩
  match j,hv with
  | 0,hv =>
    simp at hv
    subst hv
    rw [show 0+i*1+0=i by omega,Sh _ _ i _ 3 (0,0) (Si w2 _)]
    match i,hz with
    | 0,hz=>simp at hz;subst hz;rfl
    | 1,hz=>simp at hz;subst hz;rfl)
 have HI2:Hid (Ints ((W.alloc (.cells #[.int .i64 (Sz inn inn'),.int .i64 (Sz id id')] 3)).drew) (some ⟨W.heap.size,0,none⟩) [Sz inn inn',Sz id id']):=h_ (HI.out W)
 go_wp2_with fail
 refine(vE _ _ [Sz inn inn',Sz id id'] _ HI2.out (by simp)).mono ?_
 rintro e w' ⟨rfl,rfl⟩
 go_wp2_with fail
 go_ret
 exact⟨rfl,by first|exact(HB.out.drew).alloc HB.out.size _|exact(HB.out.alloc HB.out.size _).drew|exact HB.out.alloc HB.out.size _⟩
theorem Tryz.stLay:qF Tryz.prog:={
 mixed:=by kernel_rfl
 f255:=Tryz.func255
 f242:=Tryz.func242
 f224:=Tryz.func224
 f187:=Tryz.func187
 f133:=Tryz.func133
 ins:={ mixed:=by kernel_rfl,f20:=⟨Tryz.f223.name,by decide,Tryz.func223.trans (congrArg some (by kernel_rfl))⟩,t0:=Tryz.underlying0,a0:=Tryz.isAgg0,z0:=Tryz.sizeOf0,v0:=Tryz.zeroValue0,t3:=Tryz.underlying3,a3:=Tryz.isAgg3,z3:=Tryz.sizeOf3,v3:=Tryz.zeroValue3,t4:=Tryz.underlying4,a4:=Tryz.isAgg4,z4:=Tryz.sizeOf4,v4:=Tryz.zeroValue4,t22:=Tryz.underlying24,a22:=Tryz.isAgg24,z22:=Tryz.sizeOf24,v22:=Tryz.zeroValue24,t25:=Tryz.underlying183,a25:=Tryz.isAgg183,z25:=Tryz.sizeOf183,v25:=Tryz.zeroValue183 }
 t0:=Tryz.underlying0
 a0:=Tryz.isAgg0
 z0:=Tryz.sizeOf0
 v0:=Tryz.zeroValue0
 t3:=Tryz.underlying3
 a3:=Tryz.isAgg3
 z3:=Tryz.sizeOf3
 v3:=Tryz.zeroValue3
 t4:=Tryz.underlying4
 a4:=Tryz.isAgg4
 z4:=Tryz.sizeOf4
 v4:=Tryz.zeroValue4
 t24:=Tryz.underlying24
 a24:=Tryz.isAgg24
 z24:=Tryz.sizeOf24
 v24:=Tryz.zeroValue24
 t216:=Tryz.underlying216
 a216:=Tryz.isAgg216
 z216:=Tryz.sizeOf216
 v216:=Tryz.zeroValue216
 t183:=Tryz.underlying183
 a183:=Tryz.isAgg183
 z183:=Tryz.sizeOf183
 v183:=Tryz.zeroValue183 }
def lW (x y:Ev):Int:=orL [Sz x.inn y.inn,Sz x.id y.id]
theorem H7 (w:Sk)(o o' o'':Obj):∃ q os',(((w.alloc o).alloc o').alloc o'').drew=Sort.grow (w.drewN q) os':=⟨1,#[o,o',o''],by
 rw [SC,SC,SC,SD,SD];rfl⟩
theorem pG (x y:Ev)(w:Sk):Calls Tryz.prog 134 (#[.agg x.enc.toArray,.agg y.enc.toArray]++#[]) w fun e w'=>e=.returned (.int .i64 (lW x y))∧∃ q os',w'=Sort.grow (w.drewN q) os':=by
 unfold lW
 obtain⟨id,inn,out,region,kind,speaker,a,cap,xs⟩:=x
 obtain⟨id',inn',out',region',kind',speaker',a',cap',xs'⟩:=y
 simp only [Ev.enc]
 rw [show(#[SB [SA .i64 id,.int .i64 inn,.int .i64 out,.string region,.int .u8 kind,.string speaker,.slice a xs.length cap].toArray,.agg [SA .i64 id',.int .i64 inn',.int .i64 out',.string region',.int .u8 kind',.string speaker',.slice a' xs'.length cap'].toArray]++#[]:Array Sj)=#[SB [SA .i64 id,.int .i64 inn,.int .i64 out,.string region,.int .u8 kind,.string speaker,.slice a xs.length cap].toArray,.agg [SA .i64 id',.int .i64 inn',.int .i64 out',.string region',.int .u8 kind',.string speaker',.slice a' xs'.length cap'].toArray] by simp]
 have HC:=h_ (fun p q w=>Tryz.cmp_Compare_int p q w)
 have hc1:∀ (cs cs':Array Sj) (j:Nat),((w.alloc (.cells cs 72)).alloc (.cells cs' 72)).cell? ⟨w.heap.size,j,none⟩=cs[j]?:=fun cs cs' j=>by
  rw [Sk.cell?_alloc_lt _ _ _ (by simp),Sh _ _ j cs 72 (0,0) (Si w _)]
 have hc2:∀ (cs cs':Array Sj) (j:Nat),((w.alloc (.cells cs 72)).alloc (.cells cs' 72)).cell? ⟨w.heap.size+1,j,none⟩=cs'[j]?:=fun cs cs' j=>by
  rw [Sh _ _ j cs' 72 (0,0) (mf w _ _)]
 obtain⟨cs,hcs⟩:∃ cs:Array Sj,cs=#[.int .i64 id,.int .i64 inn,.int .i64 out,.string region,.int .u8 kind,.string speaker,.slice a xs.length cap]:=⟨_,rfl⟩
 obtain⟨cs',hcs'⟩:∃ cs:Array Sj,cs=#[.int .i64 id',.int .i64 inn',.int .i64 out',.string region',.int .u8 kind',.string speaker',.slice a' xs'.length cap']:=⟨_,rfl⟩
 have HG:=h_ (fun o=>H7 w (.cells cs 72) (.cells cs' 72) o)
 have e1:=(hc1 cs cs' 0).trans (show _=some (SA .i64 id) by rw [hcs];rfl)
 have e2:=(hc1 cs cs' 1).trans (show _=some (SA .i64 inn) by rw [hcs];rfl)
 have e3:=(hc2 cs cs' 0).trans (show _=some (SA .i64 id') by rw [hcs'];rfl)
 have e4:=(hc2 cs cs' 1).trans (show _=some (SA .i64 inn') by rw [hcs'];rfl)
 rw [hcs,hcs'] at e1 e2 e3 e4 HG
 generalize hW:(w.alloc (.cells #[.int .i64 id,.int .i64 inn,.int .i64 out,.string region,.int .u8 kind,.string speaker,.slice a xs.length cap] 72)).alloc (.cells #[.int .i64 id',.int .i64 inn',.int .i64 out',.string region',.int .u8 kind',.string speaker',.slice a' xs'.length cap'] 72)=W at *
 have HW:=h_ hW
 clear hW hc1 hc2 hcs hcs' cs cs'
 go_enter Tryz.func134,Tryz.ntmps134
 go_wp2_with fail
 rw [HW.out]
 refine Sn 12 (by kernel_rfl) (by kernel_rfl) ?_
 simp only [St,Sv,Su,Sq]
 repeat still_step
 still_call (HC.out _ _ _)
 repeat still_step
 still_call (HC.out _ _ _)
 refine wpStill_nil ?_
 have HI:Hid (∀ w2:Sk,Ints (w2.alloc (.cells #[.int .i64 (Sz inn inn'),.int .i64 (Sz id id')] 3)) (some ⟨w2.heap.size,0,none⟩) [Sz inn inn',Sz id id']):=h_ (fun w2=>by
  refine .inr ⟨w2.heap.size,0,rfl,by simp,fun i z hz=>⟨fun j v hv=>?_,trivial⟩⟩
  match j,hv with
  | 0,hv =>
    simp at hv
    subst hv
    rw [show 0+i*1+0=i by omega,Sh _ _ i _ 3 (0,0) (Si w2 _)]
    match i,hz with
    | 0,hz=>simp at hz;subst hz;rfl
    | 1,hz=>simp at hz;subst hz;rfl)
 have HI2:Hid (Ints ((W.alloc (.cells #[.int .i64 (Sz inn inn'),.int .i64 (Sz id id')] 3)).drew) (some ⟨W.heap.size,0,none⟩) [Sz inn inn',Sz id id']):=h_ (HI.out W)
 go_wp2_with fail
 refine(vE _ _ [Sz inn inn',Sz id id'] _ HI2.out (by simp)).mono ?_
 rintro e w' ⟨rfl,rfl⟩
 go_wp2_with fail
 go_ret
 exact⟨rfl,HG.out _⟩
theorem D6 (p q:Int):orL [p,q]=if p=0 then q else p:=by
 simp only [orL]
 repeat' split
 all_goals simp_all
theorem lH (x y:Int):(Sz x y=-1∧x<y)∨(Sz x y=0∧x=y)∨(Sz x y=1∧y<x):=by
 unfold Sz
 repeat' split
 all_goals omega
theorem jb (x y:Ev):ltOf lW x y=decide (x.inn<y.inn∨(x.inn=y.inn∧x.id<y.id)):=by
 unfold ltOf lW
 rw [D6]
 congr 1
 rcases lH x.inn y.inn with⟨h,h1⟩|⟨h,h1⟩|⟨h,h1⟩<;>rcases lH x.id y.id with⟨k,k1⟩|⟨k,k1⟩|⟨k,k1⟩<;>rw [h,k]<;>simp<;>omega
theorem AU:Sort.SWO (ltOf lW) where
 irrefl x:=by rw [jb];simp
 trans x y z h1 h2:=by rw [jb] at *;simp at *;omega
 ntrans x y z h1 h2:=by rw [jb] at *;simp at *;omega
end Go.Proofs.YtjebaagkomejaaaGreatDoor
namespace Go.Proofs.YtjebaagkomejaaaGreatDoor
open Go.RowKit Go.ChangeShapes Go.WideShapes Go.Deep
theorem CJ {H:Type} (d:Sm H):1≤Rows.uptoBulk d:=by
 cases d with
 | lit l=>cases l<;>simp [Rows.uptoBulk]
 | nil=>simp [Rows.uptoBulk]
 | ptr d=>simp [Rows.uptoBulk]
 | slice elems spare=>simp [Rows.uptoBulk]
 | agg parts=>simp [Rows.uptoBulk]
 | iface t d=>simp [Rows.uptoBulk]
 | map entries=>simp [Rows.uptoBulk]
 | held h=>simp [Rows.uptoBulk]
theorem tb {H:Type} {d:Sm H} {l:List (Sm H)} (h:d∈l):Rows.uptoBulk d≤Rows.uptoBulkAll l:=by
 induction l with
 | nil=>cases h
 | cons x r ih =>
   simp only [Rows.uptoBulkAll]
   cases List.mem_cons.1 h with
   | inl e=>subst e;omega
   | inr e=>have:=ih e;omega
theorem vY {H:Type} (l:List (Sm H)):Rows.uptoBulkAll l=(l.map Rows.uptoBulk).sum:=by
 induction l with
 | nil=>simp [Rows.uptoBulkAll]
 | cons x r ih=>simp [Rows.uptoBulkAll,ih]
theorem build {α:Type} {Q:Nat→α→Prop}:∀ n,(∀ i,i<n→∃ a,Q i a)→∃ xs:List α,xs.length=n∧∀ i x,xs[i]? =some x→Q i x
 | 0,_=>⟨[],rfl,by simp⟩
 | n+1,h=>by
   obtain⟨xs,hl,hx⟩:=build n (fun i hi=>h i (by omega))
   obtain⟨a,ha⟩:=h n (by omega)
   refine⟨xs++[a],by simp [hl],fun i x hi=>?_⟩
   by_cases hn:i<n
   · rw [List.getElem?_append_left (by omega)] at hi
     exact hx i x hi
   · have hil:i<(xs++[a]).length:=(Sr.1 hi).1
     obtain rfl:i=n:=by simp at hil;omega
     rw [List.getElem?_append_right (by omega),hl,Nat.sub_self] at hi
     obtain rfl:a=x:=by simpa using hi
     exact ha
theorem Dh {α:Type} (μ:α→Nat):∀ (xs:List α)(g:Nat→Nat),(∀ i x,xs[i]? =some x→μ x≤g i)→(xs.map μ).sum≤((Sp xs.length).map g).sum
 | [],g,_=>by simp
 | x::l,g,h=>by
   have ih:=Dh μ l (fun i=>g (i+1)) (fun i y hy=>h (i+1) y (by simpa using hy))
   have h0:=h 0 x rfl
   rw [List.length_cons,List.range_succ_eq_map,Sx,Sx,Sw,Sw,Ss]
   exact Nat.add_le_add h0 ih
theorem Dj (g:Nat→Nat)(h:∀ i,1≤g i):∀ n,n≤((Sp n).map g).sum
 | 0=>by simp
 | n+1=>by
   have:=Dj g h n
   have:=h n
   rw [List.range_succ,List.map_append,List.sum_append]
   simp
   omega
section
variable {H:Type} (enc:TypeId × Sj→H)(w:Sk)(base:Nat)(sp:Nat→Bool)(held:Bool)
def Reads {α:Type} (t:TypeId)(ea:α→List Sj)(Ok:Sk→α→Prop)(fits:α→Prop)(μ:α→Nat):Prop :=
 ∀ fuel cs (x:Sm H × List Sl),SJ enc Tryz.prog w base sp held fuel t cs=some x→Rows.uptoBulk x.1≤1048576→∃ a:α,cs=ea a∧Ok w a∧fits a∧μ a≤Rows.uptoBulk x.1
end
theorem eI {H:Type} {enc:TypeId × Sj→H} {w:Sk} {base:Nat} {sp:Nat→Bool} {held:Bool} {α:Type} {t e k:Nat} {ea:α→List Sj} {Ok:Sk→α→Prop} {fits:α→Prop} {μ:α→Nat}
 (ht:Tryz.prog.underlying t=some (.slice e)) (hk:Tryz.prog.cellsOf e=k) (hk0:0<k) (hlen:∀ a,(ea a).length=k) (hr:Reads enc w base sp held e ea Ok fits μ)
 (fuel:Nat) (cs:List Sj) (x:Sm H × List Sl) (h:SJ enc Tryz.prog w base sp held fuel t cs=some x) (hb:Rows.uptoBulk x.1≤1048576) :
 ∃ (a:Option Addr) (xs:List α) (cap:Nat),cs=[.slice a xs.length cap]∧ah k ea Ok w a xs∧(∀ y∈xs,fits y)∧xs.length≤Rows.uptoBulk x.1∧(xs.map μ).sum≤Rows.uptoBulk x.1:=by
 rcases open_slice ht h with⟨rfl,rfl⟩|⟨a,len,cap,m,n,D,Pl,rfl,hbl,hl,hm,hmm,rfl,hi⟩
 · exact⟨none,[],0,rfl,.inl rfl,by simp,by simp,by simp⟩
 · have NT:len≤m:=by rw [hmm];split<;>omega
   simp only [Rows.uptoBulk] at hb ⊢
   have hD:∀ i,i<len→Rows.uptoBulk (D i)≤Rows.uptoBulkAll ((Sp len).map D):=fun i hi=>tb (Sy.2 ⟨i,List.mem_range.2 hi,rfl⟩)
   obtain⟨xs,hxl,hx⟩:=build (Q:=fun i y=>(∀ j v,(ea y)[j]? =some v→w.cell? ((a.add (i*k)).add j)=some v)∧Ok w y∧fits y∧μ y≤Rows.uptoBulk (D i)) len (fun i hil=>by
    obtain⟨cs',hc,htr⟩:=hi i (by omega)
    obtain⟨y,hy1,hy2,hy3,hy4⟩:=hr n cs' (D i,Pl i) htr (by have:=hD i hil;simp only;omega)
    rw [hk] at hc
    obtain⟨_,hcl,hat⟩:=Sk.cells?_some hc
    refine⟨y,fun j v hv=>?_,hy2,hy3,hy4⟩
    have hj:j<k:=by have:=(Sr.1 hv).1;rw [hlen] at this;exact this
    rw [hat j hj,hy1]
    exact hv)
   refine⟨some a,xs,cap,by rw [hxl],?_,fun y hy=>?_,?_,?_⟩
   · cases xs with
     | nil=>exact .inl rfl
     | cons y0 ys =>
       have h0:=(hx 0 y0 rfl).1
       have hy0:∃ v,(ea y0)[0]? =some v:=⟨_,List.getElem?_eq_getElem (by rw [hlen];exact hk0)⟩
       obtain⟨v0,hv0⟩:=hy0
       have hc0:=h0 0 v0 hv0
       simp only [Nat.zero_mul] at hc0
       obtain⟨b,off,spot⟩:=a
       have hspot:spot=none:=by simpa [Addr.add] using Sk.cell?_spot hc0
       subst hspot
       refine .inr ⟨b,off,rfl,by simpa [Addr.add] using Sk.block_lt_of_cell? w _ hc0,fun i y hy=>⟨fun j v hv=>?_,(hx i y hy).2.1⟩⟩
       have:=(hx i y hy).1 j v hv
       have e:((⟨b,off,none⟩:Addr).add (i*k)).add j=⟨b,off+i*k+j,none⟩:=by
        unfold Addr.add
        split<;>split<;>simp_all
       rw [e] at this
       exact this
   · obtain⟨i,hi'⟩:=List.getElem?_of_mem hy
     exact(hx i y hi').2.2.1
   · have h1:xs.length≤Rows.uptoBulkAll ((Sp len).map D):=by
      rw [vY,Ss,hxl]
      exact Dj _ (fun i=>CJ _) len
     omega
   · have h1:=Dh μ xs (fun i=>Rows.uptoBulk (D i)) (fun i y hy=>(hx i y hy).2.2.2)
     have h2:((Sp xs.length).map fun i=>Rows.uptoBulk (D i)).sum=Rows.uptoBulkAll ((Sp len).map D):=by
      rw [vY,Ss,hxl];rfl
     omega
theorem Kg:IntKind.i64.min=-9223372036854775808:=by decide
theorem Kh:IntKind.i64.max=9223372036854775807:=by decide
theorem min8:IntKind.u8.min=0:=by decide
theorem max8:IntKind.u8.max=255:=by decide
theorem dS {n:Int} (h:(Lit.int .i64 n).wf=true):i64 n:=by
 simp only [Lit.wf,Bool.and_eq_true,decide_eq_true_eq,Kg,Kh] at h
 exact h
theorem mh {n:Int} (h:(Lit.int .u8 n).wf=true):0≤n∧n≤255:=by
 simp only [Lit.wf,Bool.and_eq_true,decide_eq_true_eq,min8,max8] at h
 exact h
theorem Gl {α:Type} {l:List α} (h:l.length=1):∃ a0,l=[a0]:=by
 obtain _|⟨a0,l⟩:=l
 · simp at h
 obtain _|⟨b,l⟩:=l
 · exact⟨a0,rfl⟩
 · simp at h
theorem Gj {α:Type} {l:List α} (h:l.length=2):∃ a0 a1,l=[a0,a1]:=by
 obtain _|⟨a0,l⟩:=l
 · simp at h
 obtain _|⟨a1,l⟩:=l
 · simp at h
 obtain _|⟨b,l⟩:=l
 · exact⟨a0,a1,rfl⟩
 · simp at h
theorem D_ {α:Type} {l:List α} (h:l.length=3):∃ a0 a1 a2,l=[a0,a1,a2]:=by
 obtain _|⟨a0,l⟩:=l
 · simp at h
 obtain _|⟨a1,l⟩:=l
 · simp at h
 obtain _|⟨a2,l⟩:=l
 · simp at h
 obtain _|⟨b,l⟩:=l
 · exact⟨a0,a1,a2,rfl⟩
 · simp at h
theorem Kj {α:Type} {l:List α} (h:l.length=5):∃ a0 a1 a2 a3 a4,l=[a0,a1,a2,a3,a4]:=by
 obtain _|⟨a0,l⟩:=l
 · simp at h
 obtain _|⟨a1,l⟩:=l
 · simp at h
 obtain _|⟨a2,l⟩:=l
 · simp at h
 obtain _|⟨a3,l⟩:=l
 · simp at h
 obtain _|⟨a4,l⟩:=l
 · simp at h
 obtain _|⟨b,l⟩:=l
 · exact⟨a0,a1,a2,a3,a4,rfl⟩
 · simp at h
theorem Ki {α:Type} {l:List α} (h:l.length=6):∃ a0 a1 a2 a3 a4 a5,l=[a0,a1,a2,a3,a4,a5]:=by
 obtain _|⟨a0,l⟩:=l
 · simp at h
 obtain _|⟨a1,l⟩:=l
 · simp at h
 obtain _|⟨a2,l⟩:=l
 · simp at h
 obtain _|⟨a3,l⟩:=l
 · simp at h
 obtain _|⟨a4,l⟩:=l
 · simp at h
 obtain _|⟨a5,l⟩:=l
 · simp at h
 obtain _|⟨b,l⟩:=l
 · exact⟨a0,a1,a2,a3,a4,a5,rfl⟩
 · simp at h
theorem D9 {α:Type} {l:List α} (h:l.length=7):∃ a0 a1 a2 a3 a4 a5 a6,l=[a0,a1,a2,a3,a4,a5,a6]:=by
 obtain _|⟨a0,l⟩:=l
 · simp at h
 obtain _|⟨a1,l⟩:=l
 · simp at h
 obtain _|⟨a2,l⟩:=l
 · simp at h
 obtain _|⟨a3,l⟩:=l
 · simp at h
 obtain _|⟨a4,l⟩:=l
 · simp at h
 obtain _|⟨a5,l⟩:=l
 · simp at h
 obtain _|⟨a6,l⟩:=l
 · simp at h
 obtain _|⟨b,l⟩:=l
 · exact⟨a0,a1,a2,a3,a4,a5,a6,rfl⟩
 · simp at h
theorem B4 {α:Type} {l:List α} (h:l.length=8):∃ a0 a1 a2 a3 a4 a5 a6 a7,l=[a0,a1,a2,a3,a4,a5,a6,a7]:=by
 obtain _|⟨a0,l⟩:=l
 · simp at h
 obtain _|⟨a1,l⟩:=l
 · simp at h
 obtain _|⟨a2,l⟩:=l
 · simp at h
 obtain _|⟨a3,l⟩:=l
 · simp at h
 obtain _|⟨a4,l⟩:=l
 · simp at h
 obtain _|⟨a5,l⟩:=l
 · simp at h
 obtain _|⟨a6,l⟩:=l
 · simp at h
 obtain _|⟨a7,l⟩:=l
 · simp at h
 obtain _|⟨b,l⟩:=l
 · exact⟨a0,a1,a2,a3,a4,a5,a6,a7,rfl⟩
 · simp at h
section
variable {H:Type} {enc:TypeId × Sj→H} {w:Sk} {base:Nat} {sp:Nat→Bool} {held:Bool}
theorem c2:Tryz.prog.cellsOf 2=1:=by kernel_rfl
theorem c3:Tryz.prog.cellsOf 3=1:=by kernel_rfl
theorem c4:Tryz.prog.cellsOf 4=1:=by kernel_rfl
theorem c5:Tryz.prog.cellsOf 5=1:=by kernel_rfl
theorem c9:Tryz.prog.cellsOf 9=1:=by kernel_rfl
theorem c23:Tryz.prog.cellsOf 22=1:=by kernel_rfl
theorem c24:Tryz.prog.cellsOf 23=1:=by kernel_rfl
theorem c25:Tryz.prog.cellsOf 24=1:=by kernel_rfl
theorem c26:Tryz.prog.cellsOf 25=1:=by kernel_rfl
theorem c28:Tryz.prog.cellsOf 27=8:=by kernel_rfl
theorem c56:Tryz.prog.cellsOf 30=2:=by kernel_rfl
theorem c57:Tryz.prog.cellsOf 31=1:=by kernel_rfl
theorem c58:Tryz.prog.cellsOf 38=1:=by kernel_rfl
theorem c60:Tryz.prog.cellsOf 72=7:=by kernel_rfl
theorem c81:Tryz.prog.cellsOf 32=1:=by kernel_rfl
theorem c83:Tryz.prog.cellsOf 34=3:=by kernel_rfl
theorem c85:Tryz.prog.cellsOf 77=5:=by kernel_rfl
theorem c86:Tryz.prog.cellsOf 73=1:=by kernel_rfl
theorem c88:Tryz.prog.cellsOf 75=1:=by kernel_rfl
theorem c99:Tryz.prog.cellsOf 35=1:=by kernel_rfl
theorem c101:Tryz.prog.cellsOf 37=7:=by kernel_rfl
theorem c116:Tryz.prog.cellsOf 102=8:=by kernel_rfl
theorem ck {x:Sm H × List Sl} {ys:List (Sm H × List Sl)} (hx:x=(.agg (ys.map (·.1)),ys.flatMap (·.2))) {y:Sm H × List Sl} (hy:y∈ys):Rows.uptoBulk y.1≤Rows.uptoBulk x.1:=by
 rw [hx]
 simp only [Rows.uptoBulk]
 have:=tb (Sy.2 ⟨y,hy,rfl⟩:y.1∈ys.map (·.1))
 omega
theorem dZ {s:ByteArray} {y:Sm H × List Sl} (h:y=(.lit (.string s.data.toList),[])):s.size≤Rows.uptoBulk y.1:=by
 rw [h]
 simp only [Rows.uptoBulk]
 have:s.data.toList.length=s.size:=by simp
 omega
theorem vC:Reads enc w base sp held 37 Reg.enc Flat Reg.fits (fun _=>0):=by
 intro fuel cs x h hb
 obtain⟨ys,n,rfl,hx,hlen,hyl,hf⟩:=SH Tryz.underlying37 h
 rw [c101] at hlen
 obtain⟨v0,v1,v2,v3,v4,v5,v6,rfl⟩:=D9 hlen
 obtain⟨y0,y1,y2,y3,y4,y5,y6,rfl⟩:=D9 hyl
 have g0:=hf 0 _ rfl;have g1:=hf 1 _ rfl;have g2:=hf 2 _ rfl;have g3:=hf 3 _ rfl;have g4:=hf 4 _ rfl;have g5:=hf 5 _ rfl;have g6:=hf 6 _ rfl
 simp [c9,c3,c99,c4] at g0 g1 g2 g3 g4 g5 g6
 obtain⟨s0,e0,q0,w0⟩:=SG Tryz.underlying9 g0
 obtain⟨z1,e1,_,w1⟩:=SF Tryz.underlying3 g1
 obtain⟨z2,e2,_,w2⟩:=SF Tryz.underlying3 g2
 obtain⟨z3,e3,_,w3⟩:=SF Tryz.underlying3 g3
 obtain⟨z4,e4,_,w4⟩:=SF Tryz.underlying3 g4
 obtain⟨z5,e5,_,w5⟩:=SF Tryz.underlying35 g5
 obtain⟨z6,e6,_⟩:=SI Tryz.underlying4 g6
 simp at e0 e1 e2 e3 e4 e5 e6
 subst e0 e1 e2 e3 e4 e5 e6
 have k0:=ck hx (y:=y0) (by simp)
 have k1:=dZ q0
 exact⟨⟨s0,z1,z2,z3,z4,z5,z6⟩,rfl,trivial,⟨by simp only;omega,dS w1,dS w2,dS w3,dS w4,(mh w5).1,(mh w5).2⟩,SK _⟩
theorem DZ:Reads enc w base sp held 102 Cm.enc Flat Cm.fits (fun _=>0):=by
 intro fuel cs x h hb
 obtain⟨ys,n,rfl,hx,hlen,hyl,hf⟩:=SH Tryz.underlying102 h
 rw [c116] at hlen
 obtain⟨v0,v1,v2,v3,v4,v5,v6,v7,rfl⟩:=B4 hlen
 obtain⟨y0,y1,y2,y3,y4,y5,y6,y7,rfl⟩:=B4 hyl
 have g0:=hf 0 _ rfl;have g1:=hf 1 _ rfl;have g2:=hf 2 _ rfl;have g3:=hf 3 _ rfl;have g4:=hf 4 _ rfl;have g5:=hf 5 _ rfl;have g6:=hf 6 _ rfl;have g7:=hf 7 _ rfl
 simp [c9,c3,c2,c4] at g0 g1 g2 g3 g4 g5 g6 g7
 obtain⟨z0,e0,_,w0⟩:=SF Tryz.underlying2 g0
 obtain⟨z1,e1,_,w1⟩:=SF Tryz.underlying2 g1
 obtain⟨z2,e2,_,w2⟩:=SF Tryz.underlying3 g2
 obtain⟨z3,e3,_,w3⟩:=SF Tryz.underlying3 g3
 obtain⟨s4,e4,q4,_⟩:=SG Tryz.underlying9 g4
 obtain⟨s5,e5,q5,_⟩:=SG Tryz.underlying9 g5
 obtain⟨z6,e6,_⟩:=SI Tryz.underlying4 g6
 obtain⟨z7,e7,_⟩:=SI Tryz.underlying4 g7
 simp at e0 e1 e2 e3 e4 e5 e6 e7
 subst e0 e1 e2 e3 e4 e5 e6 e7
 have k4:=ck hx (y:=y4) (by simp)
 have k5:=ck hx (y:=y5) (by simp)
 have l4:=dZ q4
 have l5:=dZ q5
 exact⟨⟨z0,z1,z2,z3,s4,s5,z6,z7⟩,rfl,trivial,⟨dS w0,dS w1,dS w2,dS w3,by simp only;omega,by simp only;omega⟩,SK _⟩
theorem BO:Reads enc w base sp held 77 Run.enc Flat Run.fits (fun r=>r.text.size):=by
 intro fuel cs x h hb
 obtain⟨ys,n,rfl,hx,hlen,hyl,hf⟩:=SH Tryz.underlying77 h
 rw [c85] at hlen
 obtain⟨v0,v1,v2,v3,v4,rfl⟩:=Kj hlen
 obtain⟨y0,y1,y2,rfl⟩:=D_ hyl
 have g0:=hf 0 _ rfl;have g1:=hf 1 _ rfl;have g2:=hf 2 _ rfl
 simp [c9,c83] at g0 g1 g2
 obtain⟨s0,e0,q0,_⟩:=SG Tryz.underlying9 g0
 obtain⟨s4,e4,q4,_⟩:=SG Tryz.underlying9 g2
 obtain⟨us,n',rfl,hx',hlen',zX,hf'⟩:=SH Tryz.underlying34 g1
 obtain⟨u0,u1,u2,rfl⟩:=D_ zX
 have p0:=hf' 0 _ rfl;have p1:=hf' 1 _ rfl;have p2:=hf' 2 _ rfl
 simp [c81,c4] at p0 p1 p2
 obtain⟨z1,e1,_,w1⟩:=SF Tryz.underlying32 p0
 obtain⟨z2,e2,_⟩:=SI Tryz.underlying4 p1
 obtain⟨z3,e3,_⟩:=SI Tryz.underlying4 p2
 simp at e0 e1 e2 e3 e4
 subst e0 e1 e2 e3 e4
 have k0:=ck hx (y:=y0) (by simp)
 have k2:=ck hx (y:=y2) (by simp)
 have l0:=dZ q0
 have l2:=dZ q4
 exact⟨⟨s0,z1,z2,z3,s4⟩,rfl,trivial,⟨by simp only;omega,by simp only;omega,(mh w1).1,(mh w1).2⟩,by simp only;omega⟩
theorem oK:∀ l:List Run,(l.map fun r=>r.text.size).sum=cC l
 | []=>rfl
 | r::l=>by simp [cC,oK l]
theorem vB:Reads enc w base sp held 75 Row.enc Row.lies Row.fits (fun _=>0):=by
 intro fuel cs x h hb
 obtain⟨ys,n,rfl,hx,hlen,hyl,hf⟩:=SH Tryz.underlying75 h
 rw [c88] at hlen
 obtain⟨v0,rfl⟩:=Gl hlen
 obtain⟨y0,rfl⟩:=Gl hyl
 have g0:=hf 0 _ rfl
 simp [c86] at g0
 have k0:=ck hx (y:=y0) (by simp)
 obtain⟨a,xs,cap,e,hS,hF,hL,hM⟩:=eI Tryz.underlying73 c85 (by decide) (fun _=>rfl) BO n [v0] y0 g0 (by omega)
 simp at e
 subst e
 rw [oK] at hM
 exact⟨⟨a,cap,xs⟩,rfl,hS,⟨hF,by simp only;omega,by simp only;omega⟩,SK _⟩
theorem DY:Reads enc w base sp held 72 Ev.enc Ev.lies Ev.fits (fun _=>0):=by
 intro fuel cs x h hb
 obtain⟨ys,n,rfl,hx,hlen,hyl,hf⟩:=SH Tryz.underlying72 h
 rw [c60] at hlen
 obtain⟨v0,v1,v2,v3,v4,v5,v6,rfl⟩:=D9 hlen
 obtain⟨y0,y1,y2,y3,y4,y5,rfl⟩:=Ki hyl
 have g0:=hf 0 _ rfl;have g1:=hf 1 _ rfl;have g2:=hf 2 _ rfl;have g3:=hf 3 _ rfl;have g4:=hf 4 _ rfl;have g5:=hf 5 _ rfl
 simp [c2,c56,c9,c57,c58] at g0 g1 g2 g3 g4 g5
 obtain⟨z0,e0,_,w0⟩:=SF Tryz.underlying2 g0
 obtain⟨us,n',rfl,hx',hlen',zX,hf'⟩:=SH Tryz.underlying30 g1
 obtain⟨u0,u1,rfl⟩:=Gj zX
 have p0:=hf' 0 _ rfl;have p1:=hf' 1 _ rfl
 simp [c2] at p0 p1
 obtain⟨z1,e1,_,w1⟩:=SF Tryz.underlying2 p0
 obtain⟨z2,e2,_,w2⟩:=SF Tryz.underlying2 p1
 obtain⟨s3,e3,q3,_⟩:=SG Tryz.underlying9 g2
 obtain⟨z4,e4,_,w4⟩:=SF Tryz.underlying31 g3
 obtain⟨s5,e5,q5,_⟩:=SG Tryz.underlying9 g4
 have k2:=ck hx (y:=y2) (by simp)
 have k4:=ck hx (y:=y4) (by simp)
 have k5:=ck hx (y:=y5) (by simp)
 have l3:=dZ q3
 have l5:=dZ q5
 obtain⟨a,xs,cap,e6,hS,hF,hL,hM⟩:=eI Tryz.underlying38 c88 (by decide) (fun _=>rfl) vB _ [v6] y5 g5 (by omega)
 simp at e0 e1 e2 e3 e4 e5 e6
 subst e0 e1 e2 e3 e4 e5 e6
 exact⟨⟨z0,z1,z2,s3,z4,s5,a,cap,xs⟩,rfl,hS,⟨dS w0,dS w1,dS w2,by simp only;omega,(mh w4).1,(mh w4).2,by simp only;omega,hF,by simp only;omega⟩,SK _⟩
theorem BP:Reads enc w base sp held 27 Doc.enc (fun w d=>d.lies w) Doc.fits (fun _=>0):=by
 intro fuel cs x h hb
 obtain⟨ys,n,rfl,hx,hlen,hyl,hf⟩:=SH Tryz.underlying27 h
 rw [c28] at hlen
 obtain⟨v0,v1,v2,v3,v4,v5,v6,v7,rfl⟩:=B4 hlen
 obtain⟨y0,y1,y2,y3,y4,y5,y6,y7,rfl⟩:=B4 hyl
 have g0:=hf 0 _ rfl;have g1:=hf 1 _ rfl;have g2:=hf 2 _ rfl;have g3:=hf 3 _ rfl;have g4:=hf 4 _ rfl;have g5:=hf 5 _ rfl;have g6:=hf 6 _ rfl;have g7:=hf 7 _ rfl
 simp [c9,c23,c4,c2,c24,c25,c26] at g0 g1 g2 g3 g4 g5 g6 g7
 obtain⟨s0,e0,q0,_⟩:=SG Tryz.underlying9 g0
 obtain⟨s1,e1,q1,_⟩:=SG Tryz.underlying9 g1
 obtain⟨z2,e2,_,w2⟩:=SF Tryz.underlying22 g2
 obtain⟨z3,e3,_⟩:=SI Tryz.underlying4 g3
 obtain⟨z4,e4,_,w4⟩:=SF Tryz.underlying2 g4
 have k0:=ck hx (y:=y0) (by simp)
 have k1:=ck hx (y:=y1) (by simp)
 have k5:=ck hx (y:=y5) (by simp)
 have k6:=ck hx (y:=y6) (by simp)
 have k7:=ck hx (y:=y7) (by simp)
 have l0:=dZ q0
 have l1:=dZ q1
 obtain⟨ra,rG,rc,e5,hS5,Ou,hL5,_⟩:=eI Tryz.underlying23 c101 (by decide) (fun _=>rfl) vC _ [v5] y5 g5 (by omega)
 obtain⟨ea,eV,ec,e6,xL,Ot,hL6,_⟩:=eI Tryz.underlying24 c60 (by decide) (fun _=>rfl) DY _ [v6] y6 g6 (by omega)
 obtain⟨ca,cM,cc,e7,Oh,Oq,hL7,_⟩:=eI Tryz.underlying25 c116 (by decide) (fun _=>rfl) DZ _ [v7] y7 g7 (by omega)
 simp at e0 e1 e2 e3 e4 e5 e6 e7
 subst e0 e1 e2 e3 e4 e5 e6 e7
 exact⟨⟨s0,s1,z2,z3,z4,ra,rc,rG,ea,ec,eV,ca,cc,cM⟩,rfl,⟨hS5,xL,Oh⟩,⟨by simp only;omega,by simp only;omega,(mh w2).1,(mh w2).2,dS w4,Ou,by simp only;omega,Ot,by simp only;omega,Oq,by simp only;omega⟩,SK _⟩
end
def Kd (p:Doc × Doc):List Sj:=p.1.enc++p.2.enc
end Go.Proofs.YtjebaagkomejaaaGreatDoor
