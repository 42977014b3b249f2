/- DERIVED: THE SHELF's CONTRACTS AT THIS DUMP, IN PLAIN WORDS (tools/lay-plain.mjs out of 'YtnlnmbcaongehaaGreatDoorShelfT.lean', which tools/lay-shelf.mjs wrote): THE SAME DECLARATIONS UNDER THE SAME NAMES: 'import', 'namespace', 'open', 'def', 'theorem' AND NOTHING ELSE: no command of the shelf's: FOR A HAND-IN. Each laying: the table of numbers ('.._ren') and one theorem, a field a fact of the dump's own or the kernel's comparison; each contract: ONE APPLICATION. The contract of lines.Decimal. The fields in which a change's sides differ, and the report of changes, in plain words. How the readings of the arguments give links and documents in memory. The chapter's example of a merge: a document with one event (law 18's one). -/
import Derived.Test.YtnlnmbcaongehaaGreatDoorRows
import Derived.Test.YtnlnmbcaongehaaGreatDoorM28
import Derived.Test.YtnlnmbcaongehaaGreatDoorM29
set_option linter.unusedVariables false
set_option linter.unusedSimpArgs false
set_option maxRecDepth 100000
set_option maxHeartbeats 12800000
open Go.Lib renaming hid→h_
open Go renaming heap_alloc_last→kR,World→kS,MemPlace→kT,DataW→kU,Value→kV,TypeId→kW
open Go.RowKit.Below renaming heap_alloc→kX,refl→kY
open List renaming mem_singleton→kZ,range→k7,getElem?_eq_some_iff→k9,map_map→k_,sum_cons→lf,map_cons→lg,mem_map→lh
open Go.Value renaming string→lj,int→lk
open Option.some renaming inj→ll
namespace Go.Proofs
open Go.Shelf
def Tryz.laysM173_ren:Go.Shelf.Ren:=⟨fun|173=>121|246=>192|283=>252|284=>253|285=>254|286=>255|129=>229|317=>281|318=>282|319=>283|320=>284|337=>293|338=>294|n=>n,fun|2=>2|3=>3|9=>9|4=>4|171=>307|0=>0|53=>259|37=>121|5=>5|173=>309|212=>337|51=>290|20=>20|213=>338|46=>238|232=>349|233=>350|n=>n,fun|17=>2|18=>4|19=>5|n=>n⟩
theorem Tryz.laysM173:Go.Proofs.LaysM.n173 Tryz.prog Tryz.laysM173_ren:={
 mixed:=by kernel_rfl
 f129:=Tryz.func229.trans (congrArg some (by kernel_rfl))
 f173:=Tryz.func121.trans (congrArg some (by kernel_rfl))
 f246:=Tryz.func192.trans (congrArg some (by kernel_rfl))
 f283:=Tryz.func252.trans (congrArg some (by kernel_rfl))
 f284:=Tryz.func253.trans (congrArg some (by kernel_rfl))
 f285:=Tryz.func254.trans (congrArg some (by kernel_rfl))
 f286:=Tryz.func255.trans (congrArg some (by kernel_rfl))
 f317:=Tryz.func281.trans (congrArg some (by kernel_rfl))
 f318:=Tryz.func282.trans (congrArg some (by kernel_rfl))
 f319:=Tryz.func283.trans (congrArg some (by kernel_rfl))
 f320:=Tryz.func284.trans (congrArg some (by kernel_rfl))
 f337:=Tryz.func293.trans (congrArg some (by kernel_rfl))
 f338:=Tryz.func294.trans (congrArg some (by kernel_rfl))
 t0:=Tryz.underlying0
 a0:=Tryz.isAgg0
 z0:=Tryz.sizeOf0
 v0:=Tryz.zeroValue0
 t2:=Tryz.underlying2
 a2:=Tryz.isAgg2
 z2:=Tryz.sizeOf2
 v2:=Tryz.zeroValue2
 t3:=Tryz.underlying3
 a3:=Tryz.isAgg3
 z3:=Tryz.sizeOf3
 v3:=Tryz.zeroValue3
 t4:=Tryz.underlying4
 a4:=Tryz.isAgg4
 z4:=Tryz.sizeOf4
 v4:=Tryz.zeroValue4
 t5:=Tryz.underlying5
 a5:=Tryz.isAgg5
 z5:=Tryz.sizeOf5
 v5:=Tryz.zeroValue5
 t9:=Tryz.underlying9
 a9:=Tryz.isAgg9
 z9:=Tryz.sizeOf9
 v9:=Tryz.zeroValue9
 t20:=Tryz.underlying20
 a20:=Tryz.isAgg20
 z20:=Tryz.sizeOf20
 v20:=Tryz.zeroValue20
 t37:=Tryz.underlying121
 a37:=Tryz.isAgg121
 z37:=Tryz.sizeOf121
 v37:=Tryz.zeroValue121
 t46:=Tryz.underlying238
 a46:=Tryz.isAgg238
 z46:=Tryz.sizeOf238
 v46:=Tryz.zeroValue238
 t51:=Tryz.underlying290
 a51:=Tryz.isAgg290
 z51:=Tryz.sizeOf290
 v51:=Tryz.zeroValue290
 t53:=Tryz.underlying259
 a53:=Tryz.isAgg259
 z53:=Tryz.sizeOf259
 v53:=Tryz.zeroValue259
 t171:=Tryz.underlying307
 a171:=Tryz.isAgg307
 z171:=Tryz.sizeOf307
 v171:=Tryz.zeroValue307
 t173:=Tryz.underlying309
 a173:=Tryz.isAgg309
 z173:=Tryz.sizeOf309
 v173:=Tryz.zeroValue309
 t212:=Tryz.underlying337
 a212:=Tryz.isAgg337
 z212:=Tryz.sizeOf337
 v212:=Tryz.zeroValue337
 t213:=Tryz.underlying338
 a213:=Tryz.isAgg338
 z213:=Tryz.sizeOf338
 t232:=Tryz.underlying349
 a232:=Tryz.isAgg349
 z232:=Tryz.sizeOf349
 v232:=Tryz.zeroValue349
 t233:=Tryz.underlying350
 a233:=Tryz.isAgg350
 z233:=Tryz.sizeOf350
 v233:=Tryz.zeroValue350
 g17:=by kernel_rfl
 g18:=by kernel_rfl
 g19:=by kernel_rfl
 i0:=by kernel_rfl
 i2:=by kernel_rfl
 i3:=by kernel_rfl
 i4:=by kernel_rfl
 i5:=by kernel_rfl
 i9:=by kernel_rfl
 i20:=by kernel_rfl
 i37:=by kernel_rfl
 i46:=by kernel_rfl
 i51:=by kernel_rfl
 i53:=by kernel_rfl
 i171:=by kernel_rfl
 i173:=by kernel_rfl
 i212:=by kernel_rfl
 i232:=by kernel_rfl
 i233:=by kernel_rfl
 m17:=by kernel_rfl
 m18:=by kernel_rfl
 m19:=by kernel_rfl }
open Go.RowKit Go.Sort Go.Lib in
theorem Tryz.strconv_FormatInt_10 (n:Int)(h0:-9223372036854775808≤n)(h1:n≤9223372036854775807)(w:kS)(htab:Lib.TabIs Tryz.prog w "internal/strconv.uint64pow10" .u64 Lib.pow10Tab) :
 Calls Tryz.prog 121 #[.int .i64 n,.int .i64 10] w fun e w'=>e=.returned (.string ⟨(Lib.itoa n).toArray⟩)∧∃ k os,w'=grow (w.drewN k) os:=Any.strconv_FormatInt_10 Tryz.laysM173 n h0 h1 w htab
end Go.Proofs
namespace Go.Proofs.YtnlnmbcaongehaaGreatDoor
open Go.RowKit
theorem decimal_calls (n:Int)(h0:-9223372036854775808≤n)(h1:n≤9223372036854775807)(w:kS)(htab:Lib.TabIs Tryz.prog w "internal/strconv.uint64pow10" .u64 Lib.pow10Tab) :
 Calls Tryz.prog 66 #[.int .i64 n] w fun e w'=>e=.returned (.string ⟨(Lib.itoa n).toArray⟩)∧Below w.heap.size w w':=by
 have HC:=h_ (Tryz.strconv_FormatInt_10 n h0 h1 w htab)
 generalize (Lib.itoa n).toArray=S at *
 clear htab
 go_enter Tryz.func66,Tryz.ntmps66
 go_wp2_with fail
 refine HC.out.mono ?_
 rintro e w1 ⟨rfl,k,os,rfl⟩
 have hb:Below w.heap.size w (Sort.grow (w.drewN k) os):=zdZ (Go.below_drewN (kY _ _) k) (Nat.le_refl _) os
 clear HC
 generalize Sort.grow (w.drewN k) os=w1 at *
 go_wp2_with fail
 go_ret
 exact⟨rfl,hb⟩
def wTITLE:ByteArray:=⟨#[84,73,84,76,69]⟩
def wLANG:ByteArray:=⟨#[76,65,78,71]⟩
def wRATE:ByteArray:=⟨#[82,65,84,69]⟩
def wLAST:ByteArray:=⟨#[76,65,83,84]⟩
def wPLACE:ByteArray:=⟨#[80,76,65,67,69]⟩
def wALIGN:ByteArray:=⟨#[65,76,73,71,78]⟩
def wANCHOR:ByteArray:=⟨#[65,78,67,72,79,82]⟩
def wSPAN:ByteArray:=⟨#[83,80,65,78]⟩
def wREGION:ByteArray:=⟨#[82,69,71,73,79,78]⟩
def wKIND:ByteArray:=⟨#[75,73,78,68]⟩
def wSPEAKER:ByteArray:=⟨#[83,80,69,65,75,69,82]⟩
def wROWS:ByteArray:=⟨#[82,79,87,83]⟩
def wAUTHOR:ByteArray:=⟨#[65,85,84,72,79,82]⟩
def wTEXT:ByteArray:=⟨#[84,69,88,84]⟩
def wDONE:ByteArray:=⟨#[68,79,78,69]⟩
def wHEAD:ByteArray:=⟨#[72,69,65,68]⟩
def wEVENT:ByteArray:=⟨#[69,86,69,78,84]⟩
def wCOMMENT:ByteArray:=⟨#[67,79,77,77,69,78,84]⟩
def wASK:ByteArray:=⟨#[63]⟩
def wADDED:ByteArray:=⟨#[65,68,68,69,68]⟩
def wGONE:ByteArray:=⟨#[71,79,78,69]⟩
def fieldsOf (c:Chg):List Fld :=
 if c.sec=1 then [⟨wTITLE,!(c.oh.title.toList==c.nh.title.toList)⟩,⟨wLANG,!(c.oh.lang.toList==c.nh.lang.toList)⟩,⟨wRATE,!(c.oh.rate==c.nh.rate)||!(c.oh.drop==c.nh.drop)⟩,⟨wLAST,!(c.oh.last==c.nh.last)⟩]
 else if c.sec=2 then [⟨wPLACE,!(c.rg.top==c.nr.top)||!(c.rg.height==c.nr.height)||!(c.rg.left==c.nr.left)||!(c.rg.width==c.nr.width)⟩,⟨wALIGN,!(c.rg.align==c.nr.align)⟩,⟨wANCHOR,!(c.rg.bottom==c.nr.bottom)⟩]
 else if c.sec=3 then [⟨wSPAN,!(c.oe.inn==c.ne.inn&&c.oe.out==c.ne.out)⟩,⟨wREGION,!(c.oe.region.toList==c.ne.region.toList)⟩,⟨wKIND,!(c.oe.kind==c.ne.kind)⟩,⟨wSPEAKER,!(c.oe.speaker.toList==c.ne.speaker.toList)⟩,⟨wROWS,!bS c.oe.rows c.ne.rows⟩]
 else if c.sec=4 then [⟨wANCHOR,!(c.oc.ev==c.nc.ev)||!(c.oc.frm==c.nc.frm)||!(c.oc.til==c.nc.til)||!(c.oc.lost==c.nc.lost)⟩,⟨wAUTHOR,!(c.oc.author.toList==c.nc.author.toList)⟩,⟨wTEXT,!(c.oc.text.toList==c.nc.text.toList)⟩,⟨wDONE,!(c.oc.done==c.nc.done)⟩]
 else []
def fieldNames (c:Chg):List ByteArray:=if (c.added||c.gone)=true then [] else zav (fieldsOf c)
def decB (n:Int):ByteArray:=⟨(Lib.itoa n).toArray⟩
def placeWords (c:Chg):List ByteArray :=
 if c.sec=1 then [wHEAD] else if c.sec=2 then [wREGION,c.name] else if c.sec=3 then [wEVENT,decB c.id] else if c.sec=4 then [wCOMMENT,decB c.id] else [wASK]
def lineWords (c:Chg):List ByteArray:=placeWords c++(if c.added=true then [wADDED] else if c.gone=true then [wGONE] else fieldNames c)
def lineB (c:Chg):List UInt8:=Lib.join ((lineWords c).map (·.data.toList)) [32]++[10]
def textB (l:List Chg):List UInt8:=l.flatMap lineB
end Go.Proofs.YtnlnmbcaongehaaGreatDoor
namespace Go.Proofs.YtnlnmbcaongehaaGreatDoor
open Go.RowKit Go.ChangeShapes Go.WideShapes Go.Deep
theorem bulk_one {H:Type} (d:kU H):1≤Rows.uptoBulk d:=by
 cases d with
 | lit l=>cases l<;>simp [Rows.uptoBulk]
 | nil=>simp [Rows.uptoBulk]
 | ptr d=>simp [Rows.uptoBulk]
 | slice elems spare=>simp [Rows.uptoBulk]
 | agg parts=>simp [Rows.uptoBulk]
 | iface t d=>simp [Rows.uptoBulk]
 | map entries=>simp [Rows.uptoBulk]
 | held h=>simp [Rows.uptoBulk]
theorem bulk_part {H:Type} {d:kU H} {l:List (kU H)} (h:d∈l):Rows.uptoBulk d≤Rows.uptoBulkAll l:=by
 induction l with
 | nil=>cases h
 | cons x r ih =>
   simp only [Rows.uptoBulkAll]
   cases List.mem_cons.1 h with
   | inl e=>subst e;omega
   | inr e=>have:=ih e;omega
theorem bulk_sum {H:Type} (l:List (kU H)):Rows.uptoBulkAll l=(l.map Rows.uptoBulk).sum:=by
 induction l with
 | nil=>simp [Rows.uptoBulkAll]
 | cons x r ih=>simp [Rows.uptoBulkAll,ih]
theorem build {α:Type} {Q:Nat→α→Prop}:∀ n,(∀ i,i<n→∃ a,Q i a)→∃ xs:List α,xs.length=n∧∀ i x,xs[i]? =some x→Q i x
 | 0,_=>⟨[],rfl,by simp⟩
 | n+1,h=>by
   obtain⟨xs,hl,hx⟩:=build n (fun i hi=>h i (by omega))
   obtain⟨a,ha⟩:=h n (by omega)
   refine⟨xs++[a],by simp [hl],fun i x hi=>?_⟩
   by_cases hn:i<n
   · rw [List.getElem?_append_left (by omega)] at hi
     exact hx i x hi
   · have hil:i<(xs++[a]).length:=(k9.1 hi).1
     obtain rfl:i=n:=by simp at hil;omega
     rw [List.getElem?_append_right (by omega),hl,Nat.sub_self] at hi
     obtain rfl:a=x:=by simpa using hi
     exact ha
theorem sum_le {α:Type} (μ:α→Nat):∀ (xs:List α)(g:Nat→Nat),(∀ i x,xs[i]? =some x→μ x≤g i)→(xs.map μ).sum≤((k7 xs.length).map g).sum
 | [],g,_=>by simp
 | x::l,g,h=>by
   have ih:=sum_le μ l (fun i=>g (i+1)) (fun i y hy=>h (i+1) y (by simpa using hy))
   have h0:=h 0 x rfl
   rw [List.length_cons,List.range_succ_eq_map,lg,lg,lf,lf,k_]
   exact Nat.add_le_add h0 ih
theorem len_le (g:Nat→Nat)(h:∀ i,1≤g i):∀ n,n≤((k7 n).map g).sum
 | 0=>by simp
 | n+1=>by
   have:=len_le g h n
   have:=h n
   rw [List.range_succ,List.map_append,List.sum_append]
   simp
   omega
section
variable {H:Type} (enc:kW × kV→H)(w:kS)(base:Nat)(sp:Nat→Bool)(held:Bool)
def Reads {α:Type} (t:kW)(ea:α→List kV)(Ok:kS→α→Prop)(fits:α→Prop)(μ:α→Nat):Prop :=
 ∀ fuel cs (x:kU H × List kT),kU.trod enc Tryz.prog w base sp held fuel t cs=some x→Rows.uptoBulk x.1≤1048576→∃ a:α,cs=ea a∧Ok w a∧fits a∧μ a≤Rows.uptoBulk x.1
end
theorem reads_slice {H:Type} {enc:kW × kV→H} {w:kS} {base:Nat} {sp:Nat→Bool} {held:Bool} {α:Type} {t e k:Nat} {ea:α→List kV} {Ok:kS→α→Prop} {fits:α→Prop} {μ:α→Nat}
 (ht:Tryz.prog.underlying t=some (.slice e)) (hk:Tryz.prog.cellsOf e=k) (hk0:0<k) (hlen:∀ a,(ea a).length=k) (hr:Reads enc w base sp held e ea Ok fits μ)
 (fuel:Nat) (cs:List kV) (x:kU H × List kT) (h:kU.trod enc Tryz.prog w base sp held fuel t cs=some x) (hb:Rows.uptoBulk x.1≤1048576) :
 ∃ (a:Option Addr) (xs:List α) (cap:Nat),cs=[.slice a xs.length cap]∧af k ea Ok w a xs∧(∀ y∈xs,fits y)∧xs.length≤Rows.uptoBulk x.1∧(xs.map μ).sum≤Rows.uptoBulk x.1:=by
 rcases open_slice ht h with⟨rfl,rfl⟩|⟨a,len,cap,m,n,D,Pl,rfl,hbl,hl,hm,hmm,rfl,hi⟩
 · exact⟨none,[],0,rfl,.inl rfl,by simp,by simp,by simp⟩
 · have hml:len≤m:=by rw [hmm];split<;>omega
   simp only [Rows.uptoBulk] at hb ⊢
   have hD:∀ i,i<len→Rows.uptoBulk (D i)≤Rows.uptoBulkAll ((k7 len).map D):=fun i hi=>bulk_part (lh.2 ⟨i,List.mem_range.2 hi,rfl⟩)
   obtain⟨xs,hxl,hx⟩:=build (Q:=fun i y=>(∀ j v,(ea y)[j]? =some v→w.cell? ((a.add (i*k)).add j)=some v)∧Ok w y∧fits y∧μ y≤Rows.uptoBulk (D i)) len (fun i hil=>by
    obtain⟨cs',hc,htr⟩:=hi i (by omega)
    obtain⟨y,hy1,hy2,hy3,hy4⟩:=hr n cs' (D i,Pl i) htr (by have:=hD i hil;simp only;omega)
    rw [hk] at hc
    obtain⟨_,hcl,hat⟩:=kS.cells?_some hc
    refine⟨y,fun j v hv=>?_,hy2,hy3,hy4⟩
    have hj:j<k:=by have:=(k9.1 hv).1;rw [hlen] at this;exact this
    rw [hat j hj,hy1]
    exact hv)
   refine⟨some a,xs,cap,by rw [hxl],?_,fun y hy=>?_,?_,?_⟩
   · cases xs with
     | nil=>exact .inl rfl
     | cons y0 ys =>
       have h0:=(hx 0 y0 rfl).1
       have hy0:∃ v,(ea y0)[0]? =some v:=⟨_,List.getElem?_eq_getElem (by rw [hlen];exact hk0)⟩
       obtain⟨v0,hv0⟩:=hy0
       have hc0:=h0 0 v0 hv0
       simp only [Nat.zero_mul] at hc0
       obtain⟨b,off,spot⟩:=a
       have hspot:spot=none:=by simpa [Addr.add] using kS.cell?_spot hc0
       subst hspot
       refine .inr ⟨b,off,rfl,by simpa [Addr.add] using kS.block_lt_of_cell? w _ hc0,fun i y hy=>⟨fun j v hv=>?_,(hx i y hy).2.1⟩⟩
       have:=(hx i y hy).1 j v hv
       have e:((⟨b,off,none⟩:Addr).add (i*k)).add j=⟨b,off+i*k+j,none⟩:=by
        unfold Addr.add
        split<;>split<;>simp_all
       rw [e] at this
       exact this
   · obtain⟨i,hi'⟩:=List.getElem?_of_mem hy
     exact(hx i y hi').2.2.1
   · have h1:xs.length≤Rows.uptoBulkAll ((k7 len).map D):=by
      rw [bulk_sum,k_,hxl]
      exact len_le _ (fun i=>bulk_one _) len
     omega
   · have h1:=sum_le μ xs (fun i=>Rows.uptoBulk (D i)) (fun i y hy=>(hx i y hy).2.2.2)
     have h2:((k7 xs.length).map fun i=>Rows.uptoBulk (D i)).sum=Rows.uptoBulkAll ((k7 len).map D):=by
      rw [bulk_sum,k_,hxl];rfl
     omega
theorem min64:IntKind.i64.min=-9223372036854775808:=by decide
theorem max64:IntKind.i64.max=9223372036854775807:=by decide
theorem min8:IntKind.u8.min=0:=by decide
theorem max8:IntKind.u8.max=255:=by decide
theorem i64_of {n:Int} (h:(Lit.int .i64 n).wf=true):i64 n:=by
 simp only [Lit.wf,Bool.and_eq_true,decide_eq_true_eq,min64,max64] at h
 exact h
theorem u8_of {n:Int} (h:(Lit.int .u8 n).wf=true):0≤n∧n≤255:=by
 simp only [Lit.wf,Bool.and_eq_true,decide_eq_true_eq,min8,max8] at h
 exact h
section
variable {H:Type} {enc:kW × kV→H} {w:kS} {base:Nat} {sp:Nat→Bool} {held:Bool}
theorem c2:Tryz.prog.cellsOf 2=1:=by kernel_rfl
theorem c3:Tryz.prog.cellsOf 3=1:=by kernel_rfl
theorem c4:Tryz.prog.cellsOf 4=1:=by kernel_rfl
theorem c5:Tryz.prog.cellsOf 5=1:=by kernel_rfl
theorem c9q:Tryz.prog.cellsOf 9=1:=by kernel_rfl
theorem agg_part {x:kU H × List kT} {ys:List (kU H × List kT)} (hx:x=(.agg (ys.map (·.1)),ys.flatMap (·.2))) {y:kU H × List kT} (hy:y∈ys):Rows.uptoBulk y.1≤Rows.uptoBulk x.1:=by
 rw [hx]
 simp only [Rows.uptoBulk]
 have:=bulk_part (lh.2 ⟨y,hy,rfl⟩:y.1∈ys.map (·.1))
 omega
theorem str_size {s:ByteArray} {y:kU H × List kT} (h:y=(.lit (.string s.data.toList),[])):s.size≤Rows.uptoBulk y.1:=by
 rw [h]
 simp only [Rows.uptoBulk]
 have:s.data.toList.length=s.size:=by simp
 omega
end
end Go.Proofs.YtnlnmbcaongehaaGreatDoor
namespace Go.Proofs.YtnlnmbcaongehaaGreatDoor
open Go.RowKit
def OnePost (inn out:Int)(t:ByteArray)(w:kS)(e:Ending)(w':kS):Prop:=∃ d:Doc,e=.returned (.agg d.enc.toArray)∧d.c=aw18 inn out t∧d.lies w'∧d.fits∧(∀ b,d.uses b→w.heap.size≤b)∧Below w.heap.size w w'
theorem five_boxes (w:kS)(o1 o2 o3 o4 o5:Obj):((((((w.alloc o1).alloc o2).alloc o3).alloc o4).alloc o5).heap[w.heap.size+1]? =some o2∧(((((w.alloc o1).alloc o2).alloc o3).alloc o4).alloc o5).heap[w.heap.size+1+1]? =some o3∧(((((w.alloc o1).alloc o2).alloc o3).alloc o4).alloc o5).heap[w.heap.size+1+1+1]? =some o4∧(((((w.alloc o1).alloc o2).alloc o3).alloc o4).alloc o5).heap[w.heap.size+1+1+1+1]? =some o5)∧Below w.heap.size w (((((w.alloc o1).alloc o2).alloc o3).alloc o4).alloc o5):=by
 have a2:=kR (w.alloc o1) o2
 have a3:=kR ((w.alloc o1).alloc o2) o3
 have a4:=kR (((w.alloc o1).alloc o2).alloc o3) o4
 have a5:=kR ((((w.alloc o1).alloc o2).alloc o3).alloc o4) o5
 simp only [kS.size_alloc] at a2 a3 a4 a5
 refine⟨⟨?_,?_,?_,a5⟩,?_⟩
 · rw [kX _ _ _ (by simp;try omega),kX _ _ _ (by simp;try omega),kX _ _ _ (by simp)]
   exact a2
 · rw [kX _ _ _ (by simp;try omega),kX _ _ _ (by simp)]
   exact a3
 · rw [kX _ _ _ (by simp)]
   exact a4
 · exact((((((kY _ _).alloc (Nat.le_refl _) _).alloc (by simp) _).alloc (by simp;try omega) _).alloc (by simp;try omega) _).alloc (by simp;try omega) _)
theorem one_slice {α:Type} {k:Nat} {enc:α→List kV} {Ok:kS→α→Prop} {w:kS} {b:Nat} {t:kW} (x:α)(h:w.heap[b]? =some (.cells (enc x).toArray t (0,0)))(ho:Ok w x):af k enc Ok w (some ⟨b,0,none⟩) [x]:=by
 refine .inr ⟨b,0,rfl,(Array.getElem?_eq_some_iff.1 h).1,fun i y hy=>?_⟩
 obtain⟨rfl,rfl⟩:i=0∧x=y:=by
  cases i with
  | zero=>exact⟨rfl,by simpa using hy⟩
  | succ n=>simp at hy
 refine⟨fun j v hv=>?_,ho⟩
 rw [show 0+0*k+j=j by omega,cell_of_row _ _ j _ t (0,0) h]
 simpa using hv
def oneRun (t:ByteArray):Run:=⟨t,0,false,false,⟨#[]⟩⟩
def oneDoc (n:Nat)(inn out:Int)(t:ByteArray):Doc:=⟨⟨#[]⟩,⟨#[]⟩,3,false,1,none,0,[],some ⟨n+1+1+1+1,0,none⟩,1,[⟨1,inn,out,⟨#[]⟩,1,⟨#[]⟩,some ⟨n+1+1+1,0,none⟩,1,[⟨some ⟨n+1+1,0,none⟩,1,[oneRun t]⟩]⟩],none,0,[]⟩
theorem nat0:0≤4000000:=Nat.zero_le _
theorem oneDoc_fits (n:Nat) {inn out:Int} {t:ByteArray} (hi:i64 inn)(ho:i64 out)(ht:t.size≤4000000):(oneDoc n inn out t).fits:=by
 refine⟨nat0,nat0,(by decide:(0:Int)≤3),(by decide:(3:Int)≤255),(by decide:(-9223372036854775808:Int)≤1∧(1:Int)≤9223372036854775807),(fun r hr=>by cases hr),nat0,fun e he=>?_,(by decide:1≤4000000),(fun c hc=>by cases hc),nat0⟩
 obtain rfl:=kZ.1 he
 refine⟨(by decide:(-9223372036854775808:Int)≤1∧(1:Int)≤9223372036854775807),hi,ho,nat0,(by decide:(0:Int)≤1),(by decide:(1:Int)≤255),nat0,fun r hr=>?_,(by decide:1≤4000000)⟩
 obtain rfl:=kZ.1 hr
 refine⟨fun q hq=>?_,(by decide:1≤4000000),?_⟩
 · obtain rfl:=kZ.1 hq
   exact⟨ht,nat0,(by decide:(0:Int)≤0),(by decide:(0:Int)≤255)⟩
 · show t.size+0≤4000000
   omega
theorem one_calls (inn out:Int)(t:ByteArray)(w:kS)(hi:i64 inn)(ho:i64 out)(ht:t.size≤4000000):Calls Tryz.prog 73 #[.agg #[.int .i64 inn,.int .i64 out],.string t] w (OnePost inn out t w):=by
 have HQ:=h_ (fun(w':kS) (hl:(oneDoc w.heap.size inn out t).lies w') (hb:Below w.heap.size w w')=>(show OnePost inn out t w (.returned (.agg #[lj ⟨#[]⟩,.string ⟨#[]⟩,.int .u8 3,.bool false,.int .i64 1,.slice none 0 0,.slice (some ⟨w.heap.size+1+1+1+1,0,none⟩) 1 1,.slice none 0 0])) w' from⟨oneDoc w.heap.size inn out t,rfl,rfl,hl,oneDoc_fits _ hi ho ht,by
  rintro b (⟨h,_⟩|(⟨_,ad,ha,rfl⟩|⟨x,hx,hb⟩)|⟨h,_⟩)
  · exact absurd rfl h
  · have ha':some (⟨w.heap.size+1+1+1+1,0,none⟩:Addr)=some ad:=ha
    obtain rfl:=ll ha'
    show w.heap.size≤w.heap.size+1+1+1+1
    omega
  · obtain rfl:=kZ.1 hx
    rcases hb with⟨_,ad,ha,rfl⟩|⟨r,hr,_,ad,ha,rfl⟩
    · have ha':some (⟨w.heap.size+1+1+1,0,none⟩:Addr)=some ad:=ha
      obtain rfl:=ll ha'
      show w.heap.size≤w.heap.size+1+1+1
      omega
    · obtain rfl:=kZ.1 hr
      have ha':some (⟨w.heap.size+1+1,0,none⟩:Addr)=some ad:=ha
      obtain rfl:=ll ha'
      show w.heap.size≤w.heap.size+1+1
      omega
  · exact absurd rfl h,hb⟩))
 generalize OnePost inn out t w=Q at *
 have H5:=h_ (five_boxes w)
 go_enter Tryz.func73,Tryz.ntmps73
 go_wp2_with fail
 obtain⟨⟨h2,h3,h4,h5⟩,hb⟩:=H5.out (.cells #[.int .i64 inn,.int .i64 out] 46) (.cells #[lj ⟨#[]⟩,.string ⟨#[]⟩,.int .u8 3,.bool false,.int .i64 1,.slice none 0 0,.slice (some ⟨w.heap.size+1+1+1+1,0,none⟩) 1 1,.slice none 0 0] 27) (.cells #[lj t,.int .u8 0,.bool false,.bool false,.string ⟨#[]⟩] 75) (.cells #[.slice (some ⟨w.heap.size+1+1,0,none⟩) 1 1] 78) (.cells #[lk .i64 1,.int .i64 inn,.int .i64 out,.string ⟨#[]⟩,.int .u8 1,.string ⟨#[]⟩,.slice (some ⟨w.heap.size+1+1+1,0,none⟩) 1 1] 50)
 generalize (((((w.alloc (.cells #[.int .i64 inn,.int .i64 out] 46)).alloc (.cells #[lj ⟨#[]⟩,.string ⟨#[]⟩,.int .u8 3,.bool false,.int .i64 1,.slice none 0 0,.slice (some ⟨w.heap.size+1+1+1+1,0,none⟩) 1 1,.slice none 0 0] 27)).alloc (.cells #[lj t,.int .u8 0,.bool false,.bool false,.string ⟨#[]⟩] 75)).alloc (.cells #[.slice (some ⟨w.heap.size+1+1,0,none⟩) 1 1] 78)).alloc (.cells #[lk .i64 1,.int .i64 inn,.int .i64 out,.string ⟨#[]⟩,.int .u8 1,.string ⟨#[]⟩,.slice (some ⟨w.heap.size+1+1+1,0,none⟩) 1 1] 50))=wf at *
 have a4:∀ j,wf.cell? ⟨w.heap.size+1,j,none⟩=_:=fun j=>cell_of_row _ _ j _ 27 (0,0) h2
 have hl:(oneDoc w.heap.size inn out t).lies wf:=⟨.inl rfl,one_slice (t:=50) _ h5 (one_slice (t:=78) _ h4 (one_slice (t:=75) _ h3 trivial)),.inl rfl⟩
 refine bodyPost_ret (v:=.agg #[lj ⟨#[]⟩,.string ⟨#[]⟩,.int .u8 3,.bool false,.int .i64 1,.slice none 0 0,.slice (some ⟨w.heap.size+1+1+1+1,0,none⟩) 1 1,.slice none 0 0]) (by simp [results,Tryz.results73,go_sem,a4]) rfl ?_
 exact HQ.out wf hl hb
end Go.Proofs.YtnlnmbcaongehaaGreatDoor
