/- How the readings of the arguments give links and documents in memory. What the rows' list of the library's variables gives, and a world for the witness. The error of a document hangs on its contents alone; what a document without an error holds. -/
import Derived.Test.YtnlnmbcaongehaaGreatDoorRows
import Derived.Deep.DeepWitnessRowRef
import Derived.Lib.LaidU8T
import Derived.Stop.LaidErr
import Derived.MakeChecks
import Derived.Test.YtnlnmbcaongehaaGreatDoorB20
import Derived.Test.YtnlnmbcaongehaaGreatDoorA05
set_option linter.unusedVariables false
set_option linter.unusedSimpArgs false
set_option maxRecDepth 100000
set_option maxHeartbeats 12800000
open Go.Lib renaming hid→h_
open Go renaming DataW→e_,MemPlace→fb,Value→fe,World→ff
open Go.Proofs.YtnlnmbcaongehaaGreatDoor.Rows renaming uptoBulk→fg,uptoBulkAll→fh,diffListsUptoRow→fi,laid_internal_strconv_uint64pow10→fj,laid_unicode_utf8_acceptRanges→fk,laid_unicode_utf8_first→fm
open List renaming getElem?_eq_getElem→fo,getElem?_eq_some_iff→fp,range→fq,mem_cons→fr,pairwise_cons→ft,map_map→fu,map_cons→fw,pairwise_map→fx,getElem?_map→fy,sum_cons→fz,mem_map→fA
open Go.DataW renaming trod_int→fB,trod_string→fC,trod_struct→fD,trod_bool→fE,trod→fF
open Go.Proofs.Tryz renaming prog→fG,underlying9→fH,underlying3→fI,underlying4→fJ,underlying2→fK
open Nat renaming zero_le→fL
open Go.Value renaming int→fM
open Go.laidMet renaming tail→fN
open List.Pairwise renaming nil→fO
namespace Go.Proofs.YtnlnmbcaongehaaGreatDoor
open Go.RowKit Go.ChangeShapes Go.WideShapes Go.Deep
theorem zlx {H:Type} (d:e_ H):1≤fg d:=by
 cases d with
 | lit l=>cases l<;>simp [fg]
 | nil=>simp [fg]
 | ptr d=>simp [fg]
 | slice elems spare=>simp [fg]
 | agg parts=>simp [fg]
 | iface t d=>simp [fg]
 | map entries=>simp [fg]
 | held h=>simp [fg]
theorem zhE {H:Type} {d:e_ H} {l:List (e_ H)} (h:d∈l):fg d≤fh l:=by
 induction l with
 | nil=>cases h
 | cons x r ih =>
   simp only [fh]
   cases fr.1 h with
   | inl e=>subst e;omega
   | inr e=>have:=ih e;omega
theorem ziT {H:Type} (l:List (e_ H)):fh l=(l.map fg).sum:=by
 induction l with
 | nil=>simp [fh]
 | cons x r ih=>simp [fh,ih]
theorem build {α:Type} {Q:Nat→α→Prop}:∀ n,(∀ i,i<n→∃ a,Q i a)→∃ xs:List α,xs.length=n∧∀ i x,xs[i]? =some x→Q i x
 | 0,_=>⟨[],rfl,by simp⟩
 | n+1,h=>by
   obtain⟨xs,hl,hx⟩:=build n (fun i hi=>h i (by omega))
   obtain⟨a,ha⟩:=h n (by omega)
   refine⟨xs++[a],by simp [hl],fun i x hi=>?_⟩
   by_cases hn:i<n
   · rw [List.getElem?_append_left (by omega)] at hi
     exact hx i x hi
   · have hil:i<(xs++[a]).length:=(fp.1 hi).1
     obtain rfl:i=n:=by simp at hil;omega
     rw [List.getElem?_append_right (by omega),hl,Nat.sub_self] at hi
     obtain rfl:a=x:=by simpa using hi
     exact ha
theorem zlC {α:Type} (μ:α→Nat):∀ (xs:List α)(g:Nat→Nat),(∀ i x,xs[i]? =some x→μ x≤g i)→(xs.map μ).sum≤((fq xs.length).map g).sum
 | [],g,_=>by simp
 | x::l,g,h=>by
   have ih:=zlC μ l (fun i=>g (i+1)) (fun i y hy=>h (i+1) y (by simpa using hy))
   have h0:=h 0 x rfl
   rw [List.length_cons,List.range_succ_eq_map,fw,fw,fz,fz,fu]
   exact Nat.add_le_add h0 ih
theorem zlD (g:Nat→Nat)(h:∀ i,1≤g i):∀ n,n≤((fq n).map g).sum
 | 0=>by simp
 | n+1=>by
   have:=zlD g h n
   have:=h n
   rw [List.range_succ,List.map_append,List.sum_append]
   simp
   omega
section
variable {H:Type} (enc:TypeId × fe→H)(w:ff)(base:Nat)(sp:Nat→Bool)(held:Bool)
def Reads {α:Type} (t:TypeId)(ea:α→List fe)(Ok:ff→α→Prop)(fits:α→Prop)(μ:α→Nat):Prop :=
 ∀ fuel cs (x:e_ H × List fb),fF enc fG w base sp held fuel t cs=some x→fg x.1≤1048576→∃ a:α,cs=ea a∧Ok w a∧fits a∧μ a≤fg x.1
end
theorem dp {H:Type} {enc:TypeId × fe→H} {w:ff} {base:Nat} {sp:Nat→Bool} {held:Bool} {α:Type} {t e k:Nat} {ea:α→List fe} {Ok:ff→α→Prop} {fits:α→Prop} {μ:α→Nat}
 (ht:fG.underlying t=some (.slice e)) (hk:fG.cellsOf e=k) (hk0:0<k) (hlen:∀ a,(ea a).length=k) (hr:Reads enc w base sp held e ea Ok fits μ)
 (fuel:Nat) (cs:List fe) (x:e_ H × List fb) (h:fF enc fG w base sp held fuel t cs=some x) (hb:fg x.1≤1048576) :
 ∃ (a:Option Addr) (xs:List α) (cap:Nat),cs=[.slice a xs.length cap]∧ab k ea Ok w a xs∧(∀ y∈xs,fits y)∧xs.length≤fg x.1∧(xs.map μ).sum≤fg x.1:=by
 rcases open_slice ht h with⟨rfl,rfl⟩|⟨a,len,cap,m,n,D,Pl,rfl,hbl,hl,hm,hmm,rfl,hi⟩
 · exact⟨none,[],0,rfl,.inl rfl,by simp,by simp,by simp⟩
 · have hml:len≤m:=by rw [hmm];split<;>omega
   simp only [fg] at hb ⊢
   have hD:∀ i,i<len→fg (D i)≤fh ((fq len).map D):=fun i hi=>zhE (fA.2 ⟨i,List.mem_range.2 hi,rfl⟩)
   obtain⟨xs,hxl,hx⟩:=build (Q:=fun i y=>(∀ j v,(ea y)[j]? =some v→w.cell? ((a.add (i*k)).add j)=some v)∧Ok w y∧fits y∧μ y≤fg (D i)) len (fun i hil=>by
    obtain⟨cs',hc,htr⟩:=hi i (by omega)
    obtain⟨y,hy1,hy2,hy3,hy4⟩:=hr n cs' (D i,Pl i) htr (by have:=hD i hil;simp only;omega)
    rw [hk] at hc
    obtain⟨_,hcl,hat⟩:=ff.cells?_some hc
    refine⟨y,fun j v hv=>?_,hy2,hy3,hy4⟩
    have hj:j<k:=by have:=(fp.1 hv).1;rw [hlen] at this;exact this
    rw [hat j hj,hy1]
    exact hv)
   refine⟨some a,xs,cap,by rw [hxl],?_,fun y hy=>?_,?_,?_⟩
   · cases xs with
     | nil=>exact .inl rfl
     | cons y0 ys =>
       have h0:=(hx 0 y0 rfl).1
       have hy0:∃ v,(ea y0)[0]? =some v:=⟨_,fo (by rw [hlen];exact hk0)⟩
       obtain⟨v0,hv0⟩:=hy0
       have hc0:=h0 0 v0 hv0
       simp only [Nat.zero_mul] at hc0
       obtain⟨b,off,spot⟩:=a
       have hspot:spot=none:=by simpa [Addr.add] using ff.cell?_spot hc0
       subst hspot
       refine .inr ⟨b,off,rfl,by simpa [Addr.add] using ff.block_lt_of_cell? w _ hc0,fun i y hy=>⟨fun j v hv=>?_,(hx i y hy).2.1⟩⟩
       have:=(hx i y hy).1 j v hv
       have e:((⟨b,off,none⟩:Addr).add (i*k)).add j=⟨b,off+i*k+j,none⟩:=by
        unfold Addr.add
        split<;>split<;>simp_all
       rw [e] at this
       exact this
   · obtain⟨i,hi'⟩:=List.getElem?_of_mem hy
     exact(hx i y hi').2.2.1
   · have h1:xs.length≤fh ((fq len).map D):=by
      rw [ziT,fu,hxl]
      exact zlD _ (fun i=>zlx _) len
     omega
   · have h1:=zlC μ xs (fun i=>fg (D i)) (fun i y hy=>(hx i y hy).2.2.2)
     have h2:((fq xs.length).map fun i=>fg (D i)).sum=fh ((fq len).map D):=by
      rw [ziT,fu,hxl];rfl
     omega
theorem zmN:IntKind.i64.min=-9223372036854775808:=by decide
theorem zmO:IntKind.i64.max=9223372036854775807:=by decide
theorem min8:IntKind.u8.min=0:=by decide
theorem max8:IntKind.u8.max=255:=by decide
theorem eI {n:Int} (h:(Lit.int .i64 n).wf=true):i64 n:=by
 simp only [Lit.wf,Bool.and_eq_true,decide_eq_true_eq,zmN,zmO] at h
 exact h
theorem zdF {n:Int} (h:(Lit.int .u8 n).wf=true):0≤n∧n≤255:=by
 simp only [Lit.wf,Bool.and_eq_true,decide_eq_true_eq,min8,max8] at h
 exact h
theorem zmo {α:Type} {l:List α} (h:l.length=1):∃ a0,l=[a0]:=by
 obtain _|⟨a0,l⟩:=l
 · simp at h
 obtain _|⟨b,l⟩:=l
 · exact⟨a0,rfl⟩
 · simp at h
theorem zmQ {α:Type} {l:List α} (h:l.length=2):∃ a0 a1,l=[a0,a1]:=by
 obtain _|⟨a0,l⟩:=l
 · simp at h
 obtain _|⟨a1,l⟩:=l
 · simp at h
 obtain _|⟨b,l⟩:=l
 · exact⟨a0,a1,rfl⟩
 · simp at h
theorem zmm {α:Type} {l:List α} (h:l.length=3):∃ a0 a1 a2,l=[a0,a1,a2]:=by
 obtain _|⟨a0,l⟩:=l
 · simp at h
 obtain _|⟨a1,l⟩:=l
 · simp at h
 obtain _|⟨a2,l⟩:=l
 · simp at h
 obtain _|⟨b,l⟩:=l
 · exact⟨a0,a1,a2,rfl⟩
 · simp at h
theorem zlT {α:Type} {l:List α} (h:l.length=5):∃ a0 a1 a2 a3 a4,l=[a0,a1,a2,a3,a4]:=by
 obtain _|⟨a0,l⟩:=l
 · simp at h
 obtain _|⟨a1,l⟩:=l
 · simp at h
 obtain _|⟨a2,l⟩:=l
 · simp at h
 obtain _|⟨a3,l⟩:=l
 · simp at h
 obtain _|⟨a4,l⟩:=l
 · simp at h
 obtain _|⟨b,l⟩:=l
 · exact⟨a0,a1,a2,a3,a4,rfl⟩
 · simp at h
theorem zmP {α:Type} {l:List α} (h:l.length=6):∃ a0 a1 a2 a3 a4 a5,l=[a0,a1,a2,a3,a4,a5]:=by
 obtain _|⟨a0,l⟩:=l
 · simp at h
 obtain _|⟨a1,l⟩:=l
 · simp at h
 obtain _|⟨a2,l⟩:=l
 · simp at h
 obtain _|⟨a3,l⟩:=l
 · simp at h
 obtain _|⟨a4,l⟩:=l
 · simp at h
 obtain _|⟨a5,l⟩:=l
 · simp at h
 obtain _|⟨b,l⟩:=l
 · exact⟨a0,a1,a2,a3,a4,a5,rfl⟩
 · simp at h
theorem zlS {α:Type} {l:List α} (h:l.length=7):∃ a0 a1 a2 a3 a4 a5 a6,l=[a0,a1,a2,a3,a4,a5,a6]:=by
 obtain _|⟨a0,l⟩:=l
 · simp at h
 obtain _|⟨a1,l⟩:=l
 · simp at h
 obtain _|⟨a2,l⟩:=l
 · simp at h
 obtain _|⟨a3,l⟩:=l
 · simp at h
 obtain _|⟨a4,l⟩:=l
 · simp at h
 obtain _|⟨a5,l⟩:=l
 · simp at h
 obtain _|⟨a6,l⟩:=l
 · simp at h
 obtain _|⟨b,l⟩:=l
 · exact⟨a0,a1,a2,a3,a4,a5,a6,rfl⟩
 · simp at h
theorem zlj {α:Type} {l:List α} (h:l.length=8):∃ a0 a1 a2 a3 a4 a5 a6 a7,l=[a0,a1,a2,a3,a4,a5,a6,a7]:=by
 obtain _|⟨a0,l⟩:=l
 · simp at h
 obtain _|⟨a1,l⟩:=l
 · simp at h
 obtain _|⟨a2,l⟩:=l
 · simp at h
 obtain _|⟨a3,l⟩:=l
 · simp at h
 obtain _|⟨a4,l⟩:=l
 · simp at h
 obtain _|⟨a5,l⟩:=l
 · simp at h
 obtain _|⟨a6,l⟩:=l
 · simp at h
 obtain _|⟨a7,l⟩:=l
 · simp at h
 obtain _|⟨b,l⟩:=l
 · exact⟨a0,a1,a2,a3,a4,a5,a6,a7,rfl⟩
 · simp at h
section
variable {H:Type} {enc:TypeId × fe→H} {w:ff} {base:Nat} {sp:Nat→Bool} {held:Bool}
theorem c2:fG.cellsOf 2=1:=by kernel_rfl
theorem c3:fG.cellsOf 3=1:=by kernel_rfl
theorem c4:fG.cellsOf 4=1:=by kernel_rfl
theorem c5:fG.cellsOf 5=1:=by kernel_rfl
theorem c9:fG.cellsOf 9=1:=by kernel_rfl
theorem c23:fG.cellsOf 22=1:=by kernel_rfl
theorem c24:fG.cellsOf 23=1:=by kernel_rfl
theorem c25:fG.cellsOf 24=1:=by kernel_rfl
theorem c26:fG.cellsOf 25=1:=by kernel_rfl
theorem c28:fG.cellsOf 27=8:=by kernel_rfl
theorem c56:fG.cellsOf 46=2:=by kernel_rfl
theorem c57:fG.cellsOf 47=1:=by kernel_rfl
theorem c58:fG.cellsOf 48=1:=by kernel_rfl
theorem c60:fG.cellsOf 50=7:=by kernel_rfl
theorem c81:fG.cellsOf 71=1:=by kernel_rfl
theorem c83:fG.cellsOf 73=3:=by kernel_rfl
theorem c85:fG.cellsOf 75=5:=by kernel_rfl
theorem c86:fG.cellsOf 76=1:=by kernel_rfl
theorem c88:fG.cellsOf 78=1:=by kernel_rfl
theorem c99:fG.cellsOf 42=1:=by kernel_rfl
theorem c101:fG.cellsOf 44=7:=by kernel_rfl
theorem c116:fG.cellsOf 52=8:=by kernel_rfl
theorem aO {x:e_ H × List fb} {ys:List (e_ H × List fb)} (hx:x=(.agg (ys.map (·.1)),ys.flatMap (·.2))) {y:e_ H × List fb} (hy:y∈ys):fg y.1≤fg x.1:=by
 rw [hx]
 simp only [fg]
 have:=zhE (fA.2 ⟨y,hy,rfl⟩:y.1∈ys.map (·.1))
 omega
theorem cF {s:ByteArray} {y:e_ H × List fb} (h:y=(.lit (.string s.data.toList),[])):s.size≤fg y.1:=by
 rw [h]
 simp only [fg]
 have:s.data.toList.length=s.size:=by simp
 omega
theorem zfZ:Reads enc w base sp held 44 Reg.enc Flat Reg.fits (fun _=>0):=by
 intro fuel cs x h hb
 obtain⟨ys,n,rfl,hx,hlen,hyl,hf⟩:=fD Tryz.underlying44 h
 rw [c101] at hlen
 obtain⟨v0,v1,v2,v3,v4,v5,v6,rfl⟩:=zlS hlen
 obtain⟨y0,y1,y2,y3,y4,y5,y6,rfl⟩:=zlS hyl
 have g0:=hf 0 _ rfl;have g1:=hf 1 _ rfl;have g2:=hf 2 _ rfl;have g3:=hf 3 _ rfl;have g4:=hf 4 _ rfl;have g5:=hf 5 _ rfl;have g6:=hf 6 _ rfl
 simp [c9,c3,c99,c4] at g0 g1 g2 g3 g4 g5 g6
 obtain⟨s0,e0,q0,w0⟩:=fC fH g0
 obtain⟨z1,e1,_,w1⟩:=fB fI g1
 obtain⟨z2,e2,_,w2⟩:=fB fI g2
 obtain⟨z3,e3,_,w3⟩:=fB fI g3
 obtain⟨z4,e4,_,w4⟩:=fB fI g4
 obtain⟨z5,e5,_,w5⟩:=fB Tryz.underlying42 g5
 obtain⟨z6,e6,_⟩:=fE fJ g6
 simp at e0 e1 e2 e3 e4 e5 e6
 subst e0 e1 e2 e3 e4 e5 e6
 have k0:=aO hx (y:=y0) (by simp)
 have k1:=cF q0
 exact⟨⟨s0,z1,z2,z3,z4,z5,z6⟩,rfl,trivial,⟨by simp only;omega,eI w1,eI w2,eI w3,eI w4,(zdF w5).1,(zdF w5).2⟩,fL _⟩
theorem zhY:Reads enc w base sp held 52 Cm.enc Flat Cm.fits (fun _=>0):=by
 intro fuel cs x h hb
 obtain⟨ys,n,rfl,hx,hlen,hyl,hf⟩:=fD Tryz.underlying52 h
 rw [c116] at hlen
 obtain⟨v0,v1,v2,v3,v4,v5,v6,v7,rfl⟩:=zlj hlen
 obtain⟨y0,y1,y2,y3,y4,y5,y6,y7,rfl⟩:=zlj hyl
 have g0:=hf 0 _ rfl;have g1:=hf 1 _ rfl;have g2:=hf 2 _ rfl;have g3:=hf 3 _ rfl;have g4:=hf 4 _ rfl;have g5:=hf 5 _ rfl;have g6:=hf 6 _ rfl;have g7:=hf 7 _ rfl
 simp [c9,c3,c2,c4] at g0 g1 g2 g3 g4 g5 g6 g7
 obtain⟨z0,e0,_,w0⟩:=fB fK g0
 obtain⟨z1,e1,_,w1⟩:=fB fK g1
 obtain⟨z2,e2,_,w2⟩:=fB fI g2
 obtain⟨z3,e3,_,w3⟩:=fB fI g3
 obtain⟨s4,e4,q4,_⟩:=fC fH g4
 obtain⟨s5,e5,q5,_⟩:=fC fH g5
 obtain⟨z6,e6,_⟩:=fE fJ g6
 obtain⟨z7,e7,_⟩:=fE fJ g7
 simp at e0 e1 e2 e3 e4 e5 e6 e7
 subst e0 e1 e2 e3 e4 e5 e6 e7
 have k4:=aO hx (y:=y4) (by simp)
 have k5:=aO hx (y:=y5) (by simp)
 have l4:=cF q4
 have l5:=cF q5
 exact⟨⟨z0,z1,z2,z3,s4,s5,z6,z7⟩,rfl,trivial,⟨eI w0,eI w1,eI w2,eI w3,by simp only;omega,by simp only;omega⟩,fL _⟩
theorem zla:Reads enc w base sp held 75 Run.enc Flat Run.fits (fun r=>r.text.size):=by
 intro fuel cs x h hb
 obtain⟨ys,n,rfl,hx,hlen,hyl,hf⟩:=fD Tryz.underlying75 h
 rw [c85] at hlen
 obtain⟨v0,v1,v2,v3,v4,rfl⟩:=zlT hlen
 obtain⟨y0,y1,y2,rfl⟩:=zmm hyl
 have g0:=hf 0 _ rfl;have g1:=hf 1 _ rfl;have g2:=hf 2 _ rfl
 simp [c9,c83] at g0 g1 g2
 obtain⟨s0,e0,q0,_⟩:=fC fH g0
 obtain⟨s4,e4,q4,_⟩:=fC fH g2
 obtain⟨us,n',rfl,hx',hlen',hyl',hf'⟩:=fD Tryz.underlying73 g1
 obtain⟨u0,u1,u2,rfl⟩:=zmm hyl'
 have p0:=hf' 0 _ rfl;have p1:=hf' 1 _ rfl;have p2:=hf' 2 _ rfl
 simp [c81,c4] at p0 p1 p2
 obtain⟨z1,e1,_,w1⟩:=fB Tryz.underlying71 p0
 obtain⟨z2,e2,_⟩:=fE fJ p1
 obtain⟨z3,e3,_⟩:=fE fJ p2
 simp at e0 e1 e2 e3 e4
 subst e0 e1 e2 e3 e4
 have k0:=aO hx (y:=y0) (by simp)
 have k2:=aO hx (y:=y2) (by simp)
 have l0:=cF q0
 have l2:=cF q4
 exact⟨⟨s0,z1,z2,z3,s4⟩,rfl,trivial,⟨by simp only;omega,by simp only;omega,(zdF w1).1,(zdF w1).2⟩,by simp only;omega⟩
theorem zfd:∀ l:List Run,(l.map fun r=>r.text.size).sum=bV l
 | []=>rfl
 | r::l=>by simp [bV,zfd l]
theorem zlb:Reads enc w base sp held 78 Row.enc Row.lies Row.fits (fun _=>0):=by
 intro fuel cs x h hb
 obtain⟨ys,n,rfl,hx,hlen,hyl,hf⟩:=fD Tryz.underlying78 h
 rw [c88] at hlen
 obtain⟨v0,rfl⟩:=zmo hlen
 obtain⟨y0,rfl⟩:=zmo hyl
 have g0:=hf 0 _ rfl
 simp [c86] at g0
 have k0:=aO hx (y:=y0) (by simp)
 obtain⟨a,xs,cap,e,hS,hF,hL,hM⟩:=dp Tryz.underlying76 c85 (by decide) (fun _=>rfl) zla n [v0] y0 g0 (by omega)
 simp at e
 subst e
 rw [zfd] at hM
 exact⟨⟨a,cap,xs⟩,rfl,hS,⟨hF,by simp only;omega,by simp only;omega⟩,fL _⟩
theorem zhX:Reads enc w base sp held 50 Ev.enc Ev.lies Ev.fits (fun _=>0):=by
 intro fuel cs x h hb
 obtain⟨ys,n,rfl,hx,hlen,hyl,hf⟩:=fD Tryz.underlying50 h
 rw [c60] at hlen
 obtain⟨v0,v1,v2,v3,v4,v5,v6,rfl⟩:=zlS hlen
 obtain⟨y0,y1,y2,y3,y4,y5,rfl⟩:=zmP hyl
 have g0:=hf 0 _ rfl;have g1:=hf 1 _ rfl;have g2:=hf 2 _ rfl;have g3:=hf 3 _ rfl;have g4:=hf 4 _ rfl;have g5:=hf 5 _ rfl
 simp [c2,c56,c9,c57,c58] at g0 g1 g2 g3 g4 g5
 obtain⟨z0,e0,_,w0⟩:=fB fK g0
 obtain⟨us,n',rfl,hx',hlen',hyl',hf'⟩:=fD Tryz.underlying46 g1
 obtain⟨u0,u1,rfl⟩:=zmQ hyl'
 have p0:=hf' 0 _ rfl;have p1:=hf' 1 _ rfl
 simp [c2] at p0 p1
 obtain⟨z1,e1,_,w1⟩:=fB fK p0
 obtain⟨z2,e2,_,w2⟩:=fB fK p1
 obtain⟨s3,e3,q3,_⟩:=fC fH g2
 obtain⟨z4,e4,_,w4⟩:=fB Tryz.underlying47 g3
 obtain⟨s5,e5,q5,_⟩:=fC fH g4
 have k2:=aO hx (y:=y2) (by simp)
 have k4:=aO hx (y:=y4) (by simp)
 have k5:=aO hx (y:=y5) (by simp)
 have l3:=cF q3
 have l5:=cF q5
 obtain⟨a,xs,cap,e6,hS,hF,hL,hM⟩:=dp Tryz.underlying48 c88 (by decide) (fun _=>rfl) zlb _ [v6] y5 g5 (by omega)
 simp at e0 e1 e2 e3 e4 e5 e6
 subst e0 e1 e2 e3 e4 e5 e6
 exact⟨⟨z0,z1,z2,s3,z4,s5,a,cap,xs⟩,rfl,hS,⟨eI w0,eI w1,eI w2,by simp only;omega,(zdF w4).1,(zdF w4).2,by simp only;omega,hF,by simp only;omega⟩,fL _⟩
theorem zlc:Reads enc w base sp held 27 Doc.enc (fun w d=>d.lies w) Doc.fits (fun _=>0):=by
 intro fuel cs x h hb
 obtain⟨ys,n,rfl,hx,hlen,hyl,hf⟩:=fD Tryz.underlying27 h
 rw [c28] at hlen
 obtain⟨v0,v1,v2,v3,v4,v5,v6,v7,rfl⟩:=zlj hlen
 obtain⟨y0,y1,y2,y3,y4,y5,y6,y7,rfl⟩:=zlj hyl
 have g0:=hf 0 _ rfl;have g1:=hf 1 _ rfl;have g2:=hf 2 _ rfl;have g3:=hf 3 _ rfl;have g4:=hf 4 _ rfl;have g5:=hf 5 _ rfl;have g6:=hf 6 _ rfl;have g7:=hf 7 _ rfl
 simp [c9,c23,c4,c2,c24,c25,c26] at g0 g1 g2 g3 g4 g5 g6 g7
 obtain⟨s0,e0,q0,_⟩:=fC fH g0
 obtain⟨s1,e1,q1,_⟩:=fC fH g1
 obtain⟨z2,e2,_,w2⟩:=fB Tryz.underlying22 g2
 obtain⟨z3,e3,_⟩:=fE fJ g3
 obtain⟨z4,e4,_,w4⟩:=fB fK g4
 have k0:=aO hx (y:=y0) (by simp)
 have k1:=aO hx (y:=y1) (by simp)
 have k5:=aO hx (y:=y5) (by simp)
 have k6:=aO hx (y:=y6) (by simp)
 have k7:=aO hx (y:=y7) (by simp)
 have l0:=cF q0
 have l1:=cF q1
 obtain⟨ra,rG,rc,e5,hS5,hF5,hL5,_⟩:=dp Tryz.underlying23 c101 (by decide) (fun _=>rfl) zfZ _ [v5] y5 g5 (by omega)
 obtain⟨ea,evs,ec,e6,hS6,hF6,hL6,_⟩:=dp Tryz.underlying24 c60 (by decide) (fun _=>rfl) zhX _ [v6] y6 g6 (by omega)
 obtain⟨ca,cms,cc,e7,hS7,hF7,hL7,_⟩:=dp Tryz.underlying25 c116 (by decide) (fun _=>rfl) zhY _ [v7] y7 g7 (by omega)
 simp at e0 e1 e2 e3 e4 e5 e6 e7
 subst e0 e1 e2 e3 e4 e5 e6 e7
 exact⟨⟨s0,s1,z2,z3,z4,ra,rc,rG,ea,ec,evs,ca,cc,cms⟩,rfl,⟨hS5,hS6,hS7⟩,⟨by simp only;omega,by simp only;omega,(zdF w2).1,(zdF w2).2,eI w4,hF5,by simp only;omega,hF6,by simp only;omega,hF7,by simp only;omega⟩,fL _⟩
end
end Go.Proofs.YtnlnmbcaongehaaGreatDoor
namespace Go.Proofs.YtnlnmbcaongehaaGreatDoor.diffSeat
open Go.Shelf Go.ChangeShapes Go.WideShapes Go.ChangeAt Go.RowKit Go.Lib
theorem own:ownKnob fG.godebug=none:=by kernel_rfl
theorem laidOut:laidOutB fG=true:=by kernel_rfl
def zmK:List Int:=[0,1,28,2,29,14,24,3,30,22,20,15,25,17,4,8,31,27,13,23,21,19,16,7,26,12,18,6,11,5,10,9]
def zmJ:List Int:=[0,1,56,2,57,49,28,3,61,58,42,50,38,29,17,4,62,47,59,36,45,43,51,22,53,39,33,30,24,18,12,5,63,55,48,27,60,41,37,16,46,35,44,21,52,32,23,11,54,26,40,15,34,20,31,10,25,14,19,9,13,8,7,6]
noncomputable def laidWorld (os:Os):ff :=
 let w0:=ff.holding fG os ⟨#[],#[],[]⟩
 let put (h:Array Obj) (g:Nat) (cs:Array fe):Array Obj:=h.modify g fun
  | .cells _ t frozen=>.cells cs t frozen
  | o=>o
 let h1:=put w0.heap 0 (Lib.firstTab.map fun z=>fM .u8 z).toArray
 let h2:=put h1 1 ((fq 16).flatMap fun i=>[fM .u8 (Lib.accLo i),fM .u8 (Lib.accHi i)]).toArray
 let h3:=put h2 2 (Lib.pow10Tab.map fun z=>fM .u64 z).toArray
 let h4:=put h3 4 (zmK.map fun z=>fM .u8 z).toArray
 let h5:=put h4 5 (zmJ.map fun z=>fM .u8 z).toArray
 { w0 with heap:=h5 }
def zd:Array fe:=#[.string ⟨#[]⟩,.string ⟨#[]⟩,.int .u8 0,.bool false,.int .i64 0,.slice none 0 0,.slice none 0 0,.slice none 0 0]
theorem laid_met (os:Os)(args:Array fe):laidMet fG fi.laid ((laidWorld os).forCall (fun _ _=>0) ⟨#[],args,[]⟩).memory :=
 laidMet_of_run' 8 (by kernel_rfl) (by kernel_rfl)
theorem zls:fm=Lib.firstData:=by kernel_rfl
theorem zkU:(fk:e_ Unit)=Lib.acceptData:=by kernel_rfl
theorem pow_eq:(fj:e_ Unit)=Lib.tabData .u64 Lib.pow10Tab:=by kernel_rfl
theorem zkf:fi.laid=[("math/bits.deBruijn32tab",Rows.laid_math_bits_deBruijn32tab),("math/bits.deBruijn64tab",Rows.laid_math_bits_deBruijn64tab),("internal/strconv.uint64pow10",fj),("unicode/utf8.acceptRanges",fk),("unicode/utf8.first",fm)]:=rfl
theorem zml {W:ff} (h:W.ShapedOpen fG):∃ m,W.cell? ⟨3,0,none⟩=some (.int .i64 m) :=
 Go.Proofs.cell_of_shapedOpen_int (zero:=#[.int .i64 0]) (t:=3) h (of_decide_eq_true (by kernel_rfl)) (by kernel_rfl) rfl (by kernel_rfl) (by kernel_rfl) fI
theorem env_of {W:ff} (hL:laidMetH fG fi.laid W)(hS:W.ShapedOpen fG):Aw W:=by
 have hL':laidMet fG fi.laid W:=by
  rw [Go.MakeChecks.laidMetH_plain _ _ _ (by kernel_rfl)] at hL
  exact hL
 rw [zkf,zls,zkU,pow_eq] at hL'
 have h3:=fN (fN hL')
 have h4:=fN h3
 exact⟨⟨utf8Tabs_of_readsT (U8Types.of196 Tryz.lays196) ⟨by kernel_rfl,by kernel_rfl,by kernel_rfl,by kernel_rfl,by kernel_rfl,by kernel_rfl,by kernel_rfl⟩ (Lib.laidMet.reads h4 (List.Mem.tail _ (List.Mem.head _))) (Lib.laidMet.reads h4 (List.Mem.head _)),zml hS⟩,Lib.tabIs_of_head (g:=2) (t:=337) (n:=20) (by kernel_rfl) (by kernel_rfl) Tryz.underlying337 Tryz.underlying259 (by kernel_rfl) (by kernel_rfl) h3⟩
end Go.Proofs.YtnlnmbcaongehaaGreatDoor.diffSeat
namespace Go.Proofs.YtnlnmbcaongehaaGreatDoor
open Go.RowKit
theorem zbG:∀ xs ys:List Row,xs.map Row.runs=ys.map Row.runs→dz xs=dz ys
 | [],[],_=>rfl
 | [],y::l,h=>by simp at h
 | x::l,[],h=>by simp at h
 | x::l,y::m,h=>by
   simp only [fw,List.cons.injEq] at h
   rw [dz,dz,h.1,zbG l m h.2]
theorem zd4 {xs ys:List Row} (h:xs.map Row.runs=ys.map Row.runs):bh xs=bh ys:=by
 have e:∀ zs:List Row,bh zs=(zs.map Row.runs).map rowLen:=fun zs=>by unfold bh;rw [fu];rfl
 rw [e,e,h]
theorem zaV {α β:Type} {f:α→β} {xs ys:List α} (h:xs.map f=ys.map f):xs.length=ys.length:=by
 have:=congrArg List.length h
 simpa using this
theorem zjC {x y:Ev} (h:x.c=y.c)(rG:List Reg):zaK x rG=zaK y rG:=by
 obtain⟨id,inn,out,reg,kind,sp,a,c,rows⟩:=x
 obtain⟨id',inn',out',reg',kind',sp',a',c',rows'⟩:=y
 simp only [Ev.c,EvC.mk.injEq] at h
 obtain⟨rfl,rfl,rfl,rfl,rfl,rfl,hr⟩:=h
 unfold zaK eV zfO
 simp only [zaV hr,zbG _ _ hr,zd4 hr]
theorem zjm {x y x' y':Ev} (h:x.c=x'.c)(h':y.c=y'.c):dh x y=dh x' y':=by
 have h1:x.id=x'.id:=congrArg EvC.id h
 have h2:x.inn=x'.inn:=congrArg EvC.inn h
 have h3:y.id=y'.id:=congrArg EvC.id h'
 have h4:y.inn=y'.inn:=congrArg EvC.inn h'
 unfold dh
 rw [h1,h2,h3,h4]
theorem at_like {xs ys:List Ev} (h:xs.map Ev.c=ys.map Ev.c)(k:Nat):(xs[k]? =none∧ys[k]? =none)∨∃ x y,xs[k]? =some x∧ys[k]? =some y∧x.c=y.c:=by
 have e:(xs.map Ev.c)[k]? =(ys.map Ev.c)[k]?:=by rw [h]
 rw [fy,fy] at e
 cases hx:xs[k]? with
 | none =>
   rw [hx] at e
   cases hy:ys[k]? with
   | none=>exact .inl ⟨rfl,rfl⟩
   | some y=>rw [hy] at e;simp at e
 | some x =>
   rw [hx] at e
   cases hy:ys[k]? with
   | none=>rw [hy] at e;simp at e
   | some y =>
     rw [hy] at e
     exact .inr ⟨x,y,rfl,rfl,by simpa using e⟩
theorem zbk {xs ys:List Ev} (h:xs.map Ev.c=ys.map Ev.c):∀ k,aT xs k=aT ys k
 | 0=>rfl
 | k+1=>by
   funext z
   have ih:=zbk h k
   simp only [aT]
   rcases at_like h k with⟨h1,h2⟩|⟨x,y,h1,h2,h3⟩
   · rw [h1,h2,ih]
   · have hid:x.id=y.id:=congrArg EvC.id h3
     rw [h1,h2]
     simp only [hid,ih]
theorem zij {xs ys:List Ev} (h:xs.map Ev.c=ys.map Ev.c)(k:Nat) {x y:Ev} (hxy:x.c=y.c):dN (aA xs k) x=dN (aA ys k) y:=by
 cases k with
 | zero=>rfl
 | succ k =>
   show dN xs[k]? x=dN ys[k]? y
   rcases at_like h k with⟨h1,h2⟩|⟨p,q,h1,h2,h3⟩
   · rw [h1,h2]
     rfl
   · rw [h1,h2]
     simp only [dN,zjm h3 hxy]
theorem zfw {xs ys:List Ev} (h:xs.map Ev.c=ys.map Ev.c)(rG:List Reg)(last:Int):∀ n k,zec rG last xs k n=zec rG last ys k n
 | 0,k=>rfl
 | n+1,k=>by
   have ih:=zfw h rG last n (k+1)
   rw [zec,zec]
   rcases at_like h k with⟨h1,h2⟩|⟨x,y,h1,h2,h3⟩
   · rw [h1,h2]
   · have hid:x.id=y.id:=congrArg EvC.id h3
     have he:dj rG last (aT xs k) (aA xs k) x=dj rG last (aT ys k) (aA ys k) y:=by
      unfold dj
      rw [zjC h3,hid,zij h k h3,zbk h k]
     rw [h1,h2]
     simp only [he,ih]
theorem zjz {xs ys:List Row} (h:xs.map Row.runs=ys.map Row.runs):eG xs=eG ys:=by
 unfold eG
 rw [zd4 h,zaV h]
theorem zjH {xs ys:List Ev} (h:xs.map Ev.c=ys.map Ev.c)(last:Int)(f:Int→Option Nat)(p:Option Cm)(c:Cm):di last f xs p c=di last f ys p c:=by
 have ha:bw last f xs c=bw last f ys c:=by
  unfold bw
  cases f c.ev with
  | none=>rfl
  | some i =>
    have:eG ((xs[i]?.map Ev.rows).getD [])=eG ((ys[i]?.map Ev.rows).getD []):=by
     rcases at_like h i with⟨h1,h2⟩|⟨x,y,h1,h2,h3⟩
     · rw [h1,h2]
     · rw [h1,h2]
       exact zjz (congrArg EvC.rows h3)
    simp only [this]
 unfold di
 rw [ha]
theorem zc7 {xs ys:List Ev} (h:xs.map Ev.c=ys.map Ev.c)(last:Int)(f:Int→Option Nat):∀ (cms:List Cm)(p:Option Cm),bX last f xs p cms=bX last f ys p cms
 | [],p=>rfl
 | c::l,p=>by rw [bX,bX,zjH h,zc7 h last f l]
theorem zim {a b:Doc} (h:a.c=b.c):az a=az b:=by
 obtain⟨title,lA,rate,drop,last,ra,rc,rG,ea,ec,evs,ca,cc,cms⟩:=a
 obtain⟨title',lang',rate',drop',last',ra',rc',regs',ea',ec',evs',ca',cc',cms'⟩:=b
 simp only [Doc.c,Doc.hd,DocC.mk.injEq,Hd.mk.injEq] at h
 obtain⟨⟨rfl,rfl,rfl,rfl,rfl⟩,rfl,he,rfl⟩:=h
 have hl:=zaV he
 have hc:eL last (aT evs evs.length) evs cms=eL last (aT evs' evs'.length) evs' cms:=by
  unfold eL
  rw [hl,zbk he,zc7 he]
 have hr:cw rG last evs cms 0=cw rG last evs' cms 0:=by
  unfold cw
  rw [zfw he,hc,hl]
 unfold az
 simp only [hl,hr]
def EvC.lt (x y:EvC):Prop:=x.inn<y.inn∨(x.inn=y.inn∧x.id<y.id)
structure zds (c:DocC):Prop where
 rG:c.rG.Pairwise fun x y=>baLt x.name y.name
 cms:c.cms.Pairwise fun x y=>x.id<y.id
 ids:c.evs.Pairwise fun x y=>x.id≠y.id
 ord:c.evs.Pairwise EvC.lt
theorem zfy {a b c:ByteArray} (h:baLt a b)(h':baLt b c):baLt a c:=List.lt_trans h h'
theorem zfz {a b:ByteArray} (h1:¬ baLt a b)(h2:¬ a=b):baLt b a:=zgq h1 fun h=>h2 (ziU (by rw [Lib.toList_data,Lib.toList_data,h]))
theorem zcU:∀ (xs:List Reg)(p:Option ByteArray),bO p xs=0→(∀ q,p=some q→∀ x∈xs,baLt q x.name)∧xs.Pairwise fun x y=>baLt x.name y.name
 | [],p,_=>⟨fun q _ x hx=>by simp at hx,fO⟩
 | x::l,p,h=>by
   rw [bO] at h
   split at h
   · rename_i hne
     rw [h] at hne
     cases hne
   · rename_i hne
     have h0:bN p x=0:=by simpa using hne
     have ih:=zcU l _ h
     have hx:=ih.1 x.name rfl
     refine⟨fun q hq y hy=>?_,ft.2 ⟨hx,ih.2⟩⟩
     subst hq
     have hqx:baLt q x.name:=by
      unfold bN at h0
      split at h0
      · rename_i h1
        rw [h0] at h1
        cases h1
      · simp only at h0
        split at h0
        · cases h0
        · rename_i h2
          split at h0
          · cases h0
          · rename_i h3
            exact zfz (fun h=>h3 ((zhF _ _).2 h)) (fun h=>h2 (by rw [h];simp))
     rcases fr.1 hy with rfl|hy
     · exact hqx
     · exact zfy hqx (hx y hy)
theorem zen (last:Int)(f:Int→Option Nat)(evs:List Ev):∀ (xs:List Cm)(p:Option Cm),bX last f evs p xs=0→(∀ q,p=some q→∀ x∈xs,q.id<x.id)∧xs.Pairwise fun x y=>x.id<y.id
 | [],p,_=>⟨fun q _ x hx=>by simp at hx,fO⟩
 | x::l,p,h=>by
   rw [bX] at h
   split at h
   · rename_i hne
     rw [h] at hne
     cases hne
   · rename_i hne
     have h0:di last f evs p x=0:=by simpa using hne
     have ih:=zen last f evs l _ h
     have hx:=ih.1 x rfl
     refine⟨fun q hq y hy=>?_,ft.2 ⟨hx,ih.2⟩⟩
     subst hq
     have hqx:q.id<x.id:=by
      unfold di at h0
      split at h0
      · cases h0
      · split at h0
        · cases h0
        · rename_i h2
          simp only [bT,decide_eq_true_eq] at h2
          omega
     rcases fr.1 hy with rfl|hy
     · exact hqx
     · have:=hx y hy
       omega
theorem za3 {α:Type} {R:α→α→Prop} (ht:∀ a b c,R a b→R b c→R a c):∀ xs:List α,(∀ k x y,xs[k]? =some x→xs[k+1]? =some y→R x y)→xs.Pairwise R
 | [],_=>fO
 | [x],_=>by simp
 | x::y::l,h=>by
   have ih:=za3 ht (y::l) fun k a b ha hb=>h (k+1) a b (by simpa using ha) (by simpa using hb)
   have hxy:=h 0 x y rfl rfl
   refine ft.2 ⟨fun z hz=>?_,ih⟩
   rcases fr.1 hz with rfl|hz
   · exact hxy
   · exact ht _ _ _ hxy (List.rel_of_pairwise_cons ih hz)
theorem zhu (rG:List Reg)(last:Int)(evs:List Ev):∀ n k,zec rG last evs k n=0→∀ j x,k≤j→j<k+n→evs[j]? =some x→dj rG last (aT evs j) (aA evs j) x=0
 | 0,k,_,j,x,h1,h2,_=>by omega
 | n+1,k,h,j,x,h1,h2,hx=>by
   rw [zec] at h
   have hk:k<evs.length:=by have:=(fp.1 hx).1;omega
   rw [fo hk] at h
   simp only at h
   split at h
   · rename_i hne
     rw [h] at hne
     cases hne
   · rename_i hne
     by_cases hj:j=k
     · subst hj
       rw [fo hk] at hx
       obtain rfl:evs[j]=x:=by simpa using hx
       simpa using hne
     · exact zhu rG last evs n (k+1) h j x (by omega) (by omega) hx
theorem zee {rG:List Reg} {last:Int} {f:Int→Option Nat} {prev:Option Ev} {x:Ev} (h:dj rG last f prev x=0):zaK x rG=0∧x.id≤last∧(f x.id).isSome=false∧dN prev x=false:=by
 rcases zaI rG last f prev x _ rfl with⟨h1,h2⟩|⟨h1,⟨h2,h3⟩|⟨h2,⟨h3,h4⟩|⟨h3,⟨h4,h5⟩|⟨h4,h5⟩⟩⟩⟩
 · rw [←h2,h] at h1;cases h1
 · rw [h] at h3;cases h3
 · rw [h] at h4;cases h4
 · rw [h] at h5;cases h5
 · exact⟨h1,h2,h4,h3⟩
theorem zhx {d:Doc} (h:az d=0):ep d.title d.lA d.rate d.drop d.last=0∧ch d.rG=0∧d.evs.length≤400∧(∀ j x,d.evs[j]? =some x→dj d.rG d.last (aT d.evs j) (aA d.evs j) x=0)∧eL d.last (aT d.evs d.evs.length) d.evs d.cms=0:=by
 unfold az at h
 split at h
 · rename_i hne;rw [h] at hne;cases hne
 · rename_i hhd
   split at h
   · rename_i hne;rw [h] at hne;cases hne
   · rename_i hli
     split at h
     · cases h
     · rename_i h4
       unfold cw at h
       split at h
       · rename_i hne;rw [h] at hne;cases hne
       · rename_i hne
         refine⟨by simpa using hhd,by simpa using hli,by omega,fun j x hx=>?_,h⟩
         exact zhu d.rG d.last d.evs _ 0 (by simpa using hne) j x (fL _) (by have:=(fp.1 hx).1;omega) hx
theorem ziR {d:Doc} (h:az d=0):d.rG.length≤16∧d.evs.length≤400∧d.cms.length≤64:=by
 obtain⟨_,h2,h3,_,h5⟩:=zhx h
 refine⟨?_,h3,?_⟩
 · unfold ch at h2
   split at h2
   · cases h2
   · omega
 · unfold eL at h5
   split at h5
   · cases h5
   · omega
theorem zf4 (x y:Ev):dh x y=true↔x.c.lt y.c:=by
 show ltOf zco x y=true↔_
 rw [zaL]
 simp [EvC.lt,Ev.c]
theorem zmy {d:Doc} (h:az d=0):zds d.c:=by
 obtain⟨_,h2,h3,h4,h5⟩:=zhx h
 refine⟨?_,?_,?_,?_⟩
 · unfold ch at h2
   split at h2
   · cases h2
   · exact(zcU _ _ h2).2
 · unfold eL at h5
   split at h5
   · cases h5
   · exact(zen _ _ _ _ _ h5).2
 · show(d.evs.map Ev.c).Pairwise _
   rw [fx,List.pairwise_iff_getElem]
   intro i j hi hj hij he
   have:=(zee (h4 j _ (fo hj))).2.2.1
   rw [zaR d.evs j d.evs[j].id i d.evs[i] hij (fo hi) he] at this
   cases this
 · show(d.evs.map Ev.c).Pairwise _
   rw [fx]
   refine za3 (fun a b c h1 h2=>?_) _ fun k x y hx hy=>?_
   · simp only [EvC.lt] at *
     omega
   · have:=(zee (h4 (k+1) y hy)).2.2.2
     rw [aA,hx] at this
     simp only [dN,Bool.not_eq_false'] at this
     exact(zf4 x y).1 this
end Go.Proofs.YtnlnmbcaongehaaGreatDoor
