/- The contracts of style.Same and style.SameRows: whether rows are equal. The contracts of align.Find, document.Find and align.has: where a link or an event with an ID lies. diff.find at regions, events and comments: the first element with a key. (printed by gen_find.py) The contracts of document.Head and of event.Same. The contracts of style.Clone and event.Clone. Changes: their cells, what lies behind them, and the changes that lead from one document to another. Documents: the blocks in which they lie, their contents, and one event of a row written anew. -/
import Derived.Test.YtnlnmbcaongehaaGreatDoorM04
set_option linter.unusedVariables false
set_option linter.unusedSimpArgs false
set_option maxRecDepth 100000
set_option maxHeartbeats 12800000
open Go.Lib renaming hid→h_
open Go.Lib renaming allEq→fm,allEq_len→fp
open List renaming getElem?_eq_getElem→ft,mem_of_getElem?→fu,getElem_of_mem→fw,set_cons_succ→fB,flatMap_cons→fC,eq_nil_of_length_eq_zero→fD,take_length→fE,not_mem_nil→fF,drop_length→fG,cons_append→fH,mem_cons→fI,mem_map→fJ
open Go renaming World→fK,Calls→fL,Value→fM,Ending→fN,heap_alloc_last→fO
open Go.RowKit renaming Below→fP
open Go.RowKit.Below renaming refl→fQ,heap_setCell→fR
open Nat renaming le_refl→fS
open Bool renaming eq_false_or_eq_true→fT
open Option.some renaming inj→fU
open Go.Value.slice renaming injEq→fV
namespace Go.Proofs.YtnlnmbcaongehaaGreatDoor
open Go.RowKit
def eL (a b:Run):Bool:=a.text.toList==b.text.toList&&(a.color==b.color&&a.it==b.it&&a.un==b.un)&&a.ruby.toList==b.ruby.toList
def zdc (a b:Row):Bool:=fm eL a.runs b.runs
def bS (a b:List Row):Bool:=fm zdc a b
instance:Inhabited Run:=⟨⟨⟨#[]⟩,0,false,false,⟨#[]⟩⟩⟩
instance:Inhabited Row:=⟨⟨none,0,[]⟩⟩
theorem ziI {α:Type} [Inhabited α] (xs:List α)(j:Nat)(h:j<xs.length):xs[j]? =some xs[j]!:=by
 rw [ft h,getElem!_pos xs j h]
theorem zh8 (x y:Run)(w:fK):(binOp .neq 75 (.agg x.enc.toArray) (.agg y.enc.toArray)).run Tryz.prog w=.ok (.bool (!eL x y)) w:=by
 simp [go_sem,Run.enc,eL]
 repeat' split
 all_goals simp_all
theorem zk1:Go.Proofs.NeqAt Tryz.prog 75 (fun x=>.agg (Run.enc x).toArray) eL:=⟨zh8,Go.Proofs.GuardAt.agg (fun x=>(Run.enc x).toArray) (by kernel_rfl)⟩
theorem zfz (a a':Option Addr)(n m c c':Nat)(w:fK)(h:¬ n=m):fL Tryz.prog 204 #[.slice a n c,.slice a' m c'] w fun e w'=>e=.returned (.bool false)∧w=w':=by
 have h1:(n != m)=true:=by simpa using h
 have h2:((n:Int) != (m:Int))=true:=by simp;omega
 go_enter Tryz.func204,Tryz.ntmps204
 go_wp2_with fail
 go_ret
 exact⟨rfl,rfl⟩
theorem za0 (a a':Option Addr)(c c':Nat)(w:fK):fL Tryz.prog 204 #[.slice a 0 c,.slice a' 0 c'] w fun e w'=>e=.returned (.bool true)∧w=w':=by
 go_enter Tryz.func204,Tryz.ntmps204
 go_wp2_with fail
 refine wp_loop_rounds 1 ?_
 rw [rounds_succ]
 go_wp2_with fail
 go_ret
 exact⟨rfl,rfl⟩
theorem zcZ {α:Type} (eq:α→α→Bool):fm eq [] []=true:=by rw [fm]
theorem zdr (a a':Option Addr)(c c':Nat)(xs ys:List Run)(w:fK)(h:Runs w a xs)(h':Runs w a' ys)(hl:xs.length≤4000000)(hl':ys.length≤4000000) :
 fL Tryz.prog 204 #[.slice a xs.length c,.slice a' ys.length c'] w fun e w'=>e=.returned (.bool (fm eL xs ys))∧fP w.heap.size w w':=by
 by_cases hn:xs.length=ys.length
 · rcases h with rfl|⟨b,off,rfl,hb,hc⟩
   · obtain rfl:ys=[]:=fD hn.symm
     rw [zcZ]
     exact(za0 a a' c c' w).mono fun e w' ⟨he,hw⟩=>⟨he,hw▸fQ _ _⟩
   · rcases h' with rfl|⟨b',off',rfl,hb',hc'⟩
     · obtain rfl:xs=[]:=fD hn
       rw [zcZ]
       exact(za0 _ a' c c' w).mono fun e w' ⟨he,hw⟩=>⟨he,hw▸fQ _ _⟩
     · have h:=Tryz.slices_Equal_f204 5 (fun w=>by kernel_rfl) (fun w=>by kernel_rfl) Run.enc (fun _=>rfl) eL zk1 b off xs.length c b' off' ys.length c' xs ys w (fS _) (fS _) (by omega) (by omega)
        (fun j hj i v hv=>(hc j _ (ziI xs j hj)).1 i v hv) (fun j hj i v hv=>(hc' j _ (ziI ys j hj)).1 i v hv)
       rw [fE,fE] at h
       exact h.mono fun e w' ⟨he,q,hw⟩=>⟨he,hw▸below_drewN (fQ _ _) q⟩
 · rw [fp eL xs ys hn]
   exact(zfz a a' _ _ c c' w hn).mono fun e w' ⟨he,hw⟩=>⟨he,hw▸fQ _ _⟩
theorem zhb (r s:Row)(w:fK)(h:r.lies w)(h':s.lies w)(hl:r.runs.length≤4000000)(hl':s.runs.length≤4000000) :
 fL Tryz.prog 148 #[.agg r.enc.toArray,.agg s.enc.toArray] w fun e w'=>e=.returned (.bool (zdc r s))∧fP w.heap.size w w':=by
 have hb2:∀ o o',fP w.heap.size w ((w.alloc o).alloc o'):=fun o o'=>((fQ _ _).alloc (fS _) _).alloc (by simp) _
 have HC:=h_ (fun o o'=>zdr r.at_ s.at_ r.cap s.cap r.runs s.runs ((w.alloc o).alloc o') (h.later (hb2 o o')) (h'.later (hb2 o o')) hl hl')
 have HB:=h_ (fun o o' w1 (h1:fP ((w.alloc o).alloc o').heap.size ((w.alloc o).alloc o') w1)=>(hb2 o o').trans (h1.mono (by simp;omega)))
 unfold zdc
 obtain⟨ra,rc,rr⟩:=r
 obtain⟨sa,sc,ss⟩:=s
 simp only [Row.enc] at HC ⊢
 generalize fm eL rr ss=G at *
 clear hb2
 go_enter Tryz.func148,Tryz.ntmps148
 go_wp2_with fail
 refine(HC.out _ _).mono ?_
 rintro e w1 ⟨rfl,hb⟩
 have hb':=HB.out _ _ _ hb
 clear hb
 go_wp2_with fail
 go_ret
 exact⟨rfl,hb'⟩
theorem ziU (a a':Option Addr)(n m c c':Nat)(v:fM)(w:fK)(h:¬ n=m):fL Tryz.prog 147 #[.slice a n c,.slice a' m c',v] w fun e w'=>e=.returned (.bool false)∧w=w':=by
 have h1:(n != m)=true:=by simpa using h
 have h2:((n:Int) != (m:Int))=true:=by simp;omega
 go_enter Tryz.func147,Tryz.ntmps147
 go_wp2_with fail
 go_ret
 exact⟨rfl,rfl⟩
theorem zjQ {α:Type} (eq:α→α→Bool)(xs ys:List α)(k:Nat)(x y:α)(hx:xs[k]? =some x)(hy:ys[k]? =some y):fm eq (xs.drop k) (ys.drop k)=(eq x y&&fm eq (xs.drop (k+1)) (ys.drop (k+1))):=by
 rw [aZ xs k x hx,aZ ys k y hy,fm]
def zeL (w:fK)(a:Option Addr)(xs:List Row):Prop:=af 1 Row.enc Row.lies w a xs
theorem zgd (a a':Option Addr)(c c':Nat)(xs ys:List Row)(w:fK)(h:zeL w a xs)(h':zeL w a' ys)(hf:∀ r∈xs,r.runs.length≤4000000)(hf':∀ r∈ys,r.runs.length≤4000000)(hl:xs.length≤4000000)(hn:xs.length=ys.length) :
 fL Tryz.prog 147 #[.slice a xs.length c,.slice a' ys.length c',.func (.func 148) #[] #[]] w fun e w'=>e=.returned (.bool (bS xs ys))∧fP w.heap.size w w':=by
 generalize hG:bS xs ys=G
 have H0:=h_ (show fm zdc (xs.drop 0) (ys.drop 0)=G from hG)
 have HNN:=h_ hn
 rw [←hn]
 clear hG hn
 have h1:((xs.length:Int) != (xs.length:Int))=false:=by simp
 go_enter Tryz.func147,Tryz.ntmps147
 go_wp2_with fail
 go_loopw [17] (fun i wr=>∃ k:Nat,k≤xs.length∧i=.int .i64 k∧fm zdc (xs.drop k) (ys.drop k)=G∧fP w.heap.size w wr) (fun i _=>xs.length-(intOf i).toNat)
 case atStart=>exact⟨0,by omega,rfl,H0.out,fQ _ _⟩
 case round =>
  obtain⟨k,hk,rfl,hp,hb⟩:=hrel
  by_cases hlt:k<xs.length
  · obtain⟨b,off,r,rfl,hbl,hx,hc,hok⟩:=(af.keeps Row.keeps _ _ _ _ hb h).at_ hlt
    obtain⟨b',off',s,rfl,hbl',hy,hc',hok'⟩:=(af.keeps Row.keeps _ _ _ _ hb h').at_ (show k<ys.length by rw [←HNN.out];exact hlt)
    rw [zjQ zdc xs ys k r s hx hy] at hp
    have hfr:=hf r (fu hx)
    have hfs:=hf' s (fu hy)
    have hb2:∀ o o',fP wr.heap.size wr ((wr.alloc o).alloc o'):=fun o o'=>((fQ _ _).alloc (fS _) _).alloc (by simp) _
    have HC:=h_ (fun o o'=>zhb r s ((wr.alloc o).alloc o') (Row.keeps _ _ _ (hb2 o o') hok) (Row.keeps _ _ _ (hb2 o o') hok') hfr hfs)
    have HB:=h_ (fun o o' w1 (h1:fP ((wr.alloc o).alloc o').heap.size ((wr.alloc o).alloc o') w1)=>hb.trans (((hb2 o o').trans (h1.mono (by simp;omega))).mono hb.size))
    have HP:=h_ hp
    generalize zdc r s=E at *
    obtain⟨ra,rc,rr⟩:=r
    obtain⟨sa,sc,ss⟩:=s
    simp only [Row.enc] at HC
    have d0:=hc 0 _ rfl
    have d0':=hc' 0 _ rfl
    simp only [Nat.add_zero,Nat.mul_one] at d0 d0'
    have dd:∀ o,(wr.alloc o).cell? ⟨b',off'+k,none⟩=some (.slice sa ss.length sc):=fun o=>(fK.cell?_alloc_lt _ _ _ (by simpa using hbl')).trans d0'
    clear hc hc' hp hx hy hok hok' hb2 hfr hfs H0 d0'
    cases E
    · go_wp2_with (go_at_call 148;refine(HC.out _ _).mono ?_;rintro e w1 ⟨rfl,hb1⟩;have hb1':=HB.out _ _ _ hb1;clear hb1)
      go_ret
      exact⟨by rw [←HP.out];rfl,hb1'⟩
    · go_wp2_with (go_at_call 148;refine(HC.out _ _).mono ?_;rintro e w1 ⟨rfl,hb1⟩;have hb1':=HB.out _ _ _ hb1;clear hb1)
      go_roundw
      case rel=>exact⟨k+1,by omega,by go_num,by rw [←HP.out];simp,hb1'⟩
      case measure=>simp [intOf];omega
  · obtain rfl:k=xs.length:=by omega
    have hp2:true=G:=by
     rw [←hp,fG,HNN.out,fG,zcZ]
    have HP:=h_ hp2
    clear hp hp2 H0
    go_wp2_with fail
    go_ret
    exact⟨by rw [←HP.out];rfl,hb⟩
theorem zaj (a a':Option Addr)(c c':Nat)(xs ys:List Row)(w:fK)(h:zeL w a xs)(h':zeL w a' ys)(hf:∀ r∈xs,r.runs.length≤4000000)(hf':∀ r∈ys,r.runs.length≤4000000)(hl:xs.length≤4000000) :
 fL Tryz.prog 84 #[.slice a xs.length c,.slice a' ys.length c'] w fun e w'=>e=.returned (.bool (bS xs ys))∧fP w.heap.size w w':=by
 have HC:Hid (fL Tryz.prog 147 #[.slice a xs.length c,.slice a' ys.length c',.func (.func 148) #[] #[]] w fun e w'=>e=.returned (.bool (bS xs ys))∧fP w.heap.size w w'):=by
  apply h_
  by_cases hn:xs.length=ys.length
  · exact zgd a a' c c' xs ys w h h' hf hf' hl hn
  · rw [bS,fp zdc xs ys hn]
    exact(ziU a a' _ _ c c' _ w hn).mono fun e w' ⟨he,hw⟩=>⟨he,hw▸fQ _ _⟩
 go_enter Tryz.func84,Tryz.ntmps84
 go_wp2_with fail
 refine HC.out.mono ?_
 rintro e w1 ⟨rfl,hb⟩
 go_wp2_with fail
 go_ret
 exact⟨rfl,hb⟩
instance:Inhabited Ev:=⟨⟨0,0,0,⟨#[]⟩,0,⟨#[]⟩,none,0,[]⟩⟩
def bj {α:Type} (p:α→Bool):List α→Nat→Option (α × Nat)
 | [],_=>none
 | x::l,i=>if p x=true then some (x,i) else bj p l (i+1)
theorem zfv {α:Type} (p:α→Bool)(xs:List α)(k:Nat)(x:α)(h:xs[k]? =some x):bj p (xs.drop k) k=if p x=true then some (x,k) else bj p (xs.drop (k+1)) (k+1):=by
 rw [aZ xs k x h,bj]
def first {α:Type} (p:α→Bool)(xs:List α):Option (α × Nat):=bj p xs 0
def bO:Ev:=⟨0,0,0,⟨#[]⟩,0,⟨#[]⟩,none,0,[]⟩
def bG:Cm:=⟨0,0,0,0,⟨#[]⟩,⟨#[]⟩,false,false⟩
structure Hd where
 title:ByteArray
 lang:ByteArray
 rate:Int
 drop:Bool
 last:Int
def Hd.enc (h:Hd):List fM:=[.string h.title,.string h.lang,.int .u8 h.rate,.bool h.drop,.int .i64 h.last]
def Doc.hd (d:Doc):Hd:=⟨d.title,d.lang,d.rate,d.drop,d.last⟩
def hdEq (a b:Hd):Bool:=a.title.toList==b.title.toList&&a.lang.toList==b.lang.toList&&a.rate==b.rate&&a.drop==b.drop&&a.last==b.last
theorem zjm (a b:Hd)(w:fK):(binOp .eql 41 (.agg a.enc.toArray) (.agg b.enc.toArray)).run Tryz.prog w=.ok (.bool (hdEq a b)) w:=by
 simp [go_sem,Hd.enc,hdEq]
 repeat' split
 all_goals simp_all
theorem zdU (d:Doc)(w:fK):fL Tryz.prog 33 #[.agg d.enc.toArray] w fun e w'=>e=.returned (.agg d.hd.enc.toArray)∧fP w.heap.size w w':=by
 obtain⟨title,lang,rate,drop,last,ra,rc,rG,ea,ec,evs,ca,cc,cms⟩:=d
 simp only [Doc.enc,Doc.hd,Hd.enc]
 generalize hQ:(fun(e:fN) (w':fK)=>e=.returned (.agg [fM.string title,.string lang,.int .u8 rate,.bool drop,.int .i64 last].toArray)∧fP w.heap.size w w')=Q
 have HQ:=h_ (fun w' (hb:fP w.heap.size w w')=>show Q (.returned (.agg #[fM.string title,.string lang,.int .u8 rate,.bool drop,.int .i64 last])) w' from hQ▸⟨rfl,hb⟩)
 clear hQ
 go_enter Tryz.func33,Tryz.ntmps33
 go_wp2_with fail
 refine bodyPost_ret (v:=.agg #[fM.string title,.string lang,.int .u8 rate,.bool drop,.int .i64 last]) (by simp [results,Tryz.results33,go_sem]) rfl (HQ.out _ ?_)
 exact(((fQ _ _).alloc (fS _) _).alloc (by simp) _)
def evEq (x y:Ev):Bool:=x.id==y.id&&(x.inn==y.inn&&x.out==y.out)&&x.region.toList==y.region.toList&&x.kind==y.kind&&x.speaker.toList==y.speaker.toList&&bS x.rows y.rows
theorem zhe (a b c d:Int)(w:fK):(binOp .eql 46 (.agg #[.int .i64 a,.int .i64 b]) (.agg #[.int .i64 c,.int .i64 d])).run Tryz.prog w=.ok (.bool (a==c&&b==d)) w:=by
 simp [go_sem]
 repeat' split
 all_goals simp_all
theorem dE (x y:Ev)(w:fK)(h:x.lies w)(h':y.lies w)(hf:∀ r∈x.rows,r.runs.length≤4000000)(hf':∀ r∈y.rows,r.runs.length≤4000000)(hl:x.rows.length≤4000000) :
 fL Tryz.prog 28 #[.agg x.enc.toArray,.agg y.enc.toArray] w fun e w'=>e=.returned (.bool (evEq x y))∧fP w.heap.size w w':=by
 have hb2:∀ o o',fP w.heap.size w ((w.alloc o).alloc o'):=fun o o'=>((fQ _ _).alloc (fS _) _).alloc (by simp) _
 have HC:=h_ (fun o o'=>zaj x.at_ y.at_ x.cap y.cap x.rows y.rows ((w.alloc o).alloc o') (bu.later h (hb2 o o')) (bu.later h' (hb2 o o')) hf hf' hl)
 have HB:=h_ (fun o o' w1 (h1:fP ((w.alloc o).alloc o').heap.size ((w.alloc o).alloc o') w1)=>(hb2 o o').trans (h1.mono (by simp;omega)))
 have HB0:=h_ hb2
 have hE:evEq x y=(x.id==y.id&&(x.inn==y.inn&&x.out==y.out)&&x.region.toList==y.region.toList&&x.kind==y.kind&&x.speaker.toList==y.speaker.toList&&bS x.rows y.rows):=rfl
 generalize hQ:(fun(e:fN) (w':fK)=>e=.returned (.bool (evEq x y))∧fP w.heap.size w w')=Q
 generalize bS x.rows y.rows=G at HC hE
 obtain⟨id,inn,out,reg,kind,sp,xa,xc,xr⟩:=x
 obtain⟨id',inn',out',reg',kind',sp',ya,yc,yr⟩:=y
 simp only [Ev.enc] at *
 have hsp:=zhe inn out inn' out'
 rcases fT (id==id') with h1|h1
 rotate_left
 · rw [h1] at hE
   have HQ:=h_ (fun w' (hb:fP w.heap.size w w')=>show Q (.returned (.bool false)) w' from hQ▸⟨by rw [hE];rfl,hb⟩)
   clear hQ hE hb2 h h' hf hf' hsp
   go_enter Tryz.func28,Tryz.ntmps28
   go_wp2_with fail
   exact HQ.out _ (HB0.out _ _)
 rcases fT (inn==inn'&&out==out') with h2|h2
 rotate_left
 · rw [h1,h2] at hE
   rw [h2] at hsp
   have HQ:=h_ (fun w' (hb:fP w.heap.size w w')=>show Q (.returned (.bool false)) w' from hQ▸⟨by rw [hE];rfl,hb⟩)
   clear hQ hE hb2 h h' hf hf' h2
   go_enter Tryz.func28,Tryz.ntmps28
   go_wp2_with fail
   exact HQ.out _ (HB0.out _ _)
 rcases fT (reg.toList==reg'.toList) with h3|h3
 rotate_left
 · rw [h1,h2,h3] at hE
   rw [h2] at hsp
   have HQ:=h_ (fun w' (hb:fP w.heap.size w w')=>show Q (.returned (.bool false)) w' from hQ▸⟨by rw [hE];rfl,hb⟩)
   clear hQ hE hb2 h h' hf hf' h2
   go_enter Tryz.func28,Tryz.ntmps28
   go_wp2_with fail
   exact HQ.out _ (HB0.out _ _)
 rcases fT (kind==kind') with h4|h4
 rotate_left
 · rw [h1,h2,h3,h4] at hE
   rw [h2] at hsp
   have HQ:=h_ (fun w' (hb:fP w.heap.size w w')=>show Q (.returned (.bool false)) w' from hQ▸⟨by rw [hE];rfl,hb⟩)
   clear hQ hE hb2 h h' hf hf' h2
   go_enter Tryz.func28,Tryz.ntmps28
   go_wp2_with fail
   exact HQ.out _ (HB0.out _ _)
 rcases fT (sp.toList==sp'.toList) with h5|h5
 rotate_left
 · rw [h1,h2,h3,h4,h5] at hE
   rw [h2] at hsp
   have HQ:=h_ (fun w' (hb:fP w.heap.size w w')=>show Q (.returned (.bool false)) w' from hQ▸⟨by rw [hE];rfl,hb⟩)
   clear hQ hE hb2 h h' hf hf' h2
   go_enter Tryz.func28,Tryz.ntmps28
   go_wp2_with fail
   exact HQ.out _ (HB0.out _ _)
 rw [h1,h2,h3,h4,h5] at hE
 rw [h2] at hsp
 have HQ:=h_ (fun w' (hb:fP w.heap.size w w')=>show Q (.returned (.bool G)) w' from hQ▸⟨by rw [hE];rfl,hb⟩)
 clear hQ hE hb2 h h' hf hf' h2
 go_enter Tryz.func28,Tryz.ntmps28
 go_wp2_with fail
 refine(HC.out _ _).mono ?_
 rintro e w1 ⟨rfl,hb⟩
 have HBW:=h_ (HB.out _ _ _ hb)
 clear hb
 go_wp2_with fail
 exact HQ.out _ HBW.out
def Row.uses (r:Row)(b:Nat):Prop:=zb0 r.at_ r.runs b
theorem Row.frame {r:Row} {w w':fK} (h:r.lies w)(hs:w.heap.size≤w'.heap.size)(hb:∀ b,r.uses b→w'.heap[b]? =w.heap[b]?):r.lies w':=af.frame h hs hb fun _ _ _=>trivial
theorem Row.uses_lt {r:Row} {w:fK} (h:r.lies w) {b:Nat} (hu:r.uses b):b<w.heap.size:=bL h hu
def zbk (a:Option Addr)(rows:List Row)(b:Nat):Prop:=zb0 a rows b∨∃ r∈rows,r.uses b
theorem ze2 {w:fK} {a:Option Addr} {rows:List Row} (h:bu w a rows) {r:Row} (hr:r∈rows):r.lies w:=by
 obtain⟨i,hi,rfl⟩:=fw hr
 obtain⟨b,off,x,_,_,hx,_,hl⟩:=h.at_ hi
 obtain rfl:rows[i]=x:=fU ((ft hi).symm.trans hx)
 exact hl
theorem bu.frame {a:Option Addr} {rows:List Row} {w w':fK} (h:bu w a rows)(hs:w.heap.size≤w'.heap.size)(hb:∀ b,zbk a rows b→w'.heap[b]? =w.heap[b]?):bu w' a rows :=
 af.frame h hs (fun b hu=>hb b (.inl hu)) fun r hr hl=>Row.frame hl hs fun b hu=>hb b (.inr ⟨r,hr,hu⟩)
theorem zhg {w:fK} {a:Option Addr} {rows:List Row} (h:bu w a rows) {b:Nat} (hu:zbk a rows b):b<w.heap.size:=by
 rcases hu with hu|⟨r,hr,hu⟩
 · exact bL h hu
 · exact Row.uses_lt (ze2 h hr) hu
def cL (rows:List Row)(w:fK)(v:fM)(k:Nat)(wr:fK):Prop :=
 ∃ rows':List Row,rows'.length=rows.length∧rows'.map Row.runs=rows.map Row.runs∧wr.ownsRow w.heap.size 78 1 v rows.length (rows'.flatMap Row.enc)∧(∀ j r,rows'[j]? =some r→r.lies wr∧(∀ b,r.uses b→v.ownBlock≠some b)∧(j<k→∀ b,r.uses b→w.heap.size≤b))∧fP w.heap.size w wr
theorem cL.start {rows:List Row} {w w1:fK} {a:Option Addr} {v:fM} (h:bu w a rows)(ho:w1.ownsRow w.heap.size 78 1 v rows.length (rows.flatMap Row.enc))(hb:fP w.heap.size w w1):cL rows w v 0 w1:=by
 refine⟨rows,rfl,rfl,ho,fun j r hr=>?_,hb⟩
 have hl:=ze2 h (fu hr)
 refine⟨Row.keeps _ _ _ hb hl,fun b hu hv=>?_,fun hj=>by omega⟩
 have:=(ho.lt _ hv).1
 have:=Row.uses_lt hl hu
 omega
theorem zaI:∀ (xs:List Row)(k:Nat)(y:Row),k<xs.length→(xs.set k y).flatMap Row.enc=(xs.flatMap Row.enc).set k (.slice y.at_ y.runs.length y.cap)
 | [],k,y,h=>by simp at h
 | x::xs,0,y,h=>by simp [Row.enc]
 | x::xs,k+1,y,h=>by
   have:=zaI xs k y (by simpa using h)
   simp only [fB,fC,this,Row.enc,fH,List.nil_append]
theorem zbL:∀ (xs:List Row)(k:Nat)(r y:Row),xs[k]? =some r→y.runs=r.runs→(xs.set k y).map Row.runs=xs.map Row.runs
 | [],k,r,y,h,_=>by simp at h
 | x::xs,0,r,y,h,hy=>by
   obtain rfl:x=r:=by simpa using h
   simp [hy]
 | x::xs,k+1,r,y,h,hy=>by
   have:=zbL xs k r y (by simpa using h) hy
   simp [this]
theorem cL.step {rows rows':List Row} {w wr w2:fK} {g cv k:Nat} {r:Row} {a2:Option Addr} {c2:Nat} (hk:rows'[k]? =some r)(h1:rows'.length=rows.length)(h2:rows'.map Row.runs=rows.map Row.runs)
 (h3:wr.ownsRow w.heap.size 78 1 (.slice (some ⟨g,0,none⟩) rows.length cv) rows.length (rows'.flatMap Row.enc)) (h4:∀ j r,rows'[j]? =some r→r.lies wr∧(∀ b,r.uses b→(fM.slice (some ⟨g,0,none⟩) rows.length cv).ownBlock≠some b)∧(j<k→∀ b,r.uses b→w.heap.size≤b)) (h5:fP w.heap.size w wr)
 (hb:fP wr.heap.size wr w2) (ho:w2.ownsRow wr.heap.size 75 5 (.slice a2 r.runs.length c2) r.runs.length (r.runs.flatMap Run.enc)) :
 cL rows w (.slice (some ⟨g,0,none⟩) rows.length cv) (k+1) (w2.setCell ⟨g,k,none⟩ (.slice a2 r.runs.length c2)):=by
 have hkl:k<rows'.length:=(List.getElem?_eq_some_iff.1 hk).1
 have hg:=h3.lt g rfl
 have h3':=(aq h3 hb).stored k (.slice a2 r.runs.length c2)
 refine⟨rows'.set k ⟨a2,c2,r.runs⟩,by simpa using h1,(zbL rows' k r ⟨a2,c2,r.runs⟩ hk rfl).trans h2,?_,fun j x hx=>?_,?_⟩
 · rw [zaI rows' k _ hkl]
   exact h3'.1
 · rw [List.getElem?_set] at hx
   by_cases hjk:k=j
   · rw [if_pos hjk,if_pos hkl] at hx
     obtain rfl:=fU hx
     obtain⟨a3,c3,he,hS⟩:=aj (k:=5) (enc:=Run.enc) (Ok:=Flat) (fun _=>rfl) ho (fun _ _=>trivial)
     simp only [fV] at he
     obtain⟨rfl,_,_⟩:=he
     have hfr:∀ b,Row.uses ⟨a2,c2,r.runs⟩ b→wr.heap.size≤b:=fun b ⟨_,ad,had,hbb⟩=>by
      have had:a2=some ad:=had
      subst had
      rw [←hbb]
      exact(ho.lt ad.block rfl).1
     refine⟨Row.frame hS (by simp) (fun b hu=>?_),fun b hu e=>?_,fun _ b hu=>Nat.le_trans h5.size (hfr b hu)⟩
     · have:=hfr b hu
       exact fR w2 ⟨g,k,none⟩ _ b (by simp only;omega)
     · have:=hfr b hu
       simp only [fM.ownBlock,Option.some.injEq] at e
       omega
   · rw [if_neg hjk] at hx
     obtain⟨hl,hap,hfr⟩:=h4 j x hx
     refine⟨Row.frame (Row.keeps _ _ _ hb hl) (by simp) (fun b hu=>?_),hap,fun hj=>hfr (by omega)⟩
     refine fR w2 ⟨g,k,none⟩ _ b (fun e=>hap b hu ?_)
     rw [e];rfl
 · exact(h5.trans (hb.mono h5.size)).setCell hg.1 _
def zce (rows:List Row)(w:fK)(e:fN)(w':fK):Prop:=∃ a' cap' rows',e=.returned (.slice a' rows'.length cap')∧bu w' a' rows'∧rows'.map Row.runs=rows.map Row.runs∧(∀ b,zbk a' rows' b→w.heap.size≤b)∧fP w.heap.size w w'
theorem cL.done {rows:List Row} {w wr:fK} {a:Option Addr} {c:Nat} (h:cL rows w (.slice a rows.length c) rows.length wr):zce rows w (.returned (.slice a rows.length c)) wr:=by
 obtain⟨rows',h1,h2,h3,h4,h5⟩:=h
 have h3':=h3
 rw [←h1] at h3
 obtain⟨a',c',he,hS⟩:=aj (k:=1) (enc:=Row.enc) (Ok:=Row.lies) (fun _=>rfl) h3 (fun r hr=>by
  obtain⟨j,hj,rfl⟩:=fw hr
  exact(h4 j _ (ft hj)).1)
 simp only [fV] at he
 obtain⟨rfl,_,rfl⟩:=he
 refine⟨a,c,rows',by rw [h1],hS,h2,fun b hu=>?_,h5⟩
 rcases hu with⟨_,ad,rfl,rfl⟩|⟨r,hr,hu⟩
 · exact(h3'.lt _ rfl).1
 · obtain⟨j,hj,rfl⟩:=fw hr
   exact(h4 j _ (ft hj)).2.2 (by omega) b hu
theorem zbY (a:Option Addr)(cap:Nat)(rows:List Row)(w:fK)(h:bu w a rows)(hf:∀ r∈rows,r.runs.length≤4000000)(hl:rows.length≤4000000) :
 fL Tryz.prog 96 #[.slice a rows.length cap] w (zce rows w):=by
 have HC:=h_ (zdz a cap rows w h hl)
 have HS:=h_ (fun(w1:fK) (v:fM) (ho:w1.ownsRow w.heap.size 78 1 v rows.length (rows.flatMap Row.enc)) (hb:fP w.heap.size w w1)=>cL.start h ho hb)
 have HD:=h_ (fun(wr:fK) (a:Option Addr) (c:Nat) (h:cL rows w (.slice a rows.length c) rows.length wr)=>h.done)
 have HF:=h_ (fun(rows':List Row) (e:rows'.map Row.runs=rows.map Row.runs) (r:Row) (hr:r∈rows')=>(show r.runs.length≤4000000 by
  have:r.runs∈rows.map Row.runs:=by rw [←e];exact fJ.2 ⟨r,hr,rfl⟩
  obtain⟨r0,h0,he⟩:=fJ.1 this
  rw [←he];exact hf r0 h0))
 clear h hf
 generalize zce rows w=Q at *
 go_enter Tryz.func96,Tryz.ntmps96
 go_wp2_with fail
 refine HC.out.mono ?_
 rintro e w1 ⟨v,rfl,hown,hb1⟩
 obtain⟨av,cv,rfl⟩:∃ av cv,v=.slice av rows.length cv:=by
  rcases hown.2 with⟨rfl,h0⟩|⟨g,cap,_,rfl,_⟩
  · exact⟨none,0,by rw [h0]⟩
  · exact⟨_,_,rfl⟩
 have HR:=h_ (HS.out _ _ hown hb1)
 clear hown hb1 HC HS
 go_wp2_with fail
 go_loopw [9] (fun i wr=>∃ k:Nat,k≤rows.length∧i=.int .i64 k∧cL rows w (.slice av rows.length cv) k wr) (fun i _=>rows.length-(intOf i).toNat)
 case atStart=>exact⟨0,by omega,rfl,HR.out⟩
 case round =>
  clear HR
  obtain⟨k,hk,rfl,hrel⟩:=hrel
  by_cases hlt:k<rows.length
  · obtain⟨rows',h1,h2,h3,h4,h5⟩:=hrel
    obtain⟨g,c',he⟩:=zat h3 (by omega)
    simp only [fV,true_and] at he
    obtain⟨rfl,rfl⟩:=he
    have hk':rows'[k]? =some rows'[k]:=ft (by omega)
    generalize rows'[k]=r at hk'
    have hmem:=fu hk'
    have hc0:wr.cell? ⟨g,k,none⟩=some (.slice r.at_ r.runs.length r.cap):=by
     rw [h3.cellAt k (by omega)]
     have:=zbr Row.enc 1 (fun _=>rfl) rows' k r 0 _ hk' rfl
     rw [show k*1+0=k by omega] at this
     exact this
    have HC2:=h_ (zdx (Ok:=Flat) r.at_ r.cap r.runs wr (h4 k r hk').1 (HF.out _ h2 r hmem))
    have HK:=h_ (fun(w2:fK) (hb:fP wr.heap.size wr w2)=>(show w2.cell? ⟨g,k,none⟩=some (.slice r.at_ r.runs.length r.cap)∧w2.frozen? ⟨g,k,none⟩=false from
     ⟨(hb.cell (p:=⟨g,k,none⟩) (h3.lt g rfl).2).trans hc0,(aq h3 hb).frozenAt k⟩))
    have HST:=h_ (fun(w2:fK) (a2:Option Addr) (c2:Nat) (hb:fP wr.heap.size wr w2) (ho:w2.ownsRow wr.heap.size 75 5 (.slice a2 r.runs.length c2) r.runs.length (r.runs.flatMap Run.enc))=>cL.step hk' h1 h2 h3 h4 h5 hb ho)
    clear h1 h2 h3 h4 h5 hk' hmem
    obtain⟨ra,rc,rr⟩:=r
    simp only at *
    go_wp2_with fail
    refine HC2.out.mono ?_
    rintro e w2 ⟨v2,rfl,hown2,hb2⟩
    obtain⟨a2,c2,rfl⟩:∃ av cv,v2=.slice av rr.length cv:=by
     rcases hown2.2 with⟨rfl,h0⟩|⟨g,cap,_,rfl,_⟩
     · exact⟨none,0,by rw [h0]⟩
     · exact⟨_,_,rfl⟩
    obtain⟨k1,k2⟩:=HK.out _ hb2
    have HN:=h_ (HST.out _ _ _ hb2 hown2)
    clear hown2 hb2 HC2 HK HST hc0
    go_wp2_with fail
    go_roundw
    case rel=>exact⟨k+1,by omega,by go_num,HN.out⟩
    case measure=>simp [intOf];omega
  · obtain rfl:k=rows.length:=by omega
    have HN:=h_ hrel
    clear hrel
    go_wp2_with fail
    exact HD.out _ _ _ HN.out
structure EvC where
 id:Int
 inn:Int
 out:Int
 region:ByteArray
 kind:Int
 speaker:ByteArray
 rows:List (List Run)
def Ev.c (x:Ev):EvC:=⟨x.id,x.inn,x.out,x.region,x.kind,x.speaker,x.rows.map Row.runs⟩
def Ev.uses (x:Ev)(b:Nat):Prop:=zbk x.at_ x.rows b
theorem Ev.frame {x:Ev} {w w':fK} (h:x.lies w)(hs:w.heap.size≤w'.heap.size)(hb:∀ b,x.uses b→w'.heap[b]? =w.heap[b]?):x.lies w':=bu.frame h hs hb
theorem Ev.uses_lt {x:Ev} {w:fK} (h:x.lies w) {b:Nat} (hu:x.uses b):b<w.heap.size:=zhg h hu
def zjf (c:EvC)(w:fK)(e:fN)(w':fK):Prop:=∃ y:Ev,e=.returned (.agg y.enc.toArray)∧y.c=c∧y.lies w'∧(∀ b,y.uses b→w.heap.size≤b)∧fP w.heap.size w w'
theorem ej (x:Ev)(w:fK)(h:x.lies w)(hf:∀ r∈x.rows,r.runs.length≤4000000)(hl:x.rows.length≤4000000) :
 fL Tryz.prog 40 #[.agg x.enc.toArray] w (zjf x.c w):=by
 generalize hcs:x.enc.toArray=cs
 have HC:=h_ (fun(o:Obj)=>zbY x.at_ x.cap x.rows ((w.alloc (.cells cs 50)).alloc o) (bu.later h (((fQ _ _).alloc (fS _) _).alloc (by simp) _)) hf hl)
 have HQ:=h_ (fun(a:Option Addr) (c:Nat) (rows:List Row) (w':fK) (e:rows.map Row.runs=x.rows.map Row.runs) (h:bu w' a rows) (hu:∀ b,zbk a rows b→w.heap.size≤b) (hb:fP w.heap.size w w')=>(show zjf x.c w (.returned (.agg #[.int .i64 x.id,.int .i64 x.inn,.int .i64 x.out,.string x.region,.int .u8 x.kind,.string x.speaker,.slice a rows.length c])) w' from
  ⟨⟨x.id,x.inn,x.out,x.region,x.kind,x.speaker,a,c,rows⟩,rfl,by simp only [Ev.c,e],h,hu,hb⟩))
 have HB:=h_ (fun(o o':Obj) (w1:fK) (hb:fP ((w.alloc o).alloc o').heap.size ((w.alloc o).alloc o') w1)=>(show fP w.heap.size w w1 from(((fQ _ _).alloc (fS _) _).alloc (by simp) _).trans (hb.mono (by simp;omega))))
 have HK:=h_ (fun(o:Array fM) (w1:fK) (hb:fP ((w.alloc (.cells cs 50)).alloc (.cells o 50)).heap.size ((w.alloc (.cells cs 50)).alloc (.cells o 50)) w1)=>(show(w1.heap[w.heap.size]? =some (.cells cs 50 (0,0))∧w1.heap[w.heap.size+1]? =some (.cells o 50 (0,0))) by
  refine⟨?_,?_⟩
  · rw [hb.block _ (by simp;omega),fP.heap_alloc _ _ _ (by simp)]
    exact fO w _
  · rw [hb.block _ (by simp)]
    have:=fO (w.alloc (.cells cs 50)) (.cells o 50)
    rwa [fK.size_alloc] at this))
 obtain⟨id,inn,out,reg,kind,sp,a,c,rows⟩:=x
 simp only at *
 generalize zjf _ w=Q at *
 clear h hf
 simp only [Ev.enc] at hcs
 go_enter Tryz.func40,Tryz.ntmps40
 subst hcs
 go_wp2_with fail
 refine(HC.out _).mono ?_
 rintro e w1 ⟨a',c',rows',rfl,hr,hm,hu,hb⟩
 obtain⟨hk1,hk2⟩:=HK.out _ _ hb
 have HBW:=h_ (HB.out _ _ _ hb)
 have HR:=h_ hr
 have HM:=h_ hm
 have HU:=h_ hu
 clear hb hr hm hu HC HB HK
 have c1:∀ j,w1.cell? ⟨w.heap.size,j,none⟩=_:=fun j=>cell_of_row _ _ j _ 50 (0,0) hk1
 have c2:∀ j,w1.cell? ⟨w.heap.size+1,j,none⟩=_:=fun j=>cell_of_row _ _ j _ 50 (0,0) hk2
 have z1:∀ j,w1.frozen? ⟨w.heap.size,j,none⟩=false:=fun j=>by simp [fK.frozen?,hk1]
 have z2:∀ j,w1.frozen? ⟨w.heap.size+1,j,none⟩=false:=fun j=>by simp [fK.frozen?,hk2]
 clear hk1 hk2
 go_wp2_with fail
 refine bodyPost_ret (v:=.agg #[.int .i64 id,.int .i64 inn,.int .i64 out,.string reg,.int .u8 kind,.string sp,.slice a' rows'.length c']) (by simp [results,Tryz.results40,go_sem,c2]) rfl ?_
 have HF:=h_ (fun(b:Nat) (u u0 u1 u2 u3 u4 u5 u6:fM) (hb:w.heap.size+2≤b)=>(show((((((((w1.setCell ⟨w.heap.size,6,none⟩ u).setCell ⟨w.heap.size+1,0,none⟩ u0).setCell ⟨w.heap.size+1,1,none⟩ u1).setCell ⟨w.heap.size+1,2,none⟩ u2).setCell ⟨w.heap.size+1,3,none⟩ u3).setCell ⟨w.heap.size+1,4,none⟩ u4).setCell ⟨w.heap.size+1,5,none⟩ u5).setCell ⟨w.heap.size+1,6,none⟩ u6).heap[b]? =w1.heap[b]? by
  repeat rw [fR _ _ _ _ (by simp only;omega)]))
 have HUU:∀ b,zbk a' rows' b→w.heap.size+2≤b:=fun b hu=>by
  have:=HU.out b hu
  simp at this
  omega
 refine HQ.out _ _ _ _ HM.out (bu.frame HR.out (by simp) fun b hu=>HF.out b _ _ _ _ _ _ _ _ (HUU b hu)) (fun b hu=>by have:=HUU b hu;omega) ?_
 repeat refine fP.setCell ?_ (by simp only;omega) _
 exact HBW.out
structure Chg where
 sec:Int
 id:Int
 name:ByteArray
 added:Bool
 gone:Bool
 oh:Hd
 nh:Hd
 rg:Reg
 nr:Reg
 oe:Ev
 ne:Ev
 oc:Cm
 nc:Cm
def Chg.enc (c:Chg):List fM:=[.int .u8 c.sec,.int .i64 c.id,.string c.name,.bool c.added,.bool c.gone]++(c.oh.enc++(c.nh.enc++(c.rg.enc++(c.nr.enc++(c.oe.enc++(c.ne.enc++(c.oc.enc++c.nc.enc)))))))
theorem Chg.len (c:Chg):c.enc.length=59:=rfl
def Chg.lies (w:fK)(c:Chg):Prop:=c.oe.lies w∧c.ne.lies w
def Chg.uses (c:Chg)(b:Nat):Prop:=c.oe.uses b∨c.ne.uses b
theorem Chg.deep:Deep Chg.lies Chg.uses :=
 ⟨fun x w w' h hs hb=>⟨Ev.frame h.1 hs fun b hu=>hb b (.inl hu),Ev.frame h.2 hs fun b hu=>hb b (.inr hu)⟩,fun x w b h hu=>hu.elim (Ev.uses_lt h.1) (Ev.uses_lt h.2)⟩
theorem Chg.keeps:Keeps Chg.lies:=fun w w' x hb h=>⟨Ev.keeps _ _ _ hb h.1,Ev.keeps _ _ _ hb h.2⟩
theorem Hd.one:∀ (x:Hd)(v:fM),v∈x.enc→v.oneCell'=true:=by
 intro x v hv
 simp only [Hd.enc,fI,fF,or_false] at hv
 rcases hv with rfl|rfl|rfl|rfl|rfl<;>rfl
theorem Chg.one:∀ (x:Chg)(v:fM),v∈x.enc→v.oneCell'=true:=by
 intro x v hv
 simp only [Chg.enc,List.mem_append] at hv
 rcases hv with h|h|h|h|h|h|h|h|h
 · simp only [fI,fF,or_false] at h
   rcases h with rfl|rfl|rfl|rfl|rfl<;>rfl
 · exact Hd.one _ _ h
 · exact Hd.one _ _ h
 · exact Reg.one _ _ h
 · exact Reg.one _ _ h
 · exact Ev.one _ _ h
 · exact Ev.one _ _ h
 · exact Cm.one _ _ h
 · exact Cm.one _ _ h
structure ChgC where
 sec:Int
 id:Int
 name:ByteArray
 added:Bool
 gone:Bool
 oh:Hd
 nh:Hd
 rg:Reg
 nr:Reg
 oe:EvC
 ne:EvC
 oc:Cm
 nc:Cm
def Chg.c (x:Chg):ChgC:=⟨x.sec,x.id,x.name,x.added,x.gone,x.oh,x.nh,x.rg,x.nr,x.oe.c,x.ne.c,x.oc,x.nc⟩
def zaF:Hd:=⟨⟨#[]⟩,⟨#[]⟩,0,false,0⟩
def dI:EvC:=bO.c
theorem zap (w:fK):bO.lies w:=.inl rfl
abbrev zje:=cY 54 59 Chg.enc Chg.lies Chg.uses
def d_ (a b:Reg):Bool:=a.name.toList==b.name.toList&&a.top==b.top&&a.height==b.height&&a.left==b.left&&a.width==b.width&&a.align==b.align&&a.bottom==b.bottom
def cmEq (a b:Cm):Bool:=a.id==b.id&&a.ev==b.ev&&a.frm==b.frm&&a.til==b.til&&a.author.toList==b.author.toList&&a.text.toList==b.text.toList&&a.done==b.done&&a.lost==b.lost
theorem zh9 (a b:Reg)(w:fK):(binOp .neq 44 (.agg a.enc.toArray) (.agg b.enc.toArray)).run Tryz.prog w=.ok (.bool (!d_ a b)) w:=by
 simp [go_sem,Reg.enc,d_]
 repeat' split
 all_goals simp_all
theorem zb8 (a b:Cm)(w:fK):(binOp .neq 52 (.agg a.enc.toArray) (.agg b.enc.toArray)).run Tryz.prog w=.ok (.bool (!cmEq a b)) w:=by
 simp [go_sem,Cm.enc,cmEq]
 repeat' split
 all_goals simp_all
def zbK (k:ByteArray)(x:Reg):Bool:=x.name.toList==k.toList
def evIs (k:Int)(x:Ev):Bool:=x.id==k
def cmIs (k:Int)(x:Cm):Bool:=x.id==k
def zkt (a b:Hd):List ChgC:=if hdEq a b=true then [] else [⟨1,0,⟨#[]⟩,false,false,a,b,bB,bB,dI,dI,bG,bG⟩]
def zkU (xs ys:List Reg)(k:ByteArray):List ChgC :=
 if ((xs.find? (zbK k)).isSome != (ys.find? (zbK k)).isSome||!d_ ((xs.find? (zbK k)).getD bB) ((ys.find? (zbK k)).getD bB))=true then
  [⟨2,0,k,!(xs.find? (zbK k)).isSome,!(ys.find? (zbK k)).isSome,zaF,zaF,(xs.find? (zbK k)).getD bB,(ys.find? (zbK k)).getD bB,dI,dI,bG,bG⟩] else []
def zlb (xs ys:List Ev)(k:Int):List ChgC :=
 if ((xs.find? (evIs k)).isSome != (ys.find? (evIs k)).isSome||!evEq ((xs.find? (evIs k)).getD bO) ((ys.find? (evIs k)).getD bO))=true then
  [⟨3,k,⟨#[]⟩,!(xs.find? (evIs k)).isSome,!(ys.find? (evIs k)).isSome,zaF,zaF,bB,bB,((xs.find? (evIs k)).getD bO).c,((ys.find? (evIs k)).getD bO).c,bG,bG⟩] else []
def zlc (xs ys:List Cm)(k:Int):List ChgC :=
 if ((xs.find? (cmIs k)).isSome != (ys.find? (cmIs k)).isSome||!cmEq ((xs.find? (cmIs k)).getD bG) ((ys.find? (cmIs k)).getD bG))=true then
  [⟨4,k,⟨#[]⟩,!(xs.find? (cmIs k)).isSome,!(ys.find? (cmIs k)).isSome,zaF,zaF,bB,bB,dI,dI,(xs.find? (cmIs k)).getD bG,(ys.find? (cmIs k)).getD bG⟩] else []
def ziP (a:Option Addr)(xs:List Ev)(b:Nat):Prop:=zb0 a xs b∨∃ x∈xs,x.uses b
theorem zaT {w:fK} {a:Option Addr} {xs:List Ev} (h:zai w a xs) {x:Ev} (hx:x∈xs):x.lies w:=by
 obtain⟨i,hi,rfl⟩:=fw hx
 obtain⟨b,off,y,_,_,hy,_,hl⟩:=h.at_ hi
 obtain rfl:xs[i]=y:=fU ((ft hi).symm.trans hy)
 exact hl
theorem zai.frame {a:Option Addr} {xs:List Ev} {w w':fK} (h:zai w a xs)(hs:w.heap.size≤w'.heap.size)(hb:∀ b,ziP a xs b→w'.heap[b]? =w.heap[b]?):zai w' a xs :=
 af.frame h hs (fun b hu=>hb b (.inl hu)) fun x hx hl=>Ev.frame hl hs fun b hu=>hb b (.inr ⟨x,hx,hu⟩)
theorem ziO {w:fK} {a:Option Addr} {xs:List Ev} (h:zai w a xs) {b:Nat} (hu:ziP a xs b):b<w.heap.size:=by
 rcases hu with hu|⟨x,hx,hu⟩
 · exact bL h hu
 · exact Ev.uses_lt (zaT h hx) hu
def Doc.uses (d:Doc)(b:Nat):Prop:=zb0 d.ra d.rG b∨ziP d.ea d.evs b∨zb0 d.ca d.cms b
theorem Doc.frame {d:Doc} {w w':fK} (h:d.lies w)(hs:w.heap.size≤w'.heap.size)(hb:∀ b,d.uses b→w'.heap[b]? =w.heap[b]?):d.lies w' :=
 ⟨af.frame h.1 hs (fun b hu=>hb b (.inl hu)) (fun _ _ _=>trivial),zai.frame h.2.1 hs fun b hu=>hb b (.inr (.inl hu)),af.frame h.2.2 hs (fun b hu=>hb b (.inr (.inr hu))) (fun _ _ _=>trivial)⟩
theorem Doc.uses_lt {d:Doc} {w:fK} (h:d.lies w) {b:Nat} (hu:d.uses b):b<w.heap.size:=by
 rcases hu with hu|hu|hu
 · exact bL h.1 hu
 · exact ziO h.2.1 hu
 · exact bL h.2.2 hu
structure DocC where
 hd:Hd
 rG:List Reg
 evs:List EvC
 cms:List Cm
def Doc.c (d:Doc):DocC:=⟨d.hd,d.rG,d.evs.map Ev.c,d.cms⟩
def e9 (c:DocC)(w:fK)(e:fN)(w':fK):Prop:=∃ d:Doc,e=.returned (.agg d.enc.toArray)∧d.c=c∧d.lies w'∧(∀ b,d.uses b→w.heap.size≤b)∧fP w.heap.size w w'
theorem zg2 {α:Type} (l1 l2:List α)(i:Nat)(v:α):(l1++l2).set (l1.length+i) v=l1++l2.set i v:=by
 induction l1 with
 | nil=>simp
 | cons x l ih =>
   rw [fH,List.length_cons,show l.length+1+i=(l.length+i)+1 by omega,fB,ih]
   rfl
theorem zbP:∀ (xs:List Ev)(k:Nat)(y:Ev),k<xs.length→(xs.set k y).flatMap Ev.enc=(((((((xs.flatMap Ev.enc).set (k*7) (.int .i64 y.id)).set (k*7+1) (.int .i64 y.inn)).set (k*7+2) (.int .i64 y.out)).set (k*7+3) (.string y.region)).set (k*7+4) (.int .u8 y.kind)).set (k*7+5) (.string y.speaker)).set (k*7+6) (.slice y.at_ y.rows.length y.cap)
 | [],k,y,h=>by simp at h
 | x::xs,0,y,h=>by simp [Ev.enc]
 | x::xs,k+1,y,h=>by
   have:=zbP xs k y (by simpa using h)
   rw [fB,fC,fC,this]
   have hl:x.enc.length=7:=rfl
   rw [show(k+1)*7=x.enc.length+k*7 by rw [hl];omega]
   simp only [Nat.add_assoc,zg2]
theorem ziQ {w:fK} {base g n cap k:Nat} {zs:List Ev} (h:w.ownsRow base 50 7 (.slice (some ⟨g,0,none⟩) n cap) n (zs.flatMap Ev.enc))(hn:zs.length=n)(hk:k<n)(y:Ev)(w':fK)
 (hw:w'=((((((w.setCell ⟨g,k*7,none⟩ (.int .i64 y.id)).setCell ⟨g,k*7+1,none⟩ (.int .i64 y.inn)).setCell ⟨g,k*7+2,none⟩ (.int .i64 y.out)).setCell ⟨g,k*7+3,none⟩ (.string y.region)).setCell ⟨g,k*7+4,none⟩ (.int .u8 y.kind)).setCell ⟨g,k*7+5,none⟩ (.string y.speaker)).setCell ⟨g,k*7+6,none⟩ (.slice y.at_ y.rows.length y.cap)) :
 w'.ownsRow base 50 7 (.slice (some ⟨g,0,none⟩) n cap) n ((zs.set k y).flatMap Ev.enc)∧w.heap.size=w'.heap.size∧∀ b,b≠g→w'.heap[b]? =w.heap[b]?:=by
 subst hw
 refine⟨?_,by simp,fun b hb=>?_⟩
 · rw [zbP zs k y (by omega)]
   exact(((((((h.stored _ _).1.stored _ _).1.stored _ _).1.stored _ _).1.stored _ _).1.stored _ _).1.stored _ _).1
 · repeat rw [fR _ _ _ _ hb]
end Go.Proofs.YtnlnmbcaongehaaGreatDoor
